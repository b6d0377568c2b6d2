/- Dialect A: words between single quotes are these texts, and a command of them. No program stands in it. -/
import Derived.Test.YtnombfbpmmmoeaaGreatDoorGZH
import Derived.Test.YtnombfbpmmmoeaaGreatDoorGParseG
import Derived.Test.YtnombfbpmmmoeaaGreatDoorGZJ
namespace Go.Proofs.YtnombfbpmmmoeaaGreatDoor
open Go Go.RowKit
theorem Ai:∀ (l m:List UInt8),b8 (l++m)=b8 l++b8 m
 | [],_=>rfl
 | c :: l,m=>by rw[List.cons_append,b8,b8,Ai l m,List.append_assoc]
theorem vR:∀ (s:List UInt8)(i:Nat),∀ p∈(bN i (b8 s)).1,p.2.1=true∨(p.1.toNat≠42∧p.1.toNat≠63∧p.1.toNat≠91)
 | [],i,p,hp=>by simp [b8,bN] at hp
 | c :: l,i,p,hp=>by
  rw[b8] at hp
  by_cases hc:[42,63,91,93,92,32,9,10].contains c.toNat=true
  ·rw[if_pos hc,show [92,c]++b8 l=92 :: c :: b8 l from rfl,bN,if_pos (by decide)] at hp
   rcases List.mem_cons.1 hp with rfl | hp
   ·exact .inl rfl
   ·exact vR l _ p hp
  ·rw[if_neg hc] at hp;have h1:c.toNat≠42∧c.toNat≠63∧c.toNat≠91∧c.toNat≠92:=by simp at hc;omega
   cases he:b8 l with
   | nil =>
    rw[he,List.append_nil,bN,if_neg h1.2.2.2,List.mem_singleton] at hp;subst hp;exact .inr ⟨h1.1,h1.2.1,h1.2.2.1⟩
   | cons d m =>
    rw[he,List.singleton_append,bN,if_neg h1.2.2.2] at hp
    rcases List.mem_cons.1 hp with rfl | hp
    ·exact .inr ⟨h1.1,h1.2.1,h1.2.2.1⟩
    ·rw[← he] at hp;exact vR l _ p hp
theorem AR:∀ (l:List (UInt8×Bool×Nat)),(∀ p∈l,p.2.1=true∨(p.1.toNat≠42∧p.1.toNat≠63∧p.1.toNat≠91))→nS l=false
 | [],_=>rfl
 | p :: l,h=>by
  have h1:=h p (by simp)
  rw[nS,AR l fun q hq=>h q (by simp [hq])]
  unfold hZ
  rcases h1 with h1 | ⟨h1,h2,h3⟩
  ·simp [h1]
  ·simp [h1,h2,h3]
theorem Gj (s:List UInt8):mZ (b8 s)=false:=AR _ (vR s 0)
def qpA:List UInt8→List UInt8→List aC
 | acc,[]=>[⟨2,0,0,false,acc⟩]
 | acc,c :: l=>if c.toNat=39 then ⟨2,0,0,false,acc⟩ :: ⟨2,0,0,false,[39]⟩ :: qpA [] l else qpA (acc++[c]) l
def kB (s:List UInt8):aF:=⟨13,0,qpA [] s⟩
def eP (s:List UInt8):List UInt8:=39 :: (eJ s++[39])
theorem rB:∀ (l acc:List UInt8),(qpA acc l).map (·.text)≠[]∧uB (qpA acc l)∧hU (qpA acc l)=acc++l
 | [],acc=>⟨by simp [qpA],by intro p hp;rw[qpA,List.mem_singleton] at hp;subst hp;rfl,by simp [qpA,hU]⟩
 | c :: l,acc=>by
  rw[qpA]
  by_cases hc:c.toNat=39
  ·obtain rfl:c=39:=UInt8.toNat_inj.1 hc;obtain⟨h1,h2,h3⟩:=rB l [];rw[if_pos hc];refine ⟨by simp,fun p hp=>?_,?_⟩
   ·simp only[List.mem_cons] at hp
    rcases hp with rfl | rfl | hp
    ·rfl
    ·rfl
    ·exact h2 p hp
   ·rw[hU,hU,h3];simp
  ·rw[if_neg hc];obtain⟨h1,h2,h3⟩:=rB l (acc++[c]);exact⟨h1,h2,by rw[h3];simp⟩
theorem ES (L:List UInt8)(tail:List UInt8):∀ (l acc:List UInt8)(f i:Nat)(P:List aC)(j:Bool),(∀ x∈acc,x.toNat≠39)→L.length - i<f→L.drop i=39 :: (acc++(eJ l++39 :: tail)) →
  ∃ f' D,bK L f i P j=bK L f' (i+acc.length+(eJ l).length+2) (P++D) false∧L.length - (i+acc.length+(eJ l).length+2)<f'∧D.map oS=qpA acc l:=by
 intro l
 induction l with
 | nil =>
  intro acc f i P j hacc hf hd;obtain⟨f,rfl⟩:∃ g,f=g+1:=⟨f - 1,by omega⟩
  obtain⟨h1,h2,h3⟩:=iM hd;have hx:cH 39 (L.drop (i+1))=some acc.length:=by rw[h3];exact CH acc tail 39 39 rfl hacc
  have h4:=pH h3;obtain⟨h5,h6,h7⟩:=iM h4;refine ⟨f,[⟨2,i,0,false,aX L (i+1:Nat) (i+1+acc.length:Nat)⟩],?_,?_,?_⟩
  ·rw[bK,if_neg (by omega),h2,if_neg (by decide),if_neg (by decide),if_pos (by decide),hx]
   rfl
  ·simp only[eJ,List.length_nil];omega
  ·rw[CE h3];rfl
 | cons c l ih =>
  intro acc f i P j hacc hf hd;rw[eJ] at hd
  by_cases hc:c.toNat=39
  ·obtain rfl:c=39:=UInt8.toNat_inj.1 hc;rw[if_pos (by decide)] at hd
   obtain⟨f,rfl⟩:∃ g,f=g+1:=⟨f - 1,by omega⟩
   obtain⟨h1,h2,h3⟩:=iM hd;have hx:cH 39 (L.drop (i+1))=some acc.length:=by rw[h3];exact CH acc _ 39 39 rfl hacc
   have h4:=pH h3;simp only[List.cons_append] at h4;obtain⟨h5,h6,h7⟩:=iM h4;obtain⟨h8,h9,h10⟩:=iM h7;obtain⟨h11,h12,h13⟩:=iM h10;obtain⟨f,rfl⟩:∃ g,f=g+1:=⟨f - 1,by omega⟩
   obtain⟨f',D,e1,e2,e3⟩:=ih [] f (i+acc.length+4) (P++[⟨2,i,0,false,aX L (i+1:Nat) (i+1+acc.length:Nat)⟩]++[⟨2,i+acc.length+2,0,false,[39]⟩]) false (fun x hx=>by cases hx) (by omega) (by
    rw[show i+acc.length+4=i+1+acc.length+1+1+1 from by omega,h13]
    rfl)
   have hlen:i+acc.length+(eJ (39 :: l)).length+2=i+acc.length+4+([]:List UInt8).length+(eJ l).length+2:=by
    rw[eJ,if_pos (by decide)]
    simp only[List.length_cons,List.length_nil];omega
   refine ⟨f',⟨2,i,0,false,aX L (i+1:Nat) (i+1+acc.length:Nat)⟩ :: ⟨2,i+acc.length+2,0,false,[39]⟩ :: D,?_,?_,?_⟩
   ·rw[hlen,show P++⟨2,i,0,false,aX L (i+1:Nat) (i+1+acc.length:Nat)⟩ :: ⟨2,i+acc.length+2,0,false,[39]⟩ :: D=P++[⟨2,i,0,false,aX L (i+1:Nat) (i+1+acc.length:Nat)⟩]++[⟨2,i+acc.length+2,0,false,[39]⟩]++D from by simp,← e1,bK,if_neg (by omega),h2,if_neg (by decide),if_neg (by decide),if_pos (by decide),hx]
    show bK L (f+1) (i+acc.length+2) _ false=_
    have g1:L.getD (i+acc.length+2) 0=92:=by rw[← h9];congr 1;omega
    have g2:L.getD (i+acc.length+2+1) 0=39:=by rw[← h12];congr 1;omega
    rw[bK,if_neg (by omega),g1,if_neg (by decide),if_pos (by decide),if_pos (by omega),g2,show min (i+acc.length+2+2) L.length=i+acc.length+4 from by omega]
    rfl
   ·rw[hlen];exact e2
   ·rw[List.map_cons,List.map_cons,e3,CE h3,qpA,if_pos (by decide)]
    rfl
  ·rw[if_neg hc] at hd
   obtain⟨f',D,e1,e2,e3⟩:=ih (acc++[c]) f i P j (by
    intro x hx;rw[List.mem_append,List.mem_singleton] at hx
    rcases hx with hx | rfl
    ·exact hacc x hx
    ·exact hc) hf (by rw[hd];simp)
   have hlen:i+acc.length+(eJ (c :: l)).length+2=i+(acc++[c]).length+(eJ l).length+2:=by
    rw[eJ,if_neg hc];simp only[List.length_append,List.length_cons,List.length_nil];omega
   rw[hlen];exact⟨f',D,e1,e2,by rw[e3,qpA,if_neg hc]⟩
theorem Lx.dead {S:List UInt8}{T:List aF}(s:List UInt8)(h:Lx S T)(hs:Stop S):Lx (eP s++S) (kB s :: T):=by
 unfold eP;refine h.wordOf ⟨39,_,rfl,by decide,by decide⟩ fun L k f hd hf=>?_
 obtain⟨f',D,e1,e2,e3⟩:=ES L S s [] f k [] false (fun _ h=>nomatch h) hf (by rw[hd];simp)
 have hl:k+(39 :: (eJ s++[39])).length=k+([]:List UInt8).length+(eJ s).length+2:=by simp;omega
 refine ⟨D,?_,e3⟩;rw[e1,hl,List.nil_append];refine A4 L S f' _ _ _ ?_ hs e2;rw[← hl];exact pH hd
theorem Bb (sub:aC→aL aA):∀ (P:List aC),uB P→fX (d9 sub) P=oOk (P.map fun x=>a8 x.text)
 | [],_=>rfl
 | p :: P,h=>by
  rw[fX,show d9 sub p=oOk (a8 p.text) from by unfold d9;rw[if_pos (.inr (h p (by simp)))],Bb sub P fun q hq=>h q (by simp [hq])]
  rfl
theorem BR:∀ (P:List aC)(a:List UInt8),(P.map fun x=>a8 x.text).foldl aY [a8 a]=[a8 (a++hU P)]
 | [],a=>by simp [hU]
 | p :: P,a=>by
  rw[List.map_cons,List.foldl_cons,show aY [a8 a] (a8 p.text)=[a8 (a++p.text)] from rfl,BR P,hU,List.append_assoc]
theorem IJ {P:List aC}(hP:P.map (·.text)≠[]):dK (P.map fun x=>a8 x.text)=a8 (hU P):=by
 cases P with
 | nil=>exact absurd rfl hP
 | cons p P =>
  have h1:((p :: P).map fun x=>a8 x.text).foldl aY []=[a8 (hU (p :: P))]:=by
   rw[List.map_cons,List.foldl_cons,show aY [] (a8 p.text)=[a8 p.text] from rfl,BR P]
   rfl
  have h2:=join_one (a8 (hU (p :: P)));unfold dK at h2 ⊢;rw[List.map_cons] at h1 ⊢;dsimp only at h2 ⊢;rw[show List.foldl aY [] [a8 (hU (p :: P))]=[a8 (hU (p :: P))] from rfl] at h2
  rw[h1];exact h2
theorem A0 {tok:aF}{s:List UInt8}(h:gG tok=kB s):tok.parts.map (·.text)≠[]∧uB tok.parts∧hU tok.parts=s:=by
 unfold gG kB at h;injection h with h1 h2 h3
 obtain⟨q1,q2,q3⟩:=rB s [];rw[← h3] at q1 q2 q3;refine ⟨by simpa using q1,fun p hp=>?_,?_⟩
 ·exact q2 (oS p) (List.mem_map_of_mem hp)
 ·rw[List.nil_append] at q3;rw[← q3];clear q1 q2 q3 h1 h2 h3
  induction tok.parts with
  | nil=>rfl
  | cons p P ih=>rw[List.map_cons,hU,hU,ih];rfl
theorem Gs (sub:aC→aL aA)(b:Nat){tok:aF}{s:List UInt8}(h:gG tok=kB s)(hl:s.length≤2000):cS sub b tok=some (.ok (a8 s)):=by
 obtain⟨h1,h2,h3⟩:=A0 h;unfold cS gE;rw[Bb sub _ h2];show gS b tok (dK _)=_
 rw[IJ h1,h3];unfold gS;rw[if_neg (by rw[BV hl];simp)]
 rfl
theorem Bp:∀ (P:List aC),uB P→eG P=b8 (hU P)∧jG P=false
 | [],_=>⟨rfl,rfl⟩
 | p :: P,h=>by
  obtain⟨h1,h2⟩:=Bp P fun q hq=>h q (by simp [hq])
  have hk:=h p (by simp)
  unfold eG jG at *;rw[List.flatMap_cons,List.any_cons,h1,h2,hU,Ai,hk];exact⟨rfl,rfl⟩
theorem Ga (d:Nat){s:List UInt8}(hl:s.length≤2000):Dp (C2 d) (kB s) (a8 s):=⟨0,fun f _ b tok h=>by
 obtain⟨h1,h2,h3⟩:=A0 h;obtain⟨e1,e2⟩:=Bp _ h2;show fE _ b tok=_
 unfold fE;rw[e1,Gj,if_neg (by simp),if_pos (.inl e2)]
 exact Gs _ b h hl⟩
theorem sW (s:List UInt8):dT (kB s)=none∧eM (kB s)=none:=by
 obtain⟨q1,q2,-⟩:=rB s [];unfold dT eM kB;dsimp only
 cases hq:qpA [] s with
 | nil=>rw[hq] at q1;exact absurd rfl q1
 | cons p P =>
  have hk:p.kind=2:=q2 p (by rw[hq];simp)
  refine ⟨?_,?_⟩
  ·cases P with
   | nil=>simp [hk]
   | cons _ _=>rfl
  ·simp [hk]
def dN (q:List UInt8→List UInt8):List (List UInt8)→List UInt8
 | []=>[]
 | [s]=>q s
 | s :: l=>q s++32 :: dN q l
theorem tK:Stop []:=.inl rfl
theorem Hm (S:List UInt8):Stop (32 :: S):=.inr ⟨32,S,rfl,rfl⟩
theorem Lx.words {S:List UInt8}{T:List aF}(h:Lx S T)(hs:Stop S):∀ (l:List (List UInt8)),Lx (dN eP l++S) (l.map kB++T)
 | []=>h
 | [s]=>h.dead s hs
 | s :: s2 :: l=>by
  have h1:=Lx.dead s ((Lx.words h hs (s2 :: l)).blank) (Hm _);rw[dN,List.append_assoc]
  ·exact h1
  ·simp
 termination_by l=>l.length
theorem Par.words {d:Nat}{S S1:List aF}{c:aA}{L:List (Nat×aA)}(hS:S≠[]):∀ (l:List (List UInt8))(ws:List aA),(∀ s∈l,s.length≤2000)→Par (pR d [] (ws++l.map a8) L) S c S1→Par (pR d [] ws L) (l.map kB++S) c S1
 | [],ws,_,h=>by rw[List.map_nil,List.append_nil] at h;exact h
 | s :: l,ws,hl,h=>by
  rw[List.map_cons,List.cons_append];refine Par.simpleWord rfl (.inr (sW s).2) (Ga d (hl s (by simp))) (by simp [hS]) (Par.words hS l (ws++[a8 s]) (fun x hx=>hl x (by simp [hx])) ?_)
  rw[List.append_assoc];exact h
def fQ (l:List (List UInt8)):aA:=aE 21 0 [] (l.map a8)
theorem Par.call {d:Nat}(l:List (List UInt8))(h0:l≠[])(hl:∀ s∈l,s.length≤2000){S:List aF}(hS:S≠[])(h1:rD S=false)(h2:isS S [13]=false):Par (rK d) (l.map kB++S) (fQ l) S:=by
 obtain⟨s,l',rfl⟩:∃ s l',l=s :: l':=by cases l with | nil=>exact absurd rfl h0 | cons s l'=>exact⟨s,l',rfl⟩
 have hlen:0<S.length:=List.length_pos_iff.2 hS;refine Par.commandSimple (by unfold xO;simp only[List.map_cons,List.cons_append];rw[(sW s).1]) (by simp;omega) (Par.words hS _ [] hl ?_)
 have:=Par.simpleEnd (d:=d) [] ([]++(s :: l').map a8) [] h1 h2 (by simp)
 unfold fQ;rw[List.nil_append] at this ⊢;exact this
theorem B7 (s:List UInt8)(S:List aF)(l:List (List UInt8)):lW (kB s :: S) l=false:=by
 unfold lW;dsimp only;rw[(sW s).1]
theorem Hy {l:List (List UInt8)}(h0:l≠[])(hl:∀ s∈l,s.length≤2000):WFP okA 2000 false 2 (fQ l):=by
 have h1:0<l.length:=List.length_pos_iff.2 h0;refine .node _ _ _ _ _ _ (by rfl) (by rfl) (by simp [bJ];omega) fun j kid hj=>?_
 rw[List.getElem?_map] at hj
 cases hs:l[j]? with
 | none=>rw[hs] at hj;cases hj
 | some s =>
  rw[hs] at hj
  cases hj
  exact Kr (hl s (List.mem_of_getElem? hs))
theorem vY (l:List (List UInt8)):(fQ l).length=l.length+1:=by
 unfold fQ aE;rw[List.length_cons,show (l.map a8).flatten.length=l.length from by induction l with | nil=>rfl | cons s l ih=>simp [a8,aE] at ih ⊢;omega]
theorem sG {l:List (List UInt8)}(h0:l≠[])(hl:∀ s∈l,s.length≤2000)(hn:l.length≤1000):dA (fQ l)=none :=
 IV (Hy h0 hl) (by omega) (by rw[vY];omega)
theorem I1 {d:Nat}(hd:d+1≤30)(l:List (List UInt8))(h0:l≠[])(hl:∀ s∈l,s.length≤2000):Par (qC d) (l.map kB++qK) (fQ l) qK:=by
 obtain⟨s,l',rfl⟩:∃ s l',l=s :: l':=by cases l with | nil=>exact absurd rfl h0 | cons s l'=>exact⟨s,l',rfl⟩
 exact Par.end1 hd (G2 rfl) (by unfold nR;rw[List.map_cons,List.cons_append,B7];rfl) (B7 _ _ _) (Par.call _ h0 hl (by decide) (by decide) (by decide)) (by simp)
theorem vB (l:List (List UInt8))(h0:l≠[])(hl:∀ s∈l,s.length≤2000)(hn:l.length≤1000)(hS:(dN eP l).length≤8192):mV (dN eP l) = .ok (fQ l):=by
 have h1:=Lx.words Lx.nil tK l;rw[List.append_nil] at h1;exact Ir h1 (I1 (by omega) l h0 hl) hS (sG h0 hl hn)
theorem LeP.take {α:Type}{ts:List aH}{i:Nat}{ks:List Nat}{k k':Nat→aJ α}(h:∀ e,LeP (k e) (k' e)):LeP (fG ts i ks k) (fG ts i ks k'):=LeP.ite (h _) (LeP.refl _)
structure Lk (ts:List aH) (f:Nat):Prop where
 list:∀ d i,LeP (cU ts f d i) (cU ts (f+1) d i)
 chains:∀ d i l,LeP (d7 ts f d i l) (d7 ts (f+1) d i l)
 chain:∀ d i,LeP (eV ts f d i) (eV ts (f+1) d i)
 chainR:∀ d i o,LeP (gF ts f d i o) (gF ts (f+1) d i o)
 pipe:∀ d i,LeP (eA ts f d i) (eA ts (f+1) d i)
 pipeR:∀ d i l,LeP (fC ts f d i l) (fC ts (f+1) d i l)
 command:∀ d i,LeP (eL ts f d i) (eL ts (f+1) d i)
 block:∀ d i,LeP (fZ ts f d i) (fZ ts (f+1) d i)
 test:∀ d i,LeP (jP ts f d i) (jP ts (f+1) d i)
 body:∀ d i,LeP (iI ts f d i) (iI ts (f+1) d i)
 choice:∀ d i,LeP (jZ ts f d i) (jZ ts (f+1) d i)
 whl:∀ d i,LeP (j7 ts f d i) (j7 ts (f+1) d i)
 each:∀ d i,LeP (kE ts f d i) (kE ts (f+1) d i)
 choose:∀ d i,LeP (j5 ts f d i) (j5 ts (f+1) d i)
 cases:∀ d i l,LeP (jM ts f d i l) (jM ts (f+1) d i l)
 function:∀ d i,LeP (jS ts f d i) (jS ts (f+1) d i)
 turns:∀ d i c l,LeP (fY ts f d i c l) (fY ts (f+1) d i c l)
 simple:∀ d i,LeP (gD ts f d i) (gD ts (f+1) d i)
 sets:∀ d i l,LeP (f8 ts f d i l) (f8 ts (f+1) d i l)
 items:∀ d i ws l,LeP (dR ts f d i ws l) (dR ts (f+1) d i ws l)
 words:∀ d i how l,LeP (eW ts f d i how l) (eW ts (f+1) d i how l)
 word:∀ d i how,LeP (dC ts f d i how) (dC ts (f+1) d i how)
 wordR:∀ d i how l,LeP (fD ts f d i how l) (fD ts (f+1) d i how l)
 one:∀ d i,LeP (fT ts f d i) (fT ts (f+1) d i)
theorem Dh (ts:List aH):∀ f,Lk ts f
 | 0=>by
  constructor <;> intros <;> intro r h <;> simp only[cU,d7,eV,gF,eA,fC,eL,fZ,jP,iI,jZ,j7,kE,j5,jM,jS,fY,gD,f8,dR,eW,dC,fD,fT] at h <;> cases h
 | f+1=>by
  have ih:=Dh ts f;refine ⟨?_,?_,?_,?_,?_,?_,?_,?_,?_,?_,?_,?_,?_,?_,?_,?_,?_,?_,?_,?_,?_,?_,?_,?_⟩
  ·intro d i;rw[cU,cU];exact .ite (.refl _) (ih.chains _ _ _)
  ·intro d i l;rw[d7,d7];exact .ite (.refl _) (.go (ih.chain _ _) fun _ _=>ih.chains _ _ _)
  ·intro d i;rw[eV,eV];exact .go (ih.pipe _ _) fun _ _=>ih.chainR _ _ _
  ·intro d i o;rw[gF,gF];exact .ite (.go (ih.pipe _ _) fun _ _=>ih.chainR _ _ _) (.refl _)
  ·intro d i;rw[eA,eA];exact .go (ih.pipeR _ _ _) fun _ _=>.refl _
  ·intro d i l;rw[fC,fC];exact .go (ih.command _ _) fun _ _=>.ite (ih.pipeR _ _ _) (.refl _)
  ·intro d i;rw[eL,eL];exact .ite (.go (ih.block _ _) fun _ _=>ih.turns _ _ _ _) (.ite (ih.simple _ _) (.ite (ih.choice _ _) (.ite (ih.whl _ _) (.ite (ih.each _ _) (.ite (ih.choose _ _) (.ite (ih.function _ _) (.refl _)))))))
  ·intro d i;rw[fZ,fZ];exact .take fun _=>.go (ih.list _ _) fun _ _=>.refl _
  ·intro d i;rw[jP,jP];exact .take fun _=>.go (ih.list _ _) fun _ _=>.refl _
  ·intro d i;rw[iI,iI];exact .ite (.refl _) (ih.command _ _)
  ·intro d i;rw[jZ,jZ];exact .go (ih.test _ _) fun _ _=>.go (ih.body _ _) fun _ _=>.ite (.go (ih.body _ _) fun _ _=>.refl _) (.refl _)
  ·intro d i;rw[j7,j7];exact .go (ih.test _ _) fun _ _=>.go (ih.body _ _) fun _ _=>.refl _
  ·intro d i;rw[kE,kE];exact .take fun _=>.ite (.ite (.go (ih.words _ _ _ _) fun _ _=>.take fun _=>.go (ih.body _ _) fun _ _=>.refl _) (.refl _)) (.refl _)
  ·intro d i;rw[j5,j5];exact .take fun _=>.go (ih.word _ _ _) fun _ _=>.take fun _=>.take fun _=>.go (ih.cases _ _ _) fun _ _=>.take fun _=>ih.turns _ _ _ _
  ·intro d i l;rw[jM,jM];exact .ite (.go (ih.words _ _ _ _) fun _ _=>.take fun _=>.go (ih.list _ _) fun _ _=>ih.cases _ _ _) (.refl _)
  ·intro d i;rw[jS,jS];exact .ite (.go (ih.block _ _) fun _ _=>.refl _) (.refl _)
  ·intro d i c l;rw[fY,fY];exact .ite (.go (ih.word _ _ _) fun _ _=>ih.turns _ _ _ _) (.refl _)
  ·intro d i;rw[gD,gD];exact .go (ih.sets _ _ _) fun _ _=>.go (ih.items _ _ _ _) fun _ _=>.refl _
  ·intro d i l;rw[f8,f8];exact .ite (.go (ih.word _ _ _) fun _ _=>ih.sets _ _ _) (.refl _)
  ·intro d i ws l;rw[dR,dR];exact .ite (.go (ih.word _ _ _) fun _ _=>ih.items _ _ _ _) (.ite (.refl _) (.go (ih.word _ _ _) fun _ _=>ih.items _ _ _ _))
  ·intro d i how l;rw[eW,eW];exact .ite (.go (ih.word _ _ _) fun _ _=>ih.words _ _ _ _) (.refl _)
  ·intro d i how;rw[dC,dC];exact .go (ih.wordR _ _ _ _) fun _ _=>.refl _
  ·intro d i how l;rw[fD,fD];exact .ite (.refl _) (.go (ih.one _ _) fun _ _=>.ite (ih.wordR _ _ _ _) (.ite (.refl _) (ih.wordR _ _ _ _)))
  ·intro d i;rw[fT,fT];exact .ite (.refl _) (.ite (.refl _) (.ite (.refl _) (.ite (.refl _) (.ite (.ite (.refl _) (.go (ih.words _ _ _ _) fun _ _=>.refl _)) (.ite (.go (ih.list _ _) fun _ _=>.refl _) (.refl _))))))
def iK (first:Bool) (l:List UInt8) (p:Nat) (ts:List aH):Prop:=∀ f,l.length<f→dD f first l p = .ok ts
theorem iK.cons {first:Bool}{l:List UInt8}{p n:Nat}{t:aH}{us:List aH}{s:Nat}(hs:aQ false l=s)(h:d8 (l.drop s) (p+s) = .ok (t,n))(hk:t.kind≠0)(hn:1≤n)(hl:s+n≤l.length)
  (hr:iK false (l.drop (s+n)) (p+s+n) us):iK first l p ({ t with glue:=!first&&s==0 } :: us):=by
 intro f hf;obtain⟨f,rfl⟩:∃ g,f=g+1:=⟨f - 1,by omega⟩
 rw[dD,hs,h];simp only[hk,if_false];rw[hr f (by rw[List.length_drop];omega)]
theorem iK.nil {first:Bool}{p:Nat}:iK first [] p [⟨0,p,0,[],!first⟩]:=fun f hf=>by
 obtain⟨f,rfl⟩:∃ g,f=g+1:=⟨f - 1,by simp only[List.length_nil] at hf;omega⟩
 rw[dD];simp [aQ,d8]
def qG:List Nat→List aH→List aH→Prop
 | [],ts,tail=>ts=tail
 | m :: ms,ts,tail=>∃ a b more,ts=a :: b :: more∧a.kind=(if m=0 then 11 else if m=1 then 12 else if m=2 then 13 else 14)∧b.kind=20∧b.text=[102]∧qG ms more tail
theorem iK.at {c:UInt8}{m:List UInt8}{first:Bool}{p n:Nat}{t:aH}{us:List aH}(hc:aQ false (c :: m)=0)(h:d8 (c :: m) p = .ok (t,n))(hk:t.kind≠0)(hn:1≤n)(hl:n≤m.length+1)
  (hr:iK false ((c :: m).drop n) (p+n) us):∃ g,iK first (c :: m) p ({ t with glue:=g } :: us):=by
 have h1:=iK.cons (first:=first) (l:=c :: m) (p:=p) (s:=0) hc (by simpa using h) hk hn (by simp only[List.length_cons];omega) (by simpa using hr)
 exact⟨_,h1⟩
def uM (m:Nat):Nat:=if m=0 then 11 else if m=1 then 12 else if m=2 then 13 else 14
theorem Fu (m:Nat):11≤uM m∧uM m≤14:=by unfold uM;(repeat' split) <;> omega
def Dj (l:List aH):Prop:=∃ b r,l=b :: r∧b.kind ∉ [15,16,18,19,20,21,22,23,6,10]
theorem qG.head:∀ {ms:List Nat}{ts tl:List aH},qG ms ts tl→Dj tl→Dj ts
 | [],_,_,h,ht=>by cases h;exact ht
 | m :: ms,_,_,⟨a,b,more,h1,h2,_⟩,_=>by
  refine ⟨a,b :: more,h1,?_⟩;have:=Fu m
  rw[h2,← uM];simp only[List.mem_cons,List.not_mem_nil,or_false,not_or];omega
theorem qG.glue {P:List aH→Prop}(hP:∀ t r g,P (t :: r)→P ({ t with glue:=g } :: r)){ms:List Nat}{t:aH}{us tl:List aH}(g:Bool)(h:qG ms (t :: us) tl)(hp:P tl):∃ tl',qG ms ({ t with glue:=g } :: us) tl'∧P tl':=by
 cases ms with
 | nil =>
  cases h
  exact⟨_,rfl,hP _ _ _ hp⟩
 | cons m ms =>
  obtain⟨a,b,more,h1,h2,h3,h4,h5⟩:=h;obtain⟨rfl,rfl⟩:=List.cons.inj h1;exact⟨tl,⟨_,b,more,rfl,h2,h3,h4,h5⟩,hp⟩
def lN (t:aH):aH:=⟨t.kind,0,t.num,t.text,t.glue&&[18,19,20,21,22,23,6,10].contains t.kind⟩
def eI (ts:List aH) (i:Nat) (S:List aH):Prop:=S≠[]∧(ts.drop i).map lN=S
section
variable {ts:List aH} {i:Nat} {S:List aH}
theorem eI.lt (h:eI ts i S):i<ts.length:=by
 obtain⟨h1,h2⟩:=h
 by_cases hi:i<ts.length
 ·exact hi
 ·rw[List.drop_of_length_le (by omega)] at h2
  exact absurd h2.symm h1
theorem eI.len (h:eI ts i S):S.length=ts.length - i:=by
 rw[← h.2,List.length_map,List.length_drop]
theorem x8 (hl:i<ts.length):ts[i]=aK ts i:=by
 unfold aK;rw[List.getD_eq_getElem?_getD,List.getElem?_eq_getElem hl];rfl
theorem eI.cons (h:eI ts i S):∃ S',S=lN (aK ts i) :: S'∧(ts.drop (i+1)).map lN=S':=by
 have hl:=h.lt;obtain⟨_,h2⟩:=h;rw[List.drop_eq_getElem_cons hl,List.map_cons,x8 hl] at h2;exact⟨_,h2.symm,rfl⟩
theorem eI.tail {t:aH}(h:eI ts i (t :: S))(hS:S≠[]):t=lN (aK ts i)∧skP ts i=i+1∧eI ts (i+1) S:=by
 obtain⟨S',h1,h2⟩:=h.cons
 cases h1
 refine ⟨rfl,?_,hS,h2⟩;have h3:=(show eI ts (i+1) S from ⟨hS,h2⟩).lt
 unfold skP;omega
theorem eI.head {t:aH}(h:eI ts i (t :: S)):t=lN (aK ts i):=by
 obtain⟨S',h1,h2⟩:=h.cons
 cases h1
 rfl
end
def isB (S:List aH) (ks:List Nat):Bool:=match S with | t :: _=>ks.contains t.kind | []=>false
def fJ (ks:List Nat) (S:List aH):List aH:=S.dropWhile fun t=>ks.contains t.kind
theorem eI.is {ts:List aH}{i:Nat}{S:List aH}(h:eI ts i S)(ks:List Nat):isK ts i ks=isB S ks:=by
 obtain⟨S',rfl,-⟩:=h.cons;rfl
theorem eI.passP (ks:List Nat){ts:List aH}:∀ (f:Nat){i:Nat}{S:List aH},eI ts i S→fJ ks S≠[]→S.length≤f→eI ts (passP ts ks f i) (fJ ks S)∧(passP ts ks f i=i ↔ fJ ks S=S)
 | 0,i,S,h,_,hf=>absurd (List.length_eq_zero_iff.1 (by omega)) h.1
 | f+1,i,S,h,hp,hf=>by
  rw[Go.Proofs.YtnombfbpmmmoeaaGreatDoor.passP,h.is];obtain⟨S',rfl,-⟩:=h.cons;generalize ht:lN (aK ts i)=t at *
  by_cases hk:ks.contains t.kind=true
  ·have e:fJ ks (t :: S')=fJ ks S':=by unfold fJ;rw[List.dropWhile_cons,if_pos hk]
   rw[e] at hp ⊢;have hS':S'≠[]:=by rintro rfl;exact hp rfl
   obtain⟨_,h2,h3⟩:=h.tail hS';rw[show isB (t :: S') ks=true from hk,if_pos rfl,h2]
   obtain⟨h4,h5⟩:=eI.passP ks f h3 hp (by simpa using hf)
   refine ⟨h4,?_⟩;have h6:=h4.len;have h7:=h4.lt;have h8:(fJ ks S').length≤S'.length:=by unfold fJ;exact List.Sublist.length_le (List.dropWhile_sublist _)
   have h9:=h3.len;have h10:=h3.lt;constructor
   ·intro e2;exfalso
    omega
   ·intro e2;exfalso
    rw[e2,List.length_cons] at h8;omega
  ·have e:fJ ks (t :: S')=t :: S':=by unfold fJ;rw[List.dropWhile_cons,if_neg hk]
   rw[e,show isB (t :: S') ks=false from by unfold isB;simpa using hk,if_neg (by simp)]
   exact⟨h,by simp⟩
theorem eI.pass {ts:List aH}{i:Nat}{S:List aH}(h:eI ts i S)(ks:List Nat)(hp:fJ ks S≠[]):eI ts (gX ts ks i) (fJ ks S)∧(gX ts ks i=i ↔ fJ ks S=S) :=
 eI.passP ks ts.length h hp (by rw[h.len];omega)
theorem eI.key {ts:List aH}{i:Nat}{S:List aH}(h:eI ts i S)(hn:isB S [18]=false)(s:List UInt8):iL ts i s=false:=by
 unfold iL;rw[h.is,hn];rfl
def bE {α:Type} (X:Nat→List aH→Nat→aJ α) (S:List aH) (a:α) (S':List aH):Prop :=
 ∃ f0,∀ f,f0≤f→∀ ts i,eI ts i S→∃ j,X f ts i=some (.ok (a,j))∧eI ts j S'
abbrev uI (d:Nat):=fun f ts i=>cU ts f d i
abbrev rL (d:Nat) (L:List aA):=fun f ts i=>d7 ts f d i L
abbrev C9 (d:Nat):=fun f ts i=>eV ts f d i
abbrev yT (d:Nat):=fun f ts i=>eA ts f d i
abbrev Da (d:Nat) (L:List aA):=fun f ts i=>fC ts f d i L
abbrev wY (d:Nat):=fun f ts i=>eL ts f d i
abbrev rO (d:Nat) (ws:List aA) (L:List (Nat×aA)):=fun f ts i=>dR ts f d i ws L
abbrev yP (d:Nat):=fun f ts i=>dC ts f d i 0
abbrev Dn (d:Nat):=fun f ts i=>fT ts f d i
theorem pV {α β:Type}(a:α)(i:Nat)(k:α→Nat→aJ β):aJ.go (some (.ok (a,i)):aJ α) k=k a i:=rfl
section
variable {d:Nat} {S S1 S2 S3:List aH}
theorem bE.list {l:aA}(hd:d+1≤30)(h:bE (rL (d+1) []) S l S1):bE (uI d) S l S1:=by
 obtain⟨f1,h1⟩:=h;refine ⟨f1+1,fun f hf ts i hs=>?_⟩
 obtain⟨f,rfl⟩:∃ g,f=g+1:=⟨f - 1,by omega⟩
 obtain⟨j,q1,q2⟩:=h1 f (by omega) ts i hs
 refine ⟨j,?_,q2⟩;show cU ts (f+1) d i=_
 rw[cU,if_neg (by omega)]
 exact q1
theorem bE.chainsEnd (L:List aA)(hp:fJ [1,2] S≠[])(he:isB (fJ [1,2] S) [0,7,9]=true):bE (rL d L) S (eH L) (fJ [1,2] S):=by
 refine ⟨1,fun f hf ts i hs=>?_⟩
 obtain⟨f,rfl⟩:∃ g,f=g+1:=⟨f - 1,by omega⟩
 obtain⟨q1,q2⟩:=hs.pass [1,2] hp;refine ⟨_,?_,q1⟩;show d7 ts (f+1) d i L=_
 rw[d7];rw[if_pos (.inl (by rw[q1.is];exact he))]
 rfl
theorem bE.chainsStep {L:List aA}{c l:aA}(hp:fJ [1,2] S≠[])(he:isB (fJ [1,2] S) [0,7,9,18]=false)(hne:L=[]∨fJ [1,2] S≠S)(h1:bE (C9 d) (fJ [1,2] S) c S1)(h2:bE (rL d (L++[c])) S1 l S2):bE (rL d L) S l S2:=by
 obtain⟨f1,h1⟩:=h1;obtain⟨f2,h2⟩:=h2;refine ⟨f1+f2+1,fun f hf ts i hs=>?_⟩
 obtain⟨f,rfl⟩:∃ g,f=g+1:=⟨f - 1,by omega⟩
 obtain⟨q1,q2⟩:=hs.pass [1,2] hp;obtain⟨j,q3,q4⟩:=h1 f (by omega) ts _ q1
 obtain⟨k,q5,q6⟩:=h2 f (by omega) ts _ q4
 refine ⟨k,?_,q6⟩;show d7 ts (f+1) d i L=_
 rw[d7]
 have e1:isK ts (gX ts [1,2] i) [0,7,9]=false∧isB (fJ [1,2] S) [18]=false:=by
  rw[q1.is]
  cases hq:fJ [1,2] S with
  | nil=>exact absurd hq hp
  | cons t r =>
   rw[hq] at he;unfold isB at he ⊢;dsimp only at he ⊢;simp only[List.contains_eq_any_beq,List.any_cons,List.any_nil,Bool.or_false,Bool.or_eq_false_iff,beq_eq_false_iff_ne] at he ⊢;omega
 rw[if_neg]
 ·rw[show eV ts f d (gX ts [1,2] i)=_ from q3,pV]
  exact q5
 ·rintro (h | h | ⟨h,h9⟩)
  ·rw[e1.1] at h;cases h
  ·rw[q1.key e1.2] at h;cases h
  ·rcases hne with rfl | hne
   ·simp at h
   ·exact hne (q2.1 h9)
theorem bE.chain {o:aA}(h1:bE (yT d) S o S1)(h:isB S1 [3,4]=false):bE (C9 d) S o S1:=by
 obtain⟨f1,h1⟩:=h1;refine ⟨f1+2,fun f hf ts i hs=>?_⟩
 obtain⟨f,rfl⟩:∃ g,f=g+2:=⟨f - 2,by omega⟩
 obtain⟨j,q3,q4⟩:=h1 (f+1) (by omega) ts _ hs
 refine ⟨j,?_,q4⟩;show eV ts (f+2) d i=_
 rw[eV,show eA ts (f+1) d i=_ from q3,pV,gF,q4.is,h,if_neg (by simp)]
 rfl
theorem bE.pipe {l:List aA}(h:isB S [17]=false)(h1:bE (Da d []) S l S1):bE (yT d) S (if 1<l.length then aE 32 0 [] l else l.headD []) S1:=by
 obtain⟨f1,h1⟩:=h1;refine ⟨f1+1,fun f hf ts i hs=>?_⟩
 obtain⟨f,rfl⟩:∃ g,f=g+1:=⟨f - 1,by omega⟩
 obtain⟨j,q3,q4⟩:=h1 f (by omega) ts _ hs
 refine ⟨j,?_,q4⟩;show eA ts (f+1) d i=_
 rw[eA,hs.is,h,if_neg (by simp),show fC ts f d i []=_ from q3,pV,if_neg (by simp)]
 rfl
theorem bE.pipeREnd {L:List aA}{c:aA}(h1:bE (wY d) S c S1)(h:isB S1 [5]=false):bE (Da d L) S (L++[c]) S1:=by
 obtain⟨f1,h1⟩:=h1;refine ⟨f1+1,fun f hf ts i hs=>?_⟩
 obtain⟨f,rfl⟩:∃ g,f=g+1:=⟨f - 1,by omega⟩
 obtain⟨j,q3,q4⟩:=h1 f (by omega) ts _ hs
 refine ⟨j,?_,q4⟩;show fC ts (f+1) d i L=_
 rw[fC,show eL ts f d i=_ from q3,pV,q4.is,h,if_neg (by simp)]
 rfl
theorem bE.commandSimple {ws:List aA}{L:List (Nat×aA)}(h:isB S [8,18]=false)(h0:0<ws.length+L.length)(h1:bE (rO d [] []) S (ws,L) S1):bE (wY d) S (fO L (dH [] ws)) S1:=by
 obtain⟨f1,h1⟩:=h1;refine ⟨f1+3,fun f hf ts i hs=>?_⟩
 obtain⟨f,rfl⟩:∃ g,f=g+3:=⟨f - 3,by omega⟩
 obtain⟨j,q3,q4⟩:=h1 (f+1) (by omega) ts _ hs
 refine ⟨j,?_,q4⟩
 have e1:isK ts i [8]=false∧isK ts i [18]=false:=by
  rw[hs.is,hs.is];obtain⟨S',rfl,-⟩:=hs.cons;unfold isB at h ⊢;dsimp only at h ⊢;simp only[List.contains_eq_any_beq,List.any_cons,List.any_nil,Bool.or_false,Bool.or_eq_false_iff,beq_eq_false_iff_ne] at h ⊢;exact h
 have hsets:f8 ts (f+1) d i []=pOk [] i:=by
  rw[f8,e1.2,if_neg (by simp)]
 have hs2:gD ts (f+2) d i=pOk (fO L (dH [] ws)) j:=by
  rw[gD,hsets];simp only[pOk,aJ.go];rw[show dR ts (f+1) d i [] []=_ from q3]
  dsimp only;rw[if_neg (by simp only[List.length_nil];omega)]
 show eL ts (f+3) d i=_
 rw[eL,e1.1,if_neg (by simp),if_pos (.inl e1.2)]
 exact hs2
theorem bE.itemsEnd (ws:List aA)(L:List (Nat×aA))(h:isB S [11,12,13,14]=false)(h2:isB S [18,19,20,21,22,23,6,10]=false):bE (rO d ws L) S (ws,L) S:=by
 refine ⟨1,fun f hf ts i hs=>⟨i,?_,hs⟩⟩
 obtain⟨f,rfl⟩:∃ g,f=g+1:=⟨f - 1,by omega⟩
 show dR ts (f+1) d i ws L=_
 rw[dR,show jW ts i=false from by unfold jW;rw[hs.is];exact h,if_neg (by simp),if_pos (.inl (by unfold eF;rw[hs.is];exact h2))]
 rfl
theorem bE.itemsWord {v:aA}{l:List aA×List (Nat×aA)}{ws:List aA}{L:List (Nat×aA)}(h:isB S [11,12,13,14,18]=false)(h2:isB S [18,19,20,21,22,23,6,10]=true)(hw:bE (yP d) S v S1)(h1:bE (rO d (ws++[v]) L) S1 l S2):bE (rO d ws L) S l S2:=by
 obtain⟨f1,h1⟩:=h1;obtain⟨f2,hw⟩:=hw;refine ⟨f1+f2+1,fun f hf ts i hs=>?_⟩
 obtain⟨f,rfl⟩:∃ g,f=g+1:=⟨f - 1,by omega⟩
 obtain⟨j,q3,q4⟩:=hw f (by omega) ts _ hs
 obtain⟨k,q5,q6⟩:=h1 f (by omega) ts _ q4
 refine ⟨k,?_,q6⟩
 have e1:isB S [11,12,13,14]=false∧isB S [18]=false:=by
  obtain⟨S',rfl,-⟩:=hs.cons;unfold isB at h ⊢;dsimp only at h ⊢;simp only[List.contains_eq_any_beq,List.any_cons,List.any_nil,Bool.or_false,Bool.or_eq_false_iff,beq_eq_false_iff_ne] at h ⊢;omega
 show dR ts (f+1) d i ws L=_
 rw[dR,show jW ts i=false from by unfold jW;rw[hs.is];exact e1.1,if_neg (by simp),if_neg (by
  rintro (h9 | h9)
  ·unfold eF at h9;rw[hs.is,h2] at h9;cases h9
  ·rw[hs.key e1.2] at h9;cases h9),show dC ts f d i 0=_ from q3,pV]
 exact q5
theorem bE.word {t:aH}{v:aA}(h:isB (t :: S) [19,20,21,22,23,6,10]=true)(hO:bE (Dn d) (t :: S) v S1)(h1:isB S1 [15]=false)(h2:∀ u S',S1=u :: S'→isB S1 [18,19,20,21,22,23,6,10]=true→u.glue=false)(hj:iJ [v]=v)(hl:cM v=false):bE (yP d) (t :: S) v S1:=by
 obtain⟨f1,hO⟩:=hO;refine ⟨f1+2,fun f hf ts i hs=>?_⟩
 obtain⟨f,rfl⟩:∃ g,f=g+2:=⟨f - 2,by omega⟩
 obtain⟨j,q3,q4⟩:=hO f (by omega) ts _ hs
 refine ⟨j,?_,q4⟩;have hh:=hs.head;have hk:(aK ts i).kind=t.kind:=by rw[hh];rfl
 have hi:eF ts i=true:=by
  unfold eF;rw[hs.is];unfold isB at h ⊢;dsimp only at h ⊢;simp only[List.contains_eq_any_beq,List.any_cons,List.any_nil,Bool.or_false,Bool.or_eq_true,beq_iff_eq] at h ⊢;omega
 have h18:(aK ts i).kind≠18:=by
  rw[hk];unfold isB at h;dsimp only at h;simp only[List.contains_eq_any_beq,List.any_cons,List.any_nil,Bool.or_false,Bool.or_eq_true,beq_iff_eq] at h;omega
 have hg:eF ts j=false∨(aK ts j).glue=false:=by
  obtain⟨S',e1,-⟩:=q4.cons
  by_cases hx:eF ts j=true
  ·refine .inr ?_;unfold eF at hx;have h3:=h2 _ _ e1 (by rw[← q4.is];exact hx)
   unfold lN at h3;dsimp only at h3;rw[show [18,19,20,21,22,23,6,10].contains (aK ts j).kind=true from hx,Bool.and_true] at h3
   exact h3
  ·exact .inl (by simpa using hx)
 have hR:fD ts (f+1) d i 0 []=pOk [v] j:=by
  rw[fD,hi,if_neg (by simp),show fT ts f d i=_ from q3,pV]
  dsimp only;rw[q4.is,h1,if_neg (by simp),if_pos hg,if_neg (by omega)]
  rfl
 have hwo:kW (aK ts i) 0 [v]=v:=by
  unfold kW;rw[if_neg (fun h=>h18 h.2.2.1)]
  exact hj
 show dC ts (f+2) d i 0=_
 rw[dC,hR];simp only[pOk,aJ.go];rw[hwo,hl,if_neg (by simp)]
theorem bE.dead {t:aH}(h:t.kind=19)(hS:S≠[]):bE (Dn d) (t :: S) (a8 t.text) S:=by
 refine ⟨1,fun f hf ts i hs=>?_⟩
 obtain⟨f,rfl⟩:∃ g,f=g+1:=⟨f - 1,by omega⟩
 obtain⟨q0,q1,q2⟩:=hs.tail hS;refine ⟨i+1,?_,q2⟩;have hk:(aK ts i).kind=19:=by rw[← h,q0];rfl
 show fT ts (f+1) d i=_
 rw[fT];rw[hk,if_pos (.inr rfl),q1,q0];rfl
end
def LxB (first:Bool) (S:List UInt8) (T:List aH):Prop:=∀ p,∃ us,iK first S p us∧us.map lN=T
theorem LxB.nil (first:Bool):LxB first [] [⟨0,0,0,[],false⟩]:=fun p=>⟨_,iK.nil,by simp [lN]⟩
theorem I2 {S:List UInt8}{T:List aH}{l:aA}(hx:LxB true S T)(hp:bE (uI 0) T l [⟨0,0,0,[],false⟩])(hS:S.length≤8192)(hc:dA l=none):nM S = .ok l:=by
 obtain⟨us,h1,h2⟩:=hx 0;have h1:dD (S.length+1) true S 0 = .ok us:=h1 _ (by omega)
 obtain⟨f0,hp⟩:=hp;have g:=(C4 S hS us h1).good;have hn:=(yN g (12 * us.length+11)).list 0 0 g.pos (by omega)
 have hT:eI us 0 T:=⟨by rintro rfl;have:=g.pos;rw[List.map_eq_nil_iff] at h2;rw[h2] at this;simp at this,h2⟩
 obtain⟨j,q1,q2⟩:=hp (f0+(12 * us.length+11)) (by omega) us 0 hT
 have hm:=LeP.le (fn:=fun f=>cU us f 0 0) (fun f=>(Dh us f).list 0 0) (show 12 * us.length+11≤f0+(12 * us.length+11) by omega)
 unfold nM;rw[h1];dsimp only
 cases hx:cU us (12 * us.length+11) 0 0 with
 | none=>exact absurd hx hn
 | some r =>
  have h3:cU us (f0+(12 * us.length+11)) 0 0=some r:=hm r hx;rw[show cU us (f0+(12 * us.length+11)) 0 0=_ from q1] at h3
  cases h3
  dsimp only;rw[q2.is,if_neg (by decide),hc]
theorem AN:∀ (s:List UInt8)(rest:List UInt8),(∀ c m,rest=c :: m→c.toNat≠39)→dG (dM s++39 :: rest)=some (s,(dM s).length+1)
 | [],rest,h=>by
  cases rest with
  | nil=>rfl
  | cons c m =>
   show dG (39 :: c :: m)=_
   simp only[dG];rw[if_pos (by decide),if_neg (h c m rfl)]
   rfl
 | a :: s,rest,h=>by
  have ih:=AN s rest h
  obtain⟨x,y,hxy⟩:∃ x y,dM s++39 :: rest=x :: y:=by
   cases dM s with
   | nil=>exact⟨_,_,rfl⟩
   | cons x y=>exact⟨_,_,rfl⟩
  by_cases ha:a.toNat=39
  ·rw[dM,if_pos ha];show dG (39 :: 39 :: (dM s++39 :: rest))=_
   simp only[dG];rw[if_pos (by decide),if_pos (by decide),ih]
   obtain rfl:a=39:=UInt8.toNat_inj.1 ha;simp
  ·rw[dM,if_neg ha];show dG (a :: (dM s++39 :: rest))=_
   rw[hxy];simp only[dG];rw[if_neg ha,← hxy,ih];simp
theorem iK.blankG {c:UInt8}{m:List UInt8}{first:Bool}{p n:Nat}{t:aH}{us:List aH}(hc:aQ false (c :: m)=0)(h:d8 (c :: m) (p+1) = .ok (t,n))(hk:t.kind≠0)(hn:1≤n)(hl:n≤m.length+1)
  (hr:iK false ((c :: m).drop n) (p+1+n) us):iK first (32 :: c :: m) p ({ t with glue:=false } :: us):=by
 have h1:=iK.cons (first:=first) (l:=32 :: c :: m) (p:=p) (s:=1) (by rw[aQ,if_pos (.inl (by decide)),hc]) (by simpa using h) hk hn (by simp only[List.length_cons];omega) (by rw[Nat.add_comm 1 n,List.drop_succ_cons];exact hr)
 simpa using h1
def dS (s:List UInt8):List UInt8:=39 :: (dM s++[39])
theorem Cg (s rest:List UInt8)(p:Nat)(h:∀ c m,rest=c :: m→c.toNat≠39):d8 (39 :: (dM s++39 :: rest)) p = .ok (⟨19,p,0,s,false⟩,(dM s).length+2):=by
 rw[EZ,AN s rest h]
theorem BN (s rest:List UInt8):(39 :: (dM s++39 :: rest)).drop ((dM s).length+2)=rest:=by
 rw[List.drop_succ_cons,← List.drop_drop,List.drop_left];rfl
def nK (l:List (List UInt8)):List UInt8:=(l.map fun s=>32 :: dS s).flatten
end Go.Proofs.YtnombfbpmmmoeaaGreatDoor
