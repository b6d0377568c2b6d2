/- Dialect A: words between single quotes are these texts, and a command of them. No program stands in it. -/
import Derived.Test.YtbpjobmpacjgcaaGreatDoorGZH
import Derived.Test.YtbpjobmpacjgcaaGreatDoorGParseG
import Derived.Test.YtbpjobmpacjgcaaGreatDoorGZJ
namespace Go.Proofs.YtbpjobmpacjgcaaGreatDoor
open Go Go.RowKit
theorem Bf:∀ (l m:List UInt8),cC (l++m)=cC l++cC m
 | [],_=>rfl
 | c :: l,m=>by rw[List.cons_append,cC,cC,Bf l m,List.append_assoc]
theorem xE:∀ (s:List UInt8)(i:Nat),∀ p∈(bP i (cC s)).1,p.2.1=true∨(p.1.toNat≠42∧p.1.toNat≠63∧p.1.toNat≠91)
 | [],i,p,hp=>by simp [cC,bP] at hp
 | c :: l,i,p,hp=>by
  rw[cC] at hp
  by_cases hc:[42,63,91,93,92,32,9,10].contains c.toNat=true
  ·rw[if_pos hc,show [92,c]++cC l=92 :: c :: cC l from rfl,bP,if_pos (by decide)] at hp
   rcases List.mem_cons.1 hp with rfl | hp
   ·exact .inl rfl
   ·exact xE l _ p hp
  ·rw[if_neg hc] at hp;have h1:c.toNat≠42∧c.toNat≠63∧c.toNat≠91∧c.toNat≠92:=by simp at hc;omega
   cases he:cC l with
   | nil =>
    rw[he,List.append_nil,bP,if_neg h1.2.2.2,List.mem_singleton] at hp;subst hp;exact .inr ⟨h1.1,h1.2.1,h1.2.2.1⟩
   | cons d m =>
    rw[he,List.singleton_append,bP,if_neg h1.2.2.2] at hp
    rcases List.mem_cons.1 hp with rfl | hp
    ·exact .inr ⟨h1.1,h1.2.1,h1.2.2.1⟩
    ·rw[← he] at hp;exact xE l _ p hp
theorem B5:∀ (l:List (UInt8×Bool×Nat)),(∀ p∈l,p.2.1=true∨(p.1.toNat≠42∧p.1.toNat≠63∧p.1.toNat≠91))→o6 l=false
 | [],_=>rfl
 | p :: l,h=>by
  have h1:=h p (by simp)
  rw[o6,B5 l fun q hq=>h q (by simp [hq])]
  unfold iR
  rcases h1 with h1 | ⟨h1,h2,h3⟩
  ·simp [h1]
  ·simp [h1,h2,h3]
theorem Ia (s:List UInt8):oB (cC s)=false:=B5 _ (xE s 0)
def qpA:List UInt8→List UInt8→List aD
 | acc,[]=>[⟨2,0,0,false,acc⟩]
 | acc,c :: l=>if c.toNat=39 then ⟨2,0,0,false,acc⟩ :: ⟨2,0,0,false,[39]⟩ :: qpA [] l else qpA (acc++[c]) l
def eU (s:List UInt8):aG:=⟨13,0,qpA [] s⟩
def cS (s:List UInt8):List UInt8:=39 :: (fC s++[39])
theorem sG:∀ (l acc:List UInt8),(qpA acc l).map (·.text)≠[]∧vL (qpA acc l)∧iO (qpA acc l)=acc++l
 | [],acc=>⟨by simp [qpA],by intro p hp;rw[qpA,List.mem_singleton] at hp;subst hp;rfl,by simp [qpA,iO]⟩
 | c :: l,acc=>by
  rw[qpA]
  by_cases hc:c.toNat=39
  ·obtain rfl:c=39:=UInt8.toNat_inj.1 hc;obtain⟨h1,h2,h3⟩:=sG l [];rw[if_pos hc];refine ⟨by simp,fun p hp=>?_,?_⟩
   ·simp only[List.mem_cons] at hp
    rcases hp with rfl | rfl | hp
    ·rfl
    ·rfl
    ·exact h2 p hp
   ·rw[iO,iO,h3];simp
  ·rw[if_neg hc];obtain⟨h1,h2,h3⟩:=sG l (acc++[c]);exact⟨h1,h2,by rw[h3];simp⟩
theorem FW (L:List UInt8)(tail:List UInt8):∀ (l acc:List UInt8)(f i:Nat)(P:List aD)(j:Bool),(∀ x∈acc,x.toNat≠39)→L.length - i<f→L.drop i=39 :: (acc++(fC l++39 :: tail)) →
  ∃ f' D,bO L f i P j=bO L f' (i+acc.length+(fC l).length+2) (P++D) false∧L.length - (i+acc.length+(fC l).length+2)<f'∧D.map p5=qpA acc l:=by
 intro l
 induction l with
 | nil =>
  intro acc f i P j hacc hf hd;obtain⟨f,rfl⟩:∃ g,f=g+1:=⟨f - 1,by omega⟩
  obtain⟨h1,h2,h3⟩:=jA hd;have hx:cO 39 (L.drop (i+1))=some acc.length:=by rw[h3];exact D7 acc tail 39 39 rfl hacc
  have h4:=qR h3;obtain⟨h5,h6,h7⟩:=jA h4;refine ⟨f,[⟨2,i,0,false,aZ L (i+1:Nat) (i+1+acc.length:Nat)⟩],?_,?_,?_⟩
  ·rw[bO,if_neg (by omega),h2,if_neg (by decide),if_neg (by decide),if_pos (by decide),hx]
   rfl
  ·simp only[fC,List.length_nil];omega
  ·rw[D1 h3];rfl
 | cons c l ih =>
  intro acc f i P j hacc hf hd;rw[fC] at hd
  by_cases hc:c.toNat=39
  ·obtain rfl:c=39:=UInt8.toNat_inj.1 hc;rw[if_pos (by decide)] at hd
   obtain⟨f,rfl⟩:∃ g,f=g+1:=⟨f - 1,by omega⟩
   obtain⟨h1,h2,h3⟩:=jA hd;have hx:cO 39 (L.drop (i+1))=some acc.length:=by rw[h3];exact D7 acc _ 39 39 rfl hacc
   have h4:=qR h3;simp only[List.cons_append] at h4;obtain⟨h5,h6,h7⟩:=jA h4;obtain⟨h8,h9,h10⟩:=jA h7;obtain⟨h11,h12,h13⟩:=jA h10;obtain⟨f,rfl⟩:∃ g,f=g+1:=⟨f - 1,by omega⟩
   obtain⟨f',D,e1,e2,e3⟩:=ih [] f (i+acc.length+4) (P++[⟨2,i,0,false,aZ L (i+1:Nat) (i+1+acc.length:Nat)⟩]++[⟨2,i+acc.length+2,0,false,[39]⟩]) false (fun x hx=>by cases hx) (by omega) (by
    rw[show i+acc.length+4=i+1+acc.length+1+1+1 from by omega,h13]
    rfl)
   have hlen:i+acc.length+(fC (39 :: l)).length+2=i+acc.length+4+([]:List UInt8).length+(fC l).length+2:=by
    rw[fC,if_pos (by decide)]
    simp only[List.length_cons,List.length_nil];omega
   refine ⟨f',⟨2,i,0,false,aZ L (i+1:Nat) (i+1+acc.length:Nat)⟩ :: ⟨2,i+acc.length+2,0,false,[39]⟩ :: D,?_,?_,?_⟩
   ·rw[hlen,show P++⟨2,i,0,false,aZ L (i+1:Nat) (i+1+acc.length:Nat)⟩ :: ⟨2,i+acc.length+2,0,false,[39]⟩ :: D=P++[⟨2,i,0,false,aZ L (i+1:Nat) (i+1+acc.length:Nat)⟩]++[⟨2,i+acc.length+2,0,false,[39]⟩]++D from by simp,← e1,bO,if_neg (by omega),h2,if_neg (by decide),if_neg (by decide),if_pos (by decide),hx]
    show bO L (f+1) (i+acc.length+2) _ false=_
    have g1:L.getD (i+acc.length+2) 0=92:=by rw[← h9];congr 1;omega
    have g2:L.getD (i+acc.length+2+1) 0=39:=by rw[← h12];congr 1;omega
    rw[bO,if_neg (by omega),g1,if_neg (by decide),if_pos (by decide),if_pos (by omega),g2,show min (i+acc.length+2+2) L.length=i+acc.length+4 from by omega]
    rfl
   ·rw[hlen];exact e2
   ·rw[List.map_cons,List.map_cons,e3,D1 h3,qpA,if_pos (by decide)]
    rfl
  ·rw[if_neg hc] at hd
   obtain⟨f',D,e1,e2,e3⟩:=ih (acc++[c]) f i P j (by
    intro x hx;rw[List.mem_append,List.mem_singleton] at hx
    rcases hx with hx | rfl
    ·exact hacc x hx
    ·exact hc) hf (by rw[hd];simp)
   have hlen:i+acc.length+(fC (c :: l)).length+2=i+(acc++[c]).length+(fC l).length+2:=by
    rw[fC,if_neg hc];simp only[List.length_append,List.length_cons,List.length_nil];omega
   rw[hlen];exact⟨f',D,e1,e2,by rw[e3,qpA,if_neg hc]⟩
theorem Lx.dead {S:List UInt8}{T:List aG}(s:List UInt8)(h:Lx S T)(hs:Stop S):Lx (cS s++S) (eU s :: T):=by
 unfold cS;refine h.wordOf ⟨39,_,rfl,by decide,by decide⟩ fun L k f hd hf=>?_
 obtain⟨f',D,e1,e2,e3⟩:=FW L S s [] f k [] false (fun _ h=>nomatch h) hf (by rw[hd];simp)
 have hl:k+(39 :: (fC s++[39])).length=k+([]:List UInt8).length+(fC s).length+2:=by simp;omega
 refine ⟨D,?_,e3⟩;rw[e1,hl,List.nil_append];refine BH L S f' _ _ _ ?_ hs e2;rw[← hl];exact qR hd
theorem B3 (sub:aD→aL aA):∀ (P:List aD),vL P→gK (eM sub) P=oOk (P.map fun x=>aR x.text)
 | [],_=>rfl
 | p :: P,h=>by
  rw[gK,show eM sub p=oOk (aR p.text) from by unfold eM;rw[if_pos (.inr (h p (by simp)))],B3 sub P fun q hq=>h q (by simp [hq])]
  rfl
theorem CU:∀ (P:List aD)(a:List UInt8),(P.map fun x=>aR x.text).foldl a8 [aR a]=[aR (a++iO P)]
 | [],a=>by simp [iO]
 | p :: P,a=>by
  rw[List.map_cons,List.foldl_cons,show a8 [aR a] (aR p.text)=[aR (a++p.text)] from rfl,CU P,iO,List.append_assoc]
theorem Jw {P:List aD}(hP:P.map (·.text)≠[]):dW (P.map fun x=>aR x.text)=aR (iO P):=by
 cases P with
 | nil=>exact absurd rfl hP
 | cons p P =>
  have h1:((p :: P).map fun x=>aR x.text).foldl a8 []=[aR (iO (p :: P))]:=by
   rw[List.map_cons,List.foldl_cons,show a8 [] (aR p.text)=[aR p.text] from rfl,CU P]
   rfl
  have h2:=join_one (aR (iO (p :: P)));unfold dW at h2 ⊢;rw[List.map_cons] at h1 ⊢;dsimp only at h2 ⊢;rw[show List.foldl a8 [] [aR (iO (p :: P))]=[aR (iO (p :: P))] from rfl] at h2
  rw[h1];exact h2
theorem BV {tok:aG}{s:List UInt8}(h:gV tok=eU s):tok.parts.map (·.text)≠[]∧vL tok.parts∧iO tok.parts=s:=by
 unfold gV eU at h;injection h with h1 h2 h3
 obtain⟨q1,q2,q3⟩:=sG s [];rw[← h3] at q1 q2 q3;refine ⟨by simpa using q1,fun p hp=>?_,?_⟩
 ·exact q2 (p5 p) (List.mem_map_of_mem hp)
 ·rw[List.nil_append] at q3;rw[← q3];clear q1 q2 q3 h1 h2 h3
  induction tok.parts with
  | nil=>rfl
  | cons p P ih=>rw[List.map_cons,iO,iO,ih];rfl
theorem BR (sub:aD→aL aA)(b:Nat){tok:aG}{s:List UInt8}(h:gV tok=eU s)(hl:s.length≤2000):cZ sub b tok=some (.ok (aR s)):=by
 obtain⟨h1,h2,h3⟩:=BV h;unfold cZ gT;rw[B3 sub _ h2];show iC b tok (dW _)=_
 rw[Jw h1,h3];unfold iC;rw[if_neg (by rw[Dr hl];simp)]
 rfl
theorem CI:∀ (P:List aD),vL P→eT P=cC (iO P)∧jU P=false
 | [],_=>⟨rfl,rfl⟩
 | p :: P,h=>by
  obtain⟨h1,h2⟩:=CI P fun q hq=>h q (by simp [hq])
  have hk:=h p (by simp)
  unfold eT jU at *;rw[List.flatMap_cons,List.any_cons,h1,h2,iO,Bf,hk];exact⟨rfl,rfl⟩
theorem H8 (d:Nat){s:List UInt8}(hl:s.length≤2000):tL (Ee d) (eU s) (aR s):=⟨0,fun _ _ b _ h=>BR _ b h hl⟩
theorem GK (d:Nat){s:List UInt8}(hl:s.length≤2000):tL (Eg d) (eU s) (aR s):=⟨0,fun _ _ b tok h=>by
 obtain⟨h1,h2,h3⟩:=BV h;obtain⟨e1,e2⟩:=CI _ h2;show fS _ b tok=_
 unfold fS;rw[e1,Ia,if_neg (by simp),if_pos (.inl e2)]
 exact BR _ b h hl⟩
theorem uU (s:List UInt8):dC (eU s)=none∧eZ (eU s)=none:=by
 obtain⟨q1,q2,-⟩:=sG s [];unfold dC eZ eU;dsimp only
 cases hq:qpA [] s with
 | nil=>rw[hq] at q1;exact absurd rfl q1
 | cons p P =>
  have hk:p.kind=2:=q2 p (by rw[hq];simp)
  refine ⟨?_,?_⟩
  ·cases P with
   | nil=>simp [hk]
   | cons _ _=>rfl
  ·simp [hk]
def iI (q:List UInt8→List UInt8):List (List UInt8)→List UInt8
 | []=>[]
 | [s]=>q s
 | s :: l=>q s++32 :: iI q l
theorem Dq:Stop []:=.inl rfl
theorem pG (S:List UInt8):Stop (32 :: S):=.inr ⟨32,S,rfl,rfl⟩
theorem Lx.words {S:List UInt8}{T:List aG}(h:Lx S T)(hs:Stop S):∀ (l:List (List UInt8)),Lx (iI cS l++S) (l.map eU++T)
 | []=>h
 | [s]=>h.dead s hs
 | s :: s2 :: l=>by
  have h1:=Lx.dead s ((Lx.words h hs (s2 :: l)).blank) (pG _);rw[iI,List.append_assoc]
  ·exact h1
  ·simp
 termination_by l=>l.length
theorem Par.words {d:Nat}{S S1:List aG}{c:aA}{L:List (Nat×aA)}(hS:S≠[]):∀ (l:List (List UInt8))(ws:List aA),(∀ s∈l,s.length≤2000)→Par (qZ d [] (ws++l.map aR) L) S c S1→Par (qZ d [] ws L) (l.map eU++S) c S1
 | [],ws,_,h=>by rw[List.map_nil,List.append_nil] at h;exact h
 | s :: l,ws,hl,h=>by
  rw[List.map_cons,List.cons_append];refine Par.simpleWord rfl (.inr (uU s).2) (GK d (hl s (by simp))) (by simp [hS]) (Par.words hS l (ws++[aR s]) (fun x hx=>hl x (by simp [hx])) ?_)
  rw[List.append_assoc];exact h
def kR (l:List (List UInt8)):aA:=aC 21 0 [] (l.map aR)
theorem Par.call {d:Nat}(l:List (List UInt8))(h0:l≠[])(hl:∀ s∈l,s.length≤2000){S:List aG}(hS:S≠[])(h1:nT S=false)(h2:isS S [13]=false):Par (nR d) (l.map eU++S) (kR l) S:=by
 obtain⟨s,l',rfl⟩:∃ s l',l=s :: l':=by cases l with | nil=>exact absurd rfl h0 | cons s l'=>exact⟨s,l',rfl⟩
 have hlen:0<S.length:=List.length_pos_iff.2 hS;refine Par.commandSimple (by unfold yY;simp only[List.map_cons,List.cons_append];rw[(uU s).1]) (by simp;omega) (Par.words hS _ [] hl ?_)
 have:=Par.simpleEnd (d:=d) [] ([]++(s :: l').map aR) [] h1 h2 (by simp)
 unfold kR;rw[List.nil_append] at this ⊢;exact this
theorem Dh (s:List UInt8)(S:List aG)(l:List (List UInt8)):k7 (eU s :: S) l=false:=by
 unfold k7;dsimp only;rw[(uU s).1]
theorem Kw {l:List (List UInt8)}(h0:l≠[])(hl:∀ s∈l,s.length≤2000):WFP okA 2000 false 2 (kR l):=by
 have h1:0<l.length:=List.length_pos_iff.2 h0;refine .node _ _ _ _ _ _ (by rfl) (by rfl) (by simp [bL];omega) fun j kid hj=>?_
 rw[List.getElem?_map] at hj
 cases hs:l[j]? with
 | none=>rw[hs] at hj;cases hj
 | some s =>
  rw[hs] at hj
  cases hj
  exact yZ (hl s (List.mem_of_getElem? hs))
theorem JR (l:List (List UInt8)):(kR l).length=l.length+1:=by
 unfold kR aC;rw[List.length_cons,show (l.map aR).flatten.length=l.length from by induction l with | nil=>rfl | cons s l ih=>simp [aR,aC] at ih ⊢;omega]
theorem LeP.take {α:Type}{ts:List aH}{i:Nat}{ks:List Nat}{k k':Nat→aJ α}(h:∀ e,LeP (k e) (k' e)):LeP (fL ts i ks k) (fL ts i ks k'):=LeP.ite (h _) (LeP.refl _)
structure M2 (ts:List aH) (f:Nat):Prop where
 list:∀ d i,LeP (dI ts f d i) (dI ts (f+1) d i)
 chains:∀ d i l,LeP (eK ts f d i l) (eK ts (f+1) d i l)
 chain:∀ d i,LeP (fG ts f d i) (fG ts (f+1) d i)
 chainR:∀ d i o,LeP (gR ts f d i o) (gR ts (f+1) d i o)
 pipe:∀ d i,LeP (eC ts f d i) (eC ts (f+1) d i)
 pipeR:∀ d i l,LeP (eR ts f d i l) (eR ts (f+1) d i l)
 command:∀ d i,LeP (eE ts f d i) (eE ts (f+1) d i)
 block:∀ d i,LeP (fT ts f d i) (fT ts (f+1) d i)
 test:∀ d i,LeP (j8 ts f d i) (j8 ts (f+1) d i)
 body:∀ d i,LeP (i7 ts f d i) (i7 ts (f+1) d i)
 choice:∀ d i,LeP (kK ts f d i) (kK ts (f+1) d i)
 whl:∀ d i,LeP (kQ ts f d i) (kQ ts (f+1) d i)
 each:∀ d i,LeP (kV ts f d i) (kV ts (f+1) d i)
 choose:∀ d i,LeP (kM ts f d i) (kM ts (f+1) d i)
 cases:∀ d i l,LeP (j5 ts f d i l) (j5 ts (f+1) d i l)
 function:∀ d i,LeP (kD ts f d i) (kD ts (f+1) d i)
 turns:∀ d i c l,LeP (eQ ts f d i c l) (eQ ts (f+1) d i c l)
 simple:∀ d i,LeP (gS ts f d i) (gS ts (f+1) d i)
 sets:∀ d i l,LeP (gL ts f d i l) (gL ts (f+1) d i l)
 items:∀ d i ws l,LeP (eB ts f d i ws l) (eB ts (f+1) d i ws l)
 words:∀ d i how l,LeP (fI ts f d i how l) (fI ts (f+1) d i how l)
 word:∀ d i how,LeP (dJ ts f d i how) (dJ ts (f+1) d i how)
 wordR:∀ d i how l,LeP (fU ts f d i how l) (fU ts (f+1) d i how l)
 one:∀ d i,LeP (gG ts f d i) (gG ts (f+1) d i)
theorem Ew (ts:List aH):∀ f,M2 ts f
 | 0=>by
  constructor <;> intros <;> intro r h <;> simp only[dI,eK,fG,gR,eC,eR,eE,fT,j8,i7,kK,kQ,kV,kM,j5,kD,eQ,gS,gL,eB,fI,dJ,fU,gG] at h <;> cases h
 | f+1=>by
  have ih:=Ew ts f;refine ⟨?_,?_,?_,?_,?_,?_,?_,?_,?_,?_,?_,?_,?_,?_,?_,?_,?_,?_,?_,?_,?_,?_,?_,?_⟩
  ·intro d i;rw[dI,dI];exact .ite (.refl _) (ih.chains _ _ _)
  ·intro d i l;rw[eK,eK];exact .ite (.refl _) (.go (ih.chain _ _) fun _ _=>ih.chains _ _ _)
  ·intro d i;rw[fG,fG];exact .go (ih.pipe _ _) fun _ _=>ih.chainR _ _ _
  ·intro d i o;rw[gR,gR];exact .ite (.go (ih.pipe _ _) fun _ _=>ih.chainR _ _ _) (.refl _)
  ·intro d i;rw[eC,eC];exact .go (ih.pipeR _ _ _) fun _ _=>.refl _
  ·intro d i l;rw[eR,eR];exact .go (ih.command _ _) fun _ _=>.ite (ih.pipeR _ _ _) (.refl _)
  ·intro d i;rw[eE,eE];exact .ite (.go (ih.block _ _) fun _ _=>ih.turns _ _ _ _) (.ite (ih.simple _ _) (.ite (ih.choice _ _) (.ite (ih.whl _ _) (.ite (ih.each _ _) (.ite (ih.choose _ _) (.ite (ih.function _ _) (.refl _)))))))
  ·intro d i;rw[fT,fT];exact .take fun _=>.go (ih.list _ _) fun _ _=>.refl _
  ·intro d i;rw[j8,j8];exact .take fun _=>.go (ih.list _ _) fun _ _=>.refl _
  ·intro d i;rw[i7,i7];exact .ite (.refl _) (ih.command _ _)
  ·intro d i;rw[kK,kK];exact .go (ih.test _ _) fun _ _=>.go (ih.body _ _) fun _ _=>.ite (.go (ih.body _ _) fun _ _=>.refl _) (.refl _)
  ·intro d i;rw[kQ,kQ];exact .go (ih.test _ _) fun _ _=>.go (ih.body _ _) fun _ _=>.refl _
  ·intro d i;rw[kV,kV];exact .take fun _=>.ite (.ite (.go (ih.words _ _ _ _) fun _ _=>.take fun _=>.go (ih.body _ _) fun _ _=>.refl _) (.refl _)) (.refl _)
  ·intro d i;rw[kM,kM];exact .take fun _=>.go (ih.word _ _ _) fun _ _=>.take fun _=>.take fun _=>.go (ih.cases _ _ _) fun _ _=>.take fun _=>ih.turns _ _ _ _
  ·intro d i l;rw[j5,j5];exact .ite (.go (ih.words _ _ _ _) fun _ _=>.take fun _=>.go (ih.list _ _) fun _ _=>ih.cases _ _ _) (.refl _)
  ·intro d i;rw[kD,kD];exact .ite (.go (ih.block _ _) fun _ _=>.refl _) (.refl _)
  ·intro d i c l;rw[eQ,eQ];exact .ite (.go (ih.word _ _ _) fun _ _=>ih.turns _ _ _ _) (.refl _)
  ·intro d i;rw[gS,gS];exact .go (ih.sets _ _ _) fun _ _=>.go (ih.items _ _ _ _) fun _ _=>.refl _
  ·intro d i l;rw[gL,gL];exact .ite (.go (ih.word _ _ _) fun _ _=>ih.sets _ _ _) (.refl _)
  ·intro d i ws l;rw[eB,eB];exact .ite (.go (ih.word _ _ _) fun _ _=>ih.items _ _ _ _) (.ite (.refl _) (.go (ih.word _ _ _) fun _ _=>ih.items _ _ _ _))
  ·intro d i how l;rw[fI,fI];exact .ite (.go (ih.word _ _ _) fun _ _=>ih.words _ _ _ _) (.refl _)
  ·intro d i how;rw[dJ,dJ];exact .go (ih.wordR _ _ _ _) fun _ _=>.refl _
  ·intro d i how l;rw[fU,fU];exact .ite (.refl _) (.go (ih.one _ _) fun _ _=>.ite (ih.wordR _ _ _ _) (.ite (.refl _) (ih.wordR _ _ _ _)))
  ·intro d i;rw[gG,gG];exact .ite (.refl _) (.ite (.refl _) (.ite (.refl _) (.ite (.refl _) (.ite (.ite (.refl _) (.go (ih.words _ _ _ _) fun _ _=>.refl _)) (.ite (.go (ih.list _ _) fun _ _=>.refl _) (.refl _))))))
def gC (first:Bool) (l:List UInt8) (p:Nat) (ts:List aH):Prop:=∀ f,l.length<f→dZ f first l p = .ok ts
theorem gC.cons {first:Bool}{l:List UInt8}{p n:Nat}{t:aH}{us:List aH}{s:Nat}(hs:aU false l=s)(h:cY (l.drop s) (p+s) = .ok (t,n))(hk:t.kind≠0)(hn:1≤n)(hl:s+n≤l.length)
  (hr:gC false (l.drop (s+n)) (p+s+n) us):gC first l p ({ t with glue:=!first&&s==0 } :: us):=by
 intro f hf;obtain⟨f,rfl⟩:∃ g,f=g+1:=⟨f - 1,by omega⟩
 rw[dZ,hs,h];simp only[hk,if_false];rw[hr f (by rw[List.length_drop];omega)]
theorem gC.nil {first:Bool}{p:Nat}:gC first [] p [⟨0,p,0,[],!first⟩]:=fun f hf=>by
 obtain⟨f,rfl⟩:∃ g,f=g+1:=⟨f - 1,by simp only[List.length_nil] at hf;omega⟩
 rw[dZ];simp [aU,cY]
def rP:List Nat→List aH→List aH→Prop
 | [],ts,tail=>ts=tail
 | m :: ms,ts,tail=>∃ a b more,ts=a :: b :: more∧a.kind=(if m=0 then 11 else if m=1 then 12 else if m=2 then 13 else 14)∧b.kind=20∧b.text=[102]∧rP ms more tail
theorem gC.at {c:UInt8}{m:List UInt8}{first:Bool}{p n:Nat}{t:aH}{us:List aH}(hc:aU false (c :: m)=0)(h:cY (c :: m) p = .ok (t,n))(hk:t.kind≠0)(hn:1≤n)(hl:n≤m.length+1)
  (hr:gC false ((c :: m).drop n) (p+n) us):∃ g,gC first (c :: m) p ({ t with glue:=g } :: us):=by
 have h1:=gC.cons (first:=first) (l:=c :: m) (p:=p) (s:=0) hc (by simpa using h) hk hn (by simp only[List.length_cons];omega) (by simpa using hr)
 exact⟨_,h1⟩
theorem gC.blank {c:UInt8}{m:List UInt8}{first:Bool}{p n:Nat}{t:aH}{us:List aH}(hc:aU false (c :: m)=0)(h:cY (c :: m) (p+1) = .ok (t,n))(hk:t.kind≠0)(hn:1≤n)(hl:n≤m.length+1)
  (hr:gC false ((c :: m).drop n) (p+1+n) us):∃ g,gC first (32 :: c :: m) p ({ t with glue:=g } :: us):=by
 have h1:=gC.cons (first:=first) (l:=32 :: c :: m) (p:=p) (s:=1) (by rw[aU,if_pos (.inl (by decide)),hc]) (by simpa using h) hk hn (by simp only[List.length_cons];omega) (by rw[Nat.add_comm 1 n,List.drop_succ_cons];exact hr)
 exact⟨_,h1⟩
def wF (m:Nat):Nat:=if m=0 then 11 else if m=1 then 12 else if m=2 then 13 else 14
theorem GY (m:Nat):11≤wF m∧wF m≤14:=by unfold wF;(repeat' split) <;> omega
def Ez (l:List aH):Prop:=∃ b r,l=b :: r∧b.kind ∉ [15,16,18,19,20,21,22,23,6,10]
theorem rP.head:∀ {ms:List Nat}{ts tl:List aH},rP ms ts tl→Ez tl→Ez ts
 | [],_,_,h,ht=>by cases h;exact ht
 | m :: ms,_,_,⟨a,b,more,h1,h2,_⟩,_=>by
  refine ⟨a,b :: more,h1,?_⟩;have:=GY m
  rw[h2,← wF];simp only[List.mem_cons,List.not_mem_nil,or_false,not_or];omega
theorem rP.glue {P:List aH→Prop}(hP:∀ t r g,P (t :: r)→P ({ t with glue:=g } :: r)){ms:List Nat}{t:aH}{us tl:List aH}(g:Bool)(h:rP ms (t :: us) tl)(hp:P tl):∃ tl',rP ms ({ t with glue:=g } :: us) tl'∧P tl':=by
 cases ms with
 | nil =>
  cases h
  exact⟨_,rfl,hP _ _ _ hp⟩
 | cons m ms =>
  obtain⟨a,b,more,h1,h2,h3,h4,h5⟩:=h;obtain⟨rfl,rfl⟩:=List.cons.inj h1;exact⟨tl,⟨_,b,more,rfl,h2,h3,h4,h5⟩,hp⟩
def lF (t:aH):aH:=⟨t.kind,0,t.num,t.text,t.glue&&[18,19,20,21,22,23,6,10].contains t.kind⟩
def eW (ts:List aH) (i:Nat) (S:List aH):Prop:=S≠[]∧(ts.drop i).map lF=S
section
variable {ts:List aH} {i:Nat} {S:List aH}
theorem eW.lt (h:eW ts i S):i<ts.length:=by
 obtain⟨h1,h2⟩:=h
 by_cases hi:i<ts.length
 ·exact hi
 ·rw[List.drop_of_length_le (by omega)] at h2
  exact absurd h2.symm h1
theorem eW.len (h:eW ts i S):S.length=ts.length - i:=by
 rw[← h.2,List.length_map,List.length_drop]
theorem zU (hl:i<ts.length):ts[i]=aK ts i:=by
 unfold aK;rw[List.getD_eq_getElem?_getD,List.getElem?_eq_getElem hl];rfl
theorem eW.cons (h:eW ts i S):∃ S',S=lF (aK ts i) :: S'∧(ts.drop (i+1)).map lF=S':=by
 have hl:=h.lt;obtain⟨_,h2⟩:=h;rw[List.drop_eq_getElem_cons hl,List.map_cons,zU hl] at h2;exact⟨_,h2.symm,rfl⟩
theorem eW.tail {t:aH}(h:eW ts i (t :: S))(hS:S≠[]):t=lF (aK ts i)∧skP ts i=i+1∧eW ts (i+1) S:=by
 obtain⟨S',h1,h2⟩:=h.cons
 cases h1
 refine ⟨rfl,?_,hS,h2⟩;have h3:=(show eW ts (i+1) S from ⟨hS,h2⟩).lt
 unfold skP;omega
theorem eW.head {t:aH}(h:eW ts i (t :: S)):t=lF (aK ts i):=by
 obtain⟨S',h1,h2⟩:=h.cons
 cases h1
 rfl
end
def isB (S:List aH) (ks:List Nat):Bool:=match S with | t :: _=>ks.contains t.kind | []=>false
def dS (ks:List Nat) (S:List aH):List aH:=S.dropWhile fun t=>ks.contains t.kind
theorem eW.is {ts:List aH}{i:Nat}{S:List aH}(h:eW ts i S)(ks:List Nat):isK ts i ks=isB S ks:=by
 obtain⟨S',rfl,-⟩:=h.cons;rfl
theorem eW.passP (ks:List Nat){ts:List aH}:∀ (f:Nat){i:Nat}{S:List aH},eW ts i S→dS ks S≠[]→S.length≤f→eW ts (passP ts ks f i) (dS ks S)∧(passP ts ks f i=i ↔ dS ks S=S)
 | 0,i,S,h,_,hf=>absurd (List.length_eq_zero_iff.1 (by omega)) h.1
 | f+1,i,S,h,hp,hf=>by
  rw[Go.Proofs.YtbpjobmpacjgcaaGreatDoor.passP,h.is];obtain⟨S',rfl,-⟩:=h.cons;generalize ht:lF (aK ts i)=t at *
  by_cases hk:ks.contains t.kind=true
  ·have e:dS ks (t :: S')=dS ks S':=by unfold dS;rw[List.dropWhile_cons,if_pos hk]
   rw[e] at hp ⊢;have hS':S'≠[]:=by rintro rfl;exact hp rfl
   obtain⟨_,h2,h3⟩:=h.tail hS';rw[show isB (t :: S') ks=true from hk,if_pos rfl,h2]
   obtain⟨h4,h5⟩:=eW.passP ks f h3 hp (by simpa using hf)
   refine ⟨h4,?_⟩;have h6:=h4.len;have h7:=h4.lt;have h8:(dS ks S').length≤S'.length:=by unfold dS;exact List.Sublist.length_le (List.dropWhile_sublist _)
   have h9:=h3.len;have h10:=h3.lt;constructor
   ·intro e2;exfalso
    omega
   ·intro e2;exfalso
    rw[e2,List.length_cons] at h8;omega
  ·have e:dS ks (t :: S')=t :: S':=by unfold dS;rw[List.dropWhile_cons,if_neg hk]
   rw[e,show isB (t :: S') ks=false from by unfold isB;simpa using hk,if_neg (by simp)]
   exact⟨h,by simp⟩
theorem eW.pass {ts:List aH}{i:Nat}{S:List aH}(h:eW ts i S)(ks:List Nat)(hp:dS ks S≠[]):eW ts (iL ts ks i) (dS ks S)∧(iL ts ks i=i ↔ dS ks S=S) :=
 eW.passP ks ts.length h hp (by rw[h.len];omega)
theorem eW.key {ts:List aH}{i:Nat}{S:List aH}(h:eW ts i S)(hn:isB S [18]=false)(s:List UInt8):i6 ts i s=false:=by
 unfold i6;rw[h.is,hn];rfl
def aQ {α:Type} (X:Nat→List aH→Nat→aJ α) (S:List aH) (a:α) (S':List aH):Prop :=
 ∃ f0,∀ f,f0≤f→∀ ts i,eW ts i S→∃ j,X f ts i=some (.ok (a,j))∧eW ts j S'
abbrev o0 (d:Nat):=fun f ts i=>dI ts f d i
abbrev rA (d:Nat) (L:List aA):=fun f ts i=>eK ts f d i L
abbrev En (d:Nat):=fun f ts i=>fG ts f d i
abbrev tE (d:Nat):=fun f ts i=>eC ts f d i
abbrev oY (d:Nat) (L:List aA):=fun f ts i=>eR ts f d i L
abbrev pO (d:Nat):=fun f ts i=>eE ts f d i
abbrev vW (d:Nat) (c:aA) (L:List (Nat×aA)):=fun f ts i=>eQ ts f d i c L
abbrev tC (d:Nat) (ws:List aA) (L:List (Nat×aA)):=fun f ts i=>eB ts f d i ws L
abbrev wE (d:Nat):=fun f ts i=>dJ ts f d i 0
abbrev EL (d:Nat):=fun f ts i=>gG ts f d i
theorem nD {α β:Type}(a:α)(i:Nat)(k:α→Nat→aJ β):aJ.go (some (.ok (a,i)):aJ α) k=k a i:=rfl
section
variable {d:Nat} {S S1 S2 S3:List aH}
theorem aQ.list {l:aA}(hd:d+1≤30)(h:aQ (rA (d+1) []) S l S1):aQ (o0 d) S l S1:=by
 obtain⟨f1,h1⟩:=h;refine ⟨f1+1,fun f hf ts i hs=>?_⟩
 obtain⟨f,rfl⟩:∃ g,f=g+1:=⟨f - 1,by omega⟩
 obtain⟨j,q1,q2⟩:=h1 f (by omega) ts i hs
 refine ⟨j,?_,q2⟩;show dI ts (f+1) d i=_
 rw[dI,if_neg (by omega)]
 exact q1
theorem aQ.chainsEnd (L:List aA)(hp:dS [1,2] S≠[])(he:isB (dS [1,2] S) [0,7,9]=true):aQ (rA d L) S (eX L) (dS [1,2] S):=by
 refine ⟨1,fun f hf ts i hs=>?_⟩
 obtain⟨f,rfl⟩:∃ g,f=g+1:=⟨f - 1,by omega⟩
 obtain⟨q1,q2⟩:=hs.pass [1,2] hp;refine ⟨_,?_,q1⟩;show eK ts (f+1) d i L=_
 rw[eK];rw[if_pos (.inl (by rw[q1.is];exact he))]
 rfl
theorem aQ.chainsStep {L:List aA}{c l:aA}(hp:dS [1,2] S≠[])(he:isB (dS [1,2] S) [0,7,9,18]=false)(hne:L=[]∨dS [1,2] S≠S)(h1:aQ (En d) (dS [1,2] S) c S1)(h2:aQ (rA d (L++[c])) S1 l S2):aQ (rA d L) S l S2:=by
 obtain⟨f1,h1⟩:=h1;obtain⟨f2,h2⟩:=h2;refine ⟨f1+f2+1,fun f hf ts i hs=>?_⟩
 obtain⟨f,rfl⟩:∃ g,f=g+1:=⟨f - 1,by omega⟩
 obtain⟨q1,q2⟩:=hs.pass [1,2] hp;obtain⟨j,q3,q4⟩:=h1 f (by omega) ts _ q1
 obtain⟨k,q5,q6⟩:=h2 f (by omega) ts _ q4
 refine ⟨k,?_,q6⟩;show eK ts (f+1) d i L=_
 rw[eK]
 have e1:isK ts (iL ts [1,2] i) [0,7,9]=false∧isB (dS [1,2] S) [18]=false:=by
  rw[q1.is]
  cases hq:dS [1,2] S with
  | nil=>exact absurd hq hp
  | cons t r =>
   rw[hq] at he;unfold isB at he ⊢;dsimp only at he ⊢;simp only[List.contains_eq_any_beq,List.any_cons,List.any_nil,Bool.or_false,Bool.or_eq_false_iff,beq_eq_false_iff_ne] at he ⊢;omega
 rw[if_neg]
 ·rw[show fG ts f d (iL ts [1,2] i)=_ from q3,nD]
  exact q5
 ·rintro (h | h | ⟨h,h9⟩)
  ·rw[e1.1] at h;cases h
  ·rw[q1.key e1.2] at h;cases h
  ·rcases hne with rfl | hne
   ·simp at h
   ·exact hne (q2.1 h9)
theorem aQ.chain {o:aA}(h1:aQ (tE d) S o S1)(h:isB S1 [3,4]=false):aQ (En d) S o S1:=by
 obtain⟨f1,h1⟩:=h1;refine ⟨f1+2,fun f hf ts i hs=>?_⟩
 obtain⟨f,rfl⟩:∃ g,f=g+2:=⟨f - 2,by omega⟩
 obtain⟨j,q3,q4⟩:=h1 (f+1) (by omega) ts _ hs
 refine ⟨j,?_,q4⟩;show fG ts (f+2) d i=_
 rw[fG,show eC ts (f+1) d i=_ from q3,nD,gR,q4.is,h,if_neg (by simp)]
 rfl
theorem aQ.pipe {l:List aA}(h:isB S [17]=false)(h1:aQ (oY d []) S l S1):aQ (tE d) S (if 1<l.length then aC 32 0 [] l else l.headD []) S1:=by
 obtain⟨f1,h1⟩:=h1;refine ⟨f1+1,fun f hf ts i hs=>?_⟩
 obtain⟨f,rfl⟩:∃ g,f=g+1:=⟨f - 1,by omega⟩
 obtain⟨j,q3,q4⟩:=h1 f (by omega) ts _ hs
 refine ⟨j,?_,q4⟩;show eC ts (f+1) d i=_
 rw[eC,hs.is,h,if_neg (by simp),show eR ts f d i []=_ from q3,nD,if_neg (by simp)]
 rfl
theorem aQ.pipeNot {t:aH}{l:List aA}(h:isB (t :: S) [17]=true)(hS:S≠[])(h1:aQ (oY d []) S l S1):aQ (tE d) (t :: S) (aC 27 0 [] [if 1<l.length then aC 32 0 [] l else l.headD []]) S1:=by
 obtain⟨f1,h1⟩:=h1;refine ⟨f1+1,fun f hf ts i hs=>?_⟩
 obtain⟨f,rfl⟩:∃ g,f=g+1:=⟨f - 1,by omega⟩
 obtain⟨-,q1,q2⟩:=hs.tail hS;obtain⟨j,q3,q4⟩:=h1 f (by omega) ts _ q2
 refine ⟨j,?_,q4⟩;show eC ts (f+1) d i=_
 rw[eC,hs.is,h,if_pos rfl,q1,show eR ts f d (i+1) []=_ from q3,nD,if_pos rfl]
 rfl
theorem aQ.pipeREnd {L:List aA}{c:aA}(h1:aQ (pO d) S c S1)(h:isB S1 [5]=false):aQ (oY d L) S (L++[c]) S1:=by
 obtain⟨f1,h1⟩:=h1;refine ⟨f1+1,fun f hf ts i hs=>?_⟩
 obtain⟨f,rfl⟩:∃ g,f=g+1:=⟨f - 1,by omega⟩
 obtain⟨j,q3,q4⟩:=h1 f (by omega) ts _ hs
 refine ⟨j,?_,q4⟩;show eR ts (f+1) d i L=_
 rw[eR,show eE ts f d i=_ from q3,nD,q4.is,h,if_neg (by simp)]
 rfl
theorem aQ.pipeRStep {t:aH}{L l:List aA}{c:aA}(h1:aQ (pO d) S c (t :: S1))(h:isB (t :: S1) [5]=true)(hS:S1≠[])(hp:dS [1] S1≠[])(h2:aQ (oY d (L++[c])) (dS [1] S1) l S2):aQ (oY d L) S l S2:=by
 obtain⟨f1,h1⟩:=h1;obtain⟨f2,h2⟩:=h2;refine ⟨f1+f2+1,fun f hf ts i hs=>?_⟩
 obtain⟨f,rfl⟩:∃ g,f=g+1:=⟨f - 1,by omega⟩
 obtain⟨j,q3,q4⟩:=h1 f (by omega) ts _ hs
 obtain⟨-,q5,q6⟩:=q4.tail hS;obtain⟨q7,-⟩:=q6.pass [1] hp;obtain⟨k,q8,q9⟩:=h2 f (by omega) ts _ q7
 refine ⟨k,?_,q9⟩;show eR ts (f+1) d i L=_
 rw[eR,show eE ts f d i=_ from q3,nD,q4.is,h,if_pos rfl,q5]
 exact q8
theorem aQ.commandBlock {t t2:aH}{l c:aA}(h:isB (t :: S) [8]=true)(hS:S≠[])(h1:aQ (o0 d) S l (t2 :: S1))(h2:isB (t2 :: S1) [9]=true)(hS1:S1≠[])(h3:aQ (vW d l []) S1 c S2):aQ (pO d) (t :: S) c S2:=by
 obtain⟨f1,h1⟩:=h1;obtain⟨f2,h3⟩:=h3;refine ⟨f1+f2+2,fun f hf ts i hs=>?_⟩
 obtain⟨f,rfl⟩:∃ g,f=g+2:=⟨f - 2,by omega⟩
 obtain⟨-,q1,q2⟩:=hs.tail hS;obtain⟨j,q3,q4⟩:=h1 f (by omega) ts _ q2
 obtain⟨-,q5,q6⟩:=q4.tail hS1;obtain⟨k,q7,q8⟩:=h3 (f+1) (by omega) ts _ q6
 refine ⟨k,?_,q8⟩
 have hb:fT ts (f+1) d i=pOk l (j+1):=by
  rw[fT];unfold fL;rw[hs.is,h,if_pos rfl,q1];dsimp only;rw[show dI ts f d (i+1)=_ from q3,nD,q4.is,h2,if_pos rfl,q5]
 show eE ts (f+2) d i=_
 rw[eE,hs.is,h,if_pos rfl,hb];exact q7
theorem aQ.commandSimple {ws:List aA}{L:List (Nat×aA)}(h:isB S [8,18]=false)(h0:0<ws.length+L.length)(h1:aQ (tC d [] []) S (ws,L) S1):aQ (pO d) S (fF L (dT [] ws)) S1:=by
 obtain⟨f1,h1⟩:=h1;refine ⟨f1+3,fun f hf ts i hs=>?_⟩
 obtain⟨f,rfl⟩:∃ g,f=g+3:=⟨f - 3,by omega⟩
 obtain⟨j,q3,q4⟩:=h1 (f+1) (by omega) ts _ hs
 refine ⟨j,?_,q4⟩
 have e1:isK ts i [8]=false∧isK ts i [18]=false:=by
  rw[hs.is,hs.is];obtain⟨S',rfl,-⟩:=hs.cons;unfold isB at h ⊢;dsimp only at h ⊢;simp only[List.contains_eq_any_beq,List.any_cons,List.any_nil,Bool.or_false,Bool.or_eq_false_iff,beq_eq_false_iff_ne] at h ⊢;exact h
 have hsets:gL ts (f+1) d i []=pOk [] i:=by
  rw[gL,e1.2,if_neg (by simp)]
 have hs2:gS ts (f+2) d i=pOk (fF L (dT [] ws)) j:=by
  rw[gS,hsets];simp only[pOk,aJ.go];rw[show eB ts (f+1) d i [] []=_ from q3]
  dsimp only;rw[if_neg (by simp only[List.length_nil];omega)]
 show eE ts (f+3) d i=_
 rw[eE,e1.1,if_neg (by simp),if_pos (.inl e1.2)]
 exact hs2
theorem aQ.turnsEnd (c:aA)(L:List (Nat×aA))(h:isB S [11,12,13,14]=false):aQ (vW d c L) S (fF L c) S:=by
 refine ⟨1,fun f hf ts i hs=>⟨i,?_,hs⟩⟩
 obtain⟨f,rfl⟩:∃ g,f=g+1:=⟨f - 1,by omega⟩
 show eQ ts (f+1) d i c L=_
 rw[eQ,show iP ts i=false from by unfold iP;rw[hs.is];exact h,if_neg (by simp)]
 rfl
theorem aQ.turnsStep {t:aH}{c v l:aA}{L:List (Nat×aA)}(h:isB (t :: S) [11,12,13,14]=true)(hS:S≠[])(hw:aQ (wE d) S v S1)(h1:aQ (vW d c (L++[(t.kind,v)])) S1 l S2):aQ (vW d c L) (t :: S) l S2:=by
 obtain⟨f1,h1⟩:=h1;obtain⟨f2,hw⟩:=hw;refine ⟨f1+f2+1,fun f hf ts i hs=>?_⟩
 obtain⟨f,rfl⟩:∃ g,f=g+1:=⟨f - 1,by omega⟩
 obtain⟨q0,q1,q2⟩:=hs.tail hS;obtain⟨j,q3,q4⟩:=hw f (by omega) ts _ q2
 obtain⟨k,q5,q6⟩:=h1 f (by omega) ts _ q4
 refine ⟨k,?_,q6⟩;show eQ ts (f+1) d i c L=_
 rw[eQ,show iP ts i=true from by unfold iP;rw[hs.is];exact h,if_pos rfl,q1,show dJ ts f d (i+1) 0=_ from q3,nD]
 rw[q0] at q5;exact q5
theorem aQ.itemsEnd (ws:List aA)(L:List (Nat×aA))(h:isB S [11,12,13,14]=false)(h2:isB S [18,19,20,21,22,23,6,10]=false):aQ (tC d ws L) S (ws,L) S:=by
 refine ⟨1,fun f hf ts i hs=>⟨i,?_,hs⟩⟩
 obtain⟨f,rfl⟩:∃ g,f=g+1:=⟨f - 1,by omega⟩
 show eB ts (f+1) d i ws L=_
 rw[eB,show iP ts i=false from by unfold iP;rw[hs.is];exact h,if_neg (by simp),if_pos (.inl (by unfold eV;rw[hs.is];exact h2))]
 rfl
theorem aQ.itemsWord {v:aA}{l:List aA×List (Nat×aA)}{ws:List aA}{L:List (Nat×aA)}(h:isB S [11,12,13,14,18]=false)(h2:isB S [18,19,20,21,22,23,6,10]=true)(hw:aQ (wE d) S v S1)(h1:aQ (tC d (ws++[v]) L) S1 l S2):aQ (tC d ws L) S l S2:=by
 obtain⟨f1,h1⟩:=h1;obtain⟨f2,hw⟩:=hw;refine ⟨f1+f2+1,fun f hf ts i hs=>?_⟩
 obtain⟨f,rfl⟩:∃ g,f=g+1:=⟨f - 1,by omega⟩
 obtain⟨j,q3,q4⟩:=hw f (by omega) ts _ hs
 obtain⟨k,q5,q6⟩:=h1 f (by omega) ts _ q4
 refine ⟨k,?_,q6⟩
 have e1:isB S [11,12,13,14]=false∧isB S [18]=false:=by
  obtain⟨S',rfl,-⟩:=hs.cons;unfold isB at h ⊢;dsimp only at h ⊢;simp only[List.contains_eq_any_beq,List.any_cons,List.any_nil,Bool.or_false,Bool.or_eq_false_iff,beq_eq_false_iff_ne] at h ⊢;omega
 show eB ts (f+1) d i ws L=_
 rw[eB,show iP ts i=false from by unfold iP;rw[hs.is];exact e1.1,if_neg (by simp),if_neg (by
  rintro (h9 | h9)
  ·unfold eV at h9;rw[hs.is,h2] at h9;cases h9
  ·rw[hs.key e1.2] at h9;cases h9),show dJ ts f d i 0=_ from q3,nD]
 exact q5
theorem aQ.word {t:aH}{v:aA}(h:isB (t :: S) [19,20,21,22,23,6,10]=true)(hO:aQ (EL d) (t :: S) v S1)(h1:isB S1 [15]=false)(h2:∀ u S',S1=u :: S'→isB S1 [18,19,20,21,22,23,6,10]=true→u.glue=false)(hj:i8 [v]=v)(hl:cW v=false):aQ (wE d) (t :: S) v S1:=by
 obtain⟨f1,hO⟩:=hO;refine ⟨f1+2,fun f hf ts i hs=>?_⟩
 obtain⟨f,rfl⟩:∃ g,f=g+2:=⟨f - 2,by omega⟩
 obtain⟨j,q3,q4⟩:=hO f (by omega) ts _ hs
 refine ⟨j,?_,q4⟩;have hh:=hs.head;have hk:(aK ts i).kind=t.kind:=by rw[hh];rfl
 have hi:eV ts i=true:=by
  unfold eV;rw[hs.is];unfold isB at h ⊢;dsimp only at h ⊢;simp only[List.contains_eq_any_beq,List.any_cons,List.any_nil,Bool.or_false,Bool.or_eq_true,beq_iff_eq] at h ⊢;omega
 have h18:(aK ts i).kind≠18:=by
  rw[hk];unfold isB at h;dsimp only at h;simp only[List.contains_eq_any_beq,List.any_cons,List.any_nil,Bool.or_false,Bool.or_eq_true,beq_iff_eq] at h;omega
 have hg:eV ts j=false∨(aK ts j).glue=false:=by
  obtain⟨S',e1,-⟩:=q4.cons
  by_cases hx:eV ts j=true
  ·refine .inr ?_;unfold eV at hx;have h3:=h2 _ _ e1 (by rw[← q4.is];exact hx)
   unfold lF at h3;dsimp only at h3;rw[show [18,19,20,21,22,23,6,10].contains (aK ts j).kind=true from hx,Bool.and_true] at h3
   exact h3
  ·exact .inl (by simpa using hx)
 have hR:fU ts (f+1) d i 0 []=pOk [v] j:=by
  rw[fU,hi,if_neg (by simp),show gG ts f d i=_ from q3,nD]
  dsimp only;rw[q4.is,h1,if_neg (by simp),if_pos hg,if_neg (by omega)]
  rfl
 have hwo:lO (aK ts i) 0 [v]=v:=by
  unfold lO;rw[if_neg (fun h=>h18 h.2.2.1)]
  exact hj
 show dJ ts (f+2) d i 0=_
 rw[dJ,hR];simp only[pOk,aJ.go];rw[hwo,hl,if_neg (by simp)]
theorem aQ.dead {t:aH}(h:t.kind=19)(hS:S≠[]):aQ (EL d) (t :: S) (aR t.text) S:=by
 refine ⟨1,fun f hf ts i hs=>?_⟩
 obtain⟨f,rfl⟩:∃ g,f=g+1:=⟨f - 1,by omega⟩
 obtain⟨q0,q1,q2⟩:=hs.tail hS;refine ⟨i+1,?_,q2⟩;have hk:(aK ts i).kind=19:=by rw[← h,q0];rfl
 show gG ts (f+1) d i=_
 rw[gG];rw[hk,if_pos (.inr rfl),q1,q0];rfl
end
def LxB (first:Bool) (S:List UInt8) (T:List aH):Prop:=∀ p,∃ us,gC first S p us∧us.map lF=T
theorem LxB.nil (first:Bool):LxB first [] [⟨0,0,0,[],false⟩]:=fun p=>⟨_,gC.nil,by simp [lF]⟩
theorem CH {S:List UInt8}{T:List aH}{l:aA}(hx:LxB true S T)(hp:aQ (o0 0) T l [⟨0,0,0,[],false⟩])(hS:S.length≤8192)(hc:dB l=none):nX S = .ok l:=by
 obtain⟨us,h1,h2⟩:=hx 0;have h1:dZ (S.length+1) true S 0 = .ok us:=h1 _ (by omega)
 obtain⟨f0,hp⟩:=hp;have g:=(Es S hS us h1).good;have hn:=(Ag g (12 * us.length+11)).list 0 0 g.pos (by omega)
 have hT:eW us 0 T:=⟨by rintro rfl;have:=g.pos;rw[List.map_eq_nil_iff] at h2;rw[h2] at this;simp at this,h2⟩
 obtain⟨j,q1,q2⟩:=hp (f0+(12 * us.length+11)) (by omega) us 0 hT
 have hm:=LeP.le (fn:=fun f=>dI us f 0 0) (fun f=>(Ew us f).list 0 0) (show 12 * us.length+11≤f0+(12 * us.length+11) by omega)
 unfold nX;rw[h1];dsimp only
 cases hx:dI us (12 * us.length+11) 0 0 with
 | none=>exact absurd hx hn
 | some r =>
  have h3:dI us (f0+(12 * us.length+11)) 0 0=some r:=hm r hx;rw[show dI us (f0+(12 * us.length+11)) 0 0=_ from q1] at h3
  cases h3
  dsimp only;rw[q2.is,if_neg (by decide),hc]
theorem BB:∀ (s:List UInt8)(rest:List UInt8),(∀ c m,rest=c :: m→c.toNat≠39)→dU (d8 s++39 :: rest)=some (s,(d8 s).length+1)
 | [],rest,h=>by
  cases rest with
  | nil=>rfl
  | cons c m =>
   show dU (39 :: c :: m)=_
   simp only[dU];rw[if_pos (by decide),if_neg (h c m rfl)]
   rfl
 | a :: s,rest,h=>by
  have ih:=BB s rest h
  obtain⟨x,y,hxy⟩:∃ x y,d8 s++39 :: rest=x :: y:=by
   cases d8 s with
   | nil=>exact⟨_,_,rfl⟩
   | cons x y=>exact⟨_,_,rfl⟩
  by_cases ha:a.toNat=39
  ·rw[d8,if_pos ha];show dU (39 :: 39 :: (d8 s++39 :: rest))=_
   simp only[dU];rw[if_pos (by decide),if_pos (by decide),ih]
   obtain rfl:a=39:=UInt8.toNat_inj.1 ha;simp
  ·rw[d8,if_neg ha];show dU (a :: (d8 s++39 :: rest))=_
   rw[hxy];simp only[dU];rw[if_neg ha,← hxy,ih];simp
theorem gC.blankG {c:UInt8}{m:List UInt8}{first:Bool}{p n:Nat}{t:aH}{us:List aH}(hc:aU false (c :: m)=0)(h:cY (c :: m) (p+1) = .ok (t,n))(hk:t.kind≠0)(hn:1≤n)(hl:n≤m.length+1)
  (hr:gC false ((c :: m).drop n) (p+1+n) us):gC first (32 :: c :: m) p ({ t with glue:=false } :: us):=by
 have h1:=gC.cons (first:=first) (l:=32 :: c :: m) (p:=p) (s:=1) (by rw[aU,if_pos (.inl (by decide)),hc]) (by simpa using h) hk hn (by simp only[List.length_cons];omega) (by rw[Nat.add_comm 1 n,List.drop_succ_cons];exact hr)
 simpa using h1
def cE (s:List UInt8):List UInt8:=39 :: (d8 s++[39])
theorem De (s rest:List UInt8)(p:Nat)(h:∀ c m,rest=c :: m→c.toNat≠39):cY (39 :: (d8 s++39 :: rest)) p = .ok (⟨19,p,0,s,false⟩,(d8 s).length+2):=by
 rw[FV,BB s rest h]
theorem Cp (s rest:List UInt8):(39 :: (d8 s++39 :: rest)).drop ((d8 s).length+2)=rest:=by
 rw[List.drop_succ_cons,← List.drop_drop,List.drop_left];rfl
def oV (l:List (List UInt8)):List UInt8:=(l.map fun s=>32 :: cE s).flatten
end Go.Proofs.YtbpjobmpacjgcaaGreatDoor
