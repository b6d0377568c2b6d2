/- A source of dialect A's tokens is read as these tokens. No program stands in it. -/
import Derived.Test.YtbpjobmpacjgcaaGreatDoorGPureAG
import Derived.Test.YtbpjobmpacjgcaaGreatDoorGZJ
namespace Go.Proofs.YtbpjobmpacjgcaaGreatDoor
open Go Go.RowKit
theorem JK (c:UInt8)(h:jK c=false):∀ n∈([32,9,10,59,38,124,40,41,60,62]:List Nat),c.toNat≠n:=by
 intro n hn e;unfold jK at h;rw[e] at h;have:([32,9,10,59,38,124,40,41,60,62]:List Nat).contains n=true:=by simpa using hn
 rw[this] at h
 cases h
theorem GG (c:UInt8)(m:List UInt8)(h:jK c=false)(h35:c.toNat≠35):aU false (c :: m)=0∧bB (c :: m) bH 0 [] 0=([],0)∧c.toNat≠38:=by
 have hl:=JK c h;refine ⟨?_,?_,hl 38 (by decide)⟩
 ·rw[aU,if_neg (by have:=hl 32 (by decide);have:=hl 9 (by decide);omega),if_neg h35]
 ·rcases xN (c :: m) bH 0 [] 0 with e | ⟨j,h1,h2,h3,h4⟩
  ·exact e
  ·exfalso
   have hall:∀ o∈bH,o=[]∨jK (o.headD 0)=true:=by decide
   rcases hall _ (List.mem_of_getElem? h1) with e | e
   ·rw[e] at h4;simp at h4
   ·cases ho:(bB (c :: m) bH 0 [] 0).1 with
    | nil=>rw[ho] at h4;simp at h4
    | cons d o =>
     rw[ho] at h3 e;simp only[Lib.hasPrefix,List.isPrefixOf,Bool.and_eq_true,beq_iff_eq] at h3;rw[List.headD_cons,h3.1,h] at e
     cases e
theorem KQ (k:Nat)(h1:1≤k)(h2:k≤12)(tail:List UInt8)(ht:Ej tail):aU false (bH.getD k []++tail)=0∧bB (bH.getD k []++tail) bH 0 [] 0=(bH.getD k [],k)∧bH.getD k []≠[]:=by
 have hk:k=1∨k=2∨k=3∨k=4∨k=5∨k=6∨k=7∨k=8∨k=9∨k=10∨k=11∨k=12:=by omega
 rcases ht with rfl | ⟨m,rfl⟩
 ·rcases hk with rfl | rfl | rfl | rfl | rfl | rfl | rfl | rfl | rfl | rfl | rfl | rfl <;> exact⟨by decide,by decide,by decide⟩
 ·rcases hk with rfl | rfl | rfl | rfl | rfl | rfl | rfl | rfl | rfl | rfl | rfl | rfl <;> exact⟨by simp [bH,aU],by simp [bB,bH,Lib.hasPrefix,List.isPrefixOf],by decide⟩
def p5 (p:aD):aD:={ p with place:=0 }
def gV (t:aG):aG:=⟨t.kind,0,t.parts.map p5⟩
theorem IJ (t:aG):(gV t).kind=t.kind:=rfl
theorem uH (t:aG):dC (gV t)=dC t:=by
 unfold dC gV;dsimp only
 by_cases h:t.kind=13
 ·rw[if_pos h,if_pos h]
  cases t.parts with
  | nil=>rfl
  | cons p ps=>cases ps <;> rfl
 ·rw[if_neg h,if_neg h]
def Suf (ts:List aG) (i:Nat) (S:List aG):Prop:=S≠[]∧(ts.drop i).map gV=S
section
variable {ts:List aG} {i:Nat} {S:List aG}
theorem Suf.lt (h:Suf ts i S):i<ts.length:=by
 obtain⟨h1,h2⟩:=h
 by_cases hi:i<ts.length
 ·exact hi
 ·rw[List.drop_of_length_le (by omega)] at h2
  exact absurd h2.symm h1
theorem Suf.len (h:Suf ts i S):S.length=ts.length - i:=by
 rw[← h.2,List.length_map,List.length_drop]
theorem Suf.cons (h:Suf ts i S):∃ S',S=gV (aM ts i) :: S'∧(ts.drop (i+1)).map gV=S':=by
 have hl:=h.lt;obtain⟨_,h2⟩:=h;rw[List.drop_eq_getElem_cons hl,List.map_cons,← rF hl] at h2;exact⟨_,h2.symm,rfl⟩
theorem Suf.tail {t:aG}(h:Suf ts i (t :: S))(hS:S≠[]):t=gV (aM ts i)∧aSk ts i=i+1∧Suf ts (i+1) S:=by
 obtain⟨S',h1,h2⟩:=h.cons
 cases h1
 refine ⟨rfl,?_,hS,h2⟩;have h3:=(show Suf ts (i+1) S from ⟨hS,h2⟩).lt
 unfold aSk;omega
theorem Suf.head {t:aG}(h:Suf ts i (t :: S)):t=gV (aM ts i):=by
 obtain⟨S',h1,h2⟩:=h.cons
 cases h1
 rfl
end
def isS (S:List aG) (ks:List Nat):Bool:=match S with | t :: _=>ks.contains t.kind | []=>false
def k7 (S:List aG) (l:List (List UInt8)):Bool:=match S with | t :: _=>(match dC t with | some s=>l.contains s | none=>false) | []=>false
def cM (ks:List Nat) (S:List aG):List aG:=S.dropWhile fun t=>ks.contains t.kind
theorem Suf.is {ts:List aG}{i:Nat}{S:List aG}(h:Suf ts i S)(ks:List Nat):aIs ts i ks=isS S ks:=by
 obtain⟨S',rfl,-⟩:=h.cons;rfl
theorem Suf.key {ts:List aG}{i:Nat}{S:List aG}(h:Suf ts i S)(l:List (List UInt8)):eN ts i l=k7 S l:=by
 obtain⟨S',rfl,-⟩:=h.cons;unfold eN k7;dsimp only;rw[uH]
 cases dC (aM ts i) <;> rfl
theorem Suf.passP (ks:List Nat){ts:List aG}:∀ (f:Nat){i:Nat}{S:List aG},Suf ts i S→cM ks S≠[]→S.length≤f→Suf ts (lQ ts ks f i) (cM ks S)∧(lQ ts ks f i=i ↔ cM ks S=S)
 | 0,i,S,h,_,hf=>absurd (List.length_eq_zero_iff.1 (by omega)) h.1
 | f+1,i,S,h,hp,hf=>by
  rw[lQ,h.is];obtain⟨S',rfl,-⟩:=h.cons;generalize ht:gV (aM ts i)=t at *
  by_cases hk:ks.contains t.kind=true
  ·have e:cM ks (t :: S')=cM ks S':=by unfold cM;rw[List.dropWhile_cons,if_pos hk]
   rw[e] at hp ⊢;have hS':S'≠[]:=by rintro rfl;exact hp rfl
   obtain⟨_,h2,h3⟩:=h.tail hS';rw[show isS (t :: S') ks=true from hk,if_pos rfl,h2]
   obtain⟨h4,h5⟩:=Suf.passP ks f h3 hp (by simpa using hf)
   refine ⟨h4,?_⟩;have h6:=h4.len;have h7:=h4.lt;have h8:(cM ks S').length≤S'.length:=by unfold cM;exact List.Sublist.length_le (List.dropWhile_sublist _)
   have h9:=h3.len;have h10:=h3.lt;constructor
   ·intro e2;exfalso
    omega
   ·intro e2;exfalso
    rw[e2,List.length_cons] at h8;omega
  ·have e:cM ks (t :: S')=t :: S':=by unfold cM;rw[List.dropWhile_cons,if_neg hk]
   rw[e,show isS (t :: S') ks=false from by unfold isS;simpa using hk,if_neg (by simp)]
   exact⟨h,by simp⟩
theorem Suf.pass {ts:List aG}{i:Nat}{S:List aG}(h:Suf ts i S)(ks:List Nat)(hp:cM ks S≠[]):Suf ts (fK ts ks i) (cM ks S)∧(fK ts ks i=i ↔ cM ks S=S) :=
 Suf.passP ks ts.length h hp (by rw[h.len];omega)
def oA (S:List aG):Bool:=isS S [0,8,3] || k7 S [[116,104,101,110],[101,108,115,101],[102,105],[100,111],[100,111,110,101],[101,115,97,99],[125]]
theorem Suf.ends {ts:List aG}{i:Nat}{S:List aG}(h:Suf ts i S):qA ts i=oA S:=by
 unfold qA oA;rw[h.is,h.key]
def nT (S:List aG):Bool:=isS S [9,10,11,12]
theorem Suf.turning {ts:List aG}{i:Nat}{S:List aG}(h:Suf ts i S):lM ts i=nT S:=h.is _
def Par {α:Type} (X:Nat→List aG→Nat→Nat→aJ α) (S:List aG) (a:α) (S':List aG):Prop :=
 ∃ f0,∀ f,f0≤f→∀ ts b i,Suf ts i S→∃ j,X f ts b i=some (.ok (a,j))∧Suf ts j S'
def tL (aq:Nat→Nat→aG→aL aA) (t:aG) (v:aA):Prop:=∃ f0,∀ f,f0≤f→∀ b tok,gV tok=t→aq f b tok=some (.ok v)
abbrev oD (d:Nat):=fun f ts b i=>cG f ts b d i
abbrev vR (d:Nat) (L:List aA):=fun f ts b i=>fQ f ts b d i L
abbrev z7 (d:Nat):=fun f ts b i=>fJ f ts b d i
abbrev DH (d:Nat) (o:aA):=fun f ts b i=>gJ f ts b d i o
abbrev wC (d:Nat):=fun f ts b i=>eD f ts b d i
abbrev oZ (d:Nat) (L:List aA):=fun f ts b i=>eS f ts b d i L
abbrev nR (d:Nat):=fun f ts b i=>eI f ts b d i
abbrev Ah (d:Nat) (s t:List UInt8):=fun f ts b i=>fM f ts b d i s t
abbrev Mq (d:Nat):=fun f ts b i=>iQ f ts b d i
abbrev vV (d:Nat) (c:aA) (L:List (Nat×aA)):=fun f ts b i=>cI f ts b d i c L
abbrev qZ (d:Nat) (ss:List (List UInt8×aA)) (ws:List aA) (L:List (Nat×aA)):=fun f ts b i=>cD f ts b d i ss ws L
abbrev Ee (d:Nat):=fun f b t=>cZ (fun x=>bD f b d x) b t
abbrev Eg (d:Nat):=fun f b t=>fS (fun x=>bD f b d x) b t
theorem go_ok {α β:Type}(a:α)(i:Nat)(k:α→Nat→aJ β):aJ.go (some (.ok (a,i)):aJ α) k=k a i:=rfl
section
variable {d:Nat} {S S1 S2 S3:List aG}
theorem Par.list {l:aA}(hd:d+1≤30)(h:Par (vR (d+1) []) S l S1):Par (oD d) S l S1:=by
 obtain⟨f0,h⟩:=h;refine ⟨f0+1,fun f hf ts b i hs=>?_⟩
 obtain⟨f,rfl⟩:∃ g,f=g+1:=⟨f - 1,by omega⟩
 obtain⟨j,h1,h2⟩:=h f (by omega) ts b i hs
 exact⟨j,by show cG (f+1) ts b d i=_;rw[cG,if_neg (by omega)];exact h1,h2⟩
theorem Par.chainsEnd (L:List aA)(hp:cM [1,2] S≠[])(he:oA (cM [1,2] S)=true∨(0<L.length∧cM [1,2] S=S)):Par (vR d L) S (eX L) (cM [1,2] S):=by
 refine ⟨1,fun f hf ts b i hs=>?_⟩
 obtain⟨f,rfl⟩:∃ g,f=g+1:=⟨f - 1,by omega⟩
 obtain⟨h1,h2⟩:=hs.pass [1,2] hp;refine ⟨_,?_,h1⟩;show fQ (f+1) ts b d i L=_
 rw[fQ,if_pos]
 ·rfl
 ·rw[h1.ends,h2];exact he
theorem Par.chainsStep {L:List aA}{c l:aA}(hp:cM [1,2] S≠[])(he:oA (cM [1,2] S)=false)(hne:L=[]∨cM [1,2] S≠S)(h1:Par (z7 d) (cM [1,2] S) c S1)(h2:Par (vR d (L++[c])) S1 l S2):Par (vR d L) S l S2:=by
 obtain⟨f1,h1⟩:=h1;obtain⟨f2,h2⟩:=h2;refine ⟨f1+f2+1,fun f hf ts b i hs=>?_⟩
 obtain⟨f,rfl⟩:∃ g,f=g+1:=⟨f - 1,by omega⟩
 obtain⟨q1,q2⟩:=hs.pass [1,2] hp;obtain⟨j,q3,q4⟩:=h1 f (by omega) ts b _ q1
 obtain⟨k,q5,q6⟩:=h2 f (by omega) ts b _ q4
 refine ⟨k,?_,q6⟩;show fQ (f+1) ts b d i L=_
 rw[fQ,if_neg]
 ·rw[show fJ f ts b d (fK ts [1,2] i)=_ from q3]
  exact q5
 ·rw[q1.ends,he,q2];rintro (h | ⟨h,h'⟩)
  ·cases h
  ·rcases hne with rfl | hne
   ·simp at h
   ·exact hne h'
theorem Par.chain {o l:aA}(h1:Par (wC d) S o S1)(h2:Par (DH d o) S1 l S2):Par (z7 d) S l S2:=by
 obtain⟨f1,h1⟩:=h1;obtain⟨f2,h2⟩:=h2;refine ⟨f1+f2+1,fun f hf ts b i hs=>?_⟩
 obtain⟨f,rfl⟩:∃ g,f=g+1:=⟨f - 1,by omega⟩
 obtain⟨j,q3,q4⟩:=h1 f (by omega) ts b _ hs
 obtain⟨k,q5,q6⟩:=h2 f (by omega) ts b _ q4
 refine ⟨k,?_,q6⟩;show fJ (f+1) ts b d i=_
 rw[fJ,show eD f ts b d i=_ from q3]
 exact q5
theorem Par.chainREnd (o:aA)(h:isS S [4,5]=false):Par (DH d o) S o S:=by
 refine ⟨1,fun f hf ts b i hs=>?_⟩
 obtain⟨f,rfl⟩:∃ g,f=g+1:=⟨f - 1,by omega⟩
 refine ⟨i,?_,hs⟩;show gJ (f+1) ts b d i o=_
 rw[gJ,hs.is,h,if_neg (by simp)]
 rfl
def Eh (l:List aA):aA:=if 1<l.length then aC 32 0 [] l else l.headD []
theorem Par.pipe {l:List aA}(h:k7 S [[33]]=false)(h1:Par (oZ d []) S l S1):Par (wC d) S (Eh l) S1:=by
 obtain⟨f1,h1⟩:=h1;refine ⟨f1+1,fun f hf ts b i hs=>?_⟩
 obtain⟨f,rfl⟩:∃ g,f=g+1:=⟨f - 1,by omega⟩
 obtain⟨j,q3,q4⟩:=h1 f (by omega) ts b _ hs
 refine ⟨j,?_,q4⟩;show eD (f+1) ts b d i=_
 rw[eD,hs.key,h,if_neg (by simp),show eS f ts b d i []=_ from q3,go_ok,if_neg (by simp)]
 rfl
theorem Par.pipeNot {t:aG}{l:List aA}(h:k7 (t :: S) [[33]]=true)(hS:S≠[])(h1:Par (oZ d []) S l S1):Par (wC d) (t :: S) (aC 27 0 [] [Eh l]) S1:=by
 obtain⟨f1,h1⟩:=h1;refine ⟨f1+1,fun f hf ts b i hs=>?_⟩
 obtain⟨f,rfl⟩:∃ g,f=g+1:=⟨f - 1,by omega⟩
 obtain⟨q1,q2,q5⟩:=hs.tail hS;obtain⟨j,q3,q4⟩:=h1 f (by omega) ts b _ q5
 refine ⟨j,?_,q4⟩;show eD (f+1) ts b d i=_
 rw[eD,hs.key,h,if_pos rfl,q2,show eS f ts b d (i+1) []=_ from q3,go_ok,if_pos rfl]
 rfl
theorem Par.pipeREnd {L:List aA}{c:aA}(h1:Par (nR d) S c S1)(h:isS S1 [6]=false):Par (oZ d L) S (L++[c]) S1:=by
 obtain⟨f1,h1⟩:=h1;refine ⟨f1+1,fun f hf ts b i hs=>?_⟩
 obtain⟨f,rfl⟩:∃ g,f=g+1:=⟨f - 1,by omega⟩
 obtain⟨j,q3,q4⟩:=h1 f (by omega) ts b _ hs
 refine ⟨j,?_,q4⟩;show eS (f+1) ts b d i L=_
 rw[eS,show eI f ts b d i=_ from q3,go_ok,q4.is,h,if_neg (by simp)]
 rfl
theorem Par.pipeRStep {t:aG}{L l:List aA}{c:aA}(h1:Par (nR d) S c (t :: S1))(h:isS (t :: S1) [6]=true)(hS:S1≠[])(hp:cM [1] S1≠[])(h2:Par (oZ d (L++[c])) (cM [1] S1) l S2):Par (oZ d L) S l S2:=by
 obtain⟨f1,h1⟩:=h1;obtain⟨f2,h2⟩:=h2;refine ⟨f1+f2+1,fun f hf ts b i hs=>?_⟩
 obtain⟨f,rfl⟩:∃ g,f=g+1:=⟨f - 1,by omega⟩
 obtain⟨j,q3,q4⟩:=h1 f (by omega) ts b _ hs
 obtain⟨_,q5,q6⟩:=q4.tail hS;obtain⟨q7,-⟩:=q6.pass [1] hp;obtain⟨k,q8,q9⟩:=h2 f (by omega) ts b _ q7
 refine ⟨k,?_,q9⟩;show eS (f+1) ts b d i L=_
 rw[eS,show eI f ts b d i=_ from q3,go_ok,q4.is,h,if_pos rfl,q5]
 exact q8
def yY (S:List aG):Bool:=match S with
 | t :: S'=>(match dC t with | none=>true | some s=>!lY s&&!(bI s&&isS S' [7]))
 | []=>false
theorem Par.commandSimple {c:aA}(h:yY S=true)(hS:1<S.length)(h1:Par (qZ d [] [] []) S c S1):Par (nR d) S c S1:=by
 obtain⟨f1,h1⟩:=h1;refine ⟨f1+1,fun f hf ts b i hs=>?_⟩
 obtain⟨f,rfl⟩:∃ g,f=g+1:=⟨f - 1,by omega⟩
 obtain⟨j,q3,q4⟩:=h1 f (by omega) ts b _ hs
 refine ⟨j,?_,q4⟩;show eI (f+1) ts b d i=_
 rw[eI];obtain⟨S',rfl,-⟩:=hs.cons;have hS':S'≠[]:=by rintro rfl;simp at hS
 obtain⟨_,q5,q6⟩:=hs.tail hS';unfold yY at h;dsimp only at h;rw[uH] at h
 cases hb:dC (aM ts i) with
 | none=>exact q3
 | some s =>
  rw[hb] at h;simp only[Bool.and_eq_true,Bool.not_eq_true',Bool.and_eq_false_iff] at h;dsimp only;rw[if_pos h.1,if_neg]
  ·exact q3
  ·rintro ⟨e1,e2⟩;rw[q5] at e2
   rcases h.2 with h2 | h2
   ·rw[e1] at h2;cases h2
   ·rw[← q6.is,← Bool.not_eq_true,m7] at h2;exact h2 (by rw[e2];simp)
theorem Par.commandBrace {t t2:aG}{l c:aA}(h:dC t=some [123])(hS:S≠[])(h1:Par (oD d) S l (t2 :: S1))(h2:k7 (t2 :: S1) [[125]]=true)(hS1:S1≠[])(h3:Par (vV d l []) S1 c S2):Par (nR d) (t :: S) c S2:=by
 obtain⟨f1,h1⟩:=h1;obtain⟨f2,h3⟩:=h3;refine ⟨f1+f2+1,fun f hf ts b i hs=>?_⟩
 obtain⟨f,rfl⟩:∃ g,f=g+1:=⟨f - 1,by omega⟩
 obtain⟨q1,q2,q3⟩:=hs.tail hS;obtain⟨j,q4,q5⟩:=h1 f (by omega) ts b _ q3
 obtain⟨_,q6,q7⟩:=q5.tail hS1;obtain⟨k,q8,q9⟩:=h3 f (by omega) ts b _ q7
 refine ⟨k,?_,q9⟩;show eI (f+1) ts b d i=_
 rw[q1,uH] at h;rw[eI,h];dsimp only;rw[if_neg (by decide),if_pos rfl,q2,show cG f ts b d (i+1)=_ from q4,go_ok]
 unfold gM;rw[q5.key,h2,if_pos rfl,q6];exact q8
theorem Par.body {t:aG}{s:List UInt8}{l:aA}(h:k7 (t :: S) [s]=true)(hS:S≠[])(h1:Par (oD d) S l S1):Par (Ah d s []) (t :: S) l S1:=by
 obtain⟨f1,h1⟩:=h1;refine ⟨f1+1,fun f hf ts b i hs=>?_⟩
 obtain⟨f,rfl⟩:∃ g,f=g+1:=⟨f - 1,by omega⟩
 obtain⟨q1,q2,q3⟩:=hs.tail hS;obtain⟨j,q4,q5⟩:=h1 f (by omega) ts b _ q3
 refine ⟨j,?_,q5⟩;show fM (f+1) ts b d i s []=_
 rw[fM];unfold gM;rw[hs.key,h,if_pos rfl,q2];dsimp only;rw[show cG f ts b d (i+1)=_ from q4,go_ok,if_pos rfl]
 rfl
theorem Par.choice {t:aG}{l1 l2:aA}(h1:Par (Ah d [105,102] []) S l1 S1)(h2:Par (Ah d [116,104,101,110] []) S1 l2 (t :: S2))(h3:k7 (t :: S2) [[101,108,115,101]]=false)(h4:k7 (t :: S2) [[102,105]]=true)(hS:S2≠[]):Par (Mq d) S (aC 24 0 [] [l1,l2,eX []]) S2:=by
 obtain⟨f1,h1⟩:=h1;obtain⟨f2,h2⟩:=h2;refine ⟨f1+f2+1,fun f hf ts b i hs=>?_⟩
 obtain⟨f,rfl⟩:∃ g,f=g+1:=⟨f - 1,by omega⟩
 obtain⟨j,q4,q5⟩:=h1 f (by omega) ts b _ hs
 obtain⟨k,q6,q7⟩:=h2 f (by omega) ts b _ q5
 obtain⟨_,q8,q9⟩:=q7.tail hS;refine ⟨k+1,?_,q9⟩;show iQ (f+1) ts b d i=_
 rw[iQ,show fM f ts b d i [105,102] []=_ from q4,go_ok,show fM f ts b d j [116,104,101,110] []=_ from q6,go_ok,q7.key,h3,if_neg (by simp)]
 show gM ts b k [102,105] _=_
 unfold gM;rw[q7.key,h4,if_pos rfl,q8];rfl
theorem Par.turnsEnd (c:aA)(L:List (Nat×aA))(h:nT S=false):Par (vV d c L) S (gH L c) S:=by
 refine ⟨1,fun f hf ts b i hs=>?_⟩
 obtain⟨f,rfl⟩:∃ g,f=g+1:=⟨f - 1,by omega⟩
 refine ⟨i,?_,hs⟩;show cI (f+1) ts b d i c L=_
 rw[cI,hs.turning,h,if_neg (by simp)]
 rfl
theorem Lu {aq:Nat→Nat→aG→aL aA}{t:aG}{v:aA}(hw:tL aq t v)(hk:t.kind=13)(hS:S≠[]):Par (fun f ts b i=>wordOf (fun b t=>aq f b t) ts b i) (t :: S) v S:=by
 obtain⟨f0,hw⟩:=hw;refine ⟨f0,fun f hf ts b i hs=>?_⟩
 obtain⟨q1,q2,q3⟩:=hs.tail hS;refine ⟨i+1,?_,q3⟩;dsimp only;unfold wordOf;rw[hs.is,show isS (t :: S) [13]=true from by unfold isS;dsimp only;rw[hk];rfl,if_pos rfl]
 dsimp only;rw[hw f hf b _ q1.symm,q2];rfl
theorem Par.turnsStep {t t2:aG}{c v l:aA}{L:List (Nat×aA)}(h:nT (t :: t2 :: S)=true)(hk:t2.kind=13)(hw:tL (Ee d) t2 v)(hS:S≠[])(h1:Par (vV d c (L++[(t.kind,v)])) S l S1):Par (vV d c L) (t :: t2 :: S) l S1:=by
 obtain⟨f1,h1⟩:=h1;obtain⟨f2,h2⟩:=Lu hw hk hS;refine ⟨f1+f2+1,fun f hf ts b i hs=>?_⟩
 obtain⟨f,rfl⟩:∃ g,f=g+1:=⟨f - 1,by omega⟩
 obtain⟨q1,q2,q3⟩:=hs.tail (by simp)
 obtain⟨j,q4,q5⟩:=h2 f (by omega) ts b _ q3
 obtain⟨k,q6,q7⟩:=h1 f (by omega) ts b _ q5
 refine ⟨k,?_,q7⟩;show cI (f+1) ts b d i c L=_
 rw[cI,hs.turning,h,if_pos rfl,q2,show wordOf (cZ fun x=>bD f b d x) ts b (i+1)=_ from q4,go_ok]
 rw[show (aM ts i).kind=t.kind by rw[q1];rfl]
 exact q6
theorem Par.simpleEnd (ss:List (List UInt8×aA))(ws:List aA)(L:List (Nat×aA))(h:nT S=false)(h2:isS S [13]=false)(h0:0<ss.length+ws.length+L.length):Par (qZ d ss ws L) S (gH L (dT ss ws)) S:=by
 refine ⟨1,fun f hf ts b i hs=>?_⟩
 obtain⟨f,rfl⟩:∃ g,f=g+1:=⟨f - 1,by omega⟩
 refine ⟨i,?_,hs⟩;show cD (f+1) ts b d i ss ws L=_
 rw[cD,hs.turning,h,if_neg (by simp),hs.is,h2,if_neg (by simp),if_neg (by omega)]
 rfl
theorem Fg (t:aG):eZ (gV t)=(eZ t).map fun x=>(x.1,gV x.2):=by
 unfold eZ gV;dsimp only
 cases t.parts with
 | nil=>rfl
 | cons p ps =>
  rw[List.map_cons];dsimp only;rw[show (p5 p).kind=p.kind from rfl,show (p5 p).text=p.text from rfl]
  by_cases h:p.kind=1
  ·rw[if_pos h,if_pos h]
   cases cO 61 p.text with
   | none=>rfl
   | some n =>
    dsimp only
    by_cases h2:bI (p.text.take n)=true
    ·rw[if_pos h2,if_pos h2];rfl
    ·rw[if_neg h2,if_neg h2];rfl
  ·rw[if_neg h,if_neg h];rfl
theorem J6 {t:aG}(hk:t.kind=13)(S:List aG):nT (t :: S)=false∧isS (t :: S) [13]=true:=by
 unfold nT isS;dsimp only;rw[hk];exact⟨rfl,rfl⟩
theorem Par.simpleWord {t:aG}{v l:aA}{ss:List (List UInt8×aA)}{ws:List aA}{L:List (Nat×aA)}(hk:t.kind=13)(hs:0<ws.length∨eZ t=none)(hw:tL (Eg d) t v)(hS:S≠[])(h1:Par (qZ d ss (ws++[v]) L) S l S1):Par (qZ d ss ws L) (t :: S) l S1:=by
 obtain⟨f1,h1⟩:=h1;obtain⟨f2,h2⟩:=hw;refine ⟨f1+f2+1,fun f hf ts b i hs'=>?_⟩
 obtain⟨f,rfl⟩:∃ g,f=g+1:=⟨f - 1,by omega⟩
 obtain⟨q1,q2,q3⟩:=hs'.tail hS;obtain⟨k,q6,q7⟩:=h1 f (by omega) ts b _ q3
 obtain⟨e1,e2⟩:=J6 hk S;refine ⟨k,?_,q7⟩;show cD (f+1) ts b d i ss ws L=_
 rw[cD,hs'.turning,e1,if_neg (by simp),hs'.is,e2,if_pos rfl,q2]
 have e3:(if ws.length=0 then eZ (aM ts i) else none)=none:=by
  rcases hs with h | h
  ·rw[if_neg (by omega)]
  ·rw[q1,Fg] at h
   cases hx:eZ (aM ts i) with
   | none=>split <;> rfl
   | some x=>rw[hx] at h;cases h
 rw[e3];dsimp only;rw[show fS (fun x=>bD f b d x) b (aM ts i)=some (.ok v) from h2 f (by omega) b _ q1.symm]
 exact q6
theorem Par.listOne {c:aA}(hd:d+1≤30)(h0:cM [1,2] S=S)(h1:oA S=false)(h2:k7 S [[33]]=false)(hc:Par (nR (d+1)) S c S1)(h3:isS S1 [6]=false)(h4:isS S1 [4,5]=false)(h5:cM [1,2] S1≠[])(h6:oA (cM [1,2] S1)=true)(hS:S≠[]):Par (oD d) S c (cM [1,2] S1):=by
 have hp:Par (wC (d+1)) S c S1:=by
  have:=Par.pipe h2 (Par.pipeREnd (L:=[]) hc h3)
  exact this
 have hch:Par (z7 (d+1)) (cM [1,2] S) c S1:=by
  rw[h0];exact Par.chain hp (Par.chainREnd c h4)
 exact Par.list hd (Par.chainsStep (by rw[h0];exact hS) (by rw[h0];exact h1) (.inl rfl) hch (Par.chainsEnd [c] h5 (.inl h6)))
end
def Lx (S:List UInt8) (T:List aG):Prop:=∀ (L:List UInt8) (k f:Nat),L.drop k=S→L.length - k<f→∃ us,dA L f k = .ok us∧us.map gV=T
theorem Lx.lex {S:List UInt8}{T:List aG}(h:Lx S T):∃ us,dA S (S.length+1) 0 = .ok us∧us.map gV=T:=h S 0 (S.length+1) (by simp) (by omega)
theorem Lx.nil:Lx [] [⟨0,0,[]⟩]:=fun L k f hd hf=>by
 obtain⟨f,rfl⟩:∃ g,f=g+1:=⟨f - 1,by omega⟩
 have hk:L.length≤k:=by simpa using hd
 refine ⟨[⟨0,k,[]⟩],?_,rfl⟩;rw[dA,hd,aU,Nat.add_zero];unfold gA;rw[if_pos hk];rfl
theorem J7 (L:List UInt8)(c:UInt8)(S:List UInt8)(k f:Nat)(hc:c.toNat=32∨c.toNat=9)(hd:L.drop k=c :: S):dA L (f+1) k=dA L (f+1) (k+1):=by
 obtain⟨_,_,h3⟩:=jA hd;rw[dA,dA,hd,h3,aU,if_pos hc,show k+(aU false S+1)=k+1+aU false S by omega]
theorem Lx.blank {S:List UInt8}{T:List aG}(h:Lx S T):Lx (32 :: S) T:=fun L k f hd hf=>by
 obtain⟨f,rfl⟩:∃ g,f=g+1:=⟨f - 1,by omega⟩
 obtain⟨h1,_,h3⟩:=jA hd;rw[J7 L 32 S k f (.inl rfl) hd];exact h L (k+1) (f+1) h3 (by omega)
theorem Lx.tok {S S':List UInt8}{t:aG}{T:List aG}(h:Lx S' T)(hk:t.kind≠0)(h0:aU false S=0)(ht:∀ (L:List UInt8)(k:Nat),L.drop k=S→∃ u n,gA L k = .ok (u,n)∧gV u=t∧L.drop n=S'∧k<n∧k<L.length):Lx S (t :: T):=fun L k f hd hf=>by
 obtain⟨f,rfl⟩:∃ g,f=g+1:=⟨f - 1,by omega⟩
 obtain⟨u,n,q1,q2,q3,q4,q5⟩:=ht L k hd;obtain⟨us,r1,r2⟩:=h L n f q3 (by omega)
 refine ⟨u :: us,?_,by rw[List.map_cons,q2,r2]⟩
 rw[dA,hd,h0,Nat.add_zero,q1];dsimp only;rw[if_neg (by rw[← IJ,q2];exact hk),r1]
theorem Lx.op {S:List UInt8}{o:List UInt8}{q:Nat}{T:List aG}(h:Lx S T)(hq:q≠0)(h0:aU false (o++S)=0)(hb:bB (o++S) bH 0 [] 0=(o,q))(ho:o≠[]):Lx (o++S) (⟨q,0,[]⟩ :: T) :=
 h.tok hq h0 fun L k hd=>by
  have hl:k<L.length:=by
   have:=congrArg List.length hd
   rw[List.length_drop,List.length_append] at this;have:0<o.length:=List.length_pos_iff.2 ho
   omega
  refine ⟨⟨q,k,[]⟩,k+o.length,?_,rfl,qR hd,by have:0<o.length:=List.length_pos_iff.2 ho;omega,hl⟩
  unfold gA;rw[if_neg (by omega),hd]
  simp only[hb];rw[if_pos ho]
theorem Lx.op' {S:List UInt8}{T:List aG}(q:Nat)(h1:1≤q)(h2:q≤12)(h:Lx S T)(ht:Ej S):Lx (bH.getD q []++S) (⟨q,0,[]⟩ :: T):=by
 obtain⟨o1,o2,o3⟩:=KQ q h1 h2 S ht;exact h.op (by omega) o1 o2 o3
def Stop (S:List UInt8):Prop:=S=[]∨∃ c m,S=c :: m∧jK c=true
theorem BH (L tail:List UInt8)(f i:Nat)(P:List aD)(j:Bool)(hd:L.drop i=tail)(ht:Stop tail)(hf:L.length - i<f):bO L f i P j = .ok (i,P):=by
 obtain⟨f,rfl⟩:∃ g,f=g+1:=⟨f - 1,by omega⟩
 rcases ht with rfl | ⟨c,m,rfl,hc⟩
 ·rw[bO,if_pos (by simpa using hd)]
 ·obtain⟨h1,h2,h3⟩:=jA hd;rw[bO,if_neg (by omega),h2,if_pos hc]
theorem Lx.wordOf {S:List UInt8}{T:List aG}{l:List UInt8}{P:List aD}(h:Lx S T)(hne:∃ c m,l=c :: m∧jK c=false∧c.toNat≠35)(hw:∀ (L:List UInt8)(k f:Nat),L.drop k=l++S→L.length - k<f→∃ Q,bO L f k [] false = .ok (k+l.length,Q)∧Q.map p5=P):Lx (l++S) (⟨13,0,P⟩ :: T):=by
 obtain⟨c,m,rfl,e2,e3⟩:=hne;obtain⟨f1,f2,f3⟩:=GG c (m++S) e2 e3;refine h.tok (by show (13:Nat)≠0;decide) f1 fun L k hd=>?_
 obtain⟨a1,a2,a3⟩:=jA hd;obtain⟨Q,w1,w2⟩:=hw L k (L.length+1) hd (by omega)
 refine ⟨⟨13,k,Q⟩,k+(c :: m).length,?_,by unfold gV;rw[w2],qR hd,by simp,a1⟩
 unfold gA;rw[if_neg (by omega),hd]
 simp only[show bB (c :: m++S) bH 0 [] 0=([],0) from f2]
 rw[if_neg (by simp),a2,if_neg f3,w1]
def p6 (c:UInt8):Prop:=nU c∧c.toNat≠36
theorem CX:∀ (l:List UInt8)(n:UInt8),(∀ c∈l,p6 c)→mN l n
 | [],_,_=>trivial
 | c :: l,n,h=>⟨(h c (by simp)).1,fun e=>absurd e (h c (by simp)).2,CX l n fun x hx=>h x (by simp [hx])⟩
def cJ (l:List UInt8):aG:=⟨13,0,[⟨1,0,0,false,l⟩]⟩
theorem Lx.plain {S:List UInt8}{T:List aG}{l:List UInt8}(h:Lx S T)(hne:l≠[])(hp:∀ c∈l,p6 c)(h35:(l.headD 0).toNat≠35)(hs:Stop S):Lx (l++S) (cJ l :: T):=by
 refine h.wordOf ?_ fun L k f hd hf=>?_
 ·cases l with
  | nil=>exact absurd rfl hne
  | cons c m=>exact⟨c,m,rfl,(hp c (by simp)).1.1,h35⟩
 ·obtain⟨f',e1,e2⟩:=Ii L S l f k [] hne hf hd (CX l _ hp);exact⟨_,by rw[e1,BH L S f' _ _ _ (qR hd) hs e2],rfl⟩
theorem Cg {S:List UInt8}{T:List aG}{l:aA}(hx:Lx S T)(hp:Par (oD 0) T l [⟨0,0,[]⟩])(hS:S.length≤8192)(hc:dB l=none):nG S = .ok l:=by
 obtain⟨us,h1,h2⟩:=hx.lex;obtain⟨f0,hp⟩:=hp;have g:=qQ S hS us h1;have hwt:=g.wt;rw[← pI] at hwt;have hn:=(zV (36 * S.length+23)).list g 0 0 0 g.pos (by omega)
 have hT:Suf us 0 T:=⟨by rintro rfl;have:=g.pos;rw[List.map_eq_nil_iff] at h2;rw[h2] at this;simp at this,h2⟩
 obtain⟨j,q1,q2⟩:=hp (f0+(36 * S.length+23)) (by omega) us 0 0 hT
 have hm:=LeP.le (fn:=fun f=>cG f us 0 0 0) (fun f=>(Ev f).list us 0 0 0) (show 36 * S.length+23≤f0+(36 * S.length+23) by omega)
 unfold nG;rw[h1];dsimp only
 cases hx:cG (36 * S.length+23) us 0 0 0 with
 | none=>exact absurd hx hn
 | some r =>
  have h3:cG (f0+(36 * S.length+23)) us 0 0 0=some r:=hm r hx;rw[show cG (f0+(36 * S.length+23)) us 0 0 0=_ from q1] at h3
  cases h3
  dsimp only;rw[q2.is,if_neg (by decide),hc]
theorem join_one (x:aA):dW [x]=x:=by
 unfold dW;dsimp only;rw[show List.foldl a8 [] [x]=[x] from rfl]
 by_cases h:fW x=true
 ·rw[show [x].filter fW=[x] from by simp [h]]
 ·rw[show [x].filter fW=[] from by simp [h]]
  rfl
theorem Dr {l:List UInt8}(hl:l.length≤2000):cW (aR l)=false:=by
 unfold cW aR aC;simp
 omega
def opM (m:Nat):List UInt8:=bH.getD (9+m) []
section
variable (F:Nat→List UInt8)
def qO:Nat→List Nat→List UInt8
 | _,[]=>[]
 | i,m :: ms=>(32 :: (opM m++(32 :: F i)))++qO (i+1) ms
def Cl:Nat→List Nat→List aG
 | _,[]=>[]
 | i,m :: ms=>⟨9+m,0,[]⟩ :: cJ (F i) :: Cl (i+1) ms
structure ME (N:Nat):Prop where
 ne:∀ i,i<N→F i≠[]
 plain:∀ i,i<N→∀ c∈F i,p6 c
 head:∀ i,i<N→((F i).headD 0).toNat≠35
 len:∀ i,i<N→(F i).length≤2000
variable {F}
theorem Iq {S:List UInt8}(hS:Stop S)(i:Nat)(ms:List Nat):Stop (qO F i ms++S):=by
 cases ms with
 | nil=>exact hS
 | cons m ms=>exact .inr ⟨32,_,rfl,by decide⟩
theorem Lx.turns {S:List UInt8}{T:List aG}(h:Lx S T)(hS:Stop S):∀ (ms:List Nat)(i N:Nat),ME F N→i+ms.length≤N→(∀ m∈ms,m<4)→Lx (qO F i ms++S) (Cl F i ms++T)
 | [],i,N,_,_,_=>h
 | m :: ms,i,N,hF,hl,hm=>by
  have ih:=Lx.turns h hS ms (i+1) N hF (by simp only[List.length_cons] at hl;omega) (fun x hx=>hm x (by simp [hx]))
  have hi:i<N:=by simp only[List.length_cons] at hl;omega
  have h1:=(ih.plain (hF.ne i hi) (hF.plain i hi) (hF.head i hi) (Iq hS _ _)).blank;have h2:=(h1.op' (9+m) (by omega) (by have:=hm m (by simp);omega) (.inr ⟨_,rfl⟩)).blank
  have e:qO F i (m :: ms)++S=32 :: (bH.getD (9+m) []++32 :: (F i++(qO F (i+1) ms++S))):=by
   simp [qO,opM]
  rw[e];exact h2
end
def d7:List aG:=[⟨0,0,[]⟩]
theorem Par.end1 {d:Nat}{S:List aG}{c:aA}(hd:d+1≤30)(h0:cM [1,2] S=S)(h1:oA S=false)(h2:k7 S [[33]]=false)(hc:Par (nR (d+1)) S c d7)(hS:S≠[]):Par (oD d) S c d7:=Par.listOne hd h0 h1 h2 hc (by decide) (by decide) (by decide) (by decide) hS
theorem Lj:∀ c:UInt8,c=97∨c=98→p6 c:=by
 intro c h;unfold p6 nU
 rcases h with rfl | rfl <;> exact⟨⟨by decide,by decide,by decide,by decide⟩,by decide⟩
theorem Lx.one {S:List UInt8}{T:List aG}(c:UInt8)(hc:c=97∨c=98)(h:Lx S T)(hS:Stop S):Lx (c :: S) (cJ [c] :: T):=by
 have:=h.plain (l:=[c]) (by simp) (by intro x hx;rw[List.mem_singleton] at hx;subst hx;exact Lj _ hc) (by rcases hc with rfl | rfl <;> decide) hS
 simpa using this
theorem BS {S:List aG}(h:isS S [1,2]=false):cM [1,2] S=S:=by
 unfold cM
 cases S with
 | nil=>rfl
 | cons t S=>rw[List.dropWhile_cons,if_neg];unfold isS at h;dsimp only at h;rw[h];simp
theorem CC {l:aA}{D:Nat}(h:WFP okA 2000 false D l)(hD:D≤30)(hl:l.length≤3000):dB l=none:=by
 unfold dB;have hp:=h.pos.1;rw[if_neg (by omega)]
 obtain⟨r,h1,_,h3⟩:=zC h l 0 l.length 1 true [] (3 * l.length) (by simp) (by omega) (fun _=>by omega) (Nat.le_refl _)
 rw[h1,h3 (by omega)]
theorem yZ {l:List UInt8}(hl:l.length≤2000):WFP okA 2000 true 1 (aR l):=by
 refine .node _ _ _ _ _ _ (by rfl) ?_ (by rfl) fun j kid hj=>by simp at hj
 unfold bU;simp
 omega
end Go.Proofs.YtbpjobmpacjgcaaGreatDoor
