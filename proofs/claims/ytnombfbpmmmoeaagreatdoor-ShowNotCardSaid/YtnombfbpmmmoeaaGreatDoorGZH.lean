/- A source of dialect A's tokens is read as these tokens. No program stands in it. -/
import Derived.Test.YtnombfbpmmmoeaaGreatDoorGPureAG
import Derived.Test.YtnombfbpmmmoeaaGreatDoorGZJ
namespace Go.Proofs.YtnombfbpmmmoeaaGreatDoor
open Go Go.RowKit
theorem IL (c:UInt8)(h:iW c=false):∀ n∈([32,9,10,59,38,124,40,41,60,62]:List Nat),c.toNat≠n:=by
 intro n hn e;unfold iW at h;rw[e] at h;have:([32,9,10,59,38,124,40,41,60,62]:List Nat).contains n=true:=by simpa using hn
 rw[this] at h
 cases h
theorem Gg (c:UInt8)(m:List UInt8)(h:iW c=false)(h35:c.toNat≠35):aQ false (c :: m)=0∧bD (c :: m) bL 0 [] 0=([],0)∧c.toNat≠38:=by
 have hl:=IL c h;refine ⟨?_,?_,hl 38 (by decide)⟩
 ·rw[aQ,if_neg (by have:=hl 32 (by decide);have:=hl 9 (by decide);omega),if_neg h35]
 ·rcases vV (c :: m) bL 0 [] 0 with e | ⟨j,h1,h2,h3,h4⟩
  ·exact e
  ·exfalso
   have hall:∀ o∈bL,o=[]∨iW (o.headD 0)=true:=by decide
   rcases hall _ (List.mem_of_getElem? h1) with e | e
   ·rw[e] at h4;simp at h4
   ·cases ho:(bD (c :: m) bL 0 [] 0).1 with
    | nil=>rw[ho] at h4;simp at h4
    | cons d o =>
     rw[ho] at h3 e;simp only[Lib.hasPrefix,List.isPrefixOf,Bool.and_eq_true,beq_iff_eq] at h3;rw[List.headD_cons,h3.1,h] at e
     cases e
theorem JH (k:Nat)(h1:1≤k)(h2:k≤12)(tail:List UInt8)(ht:C0 tail):aQ false (bL.getD k []++tail)=0∧bD (bL.getD k []++tail) bL 0 [] 0=(bL.getD k [],k)∧bL.getD k []≠[]:=by
 have hk:k=1∨k=2∨k=3∨k=4∨k=5∨k=6∨k=7∨k=8∨k=9∨k=10∨k=11∨k=12:=by omega
 rcases ht with rfl | ⟨m,rfl⟩
 ·rcases hk with rfl | rfl | rfl | rfl | rfl | rfl | rfl | rfl | rfl | rfl | rfl | rfl <;> exact⟨by decide,by decide,by decide⟩
 ·rcases hk with rfl | rfl | rfl | rfl | rfl | rfl | rfl | rfl | rfl | rfl | rfl | rfl <;> exact⟨by simp [bL,aQ],by simp [bD,bL,Lib.hasPrefix,List.isPrefixOf],by decide⟩
def oS (p:aC):aC:={ p with place:=0 }
def gG (t:aF):aF:=⟨t.kind,0,t.parts.map oS⟩
theorem Gq (t:aF):(gG t).kind=t.kind:=rfl
theorem vF (t:aF):dT (gG t)=dT t:=by
 unfold dT gG;dsimp only
 by_cases h:t.kind=13
 ·rw[if_pos h,if_pos h]
  cases t.parts with
  | nil=>rfl
  | cons p ps=>cases ps <;> rfl
 ·rw[if_neg h,if_neg h]
def Suf (ts:List aF) (i:Nat) (S:List aF):Prop:=S≠[]∧(ts.drop i).map gG=S
section
variable {ts:List aF} {i:Nat} {S:List aF}
theorem Suf.lt (h:Suf ts i S):i<ts.length:=by
 obtain⟨h1,h2⟩:=h
 by_cases hi:i<ts.length
 ·exact hi
 ·rw[List.drop_of_length_le (by omega)] at h2
  exact absurd h2.symm h1
theorem Suf.len (h:Suf ts i S):S.length=ts.length - i:=by
 rw[← h.2,List.length_map,List.length_drop]
theorem Suf.cons (h:Suf ts i S):∃ S',S=gG (aM ts i) :: S'∧(ts.drop (i+1)).map gG=S':=by
 have hl:=h.lt;obtain⟨_,h2⟩:=h;rw[List.drop_eq_getElem_cons hl,List.map_cons,← p7 hl] at h2;exact⟨_,h2.symm,rfl⟩
theorem Suf.tail {t:aF}(h:Suf ts i (t :: S))(hS:S≠[]):t=gG (aM ts i)∧aSk ts i=i+1∧Suf ts (i+1) S:=by
 obtain⟨S',h1,h2⟩:=h.cons
 cases h1
 refine ⟨rfl,?_,hS,h2⟩;have h3:=(show Suf ts (i+1) S from ⟨hS,h2⟩).lt
 unfold aSk;omega
theorem Suf.head {t:aF}(h:Suf ts i (t :: S)):t=gG (aM ts i):=by
 obtain⟨S',h1,h2⟩:=h.cons
 cases h1
 rfl
end
def isS (S:List aF) (ks:List Nat):Bool:=match S with | t :: _=>ks.contains t.kind | []=>false
def lW (S:List aF) (l:List (List UInt8)):Bool:=match S with | t :: _=>(match dT t with | some s=>l.contains s | none=>false) | []=>false
def dW (ks:List Nat) (S:List aF):List aF:=S.dropWhile fun t=>ks.contains t.kind
theorem Suf.is {ts:List aF}{i:Nat}{S:List aF}(h:Suf ts i S)(ks:List Nat):aIs ts i ks=isS S ks:=by
 obtain⟨S',rfl,-⟩:=h.cons;rfl
theorem Suf.key {ts:List aF}{i:Nat}{S:List aF}(h:Suf ts i S)(l:List (List UInt8)):eD ts i l=lW S l:=by
 obtain⟨S',rfl,-⟩:=h.cons;unfold eD lW;dsimp only;rw[vF]
 cases dT (aM ts i) <;> rfl
theorem Suf.passP (ks:List Nat){ts:List aF}:∀ (f:Nat){i:Nat}{S:List aF},Suf ts i S→dW ks S≠[]→S.length≤f→Suf ts (kY ts ks f i) (dW ks S)∧(kY ts ks f i=i ↔ dW ks S=S)
 | 0,i,S,h,_,hf=>absurd (List.length_eq_zero_iff.1 (by omega)) h.1
 | f+1,i,S,h,hp,hf=>by
  rw[kY,h.is];obtain⟨S',rfl,-⟩:=h.cons;generalize ht:gG (aM ts i)=t at *
  by_cases hk:ks.contains t.kind=true
  ·have e:dW ks (t :: S')=dW ks S':=by unfold dW;rw[List.dropWhile_cons,if_pos hk]
   rw[e] at hp ⊢;have hS':S'≠[]:=by rintro rfl;exact hp rfl
   obtain⟨_,h2,h3⟩:=h.tail hS';rw[show isS (t :: S') ks=true from hk,if_pos rfl,h2]
   obtain⟨h4,h5⟩:=Suf.passP ks f h3 hp (by simpa using hf)
   refine ⟨h4,?_⟩;have h6:=h4.len;have h7:=h4.lt;have h8:(dW ks S').length≤S'.length:=by unfold dW;exact List.Sublist.length_le (List.dropWhile_sublist _)
   have h9:=h3.len;have h10:=h3.lt;constructor
   ·intro e2;exfalso
    omega
   ·intro e2;exfalso
    rw[e2,List.length_cons] at h8;omega
  ·have e:dW ks (t :: S')=t :: S':=by unfold dW;rw[List.dropWhile_cons,if_neg hk]
   rw[e,show isS (t :: S') ks=false from by unfold isS;simpa using hk,if_neg (by simp)]
   exact⟨h,by simp⟩
theorem Suf.pass {ts:List aF}{i:Nat}{S:List aF}(h:Suf ts i S)(ks:List Nat)(hp:dW ks S≠[]):Suf ts (e7 ts ks i) (dW ks S)∧(e7 ts ks i=i ↔ dW ks S=S) :=
 Suf.passP ks ts.length h hp (by rw[h.len];omega)
def nR (S:List aF):Bool:=isS S [0,8,3] || lW S [[116,104,101,110],[101,108,115,101],[102,105],[100,111],[100,111,110,101],[101,115,97,99],[125]]
theorem Suf.ends {ts:List aF}{i:Nat}{S:List aF}(h:Suf ts i S):oX ts i=nR S:=by
 unfold oX nR;rw[h.is,h.key]
def rD (S:List aF):Bool:=isS S [9,10,11,12]
theorem Suf.turning {ts:List aF}{i:Nat}{S:List aF}(h:Suf ts i S):kV ts i=rD S:=h.is _
def Par {α:Type} (X:Nat→List aF→Nat→Nat→aJ α) (S:List aF) (a:α) (S':List aF):Prop :=
 ∃ f0,∀ f,f0≤f→∀ ts b i,Suf ts i S→∃ j,X f ts b i=some (.ok (a,j))∧Suf ts j S'
def Dp (aq:Nat→Nat→aF→aL aA) (t:aF) (v:aA):Prop:=∃ f0,∀ f,f0≤f→∀ b tok,gG tok=t→aq f b tok=some (.ok v)
abbrev qC (d:Nat):=fun f ts b i=>cD f ts b d i
abbrev t7 (d:Nat) (L:List aA):=fun f ts b i=>fA f ts b d i L
abbrev yG (d:Nat):=fun f ts b i=>eX f ts b d i
abbrev CW (d:Nat) (o:aA):=fun f ts b i=>fW f ts b d i o
abbrev yU (d:Nat):=fun f ts b i=>eB f ts b d i
abbrev C7 (d:Nat) (L:List aA):=fun f ts b i=>fF f ts b d i L
abbrev rK (d:Nat):=fun f ts b i=>eT f ts b d i
abbrev yJ (d:Nat) (s t:List UInt8):=fun f ts b i=>eZ f ts b d i s t
abbrev Kw (d:Nat):=fun f ts b i=>iA f ts b d i
abbrev pR (d:Nat) (ss:List (List UInt8×aA)) (ws:List aA) (L:List (Nat×aA)):=fun f ts b i=>cA f ts b d i ss ws L
abbrev C2 (d:Nat):=fun f b t=>fE (fun x=>bA f b d x) b t
theorem go_ok {α β:Type}(a:α)(i:Nat)(k:α→Nat→aJ β):aJ.go (some (.ok (a,i)):aJ α) k=k a i:=rfl
section
variable {d:Nat} {S S1 S2 S3:List aF}
theorem Par.list {l:aA}(hd:d+1≤30)(h:Par (t7 (d+1) []) S l S1):Par (qC d) S l S1:=by
 obtain⟨f0,h⟩:=h;refine ⟨f0+1,fun f hf ts b i hs=>?_⟩
 obtain⟨f,rfl⟩:∃ g,f=g+1:=⟨f - 1,by omega⟩
 obtain⟨j,h1,h2⟩:=h f (by omega) ts b i hs
 exact⟨j,by show cD (f+1) ts b d i=_;rw[cD,if_neg (by omega)];exact h1,h2⟩
theorem Par.chainsEnd (L:List aA)(hp:dW [1,2] S≠[])(he:nR (dW [1,2] S)=true∨(0<L.length∧dW [1,2] S=S)):Par (t7 d L) S (eH L) (dW [1,2] S):=by
 refine ⟨1,fun f hf ts b i hs=>?_⟩
 obtain⟨f,rfl⟩:∃ g,f=g+1:=⟨f - 1,by omega⟩
 obtain⟨h1,h2⟩:=hs.pass [1,2] hp;refine ⟨_,?_,h1⟩;show fA (f+1) ts b d i L=_
 rw[fA,if_pos]
 ·rfl
 ·rw[h1.ends,h2];exact he
theorem Par.chainsStep {L:List aA}{c l:aA}(hp:dW [1,2] S≠[])(he:nR (dW [1,2] S)=false)(hne:L=[]∨dW [1,2] S≠S)(h1:Par (yG d) (dW [1,2] S) c S1)(h2:Par (t7 d (L++[c])) S1 l S2):Par (t7 d L) S l S2:=by
 obtain⟨f1,h1⟩:=h1;obtain⟨f2,h2⟩:=h2;refine ⟨f1+f2+1,fun f hf ts b i hs=>?_⟩
 obtain⟨f,rfl⟩:∃ g,f=g+1:=⟨f - 1,by omega⟩
 obtain⟨q1,q2⟩:=hs.pass [1,2] hp;obtain⟨j,q3,q4⟩:=h1 f (by omega) ts b _ q1
 obtain⟨k,q5,q6⟩:=h2 f (by omega) ts b _ q4
 refine ⟨k,?_,q6⟩;show fA (f+1) ts b d i L=_
 rw[fA,if_neg]
 ·rw[show eX f ts b d (e7 ts [1,2] i)=_ from q3]
  exact q5
 ·rw[q1.ends,he,q2];rintro (h | ⟨h,h'⟩)
  ·cases h
  ·rcases hne with rfl | hne
   ·simp at h
   ·exact hne h'
theorem Par.chain {o l:aA}(h1:Par (yU d) S o S1)(h2:Par (CW d o) S1 l S2):Par (yG d) S l S2:=by
 obtain⟨f1,h1⟩:=h1;obtain⟨f2,h2⟩:=h2;refine ⟨f1+f2+1,fun f hf ts b i hs=>?_⟩
 obtain⟨f,rfl⟩:∃ g,f=g+1:=⟨f - 1,by omega⟩
 obtain⟨j,q3,q4⟩:=h1 f (by omega) ts b _ hs
 obtain⟨k,q5,q6⟩:=h2 f (by omega) ts b _ q4
 refine ⟨k,?_,q6⟩;show eX (f+1) ts b d i=_
 rw[eX,show eB f ts b d i=_ from q3]
 exact q5
theorem Par.chainREnd (o:aA)(h:isS S [4,5]=false):Par (CW d o) S o S:=by
 refine ⟨1,fun f hf ts b i hs=>?_⟩
 obtain⟨f,rfl⟩:∃ g,f=g+1:=⟨f - 1,by omega⟩
 refine ⟨i,?_,hs⟩;show fW (f+1) ts b d i o=_
 rw[fW,hs.is,h,if_neg (by simp)]
 rfl
def Li (l:List aA):aA:=if 1<l.length then aE 32 0 [] l else l.headD []
theorem Par.pipe {l:List aA}(h:lW S [[33]]=false)(h1:Par (C7 d []) S l S1):Par (yU d) S (Li l) S1:=by
 obtain⟨f1,h1⟩:=h1;refine ⟨f1+1,fun f hf ts b i hs=>?_⟩
 obtain⟨f,rfl⟩:∃ g,f=g+1:=⟨f - 1,by omega⟩
 obtain⟨j,q3,q4⟩:=h1 f (by omega) ts b _ hs
 refine ⟨j,?_,q4⟩;show eB (f+1) ts b d i=_
 rw[eB,hs.key,h,if_neg (by simp),show fF f ts b d i []=_ from q3,go_ok,if_neg (by simp)]
 rfl
theorem Par.pipeREnd {L:List aA}{c:aA}(h1:Par (rK d) S c S1)(h:isS S1 [6]=false):Par (C7 d L) S (L++[c]) S1:=by
 obtain⟨f1,h1⟩:=h1;refine ⟨f1+1,fun f hf ts b i hs=>?_⟩
 obtain⟨f,rfl⟩:∃ g,f=g+1:=⟨f - 1,by omega⟩
 obtain⟨j,q3,q4⟩:=h1 f (by omega) ts b _ hs
 refine ⟨j,?_,q4⟩;show fF (f+1) ts b d i L=_
 rw[fF,show eT f ts b d i=_ from q3,go_ok,q4.is,h,if_neg (by simp)]
 rfl
def xO (S:List aF):Bool:=match S with
 | t :: S'=>(match dT t with | none=>true | some s=>!lA s&&!(bF s&&isS S' [7]))
 | []=>false
theorem Par.commandSimple {c:aA}(h:xO S=true)(hS:1<S.length)(h1:Par (pR d [] [] []) S c S1):Par (rK d) S c S1:=by
 obtain⟨f1,h1⟩:=h1;refine ⟨f1+1,fun f hf ts b i hs=>?_⟩
 obtain⟨f,rfl⟩:∃ g,f=g+1:=⟨f - 1,by omega⟩
 obtain⟨j,q3,q4⟩:=h1 f (by omega) ts b _ hs
 refine ⟨j,?_,q4⟩;show eT (f+1) ts b d i=_
 rw[eT];obtain⟨S',rfl,-⟩:=hs.cons;have hS':S'≠[]:=by rintro rfl;simp at hS
 obtain⟨_,q5,q6⟩:=hs.tail hS';unfold xO at h;dsimp only at h;rw[vF] at h
 cases hb:dT (aM ts i) with
 | none=>exact q3
 | some s =>
  rw[hb] at h;simp only[Bool.and_eq_true,Bool.not_eq_true',Bool.and_eq_false_iff] at h;dsimp only;rw[if_pos h.1,if_neg]
  ·exact q3
  ·rintro ⟨e1,e2⟩;rw[q5] at e2
   rcases h.2 with h2 | h2
   ·rw[e1] at h2;cases h2
   ·rw[← q6.is,← Bool.not_eq_true,mC] at h2;exact h2 (by rw[e2];simp)
theorem Par.body {t:aF}{s:List UInt8}{l:aA}(h:lW (t :: S) [s]=true)(hS:S≠[])(h1:Par (qC d) S l S1):Par (yJ d s []) (t :: S) l S1:=by
 obtain⟨f1,h1⟩:=h1;refine ⟨f1+1,fun f hf ts b i hs=>?_⟩
 obtain⟨f,rfl⟩:∃ g,f=g+1:=⟨f - 1,by omega⟩
 obtain⟨q1,q2,q3⟩:=hs.tail hS;obtain⟨j,q4,q5⟩:=h1 f (by omega) ts b _ q3
 refine ⟨j,?_,q5⟩;show eZ (f+1) ts b d i s []=_
 rw[eZ];unfold gL;rw[hs.key,h,if_pos rfl,q2];dsimp only;rw[show cD f ts b d (i+1)=_ from q4,go_ok,if_pos rfl]
 rfl
theorem Par.choice {t:aF}{l1 l2:aA}(h1:Par (yJ d [105,102] []) S l1 S1)(h2:Par (yJ d [116,104,101,110] []) S1 l2 (t :: S2))(h3:lW (t :: S2) [[101,108,115,101]]=false)(h4:lW (t :: S2) [[102,105]]=true)(hS:S2≠[]):Par (Kw d) S (aE 24 0 [] [l1,l2,eH []]) S2:=by
 obtain⟨f1,h1⟩:=h1;obtain⟨f2,h2⟩:=h2;refine ⟨f1+f2+1,fun f hf ts b i hs=>?_⟩
 obtain⟨f,rfl⟩:∃ g,f=g+1:=⟨f - 1,by omega⟩
 obtain⟨j,q4,q5⟩:=h1 f (by omega) ts b _ hs
 obtain⟨k,q6,q7⟩:=h2 f (by omega) ts b _ q5
 obtain⟨_,q8,q9⟩:=q7.tail hS;refine ⟨k+1,?_,q9⟩;show iA (f+1) ts b d i=_
 rw[iA,show eZ f ts b d i [105,102] []=_ from q4,go_ok,show eZ f ts b d j [116,104,101,110] []=_ from q6,go_ok,q7.key,h3,if_neg (by simp)]
 show gL ts b k [102,105] _=_
 unfold gL;rw[q7.key,h4,if_pos rfl,q8];rfl
theorem Par.simpleEnd (ss:List (List UInt8×aA))(ws:List aA)(L:List (Nat×aA))(h:rD S=false)(h2:isS S [13]=false)(h0:0<ss.length+ws.length+L.length):Par (pR d ss ws L) S (gN L (dH ss ws)) S:=by
 refine ⟨1,fun f hf ts b i hs=>?_⟩
 obtain⟨f,rfl⟩:∃ g,f=g+1:=⟨f - 1,by omega⟩
 refine ⟨i,?_,hs⟩;show cA (f+1) ts b d i ss ws L=_
 rw[cA,hs.turning,h,if_neg (by simp),hs.is,h2,if_neg (by simp),if_neg (by omega)]
 rfl
theorem DS (t:aF):eM (gG t)=(eM t).map fun x=>(x.1,gG x.2):=by
 unfold eM gG;dsimp only
 cases t.parts with
 | nil=>rfl
 | cons p ps =>
  rw[List.map_cons];dsimp only;rw[show (oS p).kind=p.kind from rfl,show (oS p).text=p.text from rfl]
  by_cases h:p.kind=1
  ·rw[if_pos h,if_pos h]
   cases cH 61 p.text with
   | none=>rfl
   | some n =>
    dsimp only
    by_cases h2:bF (p.text.take n)=true
    ·rw[if_pos h2,if_pos h2];rfl
    ·rw[if_neg h2,if_neg h2];rfl
  ·rw[if_neg h,if_neg h];rfl
theorem Ix {t:aF}(hk:t.kind=13)(S:List aF):rD (t :: S)=false∧isS (t :: S) [13]=true:=by
 unfold rD isS;dsimp only;rw[hk];exact⟨rfl,rfl⟩
theorem Par.simpleWord {t:aF}{v l:aA}{ss:List (List UInt8×aA)}{ws:List aA}{L:List (Nat×aA)}(hk:t.kind=13)(hs:0<ws.length∨eM t=none)(hw:Dp (C2 d) t v)(hS:S≠[])(h1:Par (pR d ss (ws++[v]) L) S l S1):Par (pR d ss ws L) (t :: S) l S1:=by
 obtain⟨f1,h1⟩:=h1;obtain⟨f2,h2⟩:=hw;refine ⟨f1+f2+1,fun f hf ts b i hs'=>?_⟩
 obtain⟨f,rfl⟩:∃ g,f=g+1:=⟨f - 1,by omega⟩
 obtain⟨q1,q2,q3⟩:=hs'.tail hS;obtain⟨k,q6,q7⟩:=h1 f (by omega) ts b _ q3
 obtain⟨e1,e2⟩:=Ix hk S;refine ⟨k,?_,q7⟩;show cA (f+1) ts b d i ss ws L=_
 rw[cA,hs'.turning,e1,if_neg (by simp),hs'.is,e2,if_pos rfl,q2]
 have e3:(if ws.length=0 then eM (aM ts i) else none)=none:=by
  rcases hs with h | h
  ·rw[if_neg (by omega)]
  ·rw[q1,DS] at h
   cases hx:eM (aM ts i) with
   | none=>split <;> rfl
   | some x=>rw[hx] at h;cases h
 rw[e3];dsimp only;rw[show fE (fun x=>bA f b d x) b (aM ts i)=some (.ok v) from h2 f (by omega) b _ q1.symm]
 exact q6
theorem Par.listOne {c:aA}(hd:d+1≤30)(h0:dW [1,2] S=S)(h1:nR S=false)(h2:lW S [[33]]=false)(hc:Par (rK (d+1)) S c S1)(h3:isS S1 [6]=false)(h4:isS S1 [4,5]=false)(h5:dW [1,2] S1≠[])(h6:nR (dW [1,2] S1)=true)(hS:S≠[]):Par (qC d) S c (dW [1,2] S1):=by
 have hp:Par (yU (d+1)) S c S1:=by
  have:=Par.pipe h2 (Par.pipeREnd (L:=[]) hc h3)
  exact this
 have hch:Par (yG (d+1)) (dW [1,2] S) c S1:=by
  rw[h0];exact Par.chain hp (Par.chainREnd c h4)
 exact Par.list hd (Par.chainsStep (by rw[h0];exact hS) (by rw[h0];exact h1) (.inl rfl) hch (Par.chainsEnd [c] h5 (.inl h6)))
end
def Lx (S:List UInt8) (T:List aF):Prop:=∀ (L:List UInt8) (k f:Nat),L.drop k=S→L.length - k<f→∃ us,cN L f k = .ok us∧us.map gG=T
theorem Lx.lex {S:List UInt8}{T:List aF}(h:Lx S T):∃ us,cN S (S.length+1) 0 = .ok us∧us.map gG=T:=h S 0 (S.length+1) (by simp) (by omega)
theorem Lx.nil:Lx [] [⟨0,0,[]⟩]:=fun L k f hd hf=>by
 obtain⟨f,rfl⟩:∃ g,f=g+1:=⟨f - 1,by omega⟩
 have hk:L.length≤k:=by simpa using hd
 refine ⟨[⟨0,k,[]⟩],?_,rfl⟩;rw[cN,hd,aQ,Nat.add_zero];unfold fP;rw[if_pos hk];rfl
theorem IG (L:List UInt8)(c:UInt8)(S:List UInt8)(k f:Nat)(hc:c.toNat=32∨c.toNat=9)(hd:L.drop k=c :: S):cN L (f+1) k=cN L (f+1) (k+1):=by
 obtain⟨_,_,h3⟩:=iM hd;rw[cN,cN,hd,h3,aQ,if_pos hc,show k+(aQ false S+1)=k+1+aQ false S by omega]
theorem Lx.blank {S:List UInt8}{T:List aF}(h:Lx S T):Lx (32 :: S) T:=fun L k f hd hf=>by
 obtain⟨f,rfl⟩:∃ g,f=g+1:=⟨f - 1,by omega⟩
 obtain⟨h1,_,h3⟩:=iM hd;rw[IG L 32 S k f (.inl rfl) hd];exact h L (k+1) (f+1) h3 (by omega)
theorem Lx.tok {S S':List UInt8}{t:aF}{T:List aF}(h:Lx S' T)(hk:t.kind≠0)(h0:aQ false S=0)(ht:∀ (L:List UInt8)(k:Nat),L.drop k=S→∃ u n,fP L k = .ok (u,n)∧gG u=t∧L.drop n=S'∧k<n∧k<L.length):Lx S (t :: T):=fun L k f hd hf=>by
 obtain⟨f,rfl⟩:∃ g,f=g+1:=⟨f - 1,by omega⟩
 obtain⟨u,n,q1,q2,q3,q4,q5⟩:=ht L k hd;obtain⟨us,r1,r2⟩:=h L n f q3 (by omega)
 refine ⟨u :: us,?_,by rw[List.map_cons,q2,r2]⟩
 rw[cN,hd,h0,Nat.add_zero,q1];dsimp only;rw[if_neg (by rw[← Gq,q2];exact hk),r1]
theorem Lx.op {S:List UInt8}{o:List UInt8}{q:Nat}{T:List aF}(h:Lx S T)(hq:q≠0)(h0:aQ false (o++S)=0)(hb:bD (o++S) bL 0 [] 0=(o,q))(ho:o≠[]):Lx (o++S) (⟨q,0,[]⟩ :: T) :=
 h.tok hq h0 fun L k hd=>by
  have hl:k<L.length:=by
   have:=congrArg List.length hd
   rw[List.length_drop,List.length_append] at this;have:0<o.length:=List.length_pos_iff.2 ho
   omega
  refine ⟨⟨q,k,[]⟩,k+o.length,?_,rfl,pH hd,by have:0<o.length:=List.length_pos_iff.2 ho;omega,hl⟩
  unfold fP;rw[if_neg (by omega),hd]
  simp only[hb];rw[if_pos ho]
theorem Lx.op' {S:List UInt8}{T:List aF}(q:Nat)(h1:1≤q)(h2:q≤12)(h:Lx S T)(ht:C0 S):Lx (bL.getD q []++S) (⟨q,0,[]⟩ :: T):=by
 obtain⟨o1,o2,o3⟩:=JH q h1 h2 S ht;exact h.op (by omega) o1 o2 o3
def Stop (S:List UInt8):Prop:=S=[]∨∃ c m,S=c :: m∧iW c=true
theorem A4 (L tail:List UInt8)(f i:Nat)(P:List aC)(j:Bool)(hd:L.drop i=tail)(ht:Stop tail)(hf:L.length - i<f):bK L f i P j = .ok (i,P):=by
 obtain⟨f,rfl⟩:∃ g,f=g+1:=⟨f - 1,by omega⟩
 rcases ht with rfl | ⟨c,m,rfl,hc⟩
 ·rw[bK,if_pos (by simpa using hd)]
 ·obtain⟨h1,h2,h3⟩:=iM hd;rw[bK,if_neg (by omega),h2,if_pos hc]
theorem Lx.wordOf {S:List UInt8}{T:List aF}{l:List UInt8}{P:List aC}(h:Lx S T)(hne:∃ c m,l=c :: m∧iW c=false∧c.toNat≠35)(hw:∀ (L:List UInt8)(k f:Nat),L.drop k=l++S→L.length - k<f→∃ Q,bK L f k [] false = .ok (k+l.length,Q)∧Q.map oS=P):Lx (l++S) (⟨13,0,P⟩ :: T):=by
 obtain⟨c,m,rfl,e2,e3⟩:=hne;obtain⟨f1,f2,f3⟩:=Gg c (m++S) e2 e3;refine h.tok (by show (13:Nat)≠0;decide) f1 fun L k hd=>?_
 obtain⟨a1,a2,a3⟩:=iM hd;obtain⟨Q,w1,w2⟩:=hw L k (L.length+1) hd (by omega)
 refine ⟨⟨13,k,Q⟩,k+(c :: m).length,?_,by unfold gG;rw[w2],pH hd,by simp,a1⟩
 unfold fP;rw[if_neg (by omega),hd]
 simp only[show bD (c :: m++S) bL 0 [] 0=([],0) from f2]
 rw[if_neg (by simp),a2,if_neg f3,w1]
def rR (c:UInt8):Prop:=nN c∧c.toNat≠36
theorem Ch:∀ (l:List UInt8)(n:UInt8),(∀ c∈l,rR c)→lT l n
 | [],_,_=>trivial
 | c :: l,n,h=>⟨(h c (by simp)).1,fun e=>absurd e (h c (by simp)).2,Ch l n fun x hx=>h x (by simp [hx])⟩
def yI (l:List UInt8):aF:=⟨13,0,[⟨1,0,0,false,l⟩]⟩
theorem Lx.plain {S:List UInt8}{T:List aF}{l:List UInt8}(h:Lx S T)(hne:l≠[])(hp:∀ c∈l,rR c)(h35:(l.headD 0).toNat≠35)(hs:Stop S):Lx (l++S) (yI l :: T):=by
 refine h.wordOf ?_ fun L k f hd hf=>?_
 ·cases l with
  | nil=>exact absurd rfl hne
  | cons c m=>exact⟨c,m,rfl,(hp c (by simp)).1.1,h35⟩
 ·obtain⟨f',e1,e2⟩:=Gy L S l f k [] hne hf hd (Ch l _ hp);exact⟨_,by rw[e1,A4 L S f' _ _ _ (pH hd) hs e2],rfl⟩
theorem Ir {S:List UInt8}{T:List aF}{l:aA}(hx:Lx S T)(hp:Par (qC 0) T l [⟨0,0,[]⟩])(hS:S.length≤8192)(hc:dA l=none):mV S = .ok l:=by
 obtain⟨us,h1,h2⟩:=hx.lex;obtain⟨f0,hp⟩:=hp;have g:=pL S hS us h1;have hwt:=g.wt;rw[← nY] at hwt;have hn:=(yF (36 * S.length+23)).list g 0 0 0 g.pos (by omega)
 have hT:Suf us 0 T:=⟨by rintro rfl;have:=g.pos;rw[List.map_eq_nil_iff] at h2;rw[h2] at this;simp at this,h2⟩
 obtain⟨j,q1,q2⟩:=hp (f0+(36 * S.length+23)) (by omega) us 0 0 hT
 have hm:=LeP.le (fn:=fun f=>cD f us 0 0 0) (fun f=>(Df f).list us 0 0 0) (show 36 * S.length+23≤f0+(36 * S.length+23) by omega)
 unfold mV;rw[h1];dsimp only
 cases hx:cD (36 * S.length+23) us 0 0 0 with
 | none=>exact absurd hx hn
 | some r =>
  have h3:cD (f0+(36 * S.length+23)) us 0 0 0=some r:=hm r hx;rw[show cD (f0+(36 * S.length+23)) us 0 0 0=_ from q1] at h3
  cases h3
  dsimp only;rw[q2.is,if_neg (by decide),hc]
theorem join_one (x:aA):dK [x]=x:=by
 unfold dK;dsimp only;rw[show List.foldl aY [] [x]=[x] from rfl]
 by_cases h:fI x=true
 ·rw[show [x].filter fI=[x] from by simp [h]]
 ·rw[show [x].filter fI=[] from by simp [h]]
  rfl
theorem BV {l:List UInt8}(hl:l.length≤2000):cM (a8 l)=false:=by
 unfold cM a8 aE;simp
 omega
def opM (m:Nat):List UInt8:=bL.getD (9+m) []
section
variable (F:Nat→List UInt8)
def pK:Nat→List Nat→List UInt8
 | _,[]=>[]
 | i,m :: ms=>(32 :: (opM m++(32 :: F i)))++pK (i+1) ms
def Bj:Nat→List Nat→List aF
 | _,[]=>[]
 | i,m :: ms=>⟨9+m,0,[]⟩ :: yI (F i) :: Bj (i+1) ms
structure Lb (N:Nat):Prop where
 ne:∀ i,i<N→F i≠[]
 plain:∀ i,i<N→∀ c∈F i,rR c
 head:∀ i,i<N→((F i).headD 0).toNat≠35
 len:∀ i,i<N→(F i).length≤2000
variable {F}
theorem GG {S:List UInt8}(hS:Stop S)(i:Nat)(ms:List Nat):Stop (pK F i ms++S):=by
 cases ms with
 | nil=>exact hS
 | cons m ms=>exact .inr ⟨32,_,rfl,by decide⟩
theorem Lx.turns {S:List UInt8}{T:List aF}(h:Lx S T)(hS:Stop S):∀ (ms:List Nat)(i N:Nat),Lb F N→i+ms.length≤N→(∀ m∈ms,m<4)→Lx (pK F i ms++S) (Bj F i ms++T)
 | [],i,N,_,_,_=>h
 | m :: ms,i,N,hF,hl,hm=>by
  have ih:=Lx.turns h hS ms (i+1) N hF (by simp only[List.length_cons] at hl;omega) (fun x hx=>hm x (by simp [hx]))
  have hi:i<N:=by simp only[List.length_cons] at hl;omega
  have h1:=(ih.plain (hF.ne i hi) (hF.plain i hi) (hF.head i hi) (GG hS _ _)).blank;have h2:=(h1.op' (9+m) (by omega) (by have:=hm m (by simp);omega) (.inr ⟨_,rfl⟩)).blank
  have e:pK F i (m :: ms)++S=32 :: (bL.getD (9+m) []++32 :: (F i++(pK F (i+1) ms++S))):=by
   simp [pK,opM]
  rw[e];exact h2
end
def qK:List aF:=[⟨0,0,[]⟩]
theorem Par.end1 {d:Nat}{S:List aF}{c:aA}(hd:d+1≤30)(h0:dW [1,2] S=S)(h1:nR S=false)(h2:lW S [[33]]=false)(hc:Par (rK (d+1)) S c qK)(hS:S≠[]):Par (qC d) S c qK:=Par.listOne hd h0 h1 h2 hc (by decide) (by decide) (by decide) (by decide) hS
theorem Jl:∀ c:UInt8,c=97∨c=98→rR c:=by
 intro c h;unfold rR nN
 rcases h with rfl | rfl <;> exact⟨⟨by decide,by decide,by decide,by decide⟩,by decide⟩
theorem Lx.one {S:List UInt8}{T:List aF}(c:UInt8)(hc:c=97∨c=98)(h:Lx S T)(hS:Stop S):Lx (c :: S) (yI [c] :: T):=by
 have:=h.plain (l:=[c]) (by simp) (by intro x hx;rw[List.mem_singleton] at hx;subst hx;exact Jl _ hc) (by rcases hc with rfl | rfl <;> decide) hS
 simpa using this
theorem G2 {S:List aF}(h:isS S [1,2]=false):dW [1,2] S=S:=by
 unfold dW
 cases S with
 | nil=>rfl
 | cons t S=>rw[List.dropWhile_cons,if_neg];unfold isS at h;dsimp only at h;rw[h];simp
theorem IV {l:aA}{D:Nat}(h:WFP okA 2000 false D l)(hD:D≤30)(hl:l.length≤3000):dA l=none:=by
 unfold dA;have hp:=h.pos.1;rw[if_neg (by omega)]
 obtain⟨r,h1,_,h3⟩:=xY h l 0 l.length 1 true [] (3 * l.length) (by simp) (by omega) (fun _=>by omega) (Nat.le_refl _)
 rw[h1,h3 (by omega)]
theorem Kr {l:List UInt8}(hl:l.length≤2000):WFP okA 2000 true 1 (a8 l):=by
 refine .node _ _ _ _ _ _ (by rfl) ?_ (by rfl) fun j kid hj=>by simp at hj
 unfold bW;simp
 omega
end Go.Proofs.YtnombfbpmmmoeaaGreatDoor
