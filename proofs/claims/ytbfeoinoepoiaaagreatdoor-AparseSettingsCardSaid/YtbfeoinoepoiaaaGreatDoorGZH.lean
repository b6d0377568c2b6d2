/- Dialect A's parser: what comes of tokens, wherever they stand and whatever fuel there is beyond some. No program stands in it. -/
import Derived.Test.YtbfeoinoepoiaaaGreatDoorGZJ
import Derived.Test.YtbfeoinoepoiaaaGreatDoorGPureAG
namespace Go.Proofs.YtbfeoinoepoiaaaGreatDoor
open Go Go.RowKit
def stripP (p:APart):APart:={ p with place:=0 }
def stripT (t:ATok):ATok:=⟨t.kind,0,t.parts.map stripP⟩
theorem strip_kind (t:ATok):(stripT t).kind=t.kind:=rfl
theorem strip_bare (t:ATok):bareA (stripT t)=bareA t:=by
 unfold bareA stripT
 dsimp only
 by_cases h:t.kind=13
 ·rw [if_pos h,if_pos h]
  cases t.parts with
  | nil=>rfl
  | cons p ps=>cases ps <;> rfl
 ·rw [if_neg h,if_neg h]
def Suf (ts:List ATok) (i:Nat) (S:List ATok):Prop:=S≠[]∧(ts.drop i).map stripT=S
section
variable {ts:List ATok} {i:Nat} {S:List ATok}
theorem Suf.lt (h:Suf ts i S):i<ts.length:=by
 obtain ⟨h1,h2⟩:=h
 by_cases hi:i<ts.length
 ·exact hi
 ·rw [List.drop_of_length_le (by omega)] at h2
  exact absurd h2.symm h1
theorem Suf.len (h:Suf ts i S):S.length=ts.length - i:=by
 rw [← h.2,List.length_map,List.length_drop]
theorem Suf.cons (h:Suf ts i S):∃ S',S=stripT (akAt ts i) :: S'∧(ts.drop (i+1)).map stripT=S':=by
 have hl:=h.lt
 obtain ⟨_,h2⟩:=h
 rw [List.drop_eq_getElem_cons hl,List.map_cons,← ak_get hl] at h2
 exact ⟨_,h2.symm,rfl⟩
theorem Suf.tail {t:ATok} (h:Suf ts i (t :: S)) (hS:S≠[]):t=stripT (akAt ts i)∧aSk ts i=i+1∧Suf ts (i+1) S:=by
 obtain ⟨S',h1,h2⟩:=h.cons
 cases h1
 refine ⟨rfl,?_,hS,h2⟩
 have h3:=(show Suf ts (i+1) S from ⟨hS,h2⟩).lt
 unfold aSk
 omega
theorem Suf.head {t:ATok} (h:Suf ts i (t :: S)):t=stripT (akAt ts i):=by
 obtain ⟨S',h1,h2⟩:=h.cons
 cases h1
 rfl
end
def isS (S:List ATok) (ks:List Nat):Bool:=match S with | t :: _=>ks.contains t.kind | []=>false
def keyS (S:List ATok) (l:List (List UInt8)):Bool:=match S with | t :: _=>(match bareA t with | some s=>l.contains s | none=>false) | []=>false
def passS (ks:List Nat) (S:List ATok):List ATok:=S.dropWhile fun t=>ks.contains t.kind
theorem Suf.is {ts:List ATok} {i:Nat} {S:List ATok} (h:Suf ts i S) (ks:List Nat):aIs ts i ks=isS S ks:=by
 obtain ⟨S',rfl,-⟩:=h.cons
 rfl
theorem Suf.key {ts:List ATok} {i:Nat} {S:List ATok} (h:Suf ts i S) (l:List (List UInt8)):aKey ts i l=keyS S l:=by
 obtain ⟨S',rfl,-⟩:=h.cons
 unfold aKey keyS
 dsimp only
 rw [strip_bare]
 cases bareA (akAt ts i) <;> rfl
theorem Suf.passP (ks:List Nat) {ts:List ATok}:∀ (f:Nat) {i:Nat} {S:List ATok},Suf ts i S→passS ks S≠[]→S.length≤f→Suf ts (aPassP ts ks f i) (passS ks S)∧(aPassP ts ks f i=i ↔ passS ks S=S)
 | 0,i,S,h,_,hf=>absurd (List.length_eq_zero_iff.1 (by omega)) h.1
 | f+1,i,S,h,hp,hf=>by
  rw [aPassP,h.is]
  obtain ⟨S',rfl,-⟩:=h.cons
  generalize ht:stripT (akAt ts i)=t at *
  by_cases hk:ks.contains t.kind=true
  ·have e:passS ks (t :: S')=passS ks S':=by unfold passS; rw [List.dropWhile_cons,if_pos hk]
   rw [e] at hp ⊢
   have hS':S'≠[]:=by rintro rfl; exact hp rfl
   obtain ⟨_,h2,h3⟩:=h.tail hS'
   rw [show isS (t :: S') ks=true from hk,if_pos rfl,h2]
   obtain ⟨h4,h5⟩:=Suf.passP ks f h3 hp (by simpa using hf)
   refine ⟨h4,?_⟩
   have h6:=h4.len
   have h7:=h4.lt
   have h8:(passS ks S').length≤S'.length:=by unfold passS; exact List.Sublist.length_le (List.dropWhile_sublist _)
   have h9:=h3.len
   have h10:=h3.lt
   constructor
   ·intro e2
    exfalso
    omega
   ·intro e2
    exfalso
    rw [e2,List.length_cons] at h8
    omega
  ·have e:passS ks (t :: S')=t :: S':=by unfold passS; rw [List.dropWhile_cons,if_neg hk]
   rw [e,show isS (t :: S') ks=false from by unfold isS; simpa using hk,if_neg (by simp)]
   exact ⟨h,by simp⟩
theorem Suf.pass {ts:List ATok} {i:Nat} {S:List ATok} (h:Suf ts i S) (ks:List Nat) (hp:passS ks S≠[]):Suf ts (aPass ts ks i) (passS ks S)∧(aPass ts ks i=i ↔ passS ks S=S) :=
 Suf.passP ks ts.length h hp (by rw [h.len]; omega)
def endsS (S:List ATok):Bool:=isS S [0,8,3] || keyS S [[116,104,101,110],[101,108,115,101],[102,105],[100,111],[100,111,110,101],[101,115,97,99],[125]]
theorem Suf.ends {ts:List ATok} {i:Nat} {S:List ATok} (h:Suf ts i S):aEnds ts i=endsS S:=by
 unfold aEnds endsS
 rw [h.is,h.key]
def turningS (S:List ATok):Bool:=isS S [9,10,11,12]
theorem Suf.turning {ts:List ATok} {i:Nat} {S:List ATok} (h:Suf ts i S):aTurning ts i=turningS S:=h.is _
def Par {α:Type} (X:Nat→List ATok→Nat→Nat→PRes α) (S:List ATok) (a:α) (S':List ATok):Prop :=
 ∃ f0,∀ f,f0≤f→∀ ts b i,Suf ts i S→∃ j,X f ts b i=some (.ok (a,j))∧Suf ts j S'
def ParW (aq:Nat→Nat→ATok→POne Prog) (t:ATok) (v:Prog):Prop:=∃ f0,∀ f,f0≤f→∀ b tok,stripT tok=t→aq f b tok=some (.ok v)
abbrev xList (d:Nat):=fun f ts b i=>aList f ts b d i
abbrev xChains (d:Nat) (L:List Prog):=fun f ts b i=>aChains f ts b d i L
abbrev xChain (d:Nat):=fun f ts b i=>aChain f ts b d i
abbrev xChainR (d:Nat) (o:Prog):=fun f ts b i=>aChainR f ts b d i o
abbrev xPipe (d:Nat):=fun f ts b i=>aPipe f ts b d i
abbrev xPipeR (d:Nat) (L:List Prog):=fun f ts b i=>aPipeR f ts b d i L
abbrev xCommand (d:Nat):=fun f ts b i=>aCommand f ts b d i
abbrev xBody (d:Nat) (s t:List UInt8):=fun f ts b i=>aBody f ts b d i s t
abbrev xChoice (d:Nat):=fun f ts b i=>aChoice f ts b d i
abbrev xSimple (d:Nat) (ss:List (List UInt8 × Prog)) (ws:List Prog) (L:List (Nat × Prog)):=fun f ts b i=>aSimple f ts b d i ss ws L
abbrev wValue (d:Nat):=fun f b t=>valueA (fun x=>aSub f b d x) b t
abbrev wField (d:Nat):=fun f b t=>fieldA (fun x=>aSub f b d x) b t
theorem go_ok {α β:Type} (a:α) (i:Nat) (k:α→Nat→PRes β):PRes.go (some (.ok (a,i)):PRes α) k=k a i:=rfl
section
variable {d:Nat} {S S1 S2 S3:List ATok}
theorem Par.list {l:Prog} (hd:d+1≤30) (h:Par (xChains (d+1) []) S l S1):Par (xList d) S l S1:=by
 obtain ⟨f0,h⟩:=h
 refine ⟨f0+1,fun f hf ts b i hs=>?_⟩
 obtain ⟨f,rfl⟩:∃ g,f=g+1:=⟨f - 1,by omega⟩
 obtain ⟨j,h1,h2⟩:=h f (by omega) ts b i hs
 exact ⟨j,by show aList (f+1) ts b d i=_; rw [aList,if_neg (by omega)]; exact h1,h2⟩
theorem Par.chainsEnd (L:List Prog) (hp:passS [1,2] S≠[]) (he:endsS (passS [1,2] S)=true∨(0<L.length∧passS [1,2] S=S)):Par (xChains d L) S (seqP L) (passS [1,2] S):=by
 refine ⟨1,fun f hf ts b i hs=>?_⟩
 obtain ⟨f,rfl⟩:∃ g,f=g+1:=⟨f - 1,by omega⟩
 obtain ⟨h1,h2⟩:=hs.pass [1,2] hp
 refine ⟨_,?_,h1⟩
 show aChains (f+1) ts b d i L=_
 rw [aChains,if_pos]
 ·rfl
 ·rw [h1.ends,h2]
  exact he
theorem Par.chainsStep {L:List Prog} {c l:Prog} (hp:passS [1,2] S≠[]) (he:endsS (passS [1,2] S)=false) (hne:L=[]∨passS [1,2] S≠S) (h1:Par (xChain d) (passS [1,2] S) c S1) (h2:Par (xChains d (L++[c])) S1 l S2):Par (xChains d L) S l S2:=by
 obtain ⟨f1,h1⟩:=h1
 obtain ⟨f2,h2⟩:=h2
 refine ⟨f1+f2+1,fun f hf ts b i hs=>?_⟩
 obtain ⟨f,rfl⟩:∃ g,f=g+1:=⟨f - 1,by omega⟩
 obtain ⟨q1,q2⟩:=hs.pass [1,2] hp
 obtain ⟨j,q3,q4⟩:=h1 f (by omega) ts b _ q1
 obtain ⟨k,q5,q6⟩:=h2 f (by omega) ts b _ q4
 refine ⟨k,?_,q6⟩
 show aChains (f+1) ts b d i L=_
 rw [aChains,if_neg]
 ·rw [show aChain f ts b d (aPass ts [1,2] i)=_ from q3]
  exact q5
 ·rw [q1.ends,he,q2]
  rintro (h | ⟨h,h'⟩)
  ·cases h
  ·rcases hne with rfl | hne
   ·simp at h
   ·exact hne h'
theorem Par.chain {o l:Prog} (h1:Par (xPipe d) S o S1) (h2:Par (xChainR d o) S1 l S2):Par (xChain d) S l S2:=by
 obtain ⟨f1,h1⟩:=h1
 obtain ⟨f2,h2⟩:=h2
 refine ⟨f1+f2+1,fun f hf ts b i hs=>?_⟩
 obtain ⟨f,rfl⟩:∃ g,f=g+1:=⟨f - 1,by omega⟩
 obtain ⟨j,q3,q4⟩:=h1 f (by omega) ts b _ hs
 obtain ⟨k,q5,q6⟩:=h2 f (by omega) ts b _ q4
 refine ⟨k,?_,q6⟩
 show aChain (f+1) ts b d i=_
 rw [aChain,show aPipe f ts b d i=_ from q3]
 exact q5
theorem Par.chainREnd (o:Prog) (h:isS S [4,5]=false):Par (xChainR d o) S o S:=by
 refine ⟨1,fun f hf ts b i hs=>?_⟩
 obtain ⟨f,rfl⟩:∃ g,f=g+1:=⟨f - 1,by omega⟩
 refine ⟨i,?_,hs⟩
 show aChainR (f+1) ts b d i o=_
 rw [aChainR,hs.is,h,if_neg (by simp)]
 rfl
def pipeOf (l:List Prog):Prog:=if 1<l.length then newP 32 0 [] l else l.headD []
theorem Par.pipe {l:List Prog} (h:keyS S [[33]]=false) (h1:Par (xPipeR d []) S l S1):Par (xPipe d) S (pipeOf l) S1:=by
 obtain ⟨f1,h1⟩:=h1
 refine ⟨f1+1,fun f hf ts b i hs=>?_⟩
 obtain ⟨f,rfl⟩:∃ g,f=g+1:=⟨f - 1,by omega⟩
 obtain ⟨j,q3,q4⟩:=h1 f (by omega) ts b _ hs
 refine ⟨j,?_,q4⟩
 show aPipe (f+1) ts b d i=_
 rw [aPipe,hs.key,h,if_neg (by simp),show aPipeR f ts b d i []=_ from q3,go_ok,if_neg (by simp)]
 rfl
theorem Par.pipeREnd {L:List Prog} {c:Prog} (h1:Par (xCommand d) S c S1) (h:isS S1 [6]=false):Par (xPipeR d L) S (L++[c]) S1:=by
 obtain ⟨f1,h1⟩:=h1
 refine ⟨f1+1,fun f hf ts b i hs=>?_⟩
 obtain ⟨f,rfl⟩:∃ g,f=g+1:=⟨f - 1,by omega⟩
 obtain ⟨j,q3,q4⟩:=h1 f (by omega) ts b _ hs
 refine ⟨j,?_,q4⟩
 show aPipeR (f+1) ts b d i L=_
 rw [aPipeR,show aCommand f ts b d i=_ from q3,go_ok,q4.is,h,if_neg (by simp)]
 rfl
def simpleS (S:List ATok):Bool:=match S with
 | t :: S'=>(match bareA t with | none=>true | some s=>!keyA s && !(nameB s && isS S' [7]))
 | []=>false
theorem Par.commandSimple {c:Prog} (h:simpleS S=true) (hS:1<S.length) (h1:Par (xSimple d [] [] []) S c S1):Par (xCommand d) S c S1:=by
 obtain ⟨f1,h1⟩:=h1
 refine ⟨f1+1,fun f hf ts b i hs=>?_⟩
 obtain ⟨f,rfl⟩:∃ g,f=g+1:=⟨f - 1,by omega⟩
 obtain ⟨j,q3,q4⟩:=h1 f (by omega) ts b _ hs
 refine ⟨j,?_,q4⟩
 show aCommand (f+1) ts b d i=_
 rw [aCommand]
 obtain ⟨S',rfl,-⟩:=hs.cons
 have hS':S'≠[]:=by rintro rfl; simp at hS
 obtain ⟨_,q5,q6⟩:=hs.tail hS'
 unfold simpleS at h
 dsimp only at h
 rw [strip_bare] at h
 cases hb:bareA (akAt ts i) with
 | none=>exact q3
 | some s =>
  rw [hb] at h
  simp only [Bool.and_eq_true,Bool.not_eq_true',Bool.and_eq_false_iff] at h
  dsimp only
  rw [if_pos h.1,if_neg]
  ·exact q3
  ·rintro ⟨e1,e2⟩
   rw [q5] at e2
   rcases h.2 with h2 | h2
   ·rw [e1] at h2; cases h2
   ·rw [← q6.is,← Bool.not_eq_true,aIs_iff] at h2
    exact h2 (by rw [e2]; simp)
theorem Par.body {t:ATok} {s:List UInt8} {l:Prog} (h:keyS (t :: S) [s]=true) (hS:S≠[]) (h1:Par (xList d) S l S1):Par (xBody d s []) (t :: S) l S1:=by
 obtain ⟨f1,h1⟩:=h1
 refine ⟨f1+1,fun f hf ts b i hs=>?_⟩
 obtain ⟨f,rfl⟩:∃ g,f=g+1:=⟨f - 1,by omega⟩
 obtain ⟨q1,q2,q3⟩:=hs.tail hS
 obtain ⟨j,q4,q5⟩:=h1 f (by omega) ts b _ q3
 refine ⟨j,?_,q5⟩
 show aBody (f+1) ts b d i s []=_
 rw [aBody]
 unfold wantA
 rw [hs.key,h,if_pos rfl,q2]
 dsimp only
 rw [show aList f ts b d (i+1)=_ from q4,go_ok,if_pos rfl]
 rfl
theorem Par.choice {t:ATok} {l1 l2:Prog} (h1:Par (xBody d [105,102] []) S l1 S1) (h2:Par (xBody d [116,104,101,110] []) S1 l2 (t :: S2)) (h3:keyS (t :: S2) [[101,108,115,101]]=false) (h4:keyS (t :: S2) [[102,105]]=true) (hS:S2≠[]):Par (xChoice d) S (newP 24 0 [] [l1,l2,seqP []]) S2:=by
 obtain ⟨f1,h1⟩:=h1
 obtain ⟨f2,h2⟩:=h2
 refine ⟨f1+f2+1,fun f hf ts b i hs=>?_⟩
 obtain ⟨f,rfl⟩:∃ g,f=g+1:=⟨f - 1,by omega⟩
 obtain ⟨j,q4,q5⟩:=h1 f (by omega) ts b _ hs
 obtain ⟨k,q6,q7⟩:=h2 f (by omega) ts b _ q5
 obtain ⟨_,q8,q9⟩:=q7.tail hS
 refine ⟨k+1,?_,q9⟩
 show aChoice (f+1) ts b d i=_
 rw [aChoice,show aBody f ts b d i [105,102] []=_ from q4,go_ok,show aBody f ts b d j [116,104,101,110] []=_ from q6,go_ok,q7.key,h3,if_neg (by simp)]
 show wantA ts b k [102,105] _=_
 unfold wantA
 rw [q7.key,h4,if_pos rfl,q8]
 rfl
theorem Par.simpleEnd (ss:List (List UInt8 × Prog)) (ws:List Prog) (L:List (Nat × Prog)) (h:turningS S=false) (h2:isS S [13]=false) (h0:0<ss.length+ws.length+L.length):Par (xSimple d ss ws L) S (aAround L (madeP ss ws)) S:=by
 refine ⟨1,fun f hf ts b i hs=>?_⟩
 obtain ⟨f,rfl⟩:∃ g,f=g+1:=⟨f - 1,by omega⟩
 refine ⟨i,?_,hs⟩
 show aSimple (f+1) ts b d i ss ws L=_
 rw [aSimple,hs.turning,h,if_neg (by simp),hs.is,h2,if_neg (by simp),if_neg (by omega)]
 rfl
theorem strip_setting (t:ATok):settingA (stripT t)=(settingA t).map fun x=>(x.1,stripT x.2):=by
 unfold settingA stripT
 dsimp only
 cases t.parts with
 | nil=>rfl
 | cons p ps =>
  rw [List.map_cons]
  dsimp only
  rw [show (stripP p).kind=p.kind from rfl,show (stripP p).text=p.text from rfl]
  by_cases h:p.kind=1
  ·rw [if_pos h,if_pos h]
   cases idxA 61 p.text with
   | none=>rfl
   | some n =>
    dsimp only
    by_cases h2:nameB (p.text.take n)=true
    ·rw [if_pos h2,if_pos h2]; rfl
    ·rw [if_neg h2,if_neg h2]; rfl
  ·rw [if_neg h,if_neg h]; rfl
theorem word_kind {t:ATok} (hk:t.kind=13) (S:List ATok):turningS (t :: S)=false∧isS (t :: S) [13]=true:=by
 unfold turningS isS
 dsimp only
 rw [hk]
 exact ⟨rfl,rfl⟩
theorem Par.simpleWord {t:ATok} {v l:Prog} {ss:List (List UInt8 × Prog)} {ws:List Prog} {L:List (Nat × Prog)} (hk:t.kind=13) (hs:0<ws.length∨settingA t=none) (hw:ParW (wField d) t v) (hS:S≠[]) (h1:Par (xSimple d ss (ws++[v]) L) S l S1):Par (xSimple d ss ws L) (t :: S) l S1:=by
 obtain ⟨f1,h1⟩:=h1
 obtain ⟨f2,h2⟩:=hw
 refine ⟨f1+f2+1,fun f hf ts b i hs'=>?_⟩
 obtain ⟨f,rfl⟩:∃ g,f=g+1:=⟨f - 1,by omega⟩
 obtain ⟨q1,q2,q3⟩:=hs'.tail hS
 obtain ⟨k,q6,q7⟩:=h1 f (by omega) ts b _ q3
 obtain ⟨e1,e2⟩:=word_kind hk S
 refine ⟨k,?_,q7⟩
 show aSimple (f+1) ts b d i ss ws L=_
 rw [aSimple,hs'.turning,e1,if_neg (by simp),hs'.is,e2,if_pos rfl,q2]
 have e3:(if ws.length=0 then settingA (akAt ts i) else none)=none:=by
  rcases hs with h | h
  ·rw [if_neg (by omega)]
  ·rw [q1,strip_setting] at h
   cases hx:settingA (akAt ts i) with
   | none=>split <;> rfl
   | some x=>rw [hx] at h; cases h
 rw [e3]
 dsimp only
 rw [show fieldA (fun x=>aSub f b d x) b (akAt ts i)=some (.ok v) from h2 f (by omega) b _ q1.symm]
 exact q6
theorem Par.simpleSet {t t':ATok} {s:List UInt8} {v l:Prog} {ss:List (List UInt8 × Prog)} {L:List (Nat × Prog)} (hk:t.kind=13) (hs:settingA t=some (s,t')) (hw:ParW (wValue d) t' v) (hS:S≠[]) (h1:Par (xSimple d (ss++[(s,v)]) [] L) S l S1):Par (xSimple d ss [] L) (t :: S) l S1:=by
 obtain ⟨f1,h1⟩:=h1
 obtain ⟨f2,h2⟩:=hw
 refine ⟨f1+f2+1,fun f hf ts b i hs'=>?_⟩
 obtain ⟨f,rfl⟩:∃ g,f=g+1:=⟨f - 1,by omega⟩
 obtain ⟨q1,q2,q3⟩:=hs'.tail hS
 obtain ⟨k,q6,q7⟩:=h1 f (by omega) ts b _ q3
 obtain ⟨e1,e2⟩:=word_kind hk S
 refine ⟨k,?_,q7⟩
 show aSimple (f+1) ts b d i ss [] L=_
 rw [aSimple,hs'.turning,e1,if_neg (by simp),hs'.is,e2,if_pos rfl,q2]
 rw [q1,strip_setting] at hs
 cases hx:settingA (akAt ts i) with
 | none=>rw [hx] at hs; cases hs
 | some x =>
  obtain ⟨s',u⟩:=x
  rw [hx] at hs
  cases hs
  simp only [List.length_nil,if_true]
  rw [show valueA (fun x=>aSub f b d x) b u=some (.ok v) from h2 f (by omega) b _ rfl]
  exact q6
theorem Par.listOne {c:Prog} (hd:d+1≤30) (h0:passS [1,2] S=S) (h1:endsS S=false) (h2:keyS S [[33]]=false) (hc:Par (xCommand (d+1)) S c S1) (h3:isS S1 [6]=false) (h4:isS S1 [4,5]=false) (h5:passS [1,2] S1≠[]) (h6:endsS (passS [1,2] S1)=true) (hS:S≠[]):Par (xList d) S c (passS [1,2] S1):=by
 have hp:Par (xPipe (d+1)) S c S1:=by
  have:=Par.pipe h2 (Par.pipeREnd (L:=[]) hc h3)
  exact this
 have hch:Par (xChain (d+1)) (passS [1,2] S) c S1:=by
  rw [h0]
  exact Par.chain hp (Par.chainREnd c h4)
 exact Par.list hd (Par.chainsStep (by rw [h0]; exact hS) (by rw [h0]; exact h1) (.inl rfl) hch (Par.chainsEnd [c] h5 (.inl h6)))
end
end Go.Proofs.YtbfeoinoepoiaaaGreatDoor

namespace Go.Proofs.YtbfeoinoepoiaaaGreatDoor
open Go Go.RowKit
theorem ends_list (c:UInt8) (h:endsA c=false):∀ n∈([32,9,10,59,38,124,40,41,60,62]:List Nat),c.toNat≠n:=by
 intro n hn e
 unfold endsA at h
 rw [e] at h
 have:([32,9,10,59,38,124,40,41,60,62]:List Nat).contains n=true:=by simpa using hn
 rw [this] at h
 cases h
theorem front_plain (c:UInt8) (m:List UInt8) (h:endsA c=false) (h35:c.toNat≠35):skipN false (c :: m)=0∧bestOp (c :: m) opsA 0 [] 0=([],0)∧c.toNat≠38:=by
 have hl:=ends_list c h
 refine ⟨?_,?_,hl 38 (by decide)⟩
 ·rw [skipN,if_neg (by have:=hl 32 (by decide); have:=hl 9 (by decide); omega),if_neg h35]
 ·rcases bestOp_mem (c :: m) opsA 0 [] 0 with e | ⟨j,h1,h2,h3,h4⟩
  ·exact e
  ·exfalso
   have hall:∀ o∈opsA,o=[]∨endsA (o.headD 0)=true:=by decide
   rcases hall _ (List.mem_of_getElem? h1) with e | e
   ·rw [e] at h4
    simp at h4
   ·cases ho:(bestOp (c :: m) opsA 0 [] 0).1 with
    | nil=>rw [ho] at h4; simp at h4
    | cons d o =>
     rw [ho] at h3 e
     simp only [Lib.hasPrefix,List.isPrefixOf,Bool.and_eq_true,beq_iff_eq] at h3
     rw [List.headD_cons,h3.1,h] at e
     cases e
end Go.Proofs.YtbfeoinoepoiaaaGreatDoor

namespace Go.Proofs.YtbfeoinoepoiaaaGreatDoor
open Go Go.RowKit
def Lx (S:List UInt8) (T:List ATok):Prop:=∀ (L:List UInt8) (k f:Nat),L.drop k=S→L.length - k<f→∃ us,lexA L f k = .ok us∧us.map stripT=T
theorem Lx.lex {S:List UInt8} {T:List ATok} (h:Lx S T):∃ us,lexA S (S.length+1) 0 = .ok us∧us.map stripT=T:=h S 0 (S.length+1) (by simp) (by omega)
theorem Lx.nil:Lx [] [⟨0,0,[]⟩]:=fun L k f hd hf=>by
 obtain ⟨f,rfl⟩:∃ g,f=g+1:=⟨f - 1,by omega⟩
 have hk:L.length≤k:=by simpa using hd
 refine ⟨[⟨0,k,[]⟩],?_,rfl⟩
 rw [lexA,hd,skipN,Nat.add_zero]
 unfold tokenA
 rw [if_pos hk]
 rfl
theorem lexA_skip (L:List UInt8) (c:UInt8) (S:List UInt8) (k f:Nat) (hc:c.toNat=32∨c.toNat=9) (hd:L.drop k=c :: S):lexA L (f+1) k=lexA L (f+1) (k+1):=by
 obtain ⟨_,_,h3⟩:=drop_head hd
 rw [lexA,lexA,hd,h3,skipN,if_pos hc,show k+(skipN false S+1)=k+1+skipN false S by omega]
theorem Lx.blank {S:List UInt8} {T:List ATok} (h:Lx S T):Lx (32 :: S) T:=fun L k f hd hf=>by
 obtain ⟨f,rfl⟩:∃ g,f=g+1:=⟨f - 1,by omega⟩
 obtain ⟨h1,_,h3⟩:=drop_head hd
 rw [lexA_skip L 32 S k f (.inl rfl) hd]
 exact h L (k+1) (f+1) h3 (by omega)
theorem Lx.tok {S S':List UInt8} {t:ATok} {T:List ATok} (h:Lx S' T) (hk:t.kind≠0) (h0:skipN false S=0) (ht:∀ (L:List UInt8) (k:Nat),L.drop k=S→∃ u n,tokenA L k = .ok (u,n)∧stripT u=t∧L.drop n=S'∧k<n∧k<L.length):Lx S (t :: T):=fun L k f hd hf=>by
 obtain ⟨f,rfl⟩:∃ g,f=g+1:=⟨f - 1,by omega⟩
 obtain ⟨u,n,q1,q2,q3,q4,q5⟩:=ht L k hd
 obtain ⟨us,r1,r2⟩:=h L n f q3 (by omega)
 refine ⟨u :: us,?_,by rw [List.map_cons,q2,r2]⟩
 rw [lexA,hd,h0,Nat.add_zero,q1]
 dsimp only
 rw [if_neg (by rw [← strip_kind,q2]; exact hk),r1]
theorem Lx.op {S:List UInt8} {o:List UInt8} {q:Nat} {T:List ATok} (h:Lx S T) (hq:q≠0) (h0:skipN false (o++S)=0) (hb:bestOp (o++S) opsA 0 [] 0=(o,q)) (ho:o≠[]):Lx (o++S) (⟨q,0,[]⟩ :: T) :=
 h.tok hq h0 fun L k hd=>by
  have hl:k<L.length:=by
   have:=congrArg List.length hd
   rw [List.length_drop,List.length_append] at this
   have:0<o.length:=List.length_pos_iff.2 ho
   omega
  refine ⟨⟨q,k,[]⟩,k+o.length,?_,rfl,drop_more hd,by have:0<o.length:=List.length_pos_iff.2 ho; omega,hl⟩
  unfold tokenA
  rw [if_neg (by omega),hd]
  simp only [hb]
  rw [if_pos ho]
def Stop (S:List UInt8):Prop:=S=[]∨∃ c m,S=c :: m∧endsA c=true
theorem word_stopE (L tail:List UInt8) (f i:Nat) (P:List APart) (j:Bool) (hd:L.drop i=tail) (ht:Stop tail) (hf:L.length - i<f):wordA L f i P j = .ok (i,P):=by
 obtain ⟨f,rfl⟩:∃ g,f=g+1:=⟨f - 1,by omega⟩
 rcases ht with rfl | ⟨c,m,rfl,hc⟩
 ·rw [wordA,if_pos (by simpa using hd)]
 ·obtain ⟨h1,h2,h3⟩:=drop_head hd
  rw [wordA,if_neg (by omega),h2,if_pos hc]
theorem Lx.wordOf {S:List UInt8} {T:List ATok} {l:List UInt8} {P:List APart} (h:Lx S T) (hne:∃ c m,l=c :: m∧endsA c=false∧c.toNat≠35) (hw:∀ (L:List UInt8) (k f:Nat),L.drop k=l++S→L.length - k<f→∃ Q,wordA L f k [] false = .ok (k+l.length,Q)∧Q.map stripP=P):Lx (l++S) (⟨13,0,P⟩ :: T):=by
 obtain ⟨c,m,rfl,e2,e3⟩:=hne
 obtain ⟨f1,f2,f3⟩:=front_plain c (m++S) e2 e3
 refine h.tok (by show (13:Nat)≠0; decide) f1 fun L k hd=>?_
 obtain ⟨a1,a2,a3⟩:=drop_head hd
 obtain ⟨Q,w1,w2⟩:=hw L k (L.length+1) hd (by omega)
 refine ⟨⟨13,k,Q⟩,k+(c :: m).length,?_,by unfold stripT; rw [w2],drop_more hd,by simp,a1⟩
 unfold tokenA
 rw [if_neg (by omega),hd]
 simp only [show bestOp (c :: m++S) opsA 0 [] 0=([],0) from f2]
 rw [if_neg (by simp),a2,if_neg f3,w1]
def PlainC (c:UInt8):Prop:=PlainA c∧c.toNat≠36
theorem textV_of:∀ (l:List UInt8) (n:UInt8),(∀ c∈l,PlainC c)→TextV l n
 | [],_,_=>trivial
 | c :: l,n,h=>⟨(h c (by simp)).1,fun e=>absurd e (h c (by simp)).2,textV_of l n fun x hx=>h x (by simp [hx])⟩
def wordT (l:List UInt8):ATok:=⟨13,0,[⟨1,0,0,false,l⟩]⟩
theorem Lx.plain {S:List UInt8} {T:List ATok} {l:List UInt8} (h:Lx S T) (hne:l≠[]) (hp:∀ c∈l,PlainC c) (h35:(l.headD 0).toNat≠35) (hs:Stop S):Lx (l++S) (wordT l :: T):=by
 refine h.wordOf ?_ fun L k f hd hf=>?_
 ·cases l with
  | nil=>exact absurd rfl hne
  | cons c m=>exact ⟨c,m,rfl,(hp c (by simp)).1.1,h35⟩
 ·obtain ⟨f',e1,e2⟩:=word_text0 L S l f k [] hne hf hd (textV_of l _ hp)
  exact ⟨_,by rw [e1,word_stopE L S f' _ _ _ (drop_more hd) hs e2],rfl⟩
theorem Lx.setting {S:List UInt8} {T:List ATok} {l q:List UInt8} (h:Lx S T) (hne:l≠[]) (hp:∀ c∈l,PlainC c) (h35:(l.headD 0).toNat≠35) (hq:∀ c∈q,c.toNat≠39) (hs:Stop S):Lx ((l++39 :: (q++[39]))++S) (⟨13,0,[⟨1,0,0,false,l⟩,⟨2,0,0,false,q⟩]⟩ :: T):=by
 refine h.wordOf ?_ fun L k f hd hf=>?_
 ·cases l with
  | nil=>exact absurd rfl hne
  | cons c m=>exact ⟨c,_,rfl,(hp c (by simp)).1.1,h35⟩
 ·have hd':L.drop k=l++(39 :: (q++39 :: S)):=by rw [hd]; simp
  obtain ⟨f',e1,e2⟩:=word_text0 L _ l f k [] hne hf hd' (textV_of l _ hp)
  have hd2:=drop_more hd'
  obtain ⟨f',rfl⟩:∃ g,f'=g+1:=⟨f' - 1,by omega⟩
  obtain ⟨a1,a2,a3⟩:=drop_head hd2
  have hi:=idxA_of q S 39 39 rfl hq
  have hd3:L.drop (k+l.length+q.length+2)=S:=by
   have:=drop_more (L:=L) (a:=q++[39]) (m:=S) (i:=k+l.length+1) (by rw [a3]; simp)
   have e9:k+l.length+1+(q++[39]).length=k+l.length+q.length+2:=by simp; omega
   rw [← e9]
   exact this
  have h1:subs L ((k+l.length:Nat)+1:Nat) ((k+l.length:Nat)+1+q.length:Nat)=q:=subs_of a3
  refine ⟨[⟨1,k,0,false,l⟩,⟨2,k+l.length,0,false,q⟩],?_,rfl⟩
  rw [e1,wordA,if_neg (by omega),a2,if_neg (by decide),if_neg (by decide),if_pos (by decide),a3,hi]
  dsimp only
  rw [show ((k+l.length:Nat):Int)+1=((k+l.length+1:Nat):Int) from by omega,show ((k+l.length+1:Nat):Int)+(q.length:Int)=((k+l.length+1+q.length:Nat):Int) from by omega,h1]
  rw [show k+l.length+q.length+2=k+(l++39 :: (q++[39])).length by simp; omega] at hd3 ⊢
  rw [word_stopE L S f' _ _ _ hd3 hs (by have:=congrArg List.length hd2; rw [List.length_drop] at this; simp at this ⊢; omega)]
  rfl
end Go.Proofs.YtbfeoinoepoiaaaGreatDoor

namespace Go.Proofs.YtbfeoinoepoiaaaGreatDoor
open Go Go.RowKit
theorem parseA_of {S:List UInt8} {T:List ATok} {l:Prog} (hx:Lx S T) (hp:Par (xList 0) T l [⟨0,0,[]⟩]) (hS:S.length≤8192) (hc:checkP l=none):parseA S = .ok l:=by
 obtain ⟨us,h1,h2⟩:=hx.lex
 obtain ⟨f0,hp⟩:=hp
 have g:=lexA_good S hS us h1
 have hwt:=g.wt
 rw [← remA_zero] at hwt
 have hn:=(nnAllA (36 * S.length+23)).list g 0 0 0 g.pos (by omega)
 have hT:Suf us 0 T:=⟨by rintro rfl; have:=g.pos; rw [List.map_eq_nil_iff] at h2; rw [h2] at this; simp at this,h2⟩
 obtain ⟨j,q1,q2⟩:=hp (f0+(36 * S.length+23)) (by omega) us 0 0 hT
 have hm:=LeP.le (fn:=fun f=>aList f us 0 0 0) (fun f=>(monoA f).list us 0 0 0) (show 36 * S.length+23≤f0+(36 * S.length+23) by omega)
 unfold parseA
 rw [h1]
 dsimp only
 cases hx:aList (36 * S.length+23) us 0 0 0 with
 | none=>exact absurd hx hn
 | some r =>
  have h3:aList (f0+(36 * S.length+23)) us 0 0 0=some r:=hm r hx
  rw [show aList (f0+(36 * S.length+23)) us 0 0 0=_ from q1] at h3
  cases h3
  dsimp only
  rw [q2.is,if_neg (by decide),hc]
theorem word_strip {tok:ATok} {l:List UInt8} (h:stripT tok=wordT l):∃ p,tok.parts=[p]∧p.kind=1∧p.text=l:=by
 unfold stripT wordT at h
 injection h with h1 h2 h3
 cases hp:tok.parts with
 | nil=>rw [hp] at h3; simp at h3
 | cons p ps =>
  rw [hp] at h3
  simp only [List.map_cons,List.cons.injEq,List.map_eq_nil_iff] at h3
  obtain ⟨h4,h5⟩:=h3
  unfold stripP at h4
  injection h4 with a1 a2 a3 a4 a5
  exact ⟨p,by rw [h5],a1,a5⟩
theorem join_one (x:Prog):joinA [x]=x:=by
 unfold joinA
 dsimp only
 rw [show List.foldl joinStep [] [x]=[x] from rfl]
 by_cases h:fullA x=true
 ·rw [show [x].filter fullA=[x] from by simp [h]]
 ·rw [show [x].filter fullA=[] from by simp [h]]
  rfl
theorem long_lit {l:List UInt8} (hl:l.length≤2000):tooLong (litP l)=false:=by
 unfold tooLong litP newP
 simp
 omega
theorem value_word (sub:APart→POne Prog) (b:Nat) {tok:ATok} {l:List UInt8} (h:stripT tok=wordT l) (hl:l.length≤2000):valueA sub b tok=some (.ok (litP l)):=by
 obtain ⟨p,h1,h2,h3⟩:=word_strip h
 unfold valueA joinedA
 rw [h1]
 have e:partsA (pieceA sub) [p]=oOk [litP l]:=by
  unfold partsA
  rw [show pieceA sub p=oOk (litP l) from by unfold pieceA; rw [if_pos (.inl h2),h3]]
  rfl
 rw [e]
 show fitsA b tok (joinA [litP l])=_
 unfold fitsA
 rw [join_one,if_neg (by rw [long_lit hl]; simp)]
 rfl
theorem field_plainW (d:Nat) {l:List UInt8} (hl:l.length≤2000) (hv:liveP l=false):ParW (wField d) (wordT l) (litP l):=⟨0,fun f _ b tok h=>by
 obtain ⟨p,h1,h2,h3⟩:=word_strip h
 have e1:fDollars tok.parts=false:=by rw [h1]; unfold fDollars; simp [h2]
 have e2:fText tok.parts=l:=by rw [h1]; unfold fText; simp [h2,h3]
 show fieldA _ b tok=_
 unfold fieldA
 rw [e2,hv,if_neg (by simp),if_pos (.inl e1)]
 exact value_word _ b h hl⟩
section
variable (F:Nat→List UInt8)
structure FilesA (N:Nat):Prop where
 ne:∀ i,i<N→F i≠[]
 plain:∀ i,i<N→∀ c∈F i,PlainC c
 head:∀ i,i<N→((F i).headD 0).toNat≠35
 len:∀ i,i<N→(F i).length≤2000
variable {F}
end
def endT:List ATok:=[⟨0,0,[]⟩]
theorem Par.end1 {d:Nat} {S:List ATok} {c:Prog} (hd:d+1≤30) (h0:passS [1,2] S=S) (h1:endsS S=false) (h2:keyS S [[33]]=false) (hc:Par (xCommand (d+1)) S c endT) (hS:S≠[]):Par (xList d) S c endT:=Par.listOne hd h0 h1 h2 hc (by decide) (by decide) (by decide) (by decide) hS
theorem plain_ab:∀ c:UInt8,c=97∨c=98→PlainC c:=by
 intro c h
 unfold PlainC PlainA
 rcases h with rfl | rfl <;> exact ⟨⟨by decide,by decide,by decide,by decide⟩,by decide⟩
theorem Lx.one {S:List UInt8} {T:List ATok} (c:UInt8) (hc:c=97∨c=98) (h:Lx S T) (hS:Stop S):Lx (c :: S) (wordT [c] :: T):=by
 have:=h.plain (l:=[c]) (by simp) (by intro x hx; rw [List.mem_singleton] at hx; subst hx; exact plain_ab _ hc) (by rcases hc with rfl | rfl <;> decide) hS
 simpa using this
theorem check_okA {l:Prog} {D:Nat} (h:WFP okA 2000 false D l) (hD:D≤30) (hl:l.length≤3000):checkP l=none:=by
 unfold checkP
 have hp:=h.pos.1
 rw [if_neg (by omega)]
 obtain ⟨r,h1,_,h3⟩:=look_wf h l 0 l.length 1 true [] (3 * l.length) (by simp) (by omega) (fun _=>by omega) (Nat.le_refl _)
 rw [h1,h3 (by omega)]
theorem lit_wfp {l:List UInt8} (hl:l.length≤2000):WFP okA 2000 true 1 (litP l):=by
 refine .node _ _ _ _ _ _ (by rfl) ?_ (by rfl) fun j kid hj=>by simp at hj
 unfold fieldsM
 simp
 omega
end Go.Proofs.YtbfeoinoepoiaaaGreatDoor
