/- Dialect A's parser: of so many bytes, without backslashes, come no more than twice as many nodes, and one: the parser. No program stands in it. -/
import Derived.Test.YtepebnblbheegaaGreatDoorGNodesA
namespace Go.Proofs.YtepebnblbheegaaGreatDoor
set_option maxHeartbeats 8000000
open Go Go.RowKit
section
variable {n b:Nat} {ts:List ATok} (g:GoodN n ts)
include g
theorem skip_w {i:Nat} (hi:i<ts.length) (h:(akAt ts i).kind≠0):aSk ts i=i+1∧i+1<ts.length∧remW ts i=wd (akAt ts i)+remW ts (i+1)∧2≤wd (akAt ts i):=by
 obtain ⟨h1,h2⟩:=aSk_eq g.good hi h
 exact ⟨h1,h2,remW_step hi,wd_two (g.good.valid i) h⟩
theorem skip_w' {i:Nat} (hi:i<ts.length) {ks:List Nat} (h0:0 ∉ ks) (h:aIs ts i ks=true):aSk ts i=i+1∧i+1<ts.length∧remW ts i=wd (akAt ts i)+remW ts (i+1)∧2≤wd (akAt ts i) :=
 skip_w g hi (fun e=>h0 (e ▸ (aIs_iff _ _ _).1 h))
theorem OkE.want {α:Type} {i:Nat} {s:List UInt8} {k:Nat→PRes α} {R:α→Nat→Prop} (hi:i<ts.length) (hk:i+1<ts.length→remW ts (i+1)+2≤remW ts i→OkE (k (i+1)) R):OkE (wantA ts b i s k) R:=by
 unfold wantA
 split
 ·rename_i h
  obtain ⟨e1,e2,e3,e4⟩:=skip_w g hi (by rw [aKey_kind h]; decide)
  rw [e1]
  exact hk e2 (by omega)
 ·exact .form
theorem pass_w {i:Nat} (ks:List Nat) (h0:0 ∉ ks) (hi:i<ts.length):aPass ts ks i<ts.length∧remW ts (aPass ts ks i)≤remW ts i∧(aPass ts ks i≠i→remW ts (aPass ts ks i)+2≤remW ts i):=by
 obtain ⟨h1,h2⟩:=aPass_le ks hi
 refine ⟨h2,remW_le h1,fun hne=>?_⟩
 have hk:aIs ts i ks=true:=by
  apply Classical.byContradiction
  intro hk
  apply hne
  unfold aPass
  cases ts.length with
  | zero=>rfl
  | succ m=>rw [aPassP,if_neg hk]
 obtain ⟨e1,e2,e3,e4⟩:=skip_w' g hi h0 hk
 have:=remW_le (ts:=ts) (show i+1≤aPass ts ks i by omega)
 omega
theorem word_parts {i:Nat} (hk:(akAt ts i).kind=13):(∀ x∈(akAt ts i).parts,PartW x)∧(akAt ts i).parts≠[]∧wd (akAt ts i)=cPs (akAt ts i).parts+bP (akAt ts i).parts:=by
 refine ⟨(g.good.parts i).valid,?_,by unfold wd; rw [if_neg (by omega),if_pos hk]⟩
 rcases g.good.valid i with h | h
 ·omega
 ·exact h.2.1
theorem word_e {i:Nat} (hi:i<ts.length) {aq:Nat→ATok→POne Prog} (h:(akAt ts i).kind=13→OkO (aq b (akAt ts i)) fun l=>0<l.length∧l.length≤wd (akAt ts i)) :
  OkE (wordOf aq ts b i) fun l e=>e=i+1∧e<ts.length∧l.length+remW ts e≤remW ts i:=by
 unfold wordOf
 split
 ·rename_i hk
  obtain ⟨e1,e2,e3,e4⟩:=skip_w' g hi (by decide) hk
  rw [e1]
  refine (h (by rw [aIs_iff] at hk; simpa using hk)).atE.mono fun l e ⟨⟨h0,h1⟩,h2⟩=>?_
  subst h2
  exact ⟨rfl,e2,by omega⟩
 ·exact .form
end
def sl:Nat→Nat
 | 0=>1
 | 1=>0
 | _+2=>1
theorem seqP_nd (L:List Prog):(seqP L).length≤L.flatten.length+sl L.length:=by
 match L with
 | []=>simp [seqP,newP,sl]
 | [x]=>simp [seqP,sl]
 | x :: y :: l =>
  have:=(len_seqP (x :: y :: l)).1
  exact this
structure NodesA (f:Nat):Prop where
 list:∀ {n ts},GoodN n ts→∀ b d i,i<ts.length→OkE (aList f ts b d i) fun l e=>e<ts.length∧l.length+remW ts e≤remW ts i+1
 chains:∀ {n ts},GoodN n ts→∀ b d i L,i<ts.length→OkE (aChains f ts b d i L) fun l e=>e<ts.length∧l.length+remW ts e≤L.flatten.length+remW ts i+sl L.length
 chain:∀ {n ts},GoodN n ts→∀ b d i,i<ts.length→OkE (aChain f ts b d i) fun l e=>e<ts.length∧l.length+remW ts e≤remW ts i+1
 chainR:∀ {n ts},GoodN n ts→∀ b d i o,i<ts.length→OkE (aChainR f ts b d i o) fun l e=>e<ts.length∧l.length+remW ts e≤o.length+remW ts i
 pipe:∀ {n ts},GoodN n ts→∀ b d i,i<ts.length→OkE (aPipe f ts b d i) fun l e=>e<ts.length∧l.length+remW ts e≤remW ts i+1
 pipeR:∀ {n ts},GoodN n ts→∀ b d i L,i<ts.length→OkE (aPipeR f ts b d i L) fun l e=>e<ts.length∧L.length<l.length∧l.flatten.length+l.length+remW ts e≤L.flatten.length+L.length+remW ts i+2
 command:∀ {n ts},GoodN n ts→∀ b d i,i<ts.length→OkE (aCommand f ts b d i) fun l e=>e<ts.length∧l.length+remW ts e≤remW ts i+1
 body:∀ {n ts},GoodN n ts→∀ b d i s t,i<ts.length→OkE (aBody f ts b d i s t) fun l e=>e<ts.length∧l.length+1+remW ts e≤remW ts i
 choice:∀ {n ts},GoodN n ts→∀ b d i,i<ts.length→OkE (aChoice f ts b d i) fun l e=>e<ts.length∧l.length+remW ts e≤remW ts i
 whl:∀ {n ts},GoodN n ts→∀ b d i,i<ts.length→OkE (aWhile f ts b d i) fun l e=>e<ts.length∧l.length+remW ts e≤remW ts i
 each:∀ {n ts},GoodN n ts→∀ b d i,i<ts.length→(akAt ts i).kind≠0→OkE (aEach f ts b d i) fun l e=>e<ts.length∧l.length+remW ts e≤remW ts i
 fields:∀ {n ts},GoodN n ts→∀ b d i L,i<ts.length→OkE (aFields f ts b d i L) fun l e=>e<ts.length∧l.flatten.length+remW ts e≤L.flatten.length+remW ts i
 choose:∀ {n ts},GoodN n ts→∀ b d i,i<ts.length→(akAt ts i).kind≠0→OkE (aChoose f ts b d i) fun l e=>e<ts.length∧l.length+remW ts e≤remW ts i
 cases:∀ {n ts},GoodN n ts→∀ b d i L,i<ts.length→OkE (aCases f ts b d i L) fun l e=>e<ts.length∧l.flatten.length+remW ts e≤L.flatten.length+remW ts i
 function:∀ {n ts},GoodN n ts→∀ b d i s,i<ts.length→bareA (akAt ts i)=some s→(akAt ts (aSk ts i)).kind=7→OkE (aFunction f ts b d i s) fun l e=>e<ts.length∧l.length+remW ts e≤remW ts i
 turns:∀ {n ts},GoodN n ts→∀ b d i c L,i<ts.length→OkE (aTurns f ts b d i c L) fun l e=>e<ts.length∧l.length+remW ts e≤c.length+turnsLen L+remW ts i
 simple:∀ {n ts},GoodN n ts→∀ b d i ss ws L,i<ts.length→OkE (aSimple f ts b d i ss ws L) fun l e=>e<ts.length∧l.length+remW ts e≤setsLen ss+ws.flatten.length+turnsLen L+remW ts i+1
 sub:∀ (b d:Nat) (x:APart),x.text.length≤8192→(∀ c∈x.text,c.toNat≠92)→OkO (aSub f b d x) fun l=>0<l.length∧l.length≤2 * x.text.length+2
theorem NodesA.subC {f:Nat} (h:NodesA f) {n:Nat} {ts:List ATok} (g:GoodN n ts) (b d i:Nat):SubC (fun x=>aSub f b d x) (akAt ts i).parts:=fun x hx hk =>
 h.sub b d x (g.good.part i x hx).2.1 (g.n92 i x hx hk)
theorem setting_c {t t':ATok} {s:List UInt8} (h:settingA t=some (s,t')):cPs t'.parts=cPs t.parts∧bP t'.parts=bP t.parts∧t'.parts≠[]∧∀ x,t'.parts.head?=some x→x.kind=1:=by
 obtain ⟨-,-,-,p,ps,r,s4,s5,s6,-⟩:=setting_in h
 rw [s4,s6]
 refine ⟨?_,?_,by simp,fun x hx=>?_⟩
 ·rw [cPs_cons,cPs_cons]
  unfold cP
  dsimp only
  rw [s5]
  rfl
 ·unfold bP
  rw [List.any_cons,List.any_cons]
  rfl
 ·simp only [List.head?_cons,Option.some.injEq] at hx
  subst hx
  exact s5
theorem nodesA:∀ f,NodesA f
 | 0=>by
  constructor <;> intros <;> simp only [aList,aChains,aChain,aChainR,aPipe,aPipeR,aCommand,aBody,aChoice,aWhile,aEach,aFields,aChoose,aCases,aFunction,aTurns,aSimple,aSub] <;> first | exact OkE.none | exact OkO.none
 | f+1=>by
  have ih:=nodesA f
  have hval:∀ {n ts},GoodN n ts→∀ b d i,(akAt ts i).kind=13→OkO (valueA (fun x=>aSub f b d x) b (akAt ts i)) fun l=>0<l.length∧l.length≤wd (akAt ts i):=fun g b d i hk=>by
   obtain ⟨w1,w2,w3⟩:=word_parts g hk
   rw [w3]
   exact value_nd w1 w2 (ih.subC g b d i)
  have hliv:∀ {n ts},GoodN n ts→∀ b d i,(akAt ts i).kind=13→OkO (livesA (fun x=>aSub f b d x) b (akAt ts i)) fun l=>0<l.length∧l.length≤wd (akAt ts i):=fun g b d i hk=>by
   obtain ⟨w1,w2,w3⟩:=word_parts g hk
   rw [w3]
   exact lives_nd w1 w2 (ih.subC g b d i)
  have hfld:∀ {n ts},GoodN n ts→∀ b d i,(akAt ts i).kind=13→OkO (fieldA (fun x=>aSub f b d x) b (akAt ts i)) fun l=>0<l.length∧l.length≤wd (akAt ts i):=fun g b d i hk=>by
   obtain ⟨w1,w2,w3⟩:=word_parts g hk
   rw [w3]
   exact field_nd w1 w2 (ih.subC g b d i)
  refine ⟨?_,?_,?_,?_,?_,?_,?_,?_,?_,?_,?_,?_,?_,?_,?_,?_,?_,?_⟩
  ·intro n ts g b d i hi
   rw [aList]
   split
   ·exact .err
   ·exact (ih.chains g _ _ _ [] hi).mono fun l e h=>by simpa [sl] using h
  ·intro n ts g b d i L hi
   rw [aChains]
   obtain ⟨p1,p2,p3⟩:=pass_w g [1,2] (by decide) hi
   split
   ·have:=seqP_nd L
    exact .ok (by omega)
   ·rename_i hc
    refine (ih.chain g _ _ _ p1).go fun c e ⟨h1,h2⟩=>(ih.chains g _ _ _ _ h1).mono fun l k ⟨q1,q2⟩=>⟨q1,?_⟩
    rw [flat_snoc] at q2
    simp only [List.length_append,List.length_cons,List.length_nil] at q2
    match hL:L.length with
    | 0=>rw [hL] at q2; simp only [sl] at q2 ⊢; omega
    | 1 =>
     have:=p3 fun e=>hc (.inr ⟨by omega,e⟩)
     rw [hL] at q2; simp only [sl] at q2 ⊢; omega
    | m+2 =>
     have:=p3 fun e=>hc (.inr ⟨by omega,e⟩)
     rw [hL] at q2; simp only [sl] at q2 ⊢; omega
  ·intro n ts g b d i hi
   rw [aChain]
   exact (ih.pipe g _ _ _ hi).go fun c e ⟨h1,h2⟩=>(ih.chainR g _ _ _ _ h1).mono fun l k ⟨q1,q2⟩=>⟨q1,by omega⟩
  ·intro n ts g b d i o hi
   rw [aChainR]
   split
   ·rename_i hk
    obtain ⟨e1,e2,e3,e4⟩:=skip_w' g hi (by decide) hk
    rw [e1]
    obtain ⟨p1,p2,p3⟩:=pass_w g [1] (by decide) e2
    refine (ih.pipe g _ _ _ p1).go fun c e ⟨h1,h2⟩=>(ih.chainR g _ _ _ _ h1).mono fun l k ⟨q1,q2⟩=>⟨q1,?_⟩
    rw [(len_two _ _ _ _ _).1] at q2
    omega
   ·exact .ok ⟨hi,by omega⟩
  ·intro n ts g b d i hi
   rw [aPipe]
   obtain ⟨j,hj⟩:∃ j,(if aKey ts i [[33]]=true then aSk ts i else i)=j:=⟨_,rfl⟩
   have hjj:j<ts.length∧remW ts j≤remW ts i∧(aKey ts i [[33]]=true→remW ts j+1≤remW ts i):=by
    rw [← hj]
    split
    ·rename_i hk
     obtain ⟨e1,e2,e3,e4⟩:=skip_w g hi (by rw [aKey_kind hk]; decide)
     rw [e1]
     omega
    ·exact ⟨hi,Nat.le_refl _,fun h=>absurd h ‹_›⟩
   rw [hj]
   clear hj
   obtain ⟨j2,j3,j4⟩:=hjj
   refine (ih.pipeR g _ _ _ _ j2).go fun l e ⟨h1,h2,h3⟩=>?_
   simp only [List.length_nil,List.flatten_nil] at h2 h3
   have hb:(if 1<l.length then newP 32 0 [] l else l.headD []).length+remW ts e≤remW ts j+1:=by
    split
    ·rw [len_newP]
     omega
    ·have:=(headD_le l).1
     omega
   refine .ok ⟨h1,?_⟩
   by_cases hk:aKey ts i [[33]]=true
   ·have:=j4 hk
    rw [if_pos hk,(len_one _ _ _ _).1]
    omega
   ·rw [if_neg hk]
    omega
  ·intro n ts g b d i L hi
   rw [aPipeR]
   refine (ih.command g _ _ _ hi).go fun c e ⟨h1,h2⟩=>?_
   have hf:(L++[c]).flatten.length=L.flatten.length+c.length∧(L++[c]).length=L.length+1:=by
    rw [flat_snoc]
    simp
   split
   ·rename_i hk
    obtain ⟨e1,e2,e3,e4⟩:=skip_w' g h1 (by decide) hk
    rw [e1]
    obtain ⟨p1,p2,p3⟩:=pass_w g [1] (by decide) e2
    exact (ih.pipeR g _ _ _ _ p1).mono fun l k ⟨q1,q2,q3⟩=>⟨q1,by omega,by omega⟩
   ·exact .ok ⟨h1,by omega,by omega⟩
  ·intro n ts g b d i hi
   rw [aCommand]
   have hturn:∀ {x:PRes Prog},OkE x (fun l e=>e<ts.length∧l.length+remW ts e≤remW ts i)→OkE (x.go fun l j=>aTurns f ts b d j l []) fun l e=>e<ts.length∧l.length+remW ts e≤remW ts i+1:=fun hx=>hx.go fun c e ⟨h1,h2⟩=>(ih.turns g _ _ _ _ _ h1).mono fun l k ⟨q1,q2⟩=>by
    simp only [turnsLen,List.map_nil,List.sum_nil] at q2
    omega
   have hsim:OkE (aSimple f ts b d i [] [] []) fun l e=>e<ts.length∧l.length+remW ts e≤remW ts i+1:=(ih.simple g _ _ _ _ _ _ hi).mono fun l e ⟨h1,h2⟩=>by
    simp only [setsLen,turnsLen,List.map_nil,List.sum_nil,List.flatten_nil,List.length_nil] at h2
    omega
   split
   ·exact hsim
   ·rename_i s hs
    have hk:=bare_kind hs
    have hk0:(akAt ts i).kind≠0:=by rw [hk]; decide
    obtain ⟨e1,e2,e3,e4⟩:=skip_w g hi hk0
    split
    ·split
     ·rename_i hc
      exact (ih.function g _ _ _ _ hi hs hc.2).mono fun l e ⟨h1,h2⟩=>⟨h1,by omega⟩
     ·exact hsim
    split
    ·rw [e1]
     refine (ih.list g _ _ _ e2).go fun c e ⟨h1,h2⟩=>.want g h1 fun w1 w2=>(ih.turns g _ _ _ _ _ w1).mono fun l k ⟨q1,q2⟩=>?_
     simp only [turnsLen,List.map_nil,List.sum_nil] at q2
     omega
    split
    ·exact hturn (ih.choice g _ _ _ hi)
    split
    ·exact hturn (ih.whl g _ _ _ hi)
    split
    ·exact hturn (ih.each g _ _ _ hi hk0)
    split
    ·exact hturn (ih.choose g _ _ _ hi hk0)
    ·exact .form
  ·intro n ts g b d i s t hi
   rw [aBody]
   refine .want g hi fun w1 w2=>(ih.list g _ _ _ w1).go fun l e ⟨h1,h2⟩=>?_
   split
   ·exact .ok ⟨h1,by omega⟩
   ·exact .want g h1 fun w3 w4=>.ok ⟨w3,by omega⟩
  ·intro n ts g b d i hi
   rw [aChoice]
   refine (ih.body g _ _ _ _ _ hi).go fun c j ⟨a1,a2⟩=>(ih.body g _ _ _ _ _ a1).go fun y k ⟨b1,b2⟩=>?_
   refine OkE.go (Q:=fun l e=>e<ts.length∧l.length+remW ts e≤remW ts k+1) ?_ fun z m ⟨c1,c2⟩=>.want g c1 fun w1 w2=>.ok ⟨w1,?_⟩
   ·split
    ·exact (ih.body g _ _ _ _ _ b1).mono fun l e h=>by omega
    ·refine .ok ⟨b1,?_⟩
     have:(seqP []).length=1:=rfl
     omega
   ·rw [len_newP]
    simp only [List.flatten_cons,List.flatten_nil,List.append_nil,List.length_append]
    omega
  ·intro n ts g b d i hi
   rw [aWhile]
   refine (ih.body g _ _ _ _ _ hi).go fun c j ⟨a1,a2⟩=>(ih.body g _ _ _ _ _ a1).go fun y k ⟨b1,b2⟩=>.ok ⟨b1,?_⟩
   rw [(len_two _ _ _ _ _).1]
   omega
  ·intro n ts g b d i hi h0
   rw [aEach]
   obtain ⟨e1,e2,e3,e4⟩:=skip_w g hi h0
   rw [e1]
   split
   ·exact .form
   ·rename_i s hs
    split
    ·rename_i hn
     obtain ⟨f1,f2,f3,f4⟩:=skip_w g e2 (by rw [bare_kind hs]; decide)
     rw [f1]
     refine .want g f2 fun w1 w2=>(ih.fields g _ _ _ _ w1).go fun ws j ⟨a1,a2⟩=>?_
     obtain ⟨p1,p2,p3⟩:=pass_w g [1,2] (by decide) a1
     refine (ih.body g _ _ _ _ _ p1).go fun y k ⟨b1,b2⟩=>.ok ⟨b1,?_⟩
     rw [(len_two _ _ _ _ _).1]
     have:=(len_catP ws).1
     simp only [List.flatten_nil,List.length_nil] at a2
     omega
    ·exact .form
  ·intro n ts g b d i L hi
   rw [aFields]
   split
   ·rename_i hk
    have hk13:(akAt ts i).kind=13:=by rw [aIs_iff] at hk; simpa using hk
    obtain ⟨e1,e2,e3,e4⟩:=skip_w' g hi (by decide) hk
    rw [e1]
    refine (hfld g b d i hk13).atE.go fun w j ⟨⟨a0,a1⟩,a2⟩=>?_
    subst a2
    refine (ih.fields g _ _ _ _ e2).mono fun l k ⟨q1,q2⟩=>⟨q1,?_⟩
    rw [flat_snoc,List.length_append] at q2
    omega
   ·exact .ok ⟨hi,Nat.le_refl _⟩
  ·intro n ts g b d i hi h0
   rw [aChoose]
   obtain ⟨e1,e2,e3,e4⟩:=skip_w g hi h0
   rw [e1]
   refine (word_e g e2 (hval g b d _)).go fun w j ⟨a0,a1,a2⟩=>?_
   obtain ⟨p1,p2,p3⟩:=pass_w g [1] (by decide) a1
   refine .want g p1 fun w1 w2=>?_
   obtain ⟨r1,r2,r3⟩:=pass_w g [1] (by decide) w1
   refine (ih.cases g _ _ _ _ r1).go fun l k ⟨b1,b2⟩=>.ok ⟨b1,?_⟩
   simp only [List.flatten_cons,List.flatten_nil,List.append_nil] at b2
   rw [len_newP]
   omega
  ·intro n ts g b d i L hi
   rw [aCases]
   split
   ·rename_i hk
    obtain ⟨e1,e2,e3,e4⟩:=skip_w g hi (by rw [aKey_kind hk]; decide)
    rw [e1]
    exact .ok ⟨e2,by omega⟩
   ·obtain ⟨j,hj⟩:∃ j,(if aIs ts i [7]=true then aSk ts i else i)=j:=⟨_,rfl⟩
    have hjj:j<ts.length∧remW ts j≤remW ts i:=by
     rw [← hj]
     split
     ·rename_i hk
      obtain ⟨e1,e2,e3,e4⟩:=skip_w' g hi (by decide) hk
      rw [e1]
      omega
     ·exact ⟨hi,Nat.le_refl _⟩
    rw [hj]
    refine (word_e g hjj.1 (hliv g b d _)).go fun w k ⟨a0,a1,a2⟩=>?_
    split
    ·rename_i hk
     obtain ⟨e1,e2,e3,e4⟩:=skip_w' g a1 (by decide) hk
     rw [e1]
     refine (ih.list g _ _ _ e2).go fun c e ⟨h1,h2⟩=>?_
     obtain ⟨m,hm⟩:∃ m,(if aIs ts e [3]=true then aSk ts e else e)=m:=⟨_,rfl⟩
     have hmm:m<ts.length∧remW ts m≤remW ts e:=by
      rw [← hm]
      split
      ·rename_i hk
       obtain ⟨e1,e2,e3,e4⟩:=skip_w' g h1 (by decide) hk
       rw [e1]
       omega
      ·exact ⟨h1,Nat.le_refl _⟩
     rw [hm]
     obtain ⟨r1,r2,r3⟩:=pass_w g [1] (by decide) hmm.1
     refine (ih.cases g _ _ _ _ r1).mono fun l z ⟨q1,q2⟩=>⟨q1,?_⟩
     simp only [List.flatten_append,List.flatten_cons,List.flatten_nil,List.append_nil,List.length_append] at q2
     omega
    ·exact .form
  ·intro n ts g b d i s hi hs h7
   rw [aFunction]
   obtain ⟨e1,e2,e3,e4⟩:=skip_w g hi (by rw [bare_kind hs]; decide)
   rw [e1] at h7 ⊢
   obtain ⟨f1,f2,f3,f4⟩:=skip_w g e2 (by rw [h7]; decide)
   rw [f1]
   split
   ·rename_i hk
    obtain ⟨k1,k2,k3,k4⟩:=skip_w' g f2 (by decide) hk
    rw [k1]
    obtain ⟨p1,p2,p3⟩:=pass_w g [1] (by decide) k2
    refine (ih.body g _ _ _ _ _ p1).go fun l e ⟨h1,h2⟩=>.ok ⟨h1,?_⟩
    rw [(len_one _ _ _ _).1]
    omega
   ·exact .form
  ·intro n ts g b d i c L hi
   rw [aTurns]
   split
   ·rename_i hk
    obtain ⟨e1,e2,e3,e4⟩:=skip_w' g hi (by decide) hk
    rw [e1]
    refine (word_e g e2 (hval g b d _)).go fun w j ⟨a0,a1,a2⟩=>(ih.turns g _ _ _ _ _ a1).mono fun l k ⟨q1,q2⟩=>⟨q1,?_⟩
    rw [turnsLen_snoc] at q2
    dsimp only at q2
    omega
   ·have:=(aaround_len L c).1
    exact .ok ⟨hi,by omega⟩
  ·intro n ts g b d i ss ws L hi
   rw [aSimple]
   split
   ·rename_i hk
    obtain ⟨e1,e2,e3,e4⟩:=skip_w' g hi (by decide) hk
    rw [e1]
    refine (word_e g e2 (hval g b d _)).go fun w j ⟨a0,a1,a2⟩=>(ih.simple g _ _ _ _ _ _ a1).mono fun l k ⟨q1,q2⟩=>⟨q1,?_⟩
    rw [turnsLen_snoc] at q2
    dsimp only at q2
    omega
   split
   ·rename_i hk
    have hk13:(akAt ts i).kind=13:=by rw [aIs_iff] at hk; simpa using hk
    obtain ⟨e1,e2,e3,e4⟩:=skip_w' g hi (by decide) hk
    rw [e1]
    split
    ·rename_i s t hst
     have hs:settingA (akAt ts i)=some (s,t):=by
      split at hst
      ·exact hst
      ·cases hst
     obtain ⟨c1,c2,c3,c4⟩:=setting_c hs
     obtain ⟨-,-,w3⟩:=word_parts g hk13
     have hsub:SubC (fun x=>aSub f b d x) t.parts:=by
      obtain ⟨-,-,-,p,ps,r,s4,s5,s6,-⟩:=setting_in hs
      have h9:=ih.subC g b d i
      rw [s4] at h9
      rw [s6]
      intro x hx hk4
      rcases List.mem_cons.1 hx with rfl | hx
      ·exfalso
       dsimp only at hk4
       omega
      ·exact h9 x (by simp [hx]) hk4
     refine (value_nd1 (setting_parts hs (g.good.parts i)).valid c3 hsub c4).atE.go fun w j ⟨⟨a0,a1⟩,a2⟩=>?_
     subst a2
     refine (ih.simple g _ _ _ _ _ _ e2).mono fun l k ⟨q1,q2⟩=>⟨q1,?_⟩
     rw [setsLen_snoc] at q2
     dsimp only at q2
     omega
    ·refine (hfld g b d i hk13).atE.go fun w j ⟨⟨a0,a1⟩,a2⟩=>?_
     subst a2
     refine (ih.simple g _ _ _ _ _ _ e2).mono fun l k ⟨q1,q2⟩=>⟨q1,?_⟩
     rw [flat_snoc,List.length_append] at q2
     omega
   split
   ·exact .form
   ·have h1:=(aaround_len L (madeP ss ws)).1
    have h2:=(made_len ss ws).1
    exact .ok ⟨hi,by omega⟩
  ·intro b d x hl h92
   rw [aSub]
   split
   ·exact .err
   ·cases hq:lexA x.text (x.text.length+1) 0 with
    | error e=>exact .err
    | ok ts =>
     have g:=lexA_goodN x.text hl h92 ts hq
     have h:=ih.list g (b+x.place+2) d 0 g.good.pos
     dsimp only
     cases hr:aList f ts (b+x.place+2) d 0 with
     | none=>exact .none
     | some r =>
      cases r with
      | error e=>exact fun _ h=>by cases h
      | ok y =>
       obtain ⟨l,i⟩:=y
       obtain ⟨h1,h2⟩:=h l i hr
       dsimp only
       split
       ·exact .err
       ·have:=g.w
        have e0:remW ts 0=sumW ts:=rfl
        have:=(len_one 12 0 [] l).1
        exact .ok (by omega)
theorem parse_nodes {L:List UInt8} (hL:L.length≤8192) (h92:∀ c∈L,c.toNat≠92) {l:Prog} (h:parseA L = .ok l):l.length≤2 * L.length+1:=by
 unfold parseA at h
 cases hq:lexA L (L.length+1) 0 with
 | error e=>rw [hq] at h; cases h
 | ok ts =>
  rw [hq] at h
  dsimp only at h
  have g:=lexA_goodN L hL h92 ts hq
  have hp:=(nodesA (36 * L.length+23)).list g 0 0 0 g.good.pos
  cases hx:aList (36 * L.length+23) ts 0 0 0 with
  | none=>rw [hx] at h; cases h
  | some r =>
   rw [hx] at h
   cases r with
   | error e=>cases h
   | ok y =>
    obtain ⟨m,i⟩:=y
    obtain ⟨h1,h2⟩:=hp m i hx
    dsimp only at h
    split at h
    ·cases h
    ·have:=g.w
     have e0:remW ts 0=sumW ts:=rfl
     split at h
     ·cases h
      omega
     ·cases h
end Go.Proofs.YtepebnblbheegaaGreatDoor
