/- Dialect A's parser: what comes of tokens, or that they are too deep; a source's tokens within others. No program stands in it. -/
import Derived.Test.YtepebnblbheegaaGreatDoorGZH
import Derived.Test.YtepebnblbheegaaGreatDoorGSimA
import Derived.Test.YtepebnblbheegaaGreatDoorGLexIn
namespace Go.Proofs.YtepebnblbheegaaGreatDoor
open Go Go.RowKit
def ParE {α:Type} (X:Nat→List ATok→Nat→Nat→PRes α) (S:List ATok) (a:α) (S':List ATok):Prop :=
 ∃ f0,∀ f,f0≤f→∀ ts b i,Suf ts i S→(∃ j,X f ts b i=some (.ok (a,j))∧Suf ts j S')∨∃ p,X f ts b i=some (.error (102,p))
theorem Par.e {α:Type} {X:Nat→List ATok→Nat→Nat→PRes α} {S S':List ATok} {a:α} (h:Par X S a S'):ParE X S a S':=by
 obtain ⟨f0,h⟩:=h
 exact ⟨f0,fun f hf ts b i hs=>.inl (h f hf ts b i hs)⟩
theorem go_err {α β:Type} (e:Nat × Nat) (k:α→Nat→PRes β):PRes.go (some (.error e):PRes α) k=some (.error e):=rfl
section
variable {d:Nat} {S S1 S2 S3:List ATok}
theorem ParE.list {l:Prog} (h:ParE (xChains (d+1) []) S l S1):ParE (xList d) S l S1:=by
 obtain ⟨f0,h⟩:=h
 refine ⟨f0+1,fun f hf ts b i hs=>?_⟩
 obtain ⟨f,rfl⟩:∃ g,f=g+1:=⟨f - 1,by omega⟩
 show (∃ j,aList (f+1) ts b d i=_∧_)∨∃ p,aList (f+1) ts b d i=_
 rw [aList]
 by_cases hd:30<d+1
 ·rw [if_pos hd]
  exact .inr ⟨_,rfl⟩
 ·rw [if_neg hd]
  exact h f (by omega) ts b i hs
theorem ParE.chainsStep {L:List Prog} {c l:Prog} (hp:passS [1,2] S≠[]) (he:endsS (passS [1,2] S)=false) (hne:L=[]∨passS [1,2] S≠S) (h1:ParE (xChain d) (passS [1,2] S) c S1) (h2:ParE (xChains d (L++[c])) S1 l S2):ParE (xChains d L) S l S2:=by
 obtain ⟨f1,h1⟩:=h1
 obtain ⟨f2,h2⟩:=h2
 refine ⟨f1+f2+1,fun f hf ts b i hs=>?_⟩
 obtain ⟨f,rfl⟩:∃ g,f=g+1:=⟨f - 1,by omega⟩
 obtain ⟨q1,q2⟩:=hs.pass [1,2] hp
 show (∃ j,aChains (f+1) ts b d i L=_∧_)∨∃ p,aChains (f+1) ts b d i L=_
 rw [aChains,if_neg]
 ·rcases h1 f (by omega) ts b _ q1 with ⟨j,q3,q4⟩ | ⟨p,q3⟩
  ·rw [show aChain f ts b d (aPass ts [1,2] i)=_ from q3,go_ok]
   exact h2 f (by omega) ts b _ q4
  ·rw [show aChain f ts b d (aPass ts [1,2] i)=_ from q3,go_err]
   exact .inr ⟨_,rfl⟩
 ·rw [q1.ends,he,q2]
  rintro (h | ⟨h,h'⟩)
  ·cases h
  ·rcases hne with rfl | hne
   ·simp at h
   ·exact hne h'
theorem ParE.chain {o l:Prog} (h1:ParE (xPipe d) S o S1) (h2:ParE (xChainR d o) S1 l S2):ParE (xChain d) S l S2:=by
 obtain ⟨f1,h1⟩:=h1
 obtain ⟨f2,h2⟩:=h2
 refine ⟨f1+f2+1,fun f hf ts b i hs=>?_⟩
 obtain ⟨f,rfl⟩:∃ g,f=g+1:=⟨f - 1,by omega⟩
 show (∃ j,aChain (f+1) ts b d i=_∧_)∨∃ p,aChain (f+1) ts b d i=_
 rw [aChain]
 rcases h1 f (by omega) ts b _ hs with ⟨j,q3,q4⟩ | ⟨p,q3⟩
 ·rw [show aPipe f ts b d i=_ from q3,go_ok]
  exact h2 f (by omega) ts b _ q4
 ·rw [show aPipe f ts b d i=_ from q3,go_err]
  exact .inr ⟨_,rfl⟩
theorem ParE.pipe {l:List Prog} (h:keyS S [[33]]=false) (h1:ParE (xPipeR d []) S l S1):ParE (xPipe d) S (pipeOf l) S1:=by
 obtain ⟨f1,h1⟩:=h1
 refine ⟨f1+1,fun f hf ts b i hs=>?_⟩
 obtain ⟨f,rfl⟩:∃ g,f=g+1:=⟨f - 1,by omega⟩
 show (∃ j,aPipe (f+1) ts b d i=_∧_)∨∃ p,aPipe (f+1) ts b d i=_
 rw [aPipe,hs.key,h,if_neg (by simp)]
 rcases h1 f (by omega) ts b _ hs with ⟨j,q3,q4⟩ | ⟨p,q3⟩
 ·rw [show aPipeR f ts b d i []=_ from q3,go_ok,if_neg (by simp)]
  exact .inl ⟨j,rfl,q4⟩
 ·rw [show aPipeR f ts b d i []=_ from q3,go_err]
  exact .inr ⟨_,rfl⟩
theorem ParE.pipeREnd {L:List Prog} {c:Prog} (h1:ParE (xCommand d) S c S1) (h:isS S1 [6]=false):ParE (xPipeR d L) S (L++[c]) S1:=by
 obtain ⟨f1,h1⟩:=h1
 refine ⟨f1+1,fun f hf ts b i hs=>?_⟩
 obtain ⟨f,rfl⟩:∃ g,f=g+1:=⟨f - 1,by omega⟩
 show (∃ j,aPipeR (f+1) ts b d i L=_∧_)∨∃ p,aPipeR (f+1) ts b d i L=_
 rw [aPipeR]
 rcases h1 f (by omega) ts b _ hs with ⟨j,q3,q4⟩ | ⟨p,q3⟩
 ·rw [show aCommand f ts b d i=_ from q3,go_ok,q4.is,h,if_neg (by simp)]
  exact .inl ⟨j,rfl,q4⟩
 ·rw [show aCommand f ts b d i=_ from q3,go_err]
  exact .inr ⟨_,rfl⟩
theorem ParE.commandBrace {t t2:ATok} {l c:Prog} (h:bareA t=some [123]) (hS:S≠[]) (h1:ParE (xList d) S l (t2 :: S1)) (h2:keyS (t2 :: S1) [[125]]=true) (hS1:S1≠[]) (h3:ParE (xTurns d l []) S1 c S2):ParE (xCommand d) (t :: S) c S2:=by
 obtain ⟨f1,h1⟩:=h1
 obtain ⟨f2,h3⟩:=h3
 refine ⟨f1+f2+1,fun f hf ts b i hs=>?_⟩
 obtain ⟨f,rfl⟩:∃ g,f=g+1:=⟨f - 1,by omega⟩
 obtain ⟨q1,q2,q3⟩:=hs.tail hS
 show (∃ j,aCommand (f+1) ts b d i=_∧_)∨∃ p,aCommand (f+1) ts b d i=_
 rw [q1,strip_bare] at h
 rw [aCommand,h]
 dsimp only
 rw [if_neg (by decide),if_pos rfl,q2]
 rcases h1 f (by omega) ts b _ q3 with ⟨j,q4,q5⟩ | ⟨p,q4⟩
 ·obtain ⟨_,q6,q7⟩:=q5.tail hS1
  rw [show aList f ts b d (i+1)=_ from q4,go_ok]
  unfold wantA
  rw [q5.key,h2,if_pos rfl,q6]
  exact h3 f (by omega) ts b _ q7
 ·rw [show aList f ts b d (i+1)=_ from q4,go_err]
  exact .inr ⟨_,rfl⟩
theorem ParE.commandIf {t:ATok} {l c:Prog} (h:bareA t=some [105,102]) (h1:ParE (xChoice d) (t :: S) l S1) (h3:ParE (xTurns d l []) S1 c S2):ParE (xCommand d) (t :: S) c S2:=by
 obtain ⟨f1,h1⟩:=h1
 obtain ⟨f2,h3⟩:=h3
 refine ⟨f1+f2+1,fun f hf ts b i hs=>?_⟩
 obtain ⟨f,rfl⟩:∃ g,f=g+1:=⟨f - 1,by omega⟩
 show (∃ j,aCommand (f+1) ts b d i=_∧_)∨∃ p,aCommand (f+1) ts b d i=_
 rw [hs.head,strip_bare] at h
 rw [aCommand,h]
 dsimp only
 rw [if_neg (by decide),if_neg (by decide),if_pos rfl]
 rcases h1 f (by omega) ts b _ hs with ⟨j,q4,q5⟩ | ⟨p,q4⟩
 ·rw [show aChoice f ts b d i=_ from q4,go_ok]
  exact h3 f (by omega) ts b _ q5
 ·rw [show aChoice f ts b d i=_ from q4,go_err]
  exact .inr ⟨_,rfl⟩
theorem ParE.body {t:ATok} {s:List UInt8} {l:Prog} (h:keyS (t :: S) [s]=true) (hS:S≠[]) (h1:ParE (xList d) S l S1):ParE (xBody d s []) (t :: S) l S1:=by
 obtain ⟨f1,h1⟩:=h1
 refine ⟨f1+1,fun f hf ts b i hs=>?_⟩
 obtain ⟨f,rfl⟩:∃ g,f=g+1:=⟨f - 1,by omega⟩
 obtain ⟨q1,q2,q3⟩:=hs.tail hS
 show (∃ j,aBody (f+1) ts b d i s []=_∧_)∨∃ p,aBody (f+1) ts b d i s []=_
 rw [aBody]
 unfold wantA
 rw [hs.key,h,if_pos rfl,q2]
 dsimp only
 rcases h1 f (by omega) ts b _ q3 with ⟨j,q4,q5⟩ | ⟨p,q4⟩
 ·rw [show aList f ts b d (i+1)=_ from q4,go_ok,if_pos rfl]
  exact .inl ⟨j,rfl,q5⟩
 ·rw [show aList f ts b d (i+1)=_ from q4,go_err]
  exact .inr ⟨_,rfl⟩
theorem ParE.choice {t:ATok} {l1 l2:Prog} (h1:ParE (xBody d [105,102] []) S l1 S1) (h2:ParE (xBody d [116,104,101,110] []) S1 l2 (t :: S2)) (h3:keyS (t :: S2) [[101,108,115,101]]=false) (h4:keyS (t :: S2) [[102,105]]=true) (hS:S2≠[]):ParE (xChoice d) S (newP 24 0 [] [l1,l2,seqP []]) S2:=by
 obtain ⟨f1,h1⟩:=h1
 obtain ⟨f2,h2⟩:=h2
 refine ⟨f1+f2+1,fun f hf ts b i hs=>?_⟩
 obtain ⟨f,rfl⟩:∃ g,f=g+1:=⟨f - 1,by omega⟩
 show (∃ j,aChoice (f+1) ts b d i=_∧_)∨∃ p,aChoice (f+1) ts b d i=_
 rw [aChoice]
 rcases h1 f (by omega) ts b _ hs with ⟨j,q4,q5⟩ | ⟨p,q4⟩
 ·rw [show aBody f ts b d i [105,102] []=_ from q4,go_ok]
  rcases h2 f (by omega) ts b _ q5 with ⟨k,q6,q7⟩ | ⟨p,q6⟩
  ·obtain ⟨_,q8,q9⟩:=q7.tail hS
   refine .inl ⟨k+1,?_,q9⟩
   rw [show aBody f ts b d j [116,104,101,110] []=_ from q6,go_ok,q7.key,h3,if_neg (by simp)]
   show wantA ts b k [102,105] _=_
   unfold wantA
   rw [q7.key,h4,if_pos rfl,q8]
   rfl
  ·rw [show aBody f ts b d j [116,104,101,110] []=_ from q6,go_err]
   exact .inr ⟨_,rfl⟩
 ·rw [show aBody f ts b d i [105,102] []=_ from q4,go_err]
  exact .inr ⟨_,rfl⟩
theorem pass_at {ts:List ATok} {i j:Nat} {S T:List ATok} (h1:Suf ts i S) (h2:Suf ts j T) (e:S=T):i=j:=by
 have a:=h1.len
 have b:=h2.len
 have:=h1.lt
 have:=h2.lt
 rw [e] at a
 omega
theorem ParE.line {t:ATok} {l:Prog} (ht:t.kind=1∨t.kind=2) (hp:passS [1,2] S≠[]) (h:ParE (xList d) S l S1):ParE (xList d) (t :: S) l S1:=by
 obtain ⟨f0,h⟩:=h
 refine ⟨f0+2,fun f hf ts b i hs=>?_⟩
 obtain ⟨f,rfl⟩:∃ g,f=g+2:=⟨f - 2,by omega⟩
 have hS:S≠[]:=by rintro rfl; exact hp rfl
 obtain ⟨q1,q2,q3⟩:=hs.tail hS
 have e:passS [1,2] (t :: S)=passS [1,2] S:=by
  unfold passS
  rw [List.dropWhile_cons,if_pos]
  rcases ht with h | h <;> rw [h] <;> rfl
 have a1:=(hs.pass [1,2] (by rw [e]; exact hp)).1
 have a2:=(q3.pass [1,2] hp).1
 have a3:aPass ts [1,2] i=aPass ts [1,2] (i+1):=pass_at a1 a2 e
 have h2:=h (f+2) (by omega) ts b (i+1) q3
 show (∃ j,aList (f+2) ts b d i=_∧_)∨∃ p,aList (f+2) ts b d i=_
 have h3:(∃ j,aList (f+2) ts b d (i+1)=some (.ok (l,j))∧Suf ts j S1)∨∃ p,aList (f+2) ts b d (i+1)=some (.error (102,p)):=h2
 by_cases hd:30<d+1
 ·rw [aList,if_pos hd]
  exact .inr ⟨_,rfl⟩
 ·rw [aList,if_neg hd,aChains] at h3 ⊢
  rw [a3]
  have e2:(aEnds ts (aPass ts [1,2] (i+1))=true∨(0<([]:List Prog).length∧aPass ts [1,2] (i+1)=i)) ↔ (aEnds ts (aPass ts [1,2] (i+1))=true∨(0<([]:List Prog).length∧aPass ts [1,2] (i+1)=i+1)):=by simp
  by_cases he:aEnds ts (aPass ts [1,2] (i+1))=true∨(0<([]:List Prog).length∧aPass ts [1,2] (i+1)=i+1)
  ·rw [if_pos he] at h3
   rw [if_pos (e2.2 he)]
   exact h3
  ·rw [if_neg he] at h3
   rw [if_neg fun h=>he (e2.1 h)]
   exact h3
end
theorem ParE.of {vs:List ATok} {e:ATok} (he:e.kind=0) (hv:∀ v∈vs,v.kind≠0) {F b0 d0 j:Nat} {a:Prog} (h:aList F (vs++[e]) b0 d0 0=some (.ok (a,j))) (hj:aIs (vs++[e]) j [0]=true) (d:Nat) {C:ATok} {R:List ATok} (hC:C.kind=0∨C.kind=13) (hE:endsS (C :: R)=true) :
  ParE (xList d) (vs.map stripT++⟨1,0,[]⟩ :: C :: R) a (C :: R):=by
 refine ⟨F,fun f hf ts b i hs=>?_⟩
 have hlen:=hs.len
 rw [List.length_append,List.length_map,List.length_cons,List.length_cons] at hlen
 have at_k:∀ k,k<vs.length→stripT (akAt ts (i+k))=stripT (akAt (vs++[e]) k):=by
  intro k hk
  have h1:=congrArg (fun l:List ATok=>l[k]?) hs.2
  rw [List.getElem?_map,List.getElem?_drop,List.getElem?_append_left (by rw [List.length_map]; exact hk),List.getElem?_map,List.getElem?_eq_getElem (by omega),List.getElem?_eq_getElem hk] at h1
  simp only [Option.map_some,Option.some.injEq] at h1
  rw [ak_get (show i+k<ts.length by omega),ak_get (show k<(vs++[e]).length by simp; omega),h1,List.getElem_append_left hk]
 have hs1:Suf ts (i+vs.length) (⟨1,0,[]⟩ :: C :: R):=by
  refine ⟨by simp,?_⟩
  rw [← List.drop_drop,List.map_drop,hs.2,show vs.length=(vs.map stripT).length by simp,List.drop_left]
 obtain ⟨r1,r2,r3⟩:=hs1.tail (by simp)
 have hk1:(akAt ts (i+vs.length)).kind=1:=by rw [← strip_kind,← r1]
 have hk2:(akAt ts (i+vs.length+1)).kind=C.kind:=by rw [← strip_kind,← r3.head]
 have hel:akAt (vs++[e]) vs.length=e:=by unfold akAt; simp [List.getD_eq_getElem?_getD]
 have E:Ext (vs++[e]) ts i vs.length 1:=by
  refine ⟨by simp,by rw [hel]; exact he,fun k hk=>at_k k hk,r3.lt,.inr hk1,by rw [hk2]; exact hC,?_,?_⟩
  ·intro ks hks g hg
   obtain ⟨g,rfl⟩:∃ q,g=q+1:=⟨g - 1,by omega⟩
   have h0:aIs ts (i+vs.length) ks=true:=by
    unfold aIs
    rw [hk1]
    rcases hks with rfl | rfl <;> rfl
   have h1:aIs ts (i+vs.length+1) ks=false:=by
    unfold aIs
    rw [hk2]
    rcases hks with rfl | rfl <;> rcases hC with h | h <;> rw [h] <;> rfl
   rw [aPassP,if_pos h0,r2]
   cases g with
   | zero=>rfl
   | succ g=>rw [aPassP,h1,if_neg (by simp)]
  ·rw [r3.ends]
   exact hE
 have hm:=LeP.le (fn:=fun f=>aList f (vs++[e]) b0 d0 0) (fun f=>(monoA f).list (vs++[e]) b0 d0 0) hf _ h
 rcases (simA f).list _ _ _ _ _ E b0 b d0 d 0 i (J1.j ⟨Nat.zero_le _,rfl⟩) a j hm with ⟨j',e1,e2⟩ | ⟨p,e1⟩
 ·refine .inl ⟨j',e1,?_⟩
  rcases e2 with ⟨e3,-⟩ | ⟨-,rfl⟩
  ·exfalso
   have:=(aIs_iff _ _ _).1 hj
   rw [ak_get (show j<(vs++[e]).length by simp; omega),List.getElem_append_left e3] at this
   simp at this
   exact hv _ (List.getElem_mem _) this
  ·exact r3
 ·exact .inr ⟨p,e1⟩
theorem parseA_ofE {S:List UInt8} {T:List ATok} {l:Prog} (hx:Lx S T) (hp:ParE (xList 0) T l [⟨0,0,[]⟩]) (hS:S.length≤8192) (hc:checkP l=none∨∃ p,checkP l=some (102,p)):parseA S = .ok l∨∃ p,parseA S = .error (102,some p):=by
 obtain ⟨us,h1,h2⟩:=hx.lex
 obtain ⟨f0,hp⟩:=hp
 have g:=lexA_good S hS us h1
 have hwt:=g.wt
 rw [← remA_zero] at hwt
 have hn:=(nnAllA (36 * S.length+23)).list g 0 0 0 g.pos (by omega)
 have hT:Suf us 0 T:=⟨by rintro rfl; have:=g.pos; rw [List.map_eq_nil_iff] at h2; rw [h2] at this; simp at this,h2⟩
 have hm:=LeP.le (fn:=fun f=>aList f us 0 0 0) (fun f=>(monoA f).list us 0 0 0) (show 36 * S.length+23≤f0+(36 * S.length+23) by omega)
 unfold parseA
 rw [h1]
 dsimp only
 cases hx:aList (36 * S.length+23) us 0 0 0 with
 | none=>exact absurd hx hn
 | some r =>
  have h3:aList (f0+(36 * S.length+23)) us 0 0 0=some r:=hm r hx
  rcases hp (f0+(36 * S.length+23)) (by omega) us 0 0 hT with ⟨j,q1,q2⟩ | ⟨p,q1⟩
  ·rw [show aList (f0+(36 * S.length+23)) us 0 0 0=_ from q1] at h3
   cases h3
   dsimp only
   rw [q2.is,if_neg (by decide)]
   rcases hc with hc | ⟨p,hc⟩
   ·rw [hc]
    exact .inl rfl
   ·rw [hc]
    exact .inr ⟨_,rfl⟩
  ·rw [show aList (f0+(36 * S.length+23)) us 0 0 0=_ from q1] at h3
   cases h3
   exact .inr ⟨_,rfl⟩
end Go.Proofs.YtepebnblbheegaaGreatDoor
