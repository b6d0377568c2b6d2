/- The document's parser of dialect B: settings ahead of words, words and turns, plainly. -/
import Derived.Test.YtbplbehhlbkklaaGreatDoorGZP
import Derived.Test.YtbplbehhlbkklaaGreatDoorGZD
namespace Go.Proofs.YtbplbehhlbkklaaGreatDoor
open Go Go.RowKit
def setAt (ts:List BTok) (k:Nat):Bool:=isK ts k [18]&&(nameB (tkAt ts k).text&&(!keyB (tkAt ts k).text&&decide ((tkAt ts (skP ts k)).kind=16)))
theorem setAt_iff {ts:List BTok}{k:Nat}:setAt ts k=true ↔ (isK ts k [18]=true∧(tkAt ts (skP ts k)).kind=16∧nameB (tkAt ts k).text=true∧keyB (tkAt ts k).text=false):=by
 unfold setAt;simp only[Bool.and_eq_true,Bool.not_eq_true',decide_eq_true_eq];exact⟨fun h=>⟨h.1,h.2.2.2,h.2.1,h.2.2.1⟩,fun h=>⟨h.1,h.2.2.1,h.2.2.2,h.2.1⟩⟩
def SetsRes (ts:List BTok) (f0 d:Nat) (K:List (List UInt8×Prog)→Nat→PRes Prog) (X:PRes Prog) (k:Nat) (f:Option (Nat×Nat)) (S:List (List UInt8×Prog)):Prop :=
 match f with | some x=>X=some (.error x) | none=>∃ fk,fk≤f0∧(pSets ts fk d k S).go K=X
def SetsEnd (K:List (List UInt8×Prog)→Nat→PRes Prog) (X:PRes Prog) (k:Nat) (f:Option (Nat×Nat)) (S:List (List UInt8×Prog)):Prop :=
 match f with | some x=>X=some (.error x) | none=>K S k=X
structure SetsAt (ts:List BTok) (f0 d i0:Nat) (K:List (List UInt8×Prog)→Nat→PRes Prog) (X:PRes Prog) (k:Nat) (f:Option (Nat×Nat)) (S:List (List UInt8×Prog)):Prop where
 le:i0≤k
 lt:k<ts.length
 size:f=none→setsLen S≤6 * (k - i0)
 trees:∀ x∈S,Tree x.2
 num:S.length≤k - i0
 zero:S.length=0→k=i0
 res:SetsRes ts f0 d K X k f S
theorem SetsAt.start {ts:List BTok}{f0 d i0:Nat}{K:List (List UInt8×Prog)→Nat→PRes Prog}(hi:i0<ts.length):SetsAt ts f0 d i0 K ((pSets ts f0 d i0 []).go K) i0 none [] :=
 ⟨Nat.le_refl _,hi,fun _=>Nat.zero_le _,(fun _ h=>nomatch h),Nat.zero_le _,fun _=>rfl,f0,Nat.le_refl _,rfl⟩
theorem SetsAt.done {ts:List BTok}{f0 d i0 k:Nat}{K:List (List UInt8×Prog)→Nat→PRes Prog}{X:PRes Prog}{f:Option (Nat×Nat)}{S:List (List UInt8×Prog)}(h:SetsAt ts f0 d i0 K X k f S)(hX:X≠none)(hn:(f.isNone&&setAt ts k)=false):SetsEnd K X k f S:=by
 have hr:=h.res;clear h
 cases f with
 | some x=>exact hr
 | none =>
  obtain⟨fk,h1,h2⟩:=hr
  cases fk with
  | zero =>
   rw[pSets] at h2;exact absurd h2.symm hX
  | succ fk =>
   rw[pSets,if_neg (fun h=>by rw[setAt_iff.2 h] at hn;cases hn)] at h2
   exact h2
theorem SetsAt.more {cap:Nat}{ts:List BTok}(F:ZFix cap ts){f0 d i0 sl k:Nat}{K:List (List UInt8×Prog)→Nat→PRes Prog}{X:PRes Prog}{f:Option (Nat×Nat)}{S:List (List UInt8×Prog)}(h:SetsAt ts f0 d i0 K X k f S)(hX:X≠none)(hn:(f.isNone&&setAt ts k)=true) :
  f=none∧skP ts k=k+1∧k+1<ts.length∧skP ts (k+1)=k+2∧k+2<ts.length∧∃ fk,fk<f0∧pWord ts fk d (k+2) 0≠none ∧
  ∀ k' f' l,Tree l→k+2≤k'→k'<ts.length→ZRelW (k+2) none sl (pWord ts fk d (k+2) 0) k' f' l→SetsAt ts f0 d i0 K X k' f' (S++[((tkAt ts k).text,l)]):=by
 have hr:=h.res;have hs:=h.size;have hle0:=h.le;have hlt0:=h.lt;have hnum:=h.num;have htrs:=h.trees;clear h
 cases f with
 | some x=>cases hn
 | none =>
  have hn:setAt ts k=true:=by simpa using hn
  have hc:=setAt_iff.1 hn;obtain⟨hk1,hk2,-,-⟩:=id hc;obtain⟨e1,l1⟩:=skP_eq F.T.fix.good hlt0 (by rw[isK_one,decide_eq_true_eq] at hk1;omega)
  rw[e1] at hk2;obtain⟨e2,l2⟩:=skP_eq F.T.fix.good l1 (by omega)
  refine ⟨rfl,e1,l1,e2,l2,?_⟩;obtain⟨fk,h1,h2⟩:=hr
  cases fk with
  | zero =>
   rw[pSets] at h2;exact absurd h2.symm hX
  | succ fk =>
   rw[pSets,if_pos hc,e1,e2] at h2;have hne:pWord ts fk d (k+2) 0≠none:=fun e=>hX (by rw[← h2,e];rfl)
   refine ⟨fk,by omega,hne,fun k' f' l hT hle hlt hR=>?_⟩
   have hs:=hs rfl;have htr:∀ x∈S++[((tkAt ts k).text,l)],Tree x.2:=snoc_any htrs hT
   cases hq:pWord ts fk d (k+2) 0 with
   | none=>exact absurd hq hne
   | some r =>
    rw[hq] at hR h2
    cases r with
    | error x =>
     obtain⟨rfl,hl⟩:=hR;refine ⟨by omega,hlt,(fun e=>by cases e),htr,?_,fun h=>?_,h2.symm⟩
     ·rw[List.length_append];simp only[List.length_cons,List.length_nil];omega
     ·simp at h
    | ok q =>
     obtain⟨a,j⟩:=q;obtain⟨rfl,rfl,rfl⟩:=hR;have hp:=((postAll F.T.fix.good fk).word d (k+2) 0 l2).1 l k' hq;refine ⟨by omega,hlt,fun _=>?_,htr,?_,fun h=>?_,fk,by omega,h2⟩
     ·rw[setsLen_snoc];dsimp only;omega
     ·rw[List.length_append];simp only[List.length_cons,List.length_nil];omega
     ·simp at h
def ItemsRes (ts:List BTok) (f0 d:Nat) (C:List Prog×List (Nat×Prog)→Nat→PRes Prog) (X:PRes Prog) (k:Nat) (f:Option (Nat×Nat)) (W:List Prog) (L:List (Nat×Prog)):Prop :=
 match f with | some x=>X=some (.error x) | none=>∃ fk,fk≤f0∧(pItems ts fk d k W L).go C=X
def ItemsEnd (C:List Prog×List (Nat×Prog)→Nat→PRes Prog) (X:PRes Prog) (k:Nat) (f:Option (Nat×Nat)) (W:List Prog) (L:List (Nat×Prog)):Prop :=
 match f with | some x=>X=some (.error x) | none=>C (W,L) k=X
structure ItemsAt (ts:List BTok) (f0 d i0:Nat) (C:List Prog×List (Nat×Prog)→Nat→PRes Prog) (X:PRes Prog) (k:Nat) (f:Option (Nat×Nat)) (W:List Prog) (L:List (Nat×Prog)):Prop where
 le:i0≤k
 lt:k<ts.length
 size:f=none→W.flatten.length+turnsLen L≤6 * (k - i0)
 trees:∀ x∈W,Tree x
 treesT:∀ t∈L,Tree t.2
 kinds:KindsT L
 num:W.length+L.length≤k - i0+(if f=none then 0 else 1)
 zero:f=none→W.length+L.length=0→k=i0
 res:ItemsRes ts f0 d C X k f W L
def wordAt (ts:List BTok) (k:Nat):Bool:=itemP ts k&&!keyAt ts k [101,108,115,101]
theorem item_turning {ts:List BTok}{k:Nat}(h:itemP ts k=true):turningP ts k=false:=by
 rw[Bool.eq_false_iff];intro h2;have h3:=turning_kind h2;have h4:=(isK_iff _ _ _).1 h;simp at h4
 omega
theorem ItemsAt.start {ts:List BTok}{f0 d i0:Nat}{C:List Prog×List (Nat×Prog)→Nat→PRes Prog}{X:PRes Prog}{f:Option (Nat×Nat)}(hi:i0<ts.length)(h:match f with | some x=>X=some (.error x) | none=>(pItems ts f0 d i0 [] []).go C=X):ItemsAt ts f0 d i0 C X i0 f [] [] :=
 ⟨Nat.le_refl _,hi,fun _=>Nat.zero_le _,(fun _ h=>nomatch h),(fun _ h=>nomatch h),(fun _ h=>nomatch h),Nat.zero_le _,fun _ _=>rfl,by
  cases f with
  | some x=>exact h
  | none=>exact⟨f0,Nat.le_refl _,h⟩⟩
theorem ItemsAt.done {ts:List BTok}{f0 d i0 k:Nat}{C:List Prog×List (Nat×Prog)→Nat→PRes Prog}{X:PRes Prog}{f:Option (Nat×Nat)}{W:List Prog}{L:List (Nat×Prog)}(h:ItemsAt ts f0 d i0 C X k f W L)(hX:X≠none)(hn:(f.isNone&&wordAt ts k)=false)(hn2:(f.isNone&&turningP ts k)=false):ItemsEnd C X k f W L:=by
 have hr:=h.res;clear h
 cases f with
 | some x=>exact hr
 | none =>
  obtain⟨fk,h1,h2⟩:=hr
  cases fk with
  | zero =>
   rw[pItems] at h2;exact absurd h2.symm hX
  | succ fk =>
   have hw:itemP ts k=false∨keyAt ts k [101,108,115,101]=true:=by
    unfold wordAt at hn
    cases h9:itemP ts k with
    | false=>exact .inl rfl
    | true =>
     rw[h9] at hn;exact .inr (by simpa using hn)
   rw[pItems,if_neg (by simpa using hn2),if_pos hw] at h2
   exact h2
theorem ItemsAt.word {cap:Nat}{ts:List BTok}(F:ZFix cap ts){f0 d i0 sl k:Nat}{C:List Prog×List (Nat×Prog)→Nat→PRes Prog}{X:PRes Prog}{f:Option (Nat×Nat)}{W:List Prog}{L:List (Nat×Prog)}(h:ItemsAt ts f0 d i0 C X k f W L)(hX:X≠none)(hn:(f.isNone&&wordAt ts k)=true) :
  f=none∧∃ fk,fk<f0∧pWord ts fk d k 0≠none ∧
  ∀ k' f' l,Tree l→k≤k'→k'<ts.length→ZRelW k none sl (pWord ts fk d k 0) k' f' l→ItemsAt ts f0 d i0 C X k' f' (W++[l]) L∧(f'=none→k<k'):=by
 have hr:=h.res;have hs:=h.size;have hle0:=h.le;have hlt0:=h.lt;have hnum:=h.num;have htrs:=h.trees;have htrs2:=h.treesT;have hkds:=h.kinds;clear h
 cases f with
 | some x=>cases hn
 | none =>
  have hn:wordAt ts k=true:=by simpa using hn
  refine ⟨rfl,?_⟩;unfold wordAt at hn;rw[Bool.and_eq_true,Bool.not_eq_true'] at hn;obtain⟨fk,h1,h2⟩:=hr
  cases fk with
  | zero =>
   rw[pItems] at h2;exact absurd h2.symm hX
  | succ fk =>
   rw[pItems,item_turning hn.1,if_neg (by simp),hn.1,hn.2,if_neg (by simp)] at h2
   have hne:pWord ts fk d k 0≠none:=fun e=>hX (by rw[← h2,e];rfl)
   refine ⟨fk,by omega,hne,fun k' f' l hT hle hlt hR=>?_⟩
   have hs:=hs rfl;rw[if_pos rfl] at hnum;have htr:∀ x∈W++[l],Tree x:=snoc_any htrs hT
   cases hq:pWord ts fk d k 0 with
   | none=>exact absurd hq hne
   | some r =>
    rw[hq] at hR h2
    cases r with
    | error x =>
     obtain⟨rfl,hl⟩:=hR;refine ⟨⟨by omega,hlt,(fun e=>by cases e),htr,htrs2,hkds,?_,(fun e=>by cases e),h2.symm⟩,fun e=>by cases e⟩
     rw[if_neg (by simp),List.length_append]
     simp only[List.length_cons,List.length_nil];omega
    | ok q =>
     obtain⟨a,j⟩:=q;obtain⟨rfl,rfl,rfl⟩:=hR;obtain⟨y1,y2,y3,y4⟩:=word_facts F.T (by omega) hlt0 hq
     refine ⟨⟨by omega,hlt,fun _=>?_,htr,htrs2,hkds,?_,fun _ h=>?_,fk,by omega,h2⟩,fun _=>by omega⟩
     ·rw[List.flatten_append,List.length_append,List.flatten_cons,List.flatten_nil,List.append_nil];omega
     ·rw[if_pos rfl,List.length_append];simp only[List.length_cons,List.length_nil];omega
     ·simp at h
theorem ItemsAt.turn {cap:Nat}{ts:List BTok}(F:ZFix cap ts){f0 d i0 sl k:Nat}{C:List Prog×List (Nat×Prog)→Nat→PRes Prog}{X:PRes Prog}{f:Option (Nat×Nat)}{W:List Prog}{L:List (Nat×Prog)}(h:ItemsAt ts f0 d i0 C X k f W L)(hX:X≠none)(hn:(f.isNone&&turningP ts k)=true) :
  f=none∧turningP ts k=true∧skP ts k=k+1∧∃ fk,fk<f0∧pWord ts fk d (skP ts k) 0≠none ∧
  ∀ k' f' l,Tree l→skP ts k≤k'→k'<ts.length→ZRelW (skP ts k) none sl (pWord ts fk d (skP ts k) 0) k' f' l→ItemsAt ts f0 d i0 C X k' f' W (L++[((tkAt ts k).kind,l)]):=by
 have hr:=h.res;have hs:=h.size;have hle0:=h.le;have hlt0:=h.lt;have hnum:=h.num;have htrs:=h.trees;have htrs2:=h.treesT;have hkds:=h.kinds;clear h
 cases f with
 | some x=>cases hn
 | none =>
  have hn:turningP ts k=true:=by simpa using hn
  have hkd:=turning_kind hn;obtain⟨hsk,hk1⟩:=skP_eq F.T.fix.good hlt0 (by omega)
  refine ⟨rfl,hn,hsk,?_⟩;obtain⟨fk,h1,h2⟩:=hr
  cases fk with
  | zero =>
   rw[pItems] at h2;exact absurd h2.symm hX
  | succ fk =>
   rw[pItems,if_pos hn] at h2;have hne:pWord ts fk d (skP ts k) 0≠none:=fun e=>hX (by rw[← h2,e];rfl)
   refine ⟨fk,by omega,hne,fun k' f' l hT hle hlt hR=>?_⟩
   have hs:=hs rfl;rw[if_pos rfl] at hnum;rw[hsk] at hle hR hne h2;have htr:∀ x∈L++[((tkAt ts k).kind,l)],Tree x.2:=snoc_any htrs2 hT;have hkk:KindsT (L++[((tkAt ts k).kind,l)]):=snoc_any hkds hkd
   cases hq:pWord ts fk d (k+1) 0 with
   | none=>exact absurd hq hne
   | some r =>
    rw[hq] at hR h2
    cases r with
    | error x =>
     obtain⟨rfl,hl⟩:=hR;refine ⟨by omega,hlt,(fun e=>by cases e),htrs,htr,hkk,?_,(fun e=>by cases e),h2.symm⟩
     rw[if_neg (by simp),List.length_append]
     simp only[List.length_cons,List.length_nil];omega
    | ok q =>
     obtain⟨a,j⟩:=q;obtain⟨rfl,rfl,rfl⟩:=hR;have hp:=((postAll F.T.fix.good fk).word d (k+1) 0 hk1).1 l k' hq;refine ⟨by omega,hlt,fun _=>?_,htrs,htr,hkk,?_,fun _ h=>?_,fk,by omega,h2⟩
     ·rw[turnsLen_snoc];dsimp only;omega
     ·rw[if_pos rfl,List.length_append];simp only[List.length_cons,List.length_nil];omega
     ·simp at h
theorem tree_locals {c:Prog}(hc:Tree c):∀ S:List (List UInt8×Prog),(∀ x∈S,Tree x.2)→Tree (localsP S c)
 | [],_=>hc
 | x :: S,h=>by
  have h1:=tree_locals hc S fun y hy=>h y (by simp [hy])
  exact Tree.two (h x (by simp)) h1
theorem tree_seqZ {L:List Prog}(h:∀ l∈L,Tree l):Tree (seqP L):=by
 unfold seqP;split
 ·exact Tree.leaf _ _ _
 ·exact h _ (by simp)
 ·exact .node _ _ _ _ h
theorem tree_made {S:List (List UInt8×Prog)}{W:List Prog}(h1:∀ x∈S,Tree x.2)(h2:∀ l∈W,Tree l):Tree (madeP S W):=by
 unfold madeP;split
 ·refine tree_seqZ fun l hl=>?_
  obtain⟨x,hx,rfl⟩:=List.mem_map.1 hl;exact Tree.one (h1 x hx)
 ·exact tree_locals (.node _ _ _ _ h2) S h1
theorem locals_step {S:List (List UInt8×Prog)}{c:Prog}{k:Nat}{x:List UInt8×Prog}(h:S[k]?=some x):localsP (S.drop k) c=newP 35 0 x.1 [x.2,localsP (S.drop (k+1)) c]:=by
 obtain⟨hk,e⟩:=List.getElem?_eq_some_iff.1 h;rw[List.drop_eq_getElem_cons hk,e];rfl
theorem locals_size (S:List (List UInt8×Prog))(c:Prog):(localsP S c).length=c.length+setsLen S:=by
 induction S with
 | nil=>rfl
 | cons x S ih =>
  unfold localsP at ih ⊢;rw[List.foldr_cons,(len_two _ _ _ _ _).1,ih];simp only[setsLen,List.map_cons,List.sum_cons];omega
theorem setsLen_drop (S:List (List UInt8×Prog))(k:Nat):setsLen (S.drop k)≤setsLen S:=by
 have h:setsLen S=setsLen (S.take k)+setsLen (S.drop k):=by
  unfold setsLen;rw[← List.sum_append,← List.map_append,List.take_append_drop]
 omega
end Go.Proofs.YtbplbehhlbkklaaGreatDoor
