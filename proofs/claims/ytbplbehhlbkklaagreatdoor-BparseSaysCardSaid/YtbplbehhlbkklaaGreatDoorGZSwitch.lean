/- The document's parser of dialect B: switch, plain. -/
import Derived.Test.YtbplbehhlbkklaaGreatDoorGZAcc
namespace Go.Proofs.YtbplbehhlbkklaaGreatDoor
open Go Go.RowKit
def caseK (ts:List BTok) (q d:Nat) (L:List Prog) (k:Nat):PRes Prog:=takeP ts k [9] fun e=>pTurns ts q d e (newP 30 0 [] L) []
def partK (ts:List BTok) (p q d:Nat) (L:List Prog) (a:Prog) (b:Nat):PRes Prog:=(pList ts p d b).go fun c e=>(pCases ts p d e (L++[a,c])).go (caseK ts q d)
theorem ZAcc.anew {ts:List BTok}{i s i1:Nat}(s':Nat){X R:PRes Prog}{L:List Prog}(h:ZAcc ts i X s i1 none L R):ZAcc ts i X s' i1 none L R :=
 ⟨h.le,h.lt,h.trees,by have:=h.size;rw[if_pos rfl] at this ⊢;exact this,h.ne,h.res⟩
def CasesAt (ts:List BTok) (q d i:Nat) (Y:PRes Prog) (k:Nat) (f1:Option (Nat×Nat)) (L:List Prog):Prop :=
 i+1≤k∧L.length≤2 * (k - i)∧∃ fk,fk≤q∧ZAcc ts i Y (zS d - 9) k f1 L ((pCases ts fk d k L).go (caseK ts q d))
theorem CasesAt.done {ts:List BTok}{q d i k:Nat}{Y:PRes Prog}{f1:Option (Nat×Nat)}{L:List Prog}(h:CasesAt ts q d i Y k f1 L)(hn:(f1.isNone&&keyAt ts k [99,97,115,101])=false):ZAcc ts i Y (zS d - 9) k f1 L (caseK ts q d L k):=by
 obtain⟨-,-,fk,h1,h2⟩:=h;refine h2.same fun e=>?_
 subst e
 cases fk with
 | zero =>
  exact absurd (show Y=none from by rw[← show (pCases ts 0 d k L).go (caseK ts q d)=Y from h2.res,pCases];rfl) h2.ne
 | succ p =>
  rw[pCases,if_neg (by simpa using hn)]
  rfl
theorem CasesAt.more {cap:Nat}{ts:List BTok}(F:ZFix cap ts){q d i k:Nat}{Y:PRes Prog}{f1:Option (Nat×Nat)}{L:List Prog}(h:CasesAt ts q d i Y k f1 L)(hn:(f1.isNone&&keyAt ts k [99,97,115,101])=true):f1=none∧skP ts k=k+1∧k+1<ts.length∧∃ p,p<q ∧
  ZAcc ts i Y 0 (k+1) none L (((pWords ts p d (k+1) 1 []).go fun l j=>pOk (catP l) j).go fun a j=>takeP ts j [1,2] fun b=>partK ts p q d L a b):=by
 obtain⟨-,-,fk,h1,h2⟩:=h
 cases f1 with
 | some x=>cases hn
 | none =>
  have hn:keyAt ts k [99,97,115,101]=true:=by simpa using hn
  have hk:(tkAt ts k).kind≠0:=by
   unfold keyAt at hn;rw[Bool.and_eq_true,isK_one,decide_eq_true_eq] at hn;omega
  obtain⟨s1,s2⟩:=skP_eq F.T.fix.good h2.lt hk;refine ⟨rfl,s1,s2,?_⟩
  cases fk with
  | zero =>
   exact absurd (show Y=none from by rw[← show (pCases ts 0 d k L).go (caseK ts q d)=Y from h2.res,pCases];rfl) h2.ne
  | succ p =>
   refine ⟨p,by omega,?_⟩
   have h3:=(h2.anew 0).next;rw[s1] at h3;refine h3.same fun _=>?_
   rw[pCases,if_pos hn,s1,go_go,go_go];congr 1
   funext ws j
   show (takeP ts j [1,2] _).go _=takeP ts j [1,2] fun b=>partK ts p q d L (catP ws) b
   unfold takeP partK;split
   ·rw[go_go]
   ·rfl
theorem ZAcc.line {ts:List BTok}{i s i1:Nat}{X:PRes Prog}{R:Nat→PRes Prog}{f1:Option (Nat×Nat)}{L:List Prog}(h:ZAcc ts i X s i1 f1 L (takeP ts i1 [1,2] R)):((f1.isNone&&isK ts i1 [1,2])=true→ZAcc ts i X s (skP ts i1) f1 L (R (skP ts i1)))∧((f1.isNone&&isK ts i1 [1,2])=false→ZAcc ts i X s (skP ts i1) (f1.or (some (formF ts i1))) L (R (skP ts i1))):=by
 constructor
 ·intro hk;refine (h.same fun e=>?_).next
  subst e;unfold takeP;rw[if_pos (by simpa using hk)]
 ·intro hk;refine (h.fail (R':=R (skP ts i1)) fun e=>?_).next
  subst e;unfold takeP;rw[if_neg (by simpa using hk)]
theorem list_post {cap:Nat}{ts:List BTok}(F:ZFix cap ts){f d i:Nat}(hi:i<ts.length):∀ a j,pList ts f d i=some (.ok (a,j))→i≤j∧a.length≤6 * (j - i)+1:=fun a j h=>by
 have:=((postAll F.T.fix.good f).list d i hi).1 a j h
 omega
theorem case_words {cap:Nat}{ts:List BTok}(F:ZFix cap ts){q p d i k i2 s0:Nat}{Y R0:PRes Prog}{L:List Prog}{f2:Option (Nat×Nat)}{a:Prog}(hd:d≤30)(hk1:k+1<ts.length)
  (h0:ZAcc ts i Y s0 k none L R0)
  (h:ZAcc ts i Y 0 (k+1) none L (((pWords ts p d (k+1) 1 []).go fun l j=>pOk (catP l) j).go fun a j=>takeP ts j [1,2] fun b=>partK ts p q d L a b)) (hR:ZRelW (k+1) none (zS d - 10) ((pWords ts p d (k+1) 1 []).go fun l j=>pOk (catP l) j) i2 f2 a) (hT:Tree a) (hle:k+1≤i2) (hlt:i2<ts.length):ZAcc ts i Y (zS d - 10) i2 f2 (L++[a]) (takeP ts i2 [1,2] fun b=>partK ts p q d L a b):=by
 have hs:=h0.size;have hl:=h0.le;rw[if_pos rfl] at hs;refine h.callW (zS d - 10) hR hT hle hlt (fun a j _ e=>?_) (by unfold zS;omega) (Nat.le_refl _)
 have:=cat_post F hk1 a j e
 omega
theorem case_list {cap:Nat}{ts:List BTok}(F:ZFix cap ts){q p d i k i1 i2:Nat}{Y:PRes Prog}{L:List Prog}{f1 f2:Option (Nat×Nat)}{a c:Prog}(hd:d≤30)(hq:p≤q)(hk:i+1≤k)(hnum:L.length≤2 * (k - i))(hle1:k+1≤i1)(hsz:f1=none→(L++[a]).flatten.length+1≤6 * (i1 - i))
  (h:ZAcc ts i Y (zS d - 10) i1 f1 (L++[a]) (partK ts p q d L a i1)) (hR:ZRelW i1 f1 (zS d - 14) (pList ts p d i1) i2 f2 c) (hT:Tree c) (hle:i1≤i2) (hlt:i2<ts.length):CasesAt ts q d i Y i2 f2 (L++[a,c]):=by
 refine ⟨by omega,by simp;omega,p,hq,?_⟩
 have h2:=h.callW (zS d - 9) hR hT hle hlt (fun x j e1 e=>by
  have:=list_post F h.lt x j e
  have:=hsz e1
  omega) (by unfold zS;omega) (by unfold zS;omega)
 rw[List.append_assoc] at h2;exact h2
theorem ZAcc.turns {ts:List BTok}{i s i1 i2 q d:Nat}{Y:PRes Prog}{f1 f2:Option (Nat×Nat)}{L:List Prog}{l:Prog}(h:ZAcc ts i Y s i1 f1 L (pTurns ts q d i1 (newP 30 0 [] L) []))(hd:d≤30)(hs:s+1≤zS d)(hle:i1≤i2)(hl:l.length≤(newP 30 0 [] L).length+6 * (i2 - i1)+(zS d - 10))(h2:TEnd (pTurns ts q d i1 (newP 30 0 [] L) []) f1 (newP 30 0 [] L) f2 l i2):ZRelW i none (zS d) Y i2 f2 l:=by
 obtain⟨a1,a2,a3,a4,a5,a6⟩:=h;have e1:=len_newP 30 0 [] L;have e2:60≤zS d:=by unfold zS;omega
 cases f1 with
 | some x =>
  obtain⟨rfl,rfl⟩:=h2;rw[if_neg (by simp)] at a4
  rw[show Y=some (.error x) from a6]
  exact⟨rfl,by omega⟩
 | none =>
  rw[if_pos rfl] at a4;rw[← show pTurns ts q d i1 (newP 30 0 [] L) []=Y from a6]
  cases f2 with
  | some x =>
   rw[show pTurns ts q d i1 (newP 30 0 [] L) []=some (.error x) from h2]
   exact⟨rfl,by omega⟩
  | none =>
   rw[show pTurns ts q d i1 (newP 30 0 [] L) []=some (.ok (l,i2)) from h2]
   exact⟨rfl,rfl,rfl⟩
def chooseK (ts:List BTok) (q d a:Nat):PRes Prog:=(pWord ts q d a 0).go fun w j=>takeP ts j [7] fun b=>takeP ts (passT ts [1] b) [8] fun c=>(pCases ts q d (passT ts [1,2] c) [newP 9 0 [] [w]]).go (caseK ts q d)
theorem rel_none {i i' s:Nat}{f:Option (Nat×Nat)}{Y:PRes Prog}{l:Prog}(h:ZRelW i f s Y i' none l):Y=some (.ok (l,i')):=by
 cases f with
 | some x=>exact absurd h.1 (by simp)
 | none =>
  cases hq:Y with
  | none=>rw[hq] at h;exact h.elim
  | some r =>
   rw[hq] at h
   cases r with
   | error x=>exact absurd h.1 (by simp)
   | ok p =>
    obtain⟨a,j⟩:=p;obtain⟨-,rfl,rfl⟩:=h;rfl
theorem ZAcc.mono {ts:List BTok}{i s s' i1:Nat}{X R:PRes Prog}{f1:Option (Nat×Nat)}{L:List Prog}(h:ZAcc ts i X s i1 f1 L R)(hs:s≤s'):ZAcc ts i X s' i1 f1 L R:=by
 obtain⟨h1,h2,h3,h4,h5,h6⟩:=h;exact⟨h1,h2,h3,by split at h4 <;> simp_all <;> omega,h5,h6⟩
theorem ZAcc.flat {ts:List BTok}{i s i1:Nat}{X R:PRes Prog}{f1:Option (Nat×Nat)}{a:Prog}(h:ZAcc ts i X s i1 f1 [a] R)(hn:f1=none→a.length+1≤6 * (i1 - i)):ZAcc ts i X (s+1) i1 f1 [newP 9 0 [] [a]] R:=by
 obtain⟨h1,h2,h3,h4,h5,h6⟩:=h
 have e1:[newP 9 0 [] [a]].flatten.length=a.length+1:=by
  rw[List.flatten_cons,List.length_append,len_newP];simp
 have e2:[a].flatten.length=a.length:=by simp
 refine ⟨h1,h2,(fun l hl=>?_),?_,h5,h6⟩
 ·rw[List.mem_singleton] at hl;subst hl;exact Tree.one (h3 a (by simp))
 ·rw[e1];rw[e2] at h4
  cases f1 with
  | none =>
   have:=hn rfl
   rw[if_pos rfl];omega
  | some x =>
   rw[if_neg (by simp)] at h4 ⊢
   omega
theorem ZAcc.lines {ts:List BTok}{i s i1:Nat}{X:PRes Prog}{R:Nat→PRes Prog}{f1:Option (Nat×Nat)}{L:List Prog}(ks:List Nat)(h:ZAcc ts i X s i1 f1 L (R (passT ts ks i1))):ZAcc ts i X s (linesI ts i1 f1 ks) f1 L (R (linesI ts i1 f1 ks)):=by
 have hp:=passT_le (ts:=ts) ks h.lt
 cases f1 with
 | some x =>
  exact h.same fun e=>by cases e
 | none=>exact h.fwd hp.1 hp.2
theorem lines_le {ts:List BTok}{i:Nat}(hi:i<ts.length)(f:Option (Nat×Nat))(ks:List Nat):i≤linesI ts i f ks:=by
 unfold linesI;split
 ·exact (passT_le ks hi).1
 ·exact Nat.le_refl _
end Go.Proofs.YtbplbehhlbkklaaGreatDoor
