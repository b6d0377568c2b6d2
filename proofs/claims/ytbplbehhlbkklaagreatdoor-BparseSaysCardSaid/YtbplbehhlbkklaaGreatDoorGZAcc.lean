/- The document's parser of dialect B: parts one behind the other, plain. -/
import Derived.Test.YtbplbehhlbkklaaGreatDoorGZList
import Derived.Test.YtbplbehhlbkklaaGreatDoorGZKey
import Derived.Test.YtbplbehhlbkklaaGreatDoorGZP
namespace Go.Proofs.YtbplbehhlbkklaaGreatDoor
open Go Go.RowKit
def AccRes (X:PRes Prog) (f1:Option (Nat×Nat)) (R:PRes Prog):Prop:=match f1 with | some x=>X=some (.error x) | none=>R=X
structure ZAcc (ts:List BTok) (i:Nat) (X:PRes Prog) (s i1:Nat) (f1:Option (Nat×Nat)) (L:List Prog) (R:PRes Prog):Prop where
 le:i≤i1
 lt:i1<ts.length
 trees:∀ l∈L,Tree l
 size:L.flatten.length≤6 * (i1 - i)+(if f1=none then 0 else s)
 ne:X≠none
 res:AccRes X f1 R
theorem ZAcc.start {ts:List BTok}{i s:Nat}{X:PRes Prog}(hi:i<ts.length)(hX:X≠none):ZAcc ts i X s i none [] X:=⟨Nat.le_refl _,hi,(fun _ h=>nomatch h),by simp,hX,rfl⟩
theorem ZAcc.same {ts:List BTok}{i s i1:Nat}{X R R':PRes Prog}{f1:Option (Nat×Nat)}{L:List Prog}(h:ZAcc ts i X s i1 f1 L R)(e:f1=none→R=R'):ZAcc ts i X s i1 f1 L R':=by
 obtain⟨h1,h2,h3,h4,h5,h6⟩:=h;refine ⟨h1,h2,h3,h4,h5,?_⟩
 cases f1 with
 | some x=>exact h6
 | none=>exact (e rfl).symm.trans h6
theorem ZAcc.next {ts:List BTok}{i s i1:Nat}{X R:PRes Prog}{f1:Option (Nat×Nat)}{L:List Prog}(h:ZAcc ts i X s i1 f1 L R):ZAcc ts i X s (skP ts i1) f1 L R:=by
 obtain⟨h1,h2,h3,h4,h5,h6⟩:=h;have:=skP_le (ts:=ts) h2
 unfold skP at this ⊢;exact⟨by omega,by omega,h3,by omega,h5,h6⟩
theorem ZAcc.fwd {ts:List BTok}{i s i1 i2:Nat}{X R:PRes Prog}{f1:Option (Nat×Nat)}{L:List Prog}(h:ZAcc ts i X s i1 f1 L R)(h1:i1≤i2)(h2:i2<ts.length):ZAcc ts i X s i2 f1 L R :=
 ⟨by have:=h.le;omega,h2,h.trees,by have:=h.size;have:=h.le;omega,h.ne,h.res⟩
theorem ZAcc.want {cap:Nat}{ts:List BTok}(F:ZFix cap ts){i s i1 k:Nat}{X:PRes Prog}{R:Nat→PRes Prog}{f1:Option (Nat×Nat)}{L:List Prog}(h:ZAcc ts i X s i1 f1 L (takeP ts i1 [k] R)):ZAcc ts i X s (wantI ts i1 f1 k) (wantF ts i1 f1 k) L (R (wantI ts i1 f1 k)):=by
 have hw:=wantI_le F h.lt f1 k;obtain⟨h1,h2,h3,h4,h5,h6⟩:=h
 cases f1 with
 | some x =>
  rw[(want_bad ts i1 k x).1];exact⟨by omega,hw.2,h3,by rw[if_neg (by simp)] at h4 ⊢;omega,h5,h6⟩
 | none =>
  rw[if_pos rfl] at h4
  cases hk:isK ts i1 [k] with
  | true =>
   rw[(want_yes hk).2] at hw;rw[(want_yes hk).1,(want_yes hk).2];exact⟨by omega,hw.2,h3,by rw[if_pos rfl];omega,h5,(take_yes hk).symm.trans h6⟩
  | false =>
   rw[(want_no hk).1,(want_no hk).2];exact⟨h1,h2,h3,by omega,h5,(show takeP ts i1 [k] R=X from h6).symm.trans (take_no hk)⟩
theorem ZAcc.ask {ts:List BTok}{i s i1:Nat}{X Y:PRes Prog}{R:Prog→Nat→PRes Prog}{f1:Option (Nat×Nat)}{L:List Prog}(h:ZAcc ts i X s i1 f1 L (Y.go R)):f1=none→Y≠none:=fun e=>by
 subst e;exact go_ne (show Y.go R≠none from by rw[show Y.go R=X from h.res];exact h.ne)
theorem ZAcc.callW {ts:List BTok}{i s s2 i1 i2:Nat}{X Y:PRes Prog}{R:Prog→Nat→PRes Prog}{f1 f2:Option (Nat×Nat)}{L:List Prog}{a:Prog}(s':Nat)(h:ZAcc ts i X s i1 f1 L (Y.go R))(hR:ZRelW i1 f1 s2 Y i2 f2 a)(hT:Tree a)(hle:i1≤i2)(hlt:i2<ts.length)(hp:∀ a j,f1=none→Y=some (.ok (a,j))→L.flatten.length+a.length≤6 * (j - i))(hs:s+1≤s')(hs2:s2≤s'):ZAcc ts i X s' i2 f2 (L++[a]) (R a i2):=by
 obtain⟨h1,h2,h3,h4,h5,h6⟩:=h;have e1:(L++[a]).flatten.length=L.flatten.length+a.length:=by rw[flat_snoc,List.length_append]
 have htr:∀ x∈L++[a],Tree x:=snoc_all h3 hT
 cases f1 with
 | some x =>
  obtain⟨rfl,hl⟩:=hR;rw[if_neg (by simp)] at h4
  exact⟨by omega,hlt,htr,by rw[e1,if_neg (by simp)];omega,h5,h6⟩
 | none =>
  rw[if_pos rfl] at h4
  cases hq:Y with
  | none=>rw[hq] at hR;exact hR.elim
  | some r =>
   rw[hq] at hR h6
   cases r with
   | error x =>
    obtain⟨rfl,hl⟩:=hR;exact⟨by omega,hlt,htr,by rw[e1,if_neg (by simp)];omega,h5,h6.symm⟩
   | ok p =>
    obtain⟨a',j⟩:=p;obtain⟨rfl,rfl,rfl⟩:=hR;have:=hp a i2 rfl hq
    exact⟨by omega,hlt,htr,by rw[e1,if_pos rfl];omega,h5,h6⟩
theorem ZAcc.call {ts:List BTok}{i s s2 i1 i2:Nat}{X Y:PRes Prog}{R:Prog→Nat→PRes Prog}{f1 f2:Option (Nat×Nat)}{L:List Prog}{a:Prog}(s':Nat)(h:ZAcc ts i X s i1 f1 L (Y.go R))(hR:ZRelW i1 f1 s2 Y i2 f2 a)(hT:Tree a)(hle:i1≤i2)(hlt:i2<ts.length)(hp:∀ a j,Y=some (.ok (a,j))→a.length≤6 * (j - i1))(hs:s+1≤s')(hs2:s2≤s'):ZAcc ts i X s' i2 f2 (L++[a]) (R a i2):=by
 have h4:=h.size;have h1:=h.le
 cases f1 with
 | some x=>exact h.callW s' hR hT hle hlt (fun a j e=>by cases e) hs hs2
 | none =>
  rw[if_pos rfl] at h4
  cases hq:Y with
  | none=>rw[hq] at hR;exact hR.elim
  | some r =>
   cases r with
   | error x=>exact h.callW s' hR hT hle hlt (fun a j _ e=>by rw[hq] at e;cases e) hs hs2
   | ok p =>
    obtain⟨a',j'⟩:=p;refine h.callW s' hR hT hle hlt (fun a j _ e=>?_) hs hs2
    have e2:j=i2:=by
     rw[e] at hR;exact hR.2.1.symm
    have:=hp a j e
    omega
theorem ZAcc.node {ts:List BTok}{i s i1:Nat}{X:PRes Prog}{f1:Option (Nat×Nat)}{L:List Prog}{kd n:Int}{t:List UInt8}{R:PRes Prog}(h:ZAcc ts i X s i1 f1 L R)(e:f1=none→R=pOk (newP kd n t L) i1):ZRelW i none (s+1) X i1 f1 (newP kd n t L):=by
 obtain⟨h1,h2,h3,h4,h5,h6⟩:=h
 cases f1 with
 | some x =>
  rw[if_neg (by simp)] at h4
  rw[show X=some (.error x) from h6]
  exact⟨rfl,by rw[len_newP];omega⟩
 | none =>
  rw[← show R=X from h6,e rfl]
  exact⟨rfl,rfl,rfl⟩
theorem ZAcc.leaf {ts:List BTok}{i s i1:Nat}{X:PRes Prog}{f1:Option (Nat×Nat)}{L:List Prog}{a:Prog}{kd n:Int}{t:List UInt8}{R:PRes Prog}(h:ZAcc ts i X s i1 f1 L R)(ha:a.length=1)(e:f1=none→R=pOk (newP kd n t (L++[a])) i1):ZRelW i none (s+2) X i1 f1 (newP kd n t (L++[a])):=by
 obtain⟨h1,h2,h3,h4,h5,h6⟩:=h
 cases f1 with
 | some x =>
  rw[if_neg (by simp)] at h4
  rw[show X=some (.error x) from h6]
  exact⟨rfl,by rw[len_newP,flat_snoc,List.length_append];omega⟩
 | none =>
  rw[← show R=X from h6,e rfl]
  exact⟨rfl,rfl,rfl⟩
theorem ZAcc.small {cap:Nat}{ts:List BTok}(F:ZFix cap ts){i s i1:Nat}{X R:PRes Prog}{f1:Option (Nat×Nat)}{L:List Prog}(h:ZAcc ts i X s i1 f1 L R)(hs:s≤1000):L.flatten.length≤100000:=by
 have h1:=h.size;have h2:=h.lt;have h3:=F.few;split at h1 <;> omega
theorem ZDoes.other {b g cap:Nat}{ts:List BTok}{fn:FuncId}{up:Int}{s:Nat→Nat}{x x':Nat→Nat→PRes Prog}(h:ZDoes b g cap ts fn up s x)(hx:∀ d i,x' d i=none):ZDoes b g cap ts fn up s x':=by
 intro w i d dz f hdz hi hS hX
 cases f with
 | none=>exact absurd (hx d i) (hX.out rfl)
 | some y =>
  refine (h w i d dz (some y) (fun e=>by cases e) hi hS (Lib.hid fun e=>by cases e)).mono ?_
  rintro e w' ⟨v,l,i',f',h1,h2,h3,h4,h5,h6,h7,h8⟩;exact⟨v,l,i',f',h1,h2,h3,h4,h5,h6,h7,h8⟩
theorem betw_post {cap:Nat}{ts:List BTok}(F:ZFix cap ts){f d i:Nat}(hi:i<ts.length)(hk:(tkAt ts i).kind≠0):∀ a j,pBetw ts f d (skP ts i)=some (.ok (a,j))→a.length≤6 * (j - skP ts i):=fun a j h=>by
 rw[← pTest_eq] at h;have h1:=((postAll F.T.fix.good (f+1)).test d i hi hk).1 a j h;have h2:=(skP_eq F.T.fix.good hi hk).1;omega
theorem body_post {cap:Nat}{ts:List BTok}(F:ZFix cap ts){f d i:Nat}(hi:i<ts.length):∀ a j,pBody ts f d i=some (.ok (a,j))→a.length≤6 * (j - i):=fun a j h=>by
 have:=((postAll F.T.fix.good f).body d i hi).1 a j h
 omega
theorem rel_len {i s i1:Nat}{Y:PRes Prog}{f1:Option (Nat×Nat)}{c:Prog}(h:ZRelW i none s Y i1 f1 c)(hp:∀ a j,Y=some (.ok (a,j))→a.length≤6 * (j - i)):c.length≤6 * (i1 - i)+s:=by
 cases hq:Y with
 | none=>rw[hq] at h;exact h.elim
 | some r =>
  rw[hq] at h
  cases r with
  | error x=>exact h.2
  | ok p =>
   obtain⟨a,j⟩:=p;obtain⟨rfl,rfl,rfl⟩:=h;have:=hp _ _ hq
   omega
def TEnd (X:PRes Prog) (f1:Option (Nat×Nat)) (c:Prog) (f2:Option (Nat×Nat)) (l:Prog) (i2:Nat):Prop:=match f1 with | some x=>f2=some x∧l=c | none=>TRes X f2 l i2
theorem turns_rel {ts:List BTok}{f0 d i i1 i2 s:Nat}{Y:PRes Prog}{f1 f2:Option (Nat×Nat)}{c l:Prog}(_hd:d≤30)(h:ZRelW i none s Y i1 f1 c)(hp:∀ a j,Y=some (.ok (a,j))→a.length≤6 * (j - i))(hle:i≤i1)(hle2:i1≤i2)(hs:s≤zS d)(hl:l.length≤c.length+6 * (i2 - i1)+(zS d - 10))(h2:TEnd (pTurns ts f0 d i1 c []) f1 c f2 l i2):ZRelW i none (zS d) (Y.go fun l j=>pTurns ts f0 d j l []) i2 f2 l:=by
 have hc:=rel_len h hp
 cases hq:Y with
 | none=>rw[hq] at h;exact h.elim
 | some r =>
  rw[hq] at h
  cases r with
  | error x =>
   obtain⟨rfl,h3⟩:=h;obtain⟨rfl,rfl⟩:=h2;exact⟨rfl,by omega⟩
  | ok p =>
   obtain⟨a,j⟩:=p;obtain⟨rfl,rfl,rfl⟩:=h;have hc0:=hp _ _ hq;show ZRelW i none (zS d) (pTurns ts f0 d i1 c []) i2 f2 l
   cases f2 with
   | some x =>
    rw[show pTurns ts f0 d i1 c []=some (.error x) from h2]
    exact⟨rfl,by omega⟩
   | none =>
    rw[show pTurns ts f0 d i1 c []=some (.ok (l,i2)) from h2]
    exact⟨rfl,rfl,rfl⟩
theorem go_go {α β γ:Type}(x:PRes α)(f:α→Nat→PRes β)(h:β→Nat→PRes γ):(x.go f).go h=x.go fun a j=>(f a j).go h:=by
 cases x with
 | none=>rfl
 | some r =>
  cases r with
  | error e=>rfl
  | ok p=>rfl
theorem ZAcc.named {cap:Nat}{ts:List BTok}(_F:ZFix cap ts){i s i1:Nat}{X:PRes Prog}{f1:Option (Nat×Nat)}{L:List Prog}{K:List UInt8→Nat→PRes Prog}(h:ZAcc ts i X s i1 f1 L (if isK ts i1 [18]=true∧nameB (tkAt ts i1).text=true then K (tkAt ts i1).text (skP ts i1) else formP ts i1)):ZAcc ts i X s (namedI ts i1 f1) (namedF ts i1 f1) L (K (namedS ts i1 f1) (namedI ts i1 f1)):=by
 have hp:=named_parts ts i1 f1;have hk:=skP_le (ts:=ts) h.lt;obtain⟨h1,h2,h3,h4,h5,h6⟩:=h
 cases hc:namedC ts i1 f1 with
 | true =>
  obtain⟨e1,e2,e3⟩:=hp.1 hc;unfold namedC at hc;rw[e1,e2,e3]
  cases f1 with
  | some x=>cases hc
  | none =>
   have hc:isK ts i1 [18]=true∧nameB (tkAt ts i1).text=true:=by simpa using hc
   rw[if_pos rfl] at h4;unfold skP at hk;refine ⟨by unfold skP;omega,by unfold skP;omega,h3,by rw[if_pos rfl];unfold skP;omega,h5,(if_pos hc).symm.trans h6⟩
 | false =>
  obtain⟨e1,e2,e3⟩:=hp.2 hc;unfold namedC at hc;rw[e1,e2,e3]
  cases f1 with
  | some x=>exact⟨h1,h2,h3,h4,h5,h6⟩
  | none =>
   rw[if_pos rfl] at h4;exact⟨h1,h2,h3,by omega,h5,(show _=X from h6).symm.trans (if_neg (by simpa using hc))⟩
theorem fun_acc {cap:Nat}{ts:List BTok}(F:ZFix cap ts){i i1 q d:Nat}{Y:PRes Prog}{f:Option (Nat×Nat)}(hle:i≤i1)(hi1:i1<ts.length)(hY:Y≠none)
  (h:(if isK ts i1 [18]=true∧nameB (tkAt ts i1).text=true∧keyB (tkAt ts i1).text=false then (pBlock ts q d (skP ts i1)).go fun l e=>pOk (newP 31 0 (tkAt ts i1).text [l]) e else formP ts i1)=Y)
  (hf:(f=none∧¬ (isK ts i1 [18]=true∧keyB (tkAt ts i1).text=true))∨(f=some (formF ts i1)∧isK ts i1 [18]=true∧keyB (tkAt ts i1).text=true)) :
  ZAcc ts i Y 0 (namedI ts i1 f) (namedF ts i1 f) [] ((pBlock ts q d (namedI ts i1 f)).go fun l e=>pOk (newP 31 0 (namedS ts i1 f) [l]) e):=by
 rcases hf with ⟨rfl,hn⟩ | ⟨rfl,h1,h2⟩
 ·refine ZAcc.named F (K:=fun s j=>(pBlock ts q d j).go fun l e=>pOk (newP 31 0 s [l]) e) ⟨hle,hi1,(fun _ h=>nomatch h),by simp,hY,?_⟩
  show (if isK ts i1 [18]=true∧nameB (tkAt ts i1).text=true then _ else formP ts i1)=Y
  rw[← h]
  by_cases hc:isK ts i1 [18]=true∧nameB (tkAt ts i1).text=true
  ·rw[if_pos hc,if_pos ⟨hc.1,hc.2,by cases hk:keyB (tkAt ts i1).text with | false=>rfl | true=>exact absurd ⟨hc.1,hk⟩ hn⟩]
  ·rw[if_neg hc,if_neg (fun e=>hc ⟨e.1,e.2.1⟩)]
 ·refine ZAcc.named F (K:=fun s j=>(pBlock ts q d j).go fun l e=>pOk (newP 31 0 s [l]) e) ⟨hle,hi1,(fun _ h=>nomatch h),by simp,hY,?_⟩
  show Y=some (.error (formF ts i1))
  rw[← h,if_neg (fun e=>by rw[e.2.2] at h2;cases h2)]
  rfl
theorem named_le {ts:List BTok}{i:Nat}(hi:i<ts.length)(f:Option (Nat×Nat)):i≤namedI ts i f:=by
 have hk:=skP_le (ts:=ts) hi;unfold skP at hk;unfold namedI;split
 ·unfold skP;omega
 ·omega
theorem ZAcc.fail {ts:List BTok}{i s i1:Nat}{X R R':PRes Prog}{f1:Option (Nat×Nat)}{L:List Prog}(h:ZAcc ts i X s i1 f1 L R)(e:f1=none→R=formP ts i1):ZAcc ts i X s i1 (f1.or (some (formF ts i1))) L R':=by
 obtain⟨h1,h2,h3,h4,h5,h6⟩:=h
 cases f1 with
 | some x=>exact⟨h1,h2,h3,h4,h5,h6⟩
 | none =>
  rw[if_pos rfl] at h4;exact⟨h1,h2,h3,by omega,h5,(show R=X from h6).symm.trans (e rfl)⟩
theorem cat_len (L:List Prog):(catP L).length≤L.flatten.length+1:=by
 unfold catP;split
 ·simp
 ·rw[len_newP];omega
theorem cat_post {cap:Nat}{ts:List BTok}(F:ZFix cap ts){f d i how:Nat}(hi:i<ts.length):∀ a j,((pWords ts f d i how []).go fun l j=>pOk (catP l) j)=some (.ok (a,j))→i≤j∧a.length≤6 * (j - i)+1:=fun a j h=>by
 rcases PRes.go_some h with ⟨e,_,h2⟩ | ⟨l,e,h2,h3⟩
 ·cases h2
 ·cases h3
  have h4:=((postAll F.T.fix.good f).words d i how [] hi).1 l j h2;have h5:=cat_len l;have e1:([]:List Prog).flatten.length=0:=rfl;have e2:([]:List Prog).length=0:=rfl;omega
def eachK (ts:List BTok) (f d:Nat) (nm:List UInt8) (j:Nat):PRes Prog:=if keyAt ts j [105,110]=true then (pWords ts f d (skP ts j) 0 []).go fun ws j2=>takeP ts j2 [7] fun b=>(pBody ts f d b).go fun l e=>pOk (newP 29 0 nm [catP ws,l]) e else formP ts j
end Go.Proofs.YtbplbehhlbkklaaGreatDoor
