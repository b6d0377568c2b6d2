/- Dialect B's parser, as plain functions on lists of tokens. No program stands in it. -/
import Derived.Test.YtnombfbpmmmoeaaGreatDoorGZA
import Derived.Lib.IndexMore
import Derived.Lib.IndexAny
namespace Go.Proofs.YtnombfbpmmmoeaaGreatDoor
set_option maxHeartbeats 4000000
open Go Go.RowKit
structure bH where
 kind:Int
 n:Int
 k:Int
 size:Int
 text:List UInt8
deriving DecidableEq
def bH.cells (x:bH):List Value:=[.int .i64 x.kind,.int .i64 x.n,.int .i64 x.k,.int .i64 x.size,.string (bs x.text)]
abbrev aA:=List bH
def aE (kind n:Int) (s:List UInt8) (kids:List aA):aA:=⟨kind,n,kids.length,kids.flatten.length+1,s⟩ :: kids.flatten
def a8 (s:List UInt8):aA:=aE 1 0 s []
def eH:List aA→aA
 | []=>aE 20 0 [] []
 | [l]=>l
 | l=>aE 23 0 [] l
def lC:List aA→aA
 | [l]=>l
 | l=>aE 3 0 [] l
def bN:Nat→List UInt8→List (UInt8×Bool×Nat)×Bool
 | _,[]=>([],false)
 | i,[c]=>if c.toNat=92 then ([(c,true,i)],true) else ([(c,false,i)],false)
 | i,c :: d :: l =>
  if c.toNat=92 then ((d,true,i) :: (bN (i+2) l).1,(bN (i+2) l).2)
  else ((c,false,i) :: (bN (i+1) (d :: l)).1,(bN (i+1) (d :: l)).2)
def hZ (p:UInt8×Bool×Nat) (c:Nat):Bool:=decide (p.1.toNat=c)&&!p.2.1
def x5 (l:List (UInt8×Bool×Nat)):Bool:=(l.drop 2).any fun p=>hZ p 93
def nS:List (UInt8×Bool×Nat)→Bool
 | []=>false
 | p :: l=>hZ p 42 || hZ p 63 || (hZ p 91&&x5 (p :: l)) || nS l
def mZ (s:List UInt8):Bool:=nS (bN 0 s).1
def dP (s:List UInt8):Bool:=!(bN 0 s).2
def nJ (s:List UInt8):List UInt8:=if dP s then s else s++[92]
def b8:List UInt8→List UInt8
 | []=>[]
 | c :: l=>(if [42,63,91,93,92,32,9,10].contains c.toNat then [92,c] else [c])++b8 l
def Ls:List (List UInt8):=[[105,102],[101,108,115,101],[119,104,105,108,101],[102,111,114],[105,110],[115,119,105,116,99,104],[99,97,115,101],[102,110]]
def yV (s:List UInt8):Bool:=Ls.contains s
def aK (ts:List aH) (i:Nat):aH:=ts.getD i ⟨0,0,0,[],false⟩
def isK (ts:List aH) (i:Nat) (ks:List Nat):Bool:=ks.contains (aK ts i).kind
def skP (ts:List aH) (i:Nat):Nat:=min (i+1) (ts.length - 1)
def passP (ts:List aH) (ks:List Nat):Nat→Nat→Nat
 | 0,i=>i
 | f+1,i=>if isK ts i ks=true then passP ts ks f (skP ts i) else i
def gX (ts:List aH) (ks:List Nat) (i:Nat):Nat:=passP ts ks ts.length i
def iL (ts:List aH) (i:Nat) (s:List UInt8):Bool:=isK ts i [18]&&decide ((aK ts i).text=s)
abbrev aJ (α:Type):=Option (Except (Nat×Nat) (α×Nat))
def pOk {α:Type} (a:α) (i:Nat):aJ α:=some (.ok (a,i))
def jR {α:Type} (c p:Nat):aJ α:=some (.error (c,p))
def aJ.go {α β:Type} (x:aJ α) (k:α→Nat→aJ β):aJ β :=
 match x with
 | none=>none
 | some (.error e)=>some (.error e)
 | some (.ok (a,i))=>k a i
def iZ {α:Type} (ts:List aH) (i:Nat):aJ α:=jR (if isK ts i [0]=true then 109 else 108) (aK ts i).place
def nQ {α:Type} (ts:List aH) (i:Nat):aJ α:=jR 102 (aK ts i).place
def fG {α:Type} (ts:List aH) (i:Nat) (ks:List Nat) (k:Nat→aJ α):aJ α:=if isK ts i ks=true then k (skP ts i) else iZ ts i
def eF (ts:List aH) (i:Nat):Bool:=isK ts i [18,19,20,21,22,23,6,10]
def jW (ts:List aH) (i:Nat):Bool:=isK ts i [11,12,13,14]
def fH:aA→Bool
 | [x]=>decide (x.kind=1)
 | _=>false
def fO (l:List (Nat×aA)) (c:aA):aA :=
 l.foldr (fun t c=>if t.1=14 then aE 34 0 [] [t.2,c] else aE 33 ((t.1:Int) - 10) [] [t.2,c]) c
def dH (sets:List (List UInt8×aA)) (words:List aA):aA :=
 if words.length=0 then eH (sets.map fun x=>aE 22 0 x.1 [x.2])
 else sets.foldr (fun x c=>aE 35 0 x.1 [x.2,c]) (aE 21 0 [] words)
def aY (out:List aA) (x:aA):List aA :=
 match out.getLast?,x with
 | some [y],[z]=>if y.kind=1∧z.kind=1 then out.dropLast++[aE 1 z.n (y.text++z.text) []] else out++[x]
 | _,_=>out++[x]
def iJ (l:List aA):aA :=
 match l.foldl aY [] with
 | [x]=>x
 | l=>aE 4 0 [] l
def nL (t:aH) (x:aA):aA :=
 if t.kind=18 then aE 1 1 (nJ t.text) []
 else if t.kind=19 then aE 1 1 (b8 t.text) []
 else aE 8 0 [] [x]
def kW (t:aH) (how:Nat) (l:List aA):aA:=if how=0∧l.length=1∧t.kind=18∧mZ t.text=true then aE 6 0 [] [aE 1 1 (nJ t.text) []] else iJ l
def cM (l:aA):Bool:=l.any fun x=>decide (x.kind=1)&&decide (2000<x.text.length)
mutual
def cU (ts:List aH):Nat→Nat→Nat→aJ aA
 | 0,_,_=>none
 | f+1,d,i=>if 30<d+1 then nQ ts i else d7 ts f (d+1) i []
def d7 (ts:List aH):Nat→Nat→Nat→List aA→aJ aA
 | 0,_,_,_=>none
 | f+1,d,i,l =>
  let j:=gX ts [1,2] i
  if isK ts j [0,7,9]=true∨iL ts j [99,97,115,101]=true∨(0<l.length∧j=i) then pOk (eH l) j
  else (eV ts f d j).go fun c e=>d7 ts f d e (l++[c])
def eV (ts:List aH):Nat→Nat→Nat→aJ aA
 | 0,_,_=>none
 | f+1,d,i=>(eA ts f d i).go fun out j=>gF ts f d j out
def gF (ts:List aH):Nat→Nat→Nat→aA→aJ aA
 | 0,_,_,_=>none
 | f+1,d,i,out =>
  if isK ts i [3,4]=true then
   (eA ts f d (gX ts [1] (skP ts i))).go fun next j=>gF ts f d j (aE (if isK ts i [4]=true then 26 else 25) 0 [] [out,next])
  else pOk out i
def eA (ts:List aH):Nat→Nat→Nat→aJ aA
 | 0,_,_=>none
 | f+1,d,i=>(fC ts f d (if isK ts i [17]=true then skP ts i else i) []).go fun l j =>
   pOk (if isK ts i [17]=true then aE 27 0 [] [if 1<l.length then aE 32 0 [] l else l.headD []] else (if 1<l.length then aE 32 0 [] l else l.headD [])) j
def fC (ts:List aH):Nat→Nat→Nat→List aA→aJ (List aA)
 | 0,_,_,_=>none
 | f+1,d,i,l=>(eL ts f d i).go fun c j =>
   if isK ts j [5]=true then fC ts f d (gX ts [1] (skP ts j)) (l++[c]) else pOk (l++[c]) j
def eL (ts:List aH):Nat→Nat→Nat→aJ aA
 | 0,_,_=>none
 | f+1,d,i =>
  if isK ts i [8]=true then (fZ ts f d i).go fun l j=>fY ts f d j l []
  else if isK ts i [18]=false∨yV (aK ts i).text=false then gD ts f d i
  else if (aK ts i).text=[105,102] then jZ ts f d i
  else if (aK ts i).text=[119,104,105,108,101] then j7 ts f d i
  else if (aK ts i).text=[102,111,114] then kE ts f d i
  else if (aK ts i).text=[115,119,105,116,99,104] then j5 ts f d i
  else if (aK ts i).text=[102,110] then jS ts f d i
  else iZ ts i
def fZ (ts:List aH):Nat→Nat→Nat→aJ aA
 | 0,_,_=>none
 | f+1,d,i=>fG ts i [8] fun a=>(cU ts f d a).go fun l j=>fG ts j [9] fun e=>pOk l e
def jP (ts:List aH):Nat→Nat→Nat→aJ aA
 | 0,_,_=>none
 | f+1,d,i=>fG ts (skP ts i) [6] fun a=>(cU ts f d a).go fun l j=>fG ts j [7] fun e=>pOk l e
def iI (ts:List aH):Nat→Nat→Nat→aJ aA
 | 0,_,_=>none
 | f+1,d,i=>if 30<d+1 then nQ ts (gX ts [1] i) else eL ts f (d+1) (gX ts [1] i)
def jZ (ts:List aH):Nat→Nat→Nat→aJ aA
 | 0,_,_=>none
 | f+1,d,i=>(jP ts f d i).go fun c j=>(iI ts f d j).go fun yes k =>
   if iL ts k [101,108,115,101]=true then (iI ts f d (skP ts k)).go fun no e=>pOk (aE 24 0 [] [c,yes,no]) e
   else pOk (aE 24 0 [] [c,yes,eH []]) k
def j7 (ts:List aH):Nat→Nat→Nat→aJ aA
 | 0,_,_=>none
 | f+1,d,i=>(jP ts f d i).go fun c j=>(iI ts f d j).go fun l e=>pOk (aE 28 0 [] [c,l]) e
def kE (ts:List aH):Nat→Nat→Nat→aJ aA
 | 0,_,_=>none
 | f+1,d,i=>fG ts (skP ts i) [6] fun a =>
   if isK ts a [18]=true∧bF (aK ts a).text=true then
    (if iL ts (skP ts a) [105,110]=true then (eW ts f d (skP ts (skP ts a)) 0 []).go fun ws j=>fG ts j [7] fun b =>
      (iI ts f d b).go fun l e=>pOk (aE 29 0 (aK ts a).text [lC ws,l]) e
     else iZ ts (skP ts a))
   else iZ ts a
def j5 (ts:List aH):Nat→Nat→Nat→aJ aA
 | 0,_,_=>none
 | f+1,d,i=>fG ts (skP ts i) [6] fun a=>(dC ts f d a 0).go fun w j=>fG ts j [7] fun b =>
   fG ts (gX ts [1] b) [8] fun c=>(jM ts f d (gX ts [1,2] c) [aE 9 0 [] [w]]).go fun l k =>
    fG ts k [9] fun e=>fY ts f d e (aE 30 0 [] l) []
def jM (ts:List aH):Nat→Nat→Nat→List aA→aJ (List aA)
 | 0,_,_,_=>none
 | f+1,d,i,l =>
  if iL ts i [99,97,115,101]=true then
   (eW ts f d (skP ts i) 1 []).go fun ws j=>fG ts j [1,2] fun a=>(cU ts f d a).go fun c e=>jM ts f d e (l++[lC ws,c])
  else pOk l i
def jS (ts:List aH):Nat→Nat→Nat→aJ aA
 | 0,_,_=>none
 | f+1,d,i =>
   if isK ts (skP ts i) [18]=true∧bF (aK ts (skP ts i)).text=true∧yV (aK ts (skP ts i)).text=false then
    (fZ ts f d (skP ts (skP ts i))).go fun l e=>pOk (aE 31 0 (aK ts (skP ts i)).text [l]) e
   else iZ ts (skP ts i)
def fY (ts:List aH):Nat→Nat→Nat→aA→List (Nat×aA)→aJ aA
 | 0,_,_,_,_=>none
 | f+1,d,i,c,l =>
  if jW ts i=true then (dC ts f d (skP ts i) 0).go fun w j=>fY ts f d j c (l++[((aK ts i).kind,w)])
  else pOk (fO l c) i
def gD (ts:List aH):Nat→Nat→Nat→aJ aA
 | 0,_,_=>none
 | f+1,d,i=>(f8 ts f d i []).go fun sets j=>(dR ts f d j [] []).go fun wt e =>
   if sets.length+wt.1.length+wt.2.length=0 then iZ ts e else pOk (fO wt.2 (dH sets wt.1)) e
def f8 (ts:List aH):Nat→Nat→Nat→List (List UInt8×aA)→aJ (List (List UInt8×aA))
 | 0,_,_,_=>none
 | f+1,d,i,l =>
  if isK ts i [18]=true∧(aK ts (skP ts i)).kind=16∧bF (aK ts i).text=true∧yV (aK ts i).text=false then
   (dC ts f d (skP ts (skP ts i)) 0).go fun w j=>f8 ts f d j (l++[((aK ts i).text,w)])
  else pOk l i
def dR (ts:List aH):Nat→Nat→Nat→List aA→List (Nat×aA)→aJ (List aA×List (Nat×aA))
 | 0,_,_,_,_=>none
 | f+1,d,i,ws,l =>
  if jW ts i=true then (dC ts f d (skP ts i) 0).go fun w j=>dR ts f d j ws (l++[((aK ts i).kind,w)])
  else if eF ts i=false∨iL ts i [101,108,115,101]=true then pOk (ws,l) i
  else (dC ts f d i 0).go fun w j=>dR ts f d j (ws++[w]) l
def eW (ts:List aH):Nat→Nat→Nat→Nat→List aA→aJ (List aA)
 | 0,_,_,_,_=>none
 | f+1,d,i,how,l =>
  if eF ts i=true then (dC ts f d i how).go fun w j=>eW ts f d j how (l++[w]) else pOk l i
def dC (ts:List aH):Nat→Nat→Nat→Nat→aJ aA
 | 0,_,_,_=>none
 | f+1,d,i,how=>(fD ts f d i how []).go fun l j =>
   if cM (kW (aK ts i) how l)=true then jR 101 (aK ts i).place else pOk (kW (aK ts i) how l) j
def fD (ts:List aH):Nat→Nat→Nat→Nat→List aA→aJ (List aA)
 | 0,_,_,_,_=>none
 | f+1,d,i,how,l =>
  if eF ts i=false then iZ ts i
  else (fT ts f d i).go fun x j =>
   let m:=l++[if how=1 then nL (aK ts i) x else x]
   if isK ts j [15]=true then fD ts f d (skP ts j) how m
   else if eF ts j=false∨(aK ts j).glue=false then pOk m j
   else fD ts f d j how m
def fT (ts:List aH):Nat→Nat→Nat→aJ aA
 | 0,_,_=>none
 | f+1,d,i =>
  let t:=aK ts i
  if t.kind=18∨t.kind=19 then pOk (a8 t.text) (skP ts i)
  else if t.kind=21 then pOk (aE 10 0 [] [aE 2 0 t.text []]) (skP ts i)
  else if t.kind=22 then pOk (aE 9 0 [] [aE 2 0 t.text []]) (skP ts i)
  else if t.kind=23 then pOk (aE 11 t.num [] [aE 2 0 [42] []]) (skP ts i)
  else if t.kind=6 then (if 30<d+1 then nQ ts i else (eW ts f (d+1) (skP ts i) 0 []).go fun l j=>fG ts j [7] fun e=>pOk (aE 3 0 [] l) e)
  else if t.kind=10 then (cU ts f d (skP ts i)).go fun l j=>fG ts j [9] fun e=>pOk (aE 12 0 [] [l]) e
  else pOk (aE 2 0 t.text []) (skP ts i)
end
structure m6 (ts:List aH):Prop where
 pos:0<ts.length
 last:(aK ts (ts.length - 1)).kind=0
 text:∀ i,(aK ts i).text.length≤8192
theorem oJ (ts:List aH)(i:Nat)(ks:List Nat):isK ts i ks=true ↔ (aK ts i).kind∈ks:=by
 unfold isK;exact List.contains_iff_mem
theorem kX {ts:List aH}(g:m6 ts){i:Nat}(hi:i<ts.length)(h:(aK ts i).kind≠0):skP ts i=i+1∧i+1<ts.length:=by
 have:i≠ts.length - 1:=fun e=>h (e ▸ g.last)
 unfold skP;omega
theorem mG {ts:List aH}{i:Nat}(hi:i<ts.length):i≤skP ts i∧skP ts i<ts.length:=by
 unfold skP;omega
theorem Cc {ts:List aH}(ks:List Nat):∀ (f:Nat){i:Nat},i<ts.length→i≤passP ts ks f i∧passP ts ks f i<ts.length
 | 0,i,h=>⟨Nat.le_refl _,h⟩
 | f+1,i,h=>by
  rw[passP];split
  ·have h1:=mG h;have h2:=Cc ks f h1.2;omega
  ·exact⟨Nat.le_refl _,h⟩
theorem jF {ts:List aH}(ks:List Nat){i:Nat}(h:i<ts.length):i≤gX ts ks i∧gX ts ks i<ts.length:=Cc ks _ h
def txP (l:aA):Nat:=(l.map fun x=>x.text.length).sum
theorem eN:txP []=0:=rfl
theorem cP (l m:aA):txP (l++m)=txP l+txP m:=by simp [txP]
theorem JQ (x:bH)(m:aA):txP (x :: m)=x.text.length+txP m:=by simp [txP]
theorem cF (kind n:Int)(s:List UInt8)(kids:List aA):(aE kind n s kids).length=kids.flatten.length+1:=rfl
theorem dX (kind n:Int)(s:List UInt8)(kids:List aA):txP (aE kind n s kids)=s.length+txP kids.flatten:=by rw[aE,JQ]
def bP (ts:List aH) {α:Type} (x:aJ α) (Q:α→Nat→Prop):Prop :=
 (∀ a e,x=some (.ok (a,e))→Q a e)∧∀ c p,x=some (.error (c,p))→(c=101∨c=102∨c=108∨c=109)∧∃ i,i<ts.length∧p=(aK ts i).place
theorem bP.none {ts:List aH} {α:Type}{Q:α→Nat→Prop}:bP ts (none:aJ α) Q:=⟨fun _ _ h=>(by cases h),fun _ _ h=>(by cases h)⟩
theorem bP.ok {ts:List aH} {α:Type}{Q:α→Nat→Prop}{a:α}{e:Nat}(h:Q a e):bP ts (pOk a e) Q:=⟨fun _ _ h'=>(by cases h';exact h),fun _ _ h=>(by cases h)⟩
theorem bP.err {ts:List aH} {α:Type}{Q:α→Nat→Prop}{c p:Nat}(h1:c=101∨c=102∨c=108∨c=109)(h2:∃ i,i<ts.length∧p=(aK ts i).place):bP ts (jR c p:aJ α) Q :=
 ⟨fun _ _ h=>(by cases h),fun _ _ h=>(by cases h;exact⟨h1,h2⟩)⟩
theorem bP.form {ts:List aH} {α:Type}{Q:α→Nat→Prop}{i:Nat}(h:i<ts.length):bP ts (iZ ts i:aJ α) Q:=by
 unfold iZ;split
 ·exact .err (by simp) ⟨i,h,rfl⟩
 ·exact .err (by simp) ⟨i,h,rfl⟩
theorem bP.nest {ts:List aH} {α:Type}{Q:α→Nat→Prop}{i:Nat}(h:i<ts.length):bP ts (nQ ts i:aJ α) Q:=.err (by simp) ⟨i,h,rfl⟩
theorem bP.go {ts:List aH} {α β:Type}{x:aJ α}{k:α→Nat→aJ β}{Q:α→Nat→Prop}{R:β→Nat→Prop}(h:bP ts x Q)(hk:∀ a e,Q a e→bP ts (k a e) R):bP ts (x.go k) R:=by
 match x,h with
 | .none,_=>exact .none
 | some (.error e),h=>exact⟨fun _ _ h'=>(by cases h'),fun c p h'=>h.2 c p (by cases h';rfl)⟩
 | some (.ok (a,e)),h=>exact hk a e (h.1 a e rfl)
theorem bP.take {ts:List aH}(g:m6 ts) {β:Type}{i:Nat}{ks:List Nat}{k:Nat→aJ β}{R:β→Nat→Prop}(hi:i<ts.length)(h0:0 ∉ ks)(hk:i+1<ts.length→bP ts (k (i+1)) R):bP ts (fG ts i ks k) R:=by
 unfold fG;split
 ·rename_i h
  rw[oJ] at h;obtain⟨e1,e2⟩:=kX g hi (fun e=>h0 (e ▸ h))
  rw[e1];exact hk e2
 ·exact .form hi
theorem fB {ts:List aH}(g:m6 ts){i:Nat}(hi:i<ts.length){ks:List Nat}(h0:0 ∉ ks)(h:isK ts i ks=true):skP ts i=i+1∧i+1<ts.length :=
 kX g hi (fun e=>h0 (e ▸ (oJ _ _ _).1 h))
theorem pY {ts:List aH}(g:m6 ts){i:Nat}(hi:i<ts.length){s:List UInt8}(h:iL ts i s=true):skP ts i=i+1∧i+1<ts.length:=by
 unfold iL at h;rw[Bool.and_eq_true] at h;exact fB g hi (by decide) h.1
theorem eS (l:List aA)(x:aA):(l++[x]).flatten=l.flatten++x:=by simp
theorem xA (l:List aA):(eH l).length≤l.flatten.length+1∧txP (eH l)=txP l.flatten:=by
 unfold eH;split
 ·exact⟨Nat.le_refl _,rfl⟩
 ·simp
 ·exact⟨by rw[cF];omega,by rw[dX];simp⟩
theorem wV (l:List aA):(lC l).length≤l.flatten.length+1∧txP (lC l)=txP l.flatten:=by
 unfold lC;split
 ·simp
 ·exact⟨by rw[cF];omega,by rw[dX];simp⟩
theorem E0 (out:List aA)(x:aA):(aY out x).flatten.length≤out.flatten.length+x.length∧txP (aY out x).flatten=txP out.flatten+txP x∧(aY out x).length≤out.length+1:=by
 unfold aY;split
 ·rename_i y z hy
  obtain⟨Q,rfl⟩:=List.getLast?_eq_some_iff.1 hy;split
  ·rw[List.dropLast_concat];refine ⟨?_,?_,?_⟩
   ·simp [aE]
   ·simp [aE,txP];omega
   ·simp
  ·exact⟨by simp,by rw[eS,cP],by simp⟩
 ·exact⟨by simp,by rw[eS,cP],by simp⟩
theorem nZ:∀ (l out:List aA),(l.foldl aY out).flatten.length≤out.flatten.length+l.flatten.length∧txP (l.foldl aY out).flatten=txP out.flatten+txP l.flatten∧(l.foldl aY out).length≤out.length+l.length
 | [],out=>⟨by simp,by simp [eN],by simp⟩
 | x :: l,out=>by
  obtain⟨a1,a2,a3⟩:=E0 out x;obtain⟨b1,b2,b3⟩:=nZ l (aY out x);rw[List.foldl_cons,List.flatten_cons,List.length_append,cP,List.length_cons];omega
theorem wB (l:List aA):(iJ l).length≤l.flatten.length+1∧txP (iJ l)=txP l.flatten:=by
 obtain⟨h1,h2,_⟩:=nZ l [];simp only[List.flatten_nil,List.length_nil,Nat.zero_add,eN] at h1 h2;unfold iJ;split
 ·rename_i x hx
  rw[hx] at h1 h2;simp only[List.flatten_cons,List.flatten_nil,List.append_nil] at h1 h2;exact⟨by omega,h2⟩
 ·exact⟨by rw[cF];omega,by rw[dX,h2];simp⟩
theorem Ao (s:List UInt8):(nJ s).length≤s.length+1:=by
 unfold nJ;split <;> simp
theorem sH:∀ (s:List UInt8),(b8 s).length≤2 * s.length
 | []=>Nat.le_refl _
 | c :: l=>by
  have:=sH l
  rw[b8,List.length_append,List.length_cons];split <;> simp only[List.length_cons,List.length_nil] <;> omega
def dE (l:List (Nat×aA)):Nat:=(l.map fun t=>t.2.length+1).sum
def fN (l:List (Nat×aA)):Nat:=(l.map fun t=>txP t.2).sum
theorem vS:∀ (l:List (Nat×aA))(c:aA),(fO l c).length=dE l+c.length∧txP (fO l c)=fN l+txP c
 | [],c=>⟨by simp [fO,dE],by simp [fO,fN]⟩
 | t :: l,c=>by
  obtain⟨h1,h2⟩:=vS l c;unfold fO at h1 h2 ⊢;rw[List.foldr_cons];split
  ·exact⟨by rw[cF];simp [dE,h1] at h1 ⊢;omega,by rw[dX];simp [fN,cP,h2] at h2 ⊢;omega⟩
  ·exact⟨by rw[cF];simp [dE,h1] at h1 ⊢;omega,by rw[dX];simp [fN,cP,h2] at h2 ⊢;omega⟩
def cJ (l:List (List UInt8×aA)):Nat:=(l.map fun t=>t.2.length+1).sum
def jJ (l:List (List UInt8×aA)):Nat:=(l.map fun t=>t.1.length+txP t.2).sum
theorem tM (sets:List (List UInt8×aA))(words:List aA):(dH sets words).length≤cJ sets+words.flatten.length+1∧txP (dH sets words)=jJ sets+txP words.flatten:=by
 unfold dH;split
 ·rename_i h
  obtain rfl:words=[]:=List.length_eq_zero_iff.1 h
  have h1:∀ l:List (List UInt8×aA),(l.map fun x=>aE 22 0 x.1 [x.2]).flatten.length=cJ l∧txP (l.map fun x=>aE 22 0 x.1 [x.2]).flatten=jJ l:=by
   intro l
   induction l with
   | nil=>exact⟨rfl,rfl⟩
   | cons t l ih =>
    rw[List.map_cons,List.flatten_cons,List.length_append,cP,cF,dX,ih.1,ih.2];simp [cJ,jJ]
  have h2:=xA (sets.map fun x=>aE 22 0 x.1 [x.2])
  rw[(h1 sets).1,(h1 sets).2] at h2;simp only[List.flatten_nil,List.length_nil,eN];omega
 ·have h1:∀ (l:List (List UInt8×aA)) (c:aA),(l.foldr (fun x c=>aE 35 0 x.1 [x.2,c]) c).length=cJ l+c.length∧txP (l.foldr (fun x c=>aE 35 0 x.1 [x.2,c]) c)=jJ l+txP c:=by
   intro l c
   induction l with
   | nil=>exact⟨by simp [cJ],by simp [jJ]⟩
   | cons t l ih =>
    rw[List.foldr_cons,cF,dX];simp only[List.flatten_cons,List.flatten_nil,List.append_nil,List.length_append,cP,ih.1,ih.2];simp only[cJ,jJ,List.map_cons,List.sum_cons];omega
  rw[(h1 sets _).1,(h1 sets _).2,cF,dX];simp only[List.length_nil];omega
structure KY (ts:List aH) (f:Nat):Prop where
 list:∀ d i,i<ts.length→bP ts (cU ts f d i) fun l e=>i≤e∧e<ts.length∧l.length≤6 * (e - i)+1∧txP l≤30000 * (e - i)
 chains:∀ d i L,i<ts.length→bP ts (d7 ts f d i L) fun l e=>i≤e∧e<ts.length∧l.length≤L.flatten.length+6 * (e - i)+1∧txP l≤txP L.flatten+30000 * (e - i)
 chain:∀ d i,i<ts.length→bP ts (eV ts f d i) fun l e=>i<e∧e<ts.length∧l.length≤6 * (e - i)∧txP l≤30000 * (e - i)
 chainR:∀ d i o,i<ts.length→bP ts (gF ts f d i o) fun l e=>i≤e∧e<ts.length∧l.length≤o.length+6 * (e - i)∧txP l≤txP o+30000 * (e - i)
 pipe:∀ d i,i<ts.length→bP ts (eA ts f d i) fun l e=>i<e∧e<ts.length∧l.length≤6 * (e - i)∧txP l≤30000 * (e - i)
 pipeR:∀ d i L,i<ts.length→bP ts (fC ts f d i L) fun l e=>i<e∧e<ts.length∧L.length<l.length∧l.flatten.length+l.length≤L.flatten.length+L.length+6 * (e - i)+1∧txP l.flatten≤txP L.flatten+30000 * (e - i)∧l.length≤L.length+(e - i)
 command:∀ d i,i<ts.length→bP ts (eL ts f d i) fun l e=>i<e∧e<ts.length∧l.length≤6 * (e - i)∧txP l≤30000 * (e - i)
 block:∀ d i,i<ts.length→bP ts (fZ ts f d i) fun l e=>i<e∧e<ts.length∧l.length+11≤6 * (e - i)∧txP l≤30000 * (e - i)
 test:∀ d i,i<ts.length→(aK ts i).kind≠0→bP ts (jP ts f d i) fun l e=>i<e∧e<ts.length∧l.length+17≤6 * (e - i)∧txP l≤30000 * (e - i)
 body:∀ d i,i<ts.length→bP ts (iI ts f d i) fun l e=>i<e∧e<ts.length∧l.length≤6 * (e - i)∧txP l≤30000 * (e - i)
 choice:∀ d i,i<ts.length→(aK ts i).kind≠0→bP ts (jZ ts f d i) fun l e=>i<e∧e<ts.length∧l.length≤6 * (e - i)∧txP l≤30000 * (e - i)
 whl:∀ d i,i<ts.length→(aK ts i).kind≠0→bP ts (j7 ts f d i) fun l e=>i<e∧e<ts.length∧l.length≤6 * (e - i)∧txP l≤30000 * (e - i)
 each:∀ d i,i<ts.length→(aK ts i).kind≠0→bP ts (kE ts f d i) fun l e=>i<e∧e<ts.length∧l.length≤6 * (e - i)∧txP l≤30000 * (e - i)
 choose:∀ d i,i<ts.length→(aK ts i).kind≠0→bP ts (j5 ts f d i) fun l e=>i<e∧e<ts.length∧l.length≤6 * (e - i)∧txP l≤30000 * (e - i)
 cases:∀ d i L,i<ts.length→bP ts (jM ts f d i L) fun l e=>i≤e∧e<ts.length∧l.flatten.length≤L.flatten.length+6 * (e - i)∧txP l.flatten≤txP L.flatten+30000 * (e - i)∧l.length≤L.length+(e - i)
 function:∀ d i,i<ts.length→(aK ts i).kind≠0→bP ts (jS ts f d i) fun l e=>i<e∧e<ts.length∧l.length≤6 * (e - i)∧txP l≤30000 * (e - i)
 turns:∀ d i c L,i<ts.length→bP ts (fY ts f d i c L) fun l e=>i≤e∧e<ts.length∧l.length≤c.length+dE L+6 * (e - i)∧txP l≤txP c+fN L+30000 * (e - i)
 simple:∀ d i,i<ts.length→bP ts (gD ts f d i) fun l e=>i<e∧e<ts.length∧l.length≤6 * (e - i)∧txP l≤30000 * (e - i)
 sets:∀ d i L,i<ts.length→bP ts (f8 ts f d i L) fun l e=>i≤e∧e<ts.length∧cJ l≤cJ L+6 * (e - i)∧cJ l+l.length≤cJ L+L.length+6 * (e - i)∧jJ l≤jJ L+30000 * (e - i)∧l.length≤L.length+(e - i)
 items:∀ d i ws L,i<ts.length→bP ts (dR ts f d i ws L) fun o e=>i≤e∧e<ts.length∧o.1.flatten.length+o.1.length+dE o.2+o.2.length≤ws.flatten.length+ws.length+dE L+L.length+6 * (e - i)∧txP o.1.flatten+fN o.2≤txP ws.flatten+fN L+30000 * (e - i)∧o.1.length+o.2.length≤ws.length+L.length+(e - i)∧(e=i→o=(ws,L))
 words:∀ d i how L,i<ts.length→bP ts (eW ts f d i how L) fun l e=>i≤e∧e<ts.length∧l.flatten.length+l.length≤L.flatten.length+L.length+6 * (e - i)∧txP l.flatten≤txP L.flatten+30000 * (e - i)∧l.length≤L.length+(e - i)
 word:∀ d i how,i<ts.length→bP ts (dC ts f d i how) fun l e=>i<e∧e<ts.length∧l.length+1≤6 * (e - i)∧txP l≤30000 * (e - i)
 wordR:∀ d i how L,i<ts.length→bP ts (fD ts f d i how L) fun l e=>i<e∧e<ts.length∧l.flatten.length+2 * l.length≤L.flatten.length+2 * L.length+6 * (e - i)∧txP l.flatten≤txP L.flatten+30000 * (e - i)∧L.length<l.length∧l.length≤L.length+(e - i)
 one:∀ d i,i<ts.length→eF ts i=true→bP ts (fT ts f d i) fun l e=>i<e∧e<ts.length∧l.length+3≤6 * (e - i)∧txP l+16384≤30000 * (e - i)
theorem bP.mono {ts:List aH} {α:Type}{x:aJ α}{Q R:α→Nat→Prop}(h:bP ts x Q)(hR:∀ a e,Q a e→R a e):bP ts x R:=⟨fun a e hx=>hR a e (h.1 a e hx),h.2⟩
theorem qL (l:List (Nat×aA))(t:Nat×aA):dE (l++[t])=dE l+(t.2.length+1):=by simp [dE]
theorem sB (l:List (Nat×aA))(t:Nat×aA):fN (l++[t])=fN l+txP t.2:=by simp [fN]
theorem uS (l:List (List UInt8×aA))(t:List UInt8×aA):cJ (l++[t])=cJ l+(t.2.length+1):=by simp [cJ]
theorem Ax (l:List (List UInt8×aA))(t:List UInt8×aA):jJ (l++[t])=jJ l+(t.1.length+txP t.2):=by simp [jJ]
theorem C8 {ts:List aH}{i:Nat}{ks:List Nat}(h:isK ts i ks=true)(h0:0 ∉ ks):(aK ts i).kind≠0:=fun e=>h0 (e ▸ (oJ _ _ _).1 h)
theorem Gw (t:aH)(x:aA)(ht:t.text.length≤8192):(nL t x).length≤x.length+1∧txP (nL t x)≤txP x+16384:=by
 unfold nL;split
 ·have:=Ao t.text
  exact⟨by rw[cF];simp,by rw[dX];simp [eN];omega⟩
 split
 ·have:=sH t.text
  exact⟨by rw[cF];simp,by rw[dX];simp [eN];omega⟩
 ·exact⟨by rw[cF];simp,by rw[dX];simp⟩
theorem iR (kind n:Int)(s:List UInt8)(a b:aA):(aE kind n s [a,b]).length=a.length+b.length+1∧txP (aE kind n s [a,b])=s.length+(txP a+txP b):=by
 rw[cF,dX];simp [cP]
theorem gW (kind n:Int)(s:List UInt8)(a:aA):(aE kind n s [a]).length=a.length+1∧txP (aE kind n s [a])=s.length+txP a:=by
 rw[cF,dX];simp
theorem kU (kind n:Int)(s:List UInt8):(aE kind n s []).length=1∧txP (aE kind n s [])=s.length:=by
 rw[cF,dX];simp [eN]
theorem rE:∀ (l:List aA),(l.headD []).length≤l.flatten.length∧txP (l.headD [])≤txP l.flatten
 | []=>⟨Nat.le_refl _,Nat.le_refl _⟩
 | a :: l=>by
  rw[List.headD_cons,List.flatten_cons,List.length_append,cP];omega
theorem kO {ts:List aH}(g:m6 ts):∀ f,KY ts f
 | 0=>by
  constructor <;> intros <;> simp only[cU,d7,eV,gF,eA,fC,eL,fZ,jP,iI,jZ,j7,kE,j5,jM,jS,fY,gD,f8,dR,eW,dC,fD,fT] <;> exact bP.none
 | f+1=>by
  have ih:=kO g f;refine ⟨?_,?_,?_,?_,?_,?_,?_,?_,?_,?_,?_,?_,?_,?_,?_,?_,?_,?_,?_,?_,?_,?_,?_,?_⟩
  ·intro d i hi;rw[cU];split
   ·exact .nest hi
   ·exact (ih.chains _ _ _ hi).mono fun l e h=>by simpa [eN] using h
  ·intro d i L hi;rw[d7];have hp:=jF (ts:=ts) [1,2] hi;split
   ·have:=xA L
    exact .ok (by omega)
   ·refine (ih.chain _ _ hp.2).go fun c e ⟨h1,h2,h3,h4⟩=>(ih.chains _ _ _ h2).mono fun l k ⟨q1,q2,q3,q4⟩=>?_
    rw[eS] at q3 q4;rw[cP] at q4;rw[List.length_append] at q3;omega
  ·intro d i hi;rw[eV];refine (ih.pipe _ _ hi).go fun c e ⟨h1,h2,h3,h4⟩=>(ih.chainR _ _ _ h2).mono fun l k ⟨q1,q2,q3,q4⟩=>?_
   omega
  ·intro d i o hi;rw[gF];split
   ·rename_i hk
    obtain⟨e1,e2⟩:=fB g hi (by decide) hk
    rw[e1];have hp:=jF (ts:=ts) [1] e2;refine (ih.pipe _ _ hp.2).go fun c e ⟨h1,h2,h3,h4⟩=>(ih.chainR _ _ _ h2).mono fun l k ⟨q1,q2,q3,q4⟩=>?_
    obtain⟨z1,z2⟩:=iR (if isK ts i [4]=true then 26 else 25) 0 [] o c
    rw[z1] at q3;rw[z2,List.length_nil] at q4;omega
   ·exact .ok (by omega)
  ·intro d i hi;rw[eA]
   have hj:i≤(if isK ts i [17]=true then skP ts i else i)∧(if isK ts i [17]=true then skP ts i else i)<ts.length∧(isK ts i [17]=true→i+1=(if isK ts i [17]=true then skP ts i else i)):=by
    split
    ·rename_i hk
     obtain⟨e1,e2⟩:=fB g hi (by decide) hk
     exact⟨by omega,by omega,fun _=>e1.symm⟩
    ·exact⟨Nat.le_refl _,hi,fun h=>absurd h ‹_›⟩
   obtain⟨j1,j2,j3⟩:=hj;refine (ih.pipeR _ _ _ j2).go fun l e ⟨h1,h2,h3,h4,h5,h6⟩=>?_
   simp only[List.length_nil,List.flatten_nil,eN] at h3 h4 h5 h6
   have hb:(if 1<l.length then aE 32 0 [] l else l.headD []).length≤6 * (e - (if isK ts i [17]=true then skP ts i else i))∧txP (if 1<l.length then aE 32 0 [] l else l.headD [])≤30000 * (e - (if isK ts i [17]=true then skP ts i else i)):=by
    split
    ·rw[cF,dX];simp only[List.length_nil];omega
    ·have:=rE l
     omega
   refine .ok ?_
   by_cases hk:isK ts i [17]=true
   ·have:=j3 hk
    rw[if_pos hk] at *;obtain⟨z1,z2⟩:=gW 27 0 [] (if 1<l.length then aE 32 0 [] l else l.headD [])
    rw[List.length_nil] at z2;omega
   ·rw[if_neg hk] at *;omega
  ·intro d i L hi;rw[fC];refine (ih.command _ _ hi).go fun c e ⟨h1,h2,h3,h4⟩=>?_
   split
   ·rename_i hk
    obtain⟨e1,e2⟩:=fB g h2 (by decide) hk
    rw[e1];have hp:=jF (ts:=ts) [1] e2;refine (ih.pipeR _ _ _ hp.2).mono fun l k ⟨q1,q2,q3,q4,q5,q6⟩=>?_
    rw[eS] at q4 q5;rw[cP] at q5;simp only[List.length_append,List.length_cons,List.length_nil] at q3 q4 q6;omega
   ·refine .ok ?_;rw[eS,cP];simp only[List.length_append,List.length_cons,List.length_nil];omega
  ·intro d i hi;rw[eL];split
   ·refine (ih.block _ _ hi).go fun c e ⟨h1,h2,h3,h4⟩=>(ih.turns _ _ _ _ h2).mono fun l k ⟨q1,q2,q3,q4⟩=>?_
    simp only[dE,fN,List.map_nil,List.sum_nil] at q3 q4;omega
   split
   ·exact ih.simple _ _ hi
   rename_i hk
   have hk0:(aK ts i).kind≠0:=C8 (ks:=[18]) (by simpa using fun e=>hk (.inl e)) (by decide)
   split
   ·exact ih.choice _ _ hi hk0
   split
   ·exact ih.whl _ _ hi hk0
   split
   ·exact ih.each _ _ hi hk0
   split
   ·exact ih.choose _ _ hi hk0
   split
   ·exact ih.function _ _ hi hk0
   ·exact .form hi
  ·intro d i hi;rw[fZ];refine .take g hi (by decide) fun hj=>(ih.list _ _ hj).go fun l e ⟨h1,h2,h3,h4⟩=>.take g h2 (by decide) fun hk=>.ok ?_
   omega
  ·intro d i hi h0;rw[jP];obtain⟨e1,e2⟩:=kX g hi h0;rw[e1];refine .take g e2 (by decide) fun hj=>(ih.list _ _ hj).go fun l e ⟨h1,h2,h3,h4⟩=>.take g h2 (by decide) fun hk=>.ok ?_
   omega
  ·intro d i hi;rw[iI];have hp:=jF (ts:=ts) [1] hi;split
   ·exact .nest hp.2
   ·refine (ih.command _ _ hp.2).mono fun l e ⟨h1,h2,h3,h4⟩=>?_
    omega
  ·intro d i hi h0;rw[jZ];refine (ih.test _ _ hi h0).go fun c j ⟨a1,a2,a3,a4⟩=>(ih.body _ _ a2).go fun y k ⟨b1,b2,b3,b4⟩=>?_
   split
   ·rename_i hk
    obtain⟨e1,e2⟩:=pY g b2 hk;rw[e1];refine (ih.body _ _ e2).go fun z m ⟨c1,c2,c3,c4⟩=>.ok ?_
    rw[cF,dX];simp only[List.flatten_cons,List.flatten_nil,List.append_nil,List.length_append,cP,List.length_nil];omega
   ·refine .ok ?_;rw[cF,dX];simp only[List.flatten_cons,List.flatten_nil,List.append_nil,List.length_append,cP,List.length_nil,eH,cF,dX,eN];omega
  ·intro d i hi h0;rw[j7];refine (ih.test _ _ hi h0).go fun c j ⟨a1,a2,a3,a4⟩=>(ih.body _ _ a2).go fun y k ⟨b1,b2,b3,b4⟩=>.ok ?_
   obtain⟨z1,z2⟩:=iR 28 0 [] c y;rw[List.length_nil] at z2;omega
  ·intro d i hi h0;rw[kE];obtain⟨e1,e2⟩:=kX g hi h0;rw[e1];refine .take g e2 (by decide) fun hj=>?_
   split
   ·rename_i hn
    obtain⟨e3,e4⟩:=fB g hj (by decide) hn.1
    rw[e3];split
    ·rename_i hq
     obtain⟨e5,e6⟩:=pY g e4 hq;rw[e5];refine (ih.words _ _ _ _ e6).go fun ws j ⟨a1,a2,a3,a4,a5⟩=>.take g a2 (by decide) fun hb=>(ih.body _ _ hb).go fun y k ⟨b1,b2,b3,b4⟩=>.ok ?_
     obtain⟨z1,z2⟩:=iR 29 0 (aK ts (i+1+1)).text (lC ws) y;have:=wV ws
     have:=g.text (i+1+1)
     simp only[List.length_nil,List.flatten_nil,eN] at a3 a4 a5;omega
    ·exact .form e4
   ·exact .form hj
  ·intro d i hi h0;rw[j5];obtain⟨e1,e2⟩:=kX g hi h0;rw[e1];refine .take g e2 (by decide) fun hj=>(ih.word _ _ _ hj).go fun w j ⟨a1,a2,a3,a4⟩=>.take g a2 (by decide) fun hb=>?_
   have hp:=jF (ts:=ts) [1] hb;refine .take g hp.2 (by decide) fun hc=>?_
   have hp2:=jF (ts:=ts) [1,2] hc;refine (ih.cases _ _ _ hp2.2).go fun l k ⟨b1,b2,b3,b4,b5⟩=>.take g b2 (by decide) fun he=>(ih.turns _ _ _ _ he).mono fun m z ⟨c1,c2,c3,c4⟩=>?_
   obtain⟨z1,z2⟩:=gW 9 0 [] w;simp only[List.flatten_cons,List.flatten_nil,List.append_nil,z1,z2,List.length_nil] at b3 b4;rw[cF] at c3;rw[dX,List.length_nil] at c4;simp only[dE,fN,List.map_nil,List.sum_nil] at c3 c4;omega
  ·intro d i L hi;rw[jM];split
   ·rename_i hk
    obtain⟨e1,e2⟩:=pY g hi hk;rw[e1];refine (ih.words _ _ _ _ e2).go fun ws j ⟨a1,a2,a3,a4,a5⟩=>.take g a2 (by decide) fun hb=>(ih.list _ _ hb).go fun c e ⟨b1,b2,b3,b4⟩=>(ih.cases _ _ _ b2).mono fun l k ⟨q1,q2,q3,q4,q5⟩=>?_
    have:=wV ws
    simp only[List.length_nil,List.flatten_nil,eN,List.flatten_append,List.flatten_cons,List.append_nil,List.length_append,cP,List.length_cons] at a3 a4 a5 q3 q4 q5;omega
   ·exact .ok (by omega)
  ·intro d i hi h0;rw[jS];obtain⟨e1,e2⟩:=kX g hi h0;rw[e1];split
   ·rename_i hn
    obtain⟨e3,e4⟩:=fB g e2 (by decide) hn.1
    rw[e3];refine (ih.block _ _ e4).go fun l e ⟨h1,h2,h3,h4⟩=>.ok ?_
    obtain⟨z1,z2⟩:=gW 31 0 (aK ts (i+1)).text l;have:=g.text (i+1)
    omega
   ·exact .form e2
  ·intro d i c L hi;rw[fY];split
   ·rename_i hk
    obtain⟨e1,e2⟩:=fB g hi (by decide) hk
    rw[e1];refine (ih.word _ _ _ e2).go fun w j ⟨a1,a2,a3,a4⟩=>(ih.turns _ _ _ _ a2).mono fun l k ⟨q1,q2,q3,q4⟩=>?_
    rw[qL] at q3;rw[sB] at q4;dsimp only at q3 q4;omega
   ·have:=vS L c
    exact .ok (by omega)
  ·intro d i hi;rw[gD];refine (ih.sets _ _ _ hi).go fun s j ⟨a1,a2,a3,a4,a5,a6⟩=>(ih.items _ _ _ _ a2).go fun wt e ⟨b1,b2,b3,b4,b5,b6⟩=>?_
   split
   ·exact .form b2
   ·rename_i hn
    simp only[cJ,jJ,dE,fN,List.map_nil,List.sum_nil,List.length_nil,List.flatten_nil,eN] at a3 a4 a5 a6 b3 b4 b5;have h1:=vS wt.2 (dH s wt.1);have h2:=tM s wt.1;simp only[cJ,jJ,dE,fN] at h1 h2;exact .ok (by omega)
  ·intro d i L hi;rw[f8];split
   ·rename_i hk
    obtain⟨e1,e2⟩:=fB g hi (by decide) hk.1
    rw[e1] at hk ⊢;obtain⟨e3,e4⟩:=kX g e2 (by rw[hk.2.1];decide)
    rw[e3];refine (ih.word _ _ _ e4).go fun w j ⟨a1,a2,a3,a4⟩=>(ih.sets _ _ _ a2).mono fun l k ⟨q1,q2,q3,q4,q5,q6⟩=>?_
    have:=g.text i
    rw[uS] at q3 q4;rw[Ax] at q5;rw[List.length_append] at q4 q6;simp only[List.length_cons,List.length_nil] at q3 q4 q5 q6;omega
   ·exact .ok (by omega)
  ·intro d i ws L hi;rw[dR];split
   ·rename_i hk
    obtain⟨e1,e2⟩:=fB g hi (by decide) hk
    rw[e1];refine (ih.word _ _ _ e2).go fun w j ⟨a1,a2,a3,a4⟩=>(ih.items _ _ _ _ a2).mono fun l k ⟨q1,q2,q3,q4,q5,q6⟩=>?_
    rw[qL,List.length_append] at q3;rw[sB] at q4;rw[List.length_append] at q5;simp only[List.length_cons,List.length_nil] at q3 q4 q5;exact⟨by omega,by omega,by omega,by omega,by omega,fun e=>by omega⟩
   split
   ·exact .ok ⟨by omega,by omega,by dsimp only;omega,by dsimp only;omega,by dsimp only;omega,fun _=>rfl⟩
   ·refine (ih.word _ _ _ hi).go fun w j ⟨a1,a2,a3,a4⟩=>(ih.items _ _ _ _ a2).mono fun l k ⟨q1,q2,q3,q4,q5,q6⟩=>?_
    rw[eS] at q3 q4;rw[cP] at q4;simp only[List.length_append,List.length_cons,List.length_nil] at q3 q5;exact⟨by omega,by omega,by omega,by omega,by omega,fun e=>by omega⟩
  ·intro d i how L hi;rw[eW];split
   ·refine (ih.word _ _ _ hi).go fun w j ⟨a1,a2,a3,a4⟩=>(ih.words _ _ _ _ a2).mono fun l k ⟨q1,q2,q3,q4,q5⟩=>?_
    rw[eS] at q3 q4;rw[cP] at q4;simp only[List.length_append,List.length_cons,List.length_nil] at q3 q5;omega
   ·exact .ok (by omega)
  ·intro d i how hi;rw[dC];refine (ih.wordR _ _ _ _ hi).go fun l e ⟨h1,h2,h3,h4,h5,h6⟩=>?_
   simp only[List.length_nil,List.flatten_nil,eN] at h3 h4 h5 h6;split
   ·exact .err (by simp) ⟨i,hi,rfl⟩
   ·refine .ok ⟨h1,h2,?_⟩;unfold kW;split
    ·obtain⟨z1,z2⟩:=gW 6 0 [] (aE 1 1 (nJ (aK ts i).text) []);obtain⟨z3,z4⟩:=kU 1 1 (nJ (aK ts i).text);have:=Ao (aK ts i).text
     have:=g.text i
     rw[List.length_nil] at z2;omega
    ·have:=wB l
     omega
  ·intro d i how L hi;rw[fD];split
   ·exact .form hi
   ·rename_i hit
    refine (ih.one _ _ hi (by simpa using hit)).go fun x j ⟨a1,a2,a3,a4⟩=>?_
    dsimp only;obtain⟨y,hy⟩:∃ y,(if how=1 then nL (aK ts i) x else x)=y:=⟨_,rfl⟩
    have hyl:y.length≤x.length+1∧txP y≤txP x+16384:=by
     rw[← hy];split
     ·exact Gw _ _ (g.text i)
     ·omega
    rw[hy]
    have hf:(L++[y]).flatten.length=L.flatten.length+y.length∧txP (L++[y]).flatten=txP L.flatten+txP y∧(L++[y]).length=L.length+1:=by
     rw[eS,cP];simp
    split
    ·rename_i hk
     obtain⟨e1,e2⟩:=fB g a2 (by decide) hk
     rw[e1];refine (ih.wordR _ _ _ _ e2).mono fun l k ⟨q1,q2,q3,q4,q5,q6⟩=>?_
     omega
    split
    ·exact .ok (by omega)
    ·refine (ih.wordR _ _ _ _ a2).mono fun l k ⟨q1,q2,q3,q4,q5,q6⟩=>?_
     omega
  ·intro d i hi hit;rw[fT];obtain⟨e1,e2⟩:=fB g hi (by decide) hit
   rw[e1];have ht:=g.text i;have z1:=kU 1 0 (aK ts i).text;have z2:=kU 2 0 (aK ts i).text;have z3:=kU 2 0 [42];have z4:=gW 10 0 [] (aE 2 0 (aK ts i).text []);have z5:=gW 9 0 [] (aE 2 0 (aK ts i).text []);have z6:=gW 11 (aK ts i).num [] (aE 2 0 [42] []);simp only[List.length_cons,List.length_nil] at z3 z4 z5 z6;split
   ·exact .ok (by unfold a8;omega)
   split
   ·exact .ok (by omega)
   split
   ·exact .ok (by omega)
   split
   ·exact .ok (by omega)
   split
   ·split
    ·exact .nest hi
    ·refine (ih.words _ _ _ _ e2).go fun l j ⟨a1,a2,a3,a4,a5⟩=>.take g a2 (by decide) fun hb=>.ok ?_
     rw[cF,dX];simp only[List.length_nil,List.flatten_nil,eN] at a3 a4 a5 ⊢;omega
   split
   ·refine (ih.list _ _ e2).go fun l j ⟨a1,a2,a3,a4⟩=>.take g a2 (by decide) fun hb=>.ok ?_
    have:=gW 12 0 [] l
    simp only[List.length_nil] at this;omega
   ·exact .ok (by omega)
theorem dJ {ts:List aH} {α β:Type}{x:aJ α}{k:α→Nat→aJ β}{Q:α→Nat→Prop}(hx:x≠none)(hp:bP ts x Q)(hk:∀ a e,Q a e→k a e≠none):x.go k≠none:=by
 match x,hx,hp with
 | .none,hx,_=>exact absurd rfl hx
 | some (.error e),_,_=>exact fun h=>by cases h
 | some (.ok (a,e)),_,hp=>exact hk a e (hp.1 a e rfl)
theorem eR {α:Type}{a:α}{i:Nat}:pOk a i≠none:=fun h=>by cases h
theorem oL {α:Type}{ts:List aH}{i:Nat}:(iZ ts i:aJ α)≠none:=fun h=>by cases h
theorem xW {α:Type}{ts:List aH}{i:Nat}:(nQ ts i:aJ α)≠none:=fun h=>by cases h
theorem K3 {α:Type}{c p:Nat}:(jR c p:aJ α)≠none:=fun h=>by cases h
theorem kL {ts:List aH}(g:m6 ts) {β:Type}{i:Nat}{ks:List Nat}{k:Nat→aJ β}(hi:i<ts.length)(h0:0 ∉ ks)(hk:i+1<ts.length→k (i+1)≠none):fG ts i ks k≠none:=by
 unfold fG;split
 ·rename_i h
  obtain⟨e1,e2⟩:=fB g hi h0 h;rw[e1];exact hk e2
 ·exact oL
structure Lp (ts:List aH) (f:Nat):Prop where
 list:∀ d i,i<ts.length→12 * (ts.length - i)+11≤f→cU ts f d i≠none
 chains:∀ d i L,i<ts.length→12 * (ts.length - i)+10≤f→d7 ts f d i L≠none
 chain:∀ d i,i<ts.length→12 * (ts.length - i)+9≤f→eV ts f d i≠none
 chainR:∀ d i o,i<ts.length→12 * (ts.length - i)+1≤f→gF ts f d i o≠none
 pipe:∀ d i,i<ts.length→12 * (ts.length - i)+8≤f→eA ts f d i≠none
 pipeR:∀ d i L,i<ts.length→12 * (ts.length - i)+7≤f→fC ts f d i L≠none
 command:∀ d i,i<ts.length→12 * (ts.length - i)+6≤f→eL ts f d i≠none
 block:∀ d i,i<ts.length→12 * (ts.length - i)+1≤f→fZ ts f d i≠none
 test:∀ d i,i<ts.length→(aK ts i).kind≠0→12 * (ts.length - i)+1≤f→jP ts f d i≠none
 body:∀ d i,i<ts.length→12 * (ts.length - i)+7≤f→iI ts f d i≠none
 choice:∀ d i,i<ts.length→(aK ts i).kind≠0→12 * (ts.length - i)+2≤f→jZ ts f d i≠none
 whl:∀ d i,i<ts.length→(aK ts i).kind≠0→12 * (ts.length - i)+2≤f→j7 ts f d i≠none
 each:∀ d i,i<ts.length→(aK ts i).kind≠0→12 * (ts.length - i)+2≤f→kE ts f d i≠none
 choose:∀ d i,i<ts.length→(aK ts i).kind≠0→12 * (ts.length - i)+2≤f→j5 ts f d i≠none
 cases:∀ d i L,i<ts.length→12 * (ts.length - i)+2≤f→jM ts f d i L≠none
 function:∀ d i,i<ts.length→(aK ts i).kind≠0→12 * (ts.length - i)+2≤f→jS ts f d i≠none
 turns:∀ d i c L,i<ts.length→12 * (ts.length - i)+1≤f→fY ts f d i c L≠none
 simple:∀ d i,i<ts.length→12 * (ts.length - i)+5≤f→gD ts f d i≠none
 sets:∀ d i L,i<ts.length→12 * (ts.length - i)+1≤f→f8 ts f d i L≠none
 items:∀ d i ws L,i<ts.length→12 * (ts.length - i)+4≤f→dR ts f d i ws L≠none
 words:∀ d i how L,i<ts.length→12 * (ts.length - i)+4≤f→eW ts f d i how L≠none
 word:∀ d i how,i<ts.length→12 * (ts.length - i)+3≤f→dC ts f d i how≠none
 wordR:∀ d i how L,i<ts.length→12 * (ts.length - i)+2≤f→fD ts f d i how L≠none
 one:∀ d i,i<ts.length→eF ts i=true→12 * (ts.length - i)+1≤f→fT ts f d i≠none
theorem yN {ts:List aH}(g:m6 ts):∀ f,Lp ts f
 | 0=>by
  constructor <;> intros <;> omega
 | f+1=>by
  have ih:=yN g f;have hP:=kO g f;refine ⟨?_,?_,?_,?_,?_,?_,?_,?_,?_,?_,?_,?_,?_,?_,?_,?_,?_,?_,?_,?_,?_,?_,?_,?_⟩
  ·intro d i hi hf;rw[cU];split
   ·exact xW
   ·exact ih.chains _ _ _ hi (by omega)
  ·intro d i L hi hf;rw[d7];have hp:=jF (ts:=ts) [1,2] hi;split
   ·exact eR
   ·exact dJ (ih.chain _ _ hp.2 (by omega)) (hP.chain _ _ hp.2) fun c e ⟨h1,h2,_⟩=>ih.chains _ _ _ h2 (by omega)
  ·intro d i hi hf;rw[eV];exact dJ (ih.pipe _ _ hi (by omega)) (hP.pipe _ _ hi) fun c e ⟨h1,h2,_⟩=>ih.chainR _ _ _ h2 (by omega)
  ·intro d i o hi hf;rw[gF];split
   ·rename_i hk
    obtain⟨e1,e2⟩:=fB g hi (by decide) hk
    rw[e1];have hp:=jF (ts:=ts) [1] e2;exact dJ (ih.pipe _ _ hp.2 (by omega)) (hP.pipe _ _ hp.2) fun c e ⟨h1,h2,_⟩=>ih.chainR _ _ _ h2 (by omega)
   ·exact eR
  ·intro d i hi hf;rw[eA]
   have hj:i≤(if isK ts i [17]=true then skP ts i else i)∧(if isK ts i [17]=true then skP ts i else i)<ts.length:=by
    split
    ·have:=mG hi
     omega
    ·omega
   exact dJ (ih.pipeR _ _ _ hj.2 (by omega)) (hP.pipeR _ _ _ hj.2) fun _ _ _=>eR
  ·intro d i L hi hf;rw[fC];refine dJ (ih.command _ _ hi (by omega)) (hP.command _ _ hi) fun c e ⟨h1,h2,_⟩=>?_
   split
   ·rename_i hk
    obtain⟨e1,e2⟩:=fB g h2 (by decide) hk
    rw[e1];have hp:=jF (ts:=ts) [1] e2;exact ih.pipeR _ _ _ hp.2 (by omega)
   ·exact eR
  ·intro d i hi hf;rw[eL];split
   ·exact dJ (ih.block _ _ hi (by omega)) (hP.block _ _ hi) fun c e ⟨h1,h2,_⟩=>ih.turns _ _ _ _ h2 (by omega)
   split
   ·exact ih.simple _ _ hi (by omega)
   rename_i hk
   have hk0:(aK ts i).kind≠0:=C8 (ks:=[18]) (by simpa using fun e=>hk (.inl e)) (by decide)
   split
   ·exact ih.choice _ _ hi hk0 (by omega)
   split
   ·exact ih.whl _ _ hi hk0 (by omega)
   split
   ·exact ih.each _ _ hi hk0 (by omega)
   split
   ·exact ih.choose _ _ hi hk0 (by omega)
   split
   ·exact ih.function _ _ hi hk0 (by omega)
   ·exact oL
  ·intro d i hi hf;rw[fZ];exact kL g hi (by decide) fun hj=>dJ (ih.list _ _ hj (by omega)) (hP.list _ _ hj) fun l e ⟨h1,h2,_⟩=>kL g h2 (by decide) fun _=>eR
  ·intro d i hi h0 hf;rw[jP];obtain⟨e1,e2⟩:=kX g hi h0;rw[e1];exact kL g e2 (by decide) fun hj=>dJ (ih.list _ _ hj (by omega)) (hP.list _ _ hj) fun l e ⟨h1,h2,_⟩=>kL g h2 (by decide) fun _=>eR
  ·intro d i hi hf;rw[iI];have hp:=jF (ts:=ts) [1] hi;split
   ·exact xW
   ·exact ih.command _ _ hp.2 (by omega)
  ·intro d i hi h0 hf;rw[jZ];refine dJ (ih.test _ _ hi h0 (by omega)) (hP.test _ _ hi h0) fun c j ⟨a1,a2,_⟩=>dJ (ih.body _ _ a2 (by omega)) (hP.body _ _ a2) fun y k ⟨b1,b2,_⟩=>?_
   split
   ·rename_i hk
    obtain⟨e1,e2⟩:=pY g b2 hk;rw[e1];exact dJ (ih.body _ _ e2 (by omega)) (hP.body _ _ e2) fun _ _ _=>eR
   ·exact eR
  ·intro d i hi h0 hf;rw[j7];exact dJ (ih.test _ _ hi h0 (by omega)) (hP.test _ _ hi h0) fun c j ⟨a1,a2,_⟩=>dJ (ih.body _ _ a2 (by omega)) (hP.body _ _ a2) fun _ _ _=>eR
  ·intro d i hi h0 hf;rw[kE];obtain⟨e1,e2⟩:=kX g hi h0;rw[e1];refine kL g e2 (by decide) fun hj=>?_
   split
   ·rename_i hn
    obtain⟨e3,e4⟩:=fB g hj (by decide) hn.1
    rw[e3];split
    ·rename_i hq
     obtain⟨e5,e6⟩:=pY g e4 hq;rw[e5];exact dJ (ih.words _ _ _ _ e6 (by omega)) (hP.words _ _ _ _ e6) fun ws j ⟨a1,a2,_⟩=>kL g a2 (by decide) fun hb=>dJ (ih.body _ _ hb (by omega)) (hP.body _ _ hb) fun _ _ _=>eR
    ·exact oL
   ·exact oL
  ·intro d i hi h0 hf;rw[j5];obtain⟨e1,e2⟩:=kX g hi h0;rw[e1];refine kL g e2 (by decide) fun hj=>dJ (ih.word _ _ _ hj (by omega)) (hP.word _ _ _ hj) fun w j ⟨a1,a2,_⟩=>kL g a2 (by decide) fun hb=>?_
   have hp:=jF (ts:=ts) [1] hb;refine kL g hp.2 (by decide) fun hc=>?_
   have hp2:=jF (ts:=ts) [1,2] hc;exact dJ (ih.cases _ _ _ hp2.2 (by omega)) (hP.cases _ _ _ hp2.2) fun l k ⟨b1,b2,_⟩=>kL g b2 (by decide) fun he=>ih.turns _ _ _ _ he (by omega)
  ·intro d i L hi hf;rw[jM];split
   ·rename_i hk
    obtain⟨e1,e2⟩:=pY g hi hk;rw[e1];exact dJ (ih.words _ _ _ _ e2 (by omega)) (hP.words _ _ _ _ e2) fun ws j ⟨a1,a2,_⟩=>kL g a2 (by decide) fun hb=>dJ (ih.list _ _ hb (by omega)) (hP.list _ _ hb) fun c e ⟨b1,b2,_⟩=>ih.cases _ _ _ b2 (by omega)
   ·exact eR
  ·intro d i hi h0 hf;rw[jS];obtain⟨e1,e2⟩:=kX g hi h0;rw[e1];split
   ·rename_i hn
    obtain⟨e3,e4⟩:=fB g e2 (by decide) hn.1
    rw[e3];exact dJ (ih.block _ _ e4 (by omega)) (hP.block _ _ e4) fun _ _ _=>eR
   ·exact oL
  ·intro d i c L hi hf;rw[fY];split
   ·rename_i hk
    obtain⟨e1,e2⟩:=fB g hi (by decide) hk
    rw[e1];exact dJ (ih.word _ _ _ e2 (by omega)) (hP.word _ _ _ e2) fun w j ⟨a1,a2,_⟩=>ih.turns _ _ _ _ a2 (by omega)
   ·exact eR
  ·intro d i hi hf;rw[gD];refine dJ (ih.sets _ _ _ hi (by omega)) (hP.sets _ _ _ hi) fun s j ⟨a1,a2,_⟩=>dJ (ih.items _ _ _ _ a2 (by omega)) (hP.items _ _ _ _ a2) fun wt e ⟨b1,b2,_⟩=>?_
   split
   ·exact oL
   ·exact eR
  ·intro d i L hi hf;rw[f8];split
   ·rename_i hk
    obtain⟨e1,e2⟩:=fB g hi (by decide) hk.1
    rw[e1] at hk ⊢;obtain⟨e3,e4⟩:=kX g e2 (by rw[hk.2.1];decide)
    rw[e3];exact dJ (ih.word _ _ _ e4 (by omega)) (hP.word _ _ _ e4) fun w j ⟨a1,a2,_⟩=>ih.sets _ _ _ a2 (by omega)
   ·exact eR
  ·intro d i ws L hi hf;rw[dR];split
   ·rename_i hk
    obtain⟨e1,e2⟩:=fB g hi (by decide) hk
    rw[e1];exact dJ (ih.word _ _ _ e2 (by omega)) (hP.word _ _ _ e2) fun w j ⟨a1,a2,_⟩=>ih.items _ _ _ _ a2 (by omega)
   split
   ·exact eR
   ·exact dJ (ih.word _ _ _ hi (by omega)) (hP.word _ _ _ hi) fun w j ⟨a1,a2,_⟩=>ih.items _ _ _ _ a2 (by omega)
  ·intro d i how L hi hf;rw[eW];split
   ·exact dJ (ih.word _ _ _ hi (by omega)) (hP.word _ _ _ hi) fun w j ⟨a1,a2,_⟩=>ih.words _ _ _ _ a2 (by omega)
   ·exact eR
  ·intro d i how hi hf;rw[dC];refine dJ (ih.wordR _ _ _ _ hi (by omega)) (hP.wordR _ _ _ _ hi) fun l e ⟨h1,h2,_⟩=>?_
   split
   ·exact K3
   ·exact eR
  ·intro d i how L hi hf;rw[fD];split
   ·exact oL
   ·rename_i hit
    refine dJ (ih.one _ _ hi (by simpa using hit) (by omega)) (hP.one _ _ hi (by simpa using hit)) fun x j ⟨a1,a2,_⟩=>?_
    dsimp only;split
    ·rename_i hk
     obtain⟨e1,e2⟩:=fB g a2 (by decide) hk
     rw[e1];exact ih.wordR _ _ _ _ e2 (by omega)
    split
    ·exact eR
    ·exact ih.wordR _ _ _ _ a2 (by omega)
  ·intro d i hi hit hf;rw[fT];obtain⟨e1,e2⟩:=fB g hi (by decide) hit
   rw[e1];split
   ·exact eR
   split
   ·exact eR
   split
   ·exact eR
   split
   ·exact eR
   split
   ·split
    ·exact xW
    ·exact dJ (ih.words _ _ _ _ e2 (by omega)) (hP.words _ _ _ _ e2) fun l j ⟨a1,a2,_⟩=>kL g a2 (by decide) fun _=>eR
   split
   ·exact dJ (ih.list _ _ e2 (by omega)) (hP.list _ _ e2) fun l j ⟨a1,a2,_⟩=>kL g a2 (by decide) fun _=>eR
   ·exact eR
def rQ (k:Int):Bool:=decide (1≤k)&&decide (k≤12)
def qW (k:Int):Bool:=decide (20≤k)&&decide (k≤37)
def j8 (k:Int):Bool:=[2,22,29,31,35].contains k
def bW (M:Nat) (x:bH):Bool :=
 if x.kind=1 then (decide (x.n=0) || (decide (x.n=1)&&dP x.text))&&decide (x.text.length≤M)
 else if x.kind=11 then decide (1≤x.n)&&decide (x.n≤99)&&decide (x.text=[])
 else if x.kind=33 then decide (1≤x.n)&&decide (x.n≤3)&&decide (x.text=[])
 else if x.n≠0 then false
 else if x.kind=2 then bF x.text || decide (x.text=[42])
 else if j8 x.kind=true then bF x.text
 else decide (x.text=[])
def dQ (x:bH):Bool:=bW 2000 x
def bJ (x:bH):Bool :=
 if [1,2,20].contains x.kind then decide (x.k=0)
 else if x.kind=3 then decide (0≤x.k)
 else if [4,21,37].contains x.kind then decide (1≤x.k)
 else if [23,32].contains x.kind then decide (2≤x.k)
 else if x.kind=24 then decide (x.k=3)
 else if [25,26,28,29,35,33,34].contains x.kind then decide (x.k=2)
 else if x.kind=30 then decide (1≤x.k)&&decide (x.k % 2=1)
 else decide (x.k=1)
def cQ (kind:Int) (K k:Int):Bool :=
 if [12,23,32,24,25,26,28,27,31].contains kind then false
 else if [29,35,33,34].contains kind then decide (k=0)
 else if kind=30 then decide (k=0) || decide (k % 2=1)
 else if kind=37 then decide (k<K - 1)
 else true
def cE (l:aA) (i:Nat):bH:=l.getD i ⟨0,0,0,0,[]⟩
def fS (l:aA):Nat→Int→Nat→Nat→Bool
 | 0,left,_,_=>decide (left≤0)
 | f+1,left,c,e=>if left≤0 then true else if e≤c then false
  else if (cE l c).size<1∨((e:Int) - c)<(cE l c).size then true else fS l f (left - 1) (c+(cE l c).size.toNat) e
def kS (x:bH) (word:Bool):Bool:=(word&&rQ x.kind) || (!word&&qW x.kind)
mutual
def k7 (l:aA):Nat→Nat→Nat→Nat→Bool→Bool→Option (Option (Nat×Nat))
 | 0,_,_,_,_,_=>none
 | f+1,i,e,d,word,last =>
  let x:=cE l i
  if kS x word=false∨dQ x=false∨bJ x=false∨x.size<1∨((e:Int) - i)<x.size∨(last=true∧x.size≠(e:Int) - i) then some (some (110,i))
  else if x.k=0∧x.size≠1 then some (some (110,i))
  else if fS l (x.size.toNat - 1) x.k (i+1) (i+x.size.toNat)=false then some (some (110,i))
  else if 30<d then some (some (102,i))
  else i7 l f 0 (i+1) (i+x.size.toNat) (d+1) x
def i7 (l:aA):Nat→Nat→Nat→Nat→Nat→bH→Option (Option (Nat×Nat))
 | 0,_,_,_,_,_=>none
 | f+1,k,c,e,d,x =>
  if x.k≤k then some none
  else match k7 l f c e d (cQ x.kind x.k k) (decide ((k:Int)=x.k - 1)) with
   | none=>none
   | some (some r)=>some (some r)
   | some none=>i7 l f (k+1) (c+(cE l c).size.toNat) e d x
end
inductive WFP (K:Int→Bool) (M:Nat):Bool→Nat→aA→Prop
 | node (w:Bool) (D:Nat) (kind n:Int) (s:List UInt8) (kids:List aA)
  (hk:(kS ⟨kind,n,kids.length,0,s⟩ w&&K kind)=true) (hf:bW M ⟨kind,n,kids.length,0,s⟩=true) (hc:bJ ⟨kind,n,kids.length,0,s⟩=true)
  (hK:∀ (j:Nat) (kid:aA),kids[j]?=some kid→WFP K M (cQ kind kids.length j) D kid):WFP K M w (D+1) (aE kind n s kids)
theorem WFP.pos {K:Int→Bool}{M:Nat}{w:Bool}{D:Nat}{l:aA}(h:WFP K M w D l):0<l.length∧(cE l 0).size=l.length:=by
 cases h
 exact⟨by rw[aE];simp,by rw[aE];simp [cE]⟩
theorem WFP.mono {K:Int→Bool}{M:Nat}{w:Bool}{D:Nat}{l:aA}(h:WFP K M w D l):∀ {E:Nat},D≤E→WFP K M w E l:=by
 induction h with
 | node w D kind n s kids hk hf hc hK ih =>
  intro E hE;obtain⟨E',rfl⟩:∃ E',E=E'+1:=⟨E - 1,by omega⟩
  exact .node w E' kind n s kids hk hf hc fun j kid h=>ih j kid h (by omega)
theorem wS (l:aA)(i:Nat)(a b:aA)(h:l.drop i=a++b)(ha:0<a.length):cE l i=cE a 0∧i+a.length≤l.length:=by
 constructor
 ·have h1:l[i]?=a[0]?:=by
   have:=congrArg (fun m=>m[0]?) h
   simp only[List.getElem?_drop,Nat.add_zero] at this;rw[this,List.getElem?_append_left ha]
  unfold cE;rw[List.getD_eq_getElem?_getD,List.getD_eq_getElem?_getD,h1]
 ·have:=congrArg List.length h
  rw[List.length_drop,List.length_append] at this;omega
theorem K4 {K:Int→Bool}{M:Nat}(l:aA)(e:Nat):∀ (kids:List aA)(c f:Nat)(post:aA),(∀ kid∈kids,∃ w D,WFP K M w D kid)→l.drop c=kids.flatten++post→c+kids.flatten.length≤e→kids.flatten.length≤f→fS l f kids.length c e=true:=by
 intro kids
 induction kids with
 | nil =>
  intro c f post _ _ _ _
  cases f <;> simp [fS]
 | cons a kids ih =>
  intro c f post hw hd he hf;obtain⟨w,D,ha⟩:=hw a (by simp)
  obtain⟨a1,a2⟩:=ha.pos;rw[List.flatten_cons,List.append_assoc] at hd;rw[List.flatten_cons,List.length_append] at he hf;obtain⟨f,rfl⟩:∃ g,f=g+1:=⟨f - 1,by omega⟩
  obtain⟨n1,n2⟩:=wS l c a _ hd a1;rw[fS,n1,a2];rw[if_neg (by simp only[List.length_cons];omega),if_neg (by omega),if_neg (by omega),Int.toNat_natCast]
  have hl:(((a :: kids).length:Nat):Int) - 1=(kids.length:Nat):=by simp only[List.length_cons];omega
  rw[hl];refine ih (c+a.length) f post (fun k hk=>hw k (by simp [hk])) ?_ (by omega) (by omega)
  rw[← List.drop_drop,hd,List.drop_left]
theorem xY {K:Int→Bool}{w:Bool}{D:Nat}{l:aA}(h:WFP K 2000 w D l):∀ (L:aA)(i e d:Nat)(last:Bool)(post:aA)(f:Nat),L.drop i=l++post→i+l.length≤e→(last=true→e=i+l.length)→3 * l.length≤f →
  ∃ r,k7 L f i e d w last=some r∧(r=none∨∃ p,r=some (102,p))∧(d+D≤31→r=none):=by
 induction h with
 | node w D kind n s kids hk hf hc hK ih =>
  intro L i e d last post f hd he hlast hfu;rw[Bool.and_eq_true] at hk;replace hk:=hk.1;have hlen:(aE kind n s kids).length=kids.flatten.length+1:=rfl;obtain⟨n1,n2⟩:=wS L i (aE kind n s kids) post hd (by rw[hlen];omega)
  rw[hlen] at he hlast hfu n2;have hx:cE (aE kind n s kids) 0=⟨kind,n,kids.length,kids.flatten.length+1,s⟩:=rfl;obtain⟨f,rfl⟩:∃ g,f=g+1:=⟨f - 1,by omega⟩
  rw[k7,n1,hx]
  have hkids:∀ kid∈kids,∃ w D,WFP K 2000 w D kid:=fun kid hkid=>by
   obtain⟨j,hj⟩:=List.getElem?_of_mem hkid;exact⟨_,_,hK j kid hj⟩
  have hd1:L.drop (i+1)=kids.flatten++post:=by
   rw[← List.drop_drop,hd,aE];rfl
  have hsz:((kids.flatten.length:Int)+1).toNat=kids.flatten.length+1:=by omega
  have hfit:=K4 L (i+(kids.flatten.length+1)) kids (i+1) kids.flatten.length post hkids hd1 (by omega) (Nat.le_refl _)
  dsimp only
  rw[if_neg (by
   intro hh
   rcases hh with h1 | h1 | h1 | h1 | h1 | h1
   ·exact absurd (hk.symm.trans h1) (by simp)
   ·exact absurd (hf.symm.trans h1) (by simp)
   ·exact absurd (hc.symm.trans h1) (by simp)
   ·omega
   ·omega
   ·have:=hlast h1.1
    exact h1.2 (by omega))]
  rw[hsz]
  by_cases h0:kids.length=0
  ·obtain rfl:kids=[]:=List.length_eq_zero_iff.1 h0;simp only[List.flatten_nil,List.length_nil] at hfit ⊢;rw[if_neg (by intro hh;exact hh.2 (by simp)),if_neg (by intro hh;rw[show (0+1 - 1:Nat)=0 from rfl] at hh;rw[hfit] at hh;cases hh)]
   obtain⟨f,rfl⟩:∃ g,f=g+1:=⟨f - 1,by simp only[List.flatten_nil,List.length_nil] at hfu;omega⟩
   split
   ·exact⟨_,rfl,.inr ⟨_,rfl⟩,fun hdD=>by omega⟩
   ·refine ⟨none,?_,.inl rfl,fun _=>rfl⟩
    rw[i7,if_pos (by simp)]
  ·rw[if_neg (by intro hh;exact h0 (by omega)),Nat.add_sub_cancel,if_neg (by rw[hfit];simp)]
   split
   ·exact⟨_,rfl,.inr ⟨_,rfl⟩,fun hdD=>by omega⟩
   ·rename_i hdep
    have hrest:∀ (rest:List aA) (k c f:Nat) (post':aA),kids.drop k=rest→L.drop c=rest.flatten++post→c+rest.flatten.length=i+(kids.flatten.length+1)→3 * rest.flatten.length+1≤f →
      ∃ r,i7 L f k c (i+(kids.flatten.length+1)) (d+1) ⟨kind,n,kids.length,kids.flatten.length+1,s⟩=some r∧(r=none∨∃ p,r=some (102,p))∧(d+(D+1)≤31→r=none):=by
     intro rest
     induction rest with
     | nil =>
      intro k c f _ hkd hLd hce hff;obtain⟨f,rfl⟩:∃ g,f=g+1:=⟨f - 1,by omega⟩
      have:kids.length≤k:=List.drop_eq_nil_iff.1 hkd
      refine ⟨none,?_,.inl rfl,fun _=>rfl⟩
      rw[i7,if_pos (by dsimp only;omega)]
     | cons a rest ihr =>
      intro k c f post' hkd hLd hce hff
      have hka:kids[k]?=some a:=by
       have:=congrArg (fun m=>m[0]?) hkd
       simpa using this
      have hkl:k<kids.length:=(List.getElem?_eq_some_iff.1 hka).1
      have hkr:kids.drop (k+1)=rest:=by
       rw[← List.drop_drop,hkd];rfl
      have hrl:rest.length=kids.length - (k+1):=by rw[← hkr,List.length_drop]
      obtain⟨a1,a2⟩:=(hK k a hka).pos;rw[List.flatten_cons,List.append_assoc] at hLd;rw[List.flatten_cons,List.length_append] at hce hff;obtain⟨f,rfl⟩:∃ g,f=g+1:=⟨f - 1,by omega⟩
      obtain⟨m1,m2⟩:=wS L c a _ hLd a1
      obtain⟨r,q1,q2,q3⟩:=ih k a hka L c (i+(kids.flatten.length+1)) (d+1) (decide ((k:Int)=(kids.length:Nat) - 1)) _ f hLd (by omega) (fun hl=>by
       have hl':(k:Int)=(kids.length:Nat) - 1:=by simpa using hl
       have:rest=[]:=List.length_eq_zero_iff.1 (by omega)
       subst this;simp only[List.flatten_nil,List.length_nil] at hce;omega) (by omega)
      rw[i7,if_neg (by dsimp only;omega)]
      dsimp only;rw[q1]
      match r,q2,q3 with
      | some r,q2,q3=>exact⟨_,rfl,q2,fun hdD=>q3 (by omega)⟩
      | none,_,_ =>
       dsimp only;rw[m1,a2,Int.toNat_natCast];exact ihr (k+1) (c+a.length) f post' hkr (by rw[← List.drop_drop,hLd,List.drop_left]) (by omega) (by omega)
    exact hrest kids 0 (i+1) f post rfl hd1 (by omega) (by omega)
theorem uP {M N:Nat}(h:M≤N)(x:bH)(hx:bW M x=true):bW N x=true:=by
 unfold bW at hx ⊢;split
 ·rename_i h1
  rw[if_pos h1] at hx;simp only[Bool.and_eq_true,decide_eq_true_eq] at hx ⊢;exact⟨hx.1,by omega⟩
 ·rename_i h1
  rw[if_neg h1] at hx;exact hx
theorem WFP.widen {K:Int→Bool}{M N:Nat}(h:M≤N){w:Bool}{D:Nat}{l:aA}(hl:WFP K M w D l):WFP K N w D l:=by
 induction hl with
 | node w D kind n s kids hk hf hc hK ih=>exact .node w D kind n s kids hk (uP h _ hf) hc ih
theorem WFP.short {K:Int→Bool}{M N:Nat}{w:Bool}{D:Nat}{l:aA}(hl:WFP K M w D l):(∀ x∈l,x.kind=1→x.text.length≤N)→WFP K N w D l:=by
 induction hl with
 | node w D kind n s kids hk hf hc hK ih =>
  intro hN;refine .node w D kind n s kids hk ?_ hc fun j kid hj=>ih j kid hj fun x hx=>hN x ?_
  ·have h1:=hN ⟨kind,n,kids.length,kids.flatten.length+1,s⟩ (by rw[aE];simp)
   unfold bW at hf ⊢;split
   ·rename_i h2
    rw[if_pos h2] at hf;simp only[Bool.and_eq_true,decide_eq_true_eq] at hf ⊢;exact⟨hf.1,h1 h2⟩
   ·rename_i h2
    rw[if_neg h2] at hf;exact hf
  ·rw[aE];exact List.mem_cons_of_mem _ (List.mem_flatten.2 ⟨kid,List.mem_of_getElem? hj,hx⟩)
def okB (k:Int):Bool:=![5,7,36,37].contains k
def WF (w:Bool) (l:aA):Prop:=∃ D,WFP okB 2000 w D l
def WX (w:Bool) (l:aA):Prop:=∃ M D,WFP okB M w D l
theorem WF.x {w:Bool}{l:aA}(h:WF w l):WX w l:=⟨2000,h⟩
theorem Ck:∀ (kids:List aA)(T:Nat→Bool),(∀ j kid,kids[j]?=some kid→WX (T j) kid)→∃ M D,∀ j kid,kids[j]?=some kid→WFP okB M (T j) D kid
 | [],T,_=>⟨0,0,fun j kid h=>by simp at h⟩
 | a :: kids,T,h=>by
  obtain⟨M,D,ha⟩:=h 0 a rfl;obtain⟨N,E,hk⟩:=Ck kids (fun j=>T (j+1)) (fun j kid hj=>h (j+1) kid (by simpa using hj))
  refine ⟨max M N,max D E,fun j kid hj=>?_⟩
  cases j with
  | zero =>
   cases hj
   exact (ha.widen (Nat.le_max_left _ _)).mono (Nat.le_max_left _ _)
  | succ j=>exact ((hk j kid (by simpa using hj)).widen (Nat.le_max_right _ _)).mono (Nat.le_max_right _ _)
theorem Cw:∀ (kids:List aA)(T:Nat→Bool),(∀ j kid,kids[j]?=some kid→WF (T j) kid)→∃ D,∀ j kid,kids[j]?=some kid→WFP okB 2000 (T j) D kid
 | [],T,_=>⟨0,fun j kid h=>by simp at h⟩
 | a :: kids,T,h=>by
  obtain⟨D,ha⟩:=h 0 a rfl;obtain⟨E,hk⟩:=Cw kids (fun j=>T (j+1)) (fun j kid hj=>h (j+1) kid (by simpa using hj))
  refine ⟨max D E,fun j kid hj=>?_⟩
  cases j with
  | zero =>
   cases hj
   exact ha.mono (Nat.le_max_left _ _)
  | succ j=>exact (hk j kid (by simpa using hj)).mono (Nat.le_max_right _ _)
theorem WF.node {w:Bool}{kind n:Int}{s:List UInt8}{kids:List aA}(hk:(kS ⟨kind,n,kids.length,0,s⟩ w&&okB kind)=true)(hf:bW 2000 ⟨kind,n,kids.length,0,s⟩=true)(hc:bJ ⟨kind,n,kids.length,0,s⟩=true)
  (hK:∀ (j:Nat) (kid:aA),kids[j]?=some kid→WF (cQ kind kids.length j) kid):WF w (aE kind n s kids):=by
 obtain⟨D,hD⟩:=Cw kids (fun j=>cQ kind kids.length j) hK
 exact⟨D+1,.node w D kind n s kids hk hf hc hD⟩
theorem WX.node {w:Bool}{kind n:Int}{s:List UInt8}{kids:List aA}(hk:(kS ⟨kind,n,kids.length,0,s⟩ w&&okB kind)=true)(hf:bW s.length ⟨kind,n,kids.length,0,s⟩=true)(hc:bJ ⟨kind,n,kids.length,0,s⟩=true)
  (hK:∀ (j:Nat) (kid:aA),kids[j]?=some kid→WX (cQ kind kids.length j) kid):WX w (aE kind n s kids):=by
 obtain⟨M,D,hD⟩:=Ck kids (fun j=>cQ kind kids.length j) hK
 exact⟨max M s.length,D+1,.node w D kind n s kids hk (uP (Nat.le_max_right _ _) _ hf) hc fun j kid hj=>(hD j kid hj).widen (Nat.le_max_left _ _)⟩
theorem WX.checked {w:Bool}{l:aA}(h:WX w l)(hs:cM l=false):WF w l:=by
 obtain⟨M,D,h⟩:=h;refine ⟨D,h.short fun x hx hk=>?_⟩
 unfold cM at hs;rw[List.any_eq_false] at hs;have:=hs x hx
 simp only[Bool.and_eq_true,decide_eq_true_eq] at this;omega
theorem gK {P:Nat→aA→Prop}{a:aA}(h:P 0 a):∀ (j:Nat)(kid:aA),[a][j]?=some kid→P j kid
 | 0,_,e=>by cases e;exact h
 | j+1,_,e=>by simp at e
theorem kD {P:Nat→aA→Prop}{a b:aA}(h:P 0 a)(h1:P 1 b):∀ (j:Nat)(kid:aA),[a,b][j]?=some kid→P j kid
 | 0,_,e=>by cases e;exact h
 | 1,_,e=>by cases e;exact h1
 | j+2,_,e=>by simp at e
theorem yM {P:Nat→aA→Prop}{a b c:aA}(h:P 0 a)(h1:P 1 b)(h2:P 2 c):∀ (j:Nat)(kid:aA),[a,b,c][j]?=some kid→P j kid
 | 0,_,e=>by cases e;exact h
 | 1,_,e=>by cases e;exact h1
 | 2,_,e=>by cases e;exact h2
 | j+3,_,e=>by simp at e
theorem sE:∀ (l:List UInt8)(i j:Nat),(bN i l).2=(bN j l).2
 | [],_,_=>rfl
 | [c],_,_=>by simp only[bN];split <;> rfl
 | c :: d :: l,i,j=>by
  simp only[bN];split
  ·exact sE l _ _
  ·exact sE (d :: l) _ _
theorem nC (c d:UInt8)(l:List UInt8):dP (c :: d :: l)=if c.toNat=92 then dP l else dP (d :: l):=by
 unfold dP;rw[bN];split
 ·exact congrArg _ (sE l _ _)
 ·exact congrArg _ (sE (d :: l) _ _)
theorem pD:∀ (a b:List UInt8),dP a=true→dP b=true→dP (a++b)=true
 | [],b,_,h=>h
 | [c],b,h1,h2=>by
  have hc:¬ c.toNat=92:=by
   intro e;simp [dP,bN,e] at h1
  cases b with
  | nil=>exact h1
  | cons d b =>
   rw[List.cons_append,List.nil_append,nC,if_neg hc];exact h2
 | c :: d :: a,b,h1,h2=>by
  rw[nC] at h1;rw[List.cons_append,List.cons_append,nC];split
  ·rename_i hc
   rw[if_pos hc] at h1;exact pD a b h1 h2
  ·rename_i hc
   rw[if_neg hc] at h1;exact pD (d :: a) b h1 h2
theorem uX:∀ (a:List UInt8),dP a=false→dP (a++[92])=true
 | [],h=>by simp [dP,bN] at h
 | [c],h=>by
  have hc:c.toNat=92:=by
   apply Classical.byContradiction
   intro e;simp [dP,bN,e] at h
  rw[List.cons_append,List.nil_append,nC,if_pos hc];rfl
 | c :: d :: a,h=>by
  rw[nC] at h;rw[List.cons_append,List.cons_append,nC];split
  ·rename_i hc
   rw[if_pos hc] at h;exact uX a h
  ·rename_i hc
   rw[if_neg hc] at h;exact uX (d :: a) h
theorem zB (s:List UInt8):dP (nJ s)=true:=by
 unfold nJ;split
 ·assumption
 ·rename_i h
  exact uX s (by simpa using h)
theorem r5:∀ (s:List UInt8),dP (b8 s)=true
 | []=>rfl
 | c :: l=>by
  rw[b8];refine pD _ _ ?_ (r5 l);split
  ·rw[nC,if_pos (by decide)]
   rfl
  ·rename_i hc
   have hc':¬ c.toNat=92:=by
    intro e;rw[e] at hc;exact hc (by decide)
   simp [dP,bN,hc']
theorem WX.lit {n:Int}{s:List UInt8}(h:n=0∨n=1∧dP s=true):WX true (aE 1 n s []) :=
 WX.node (by rfl) (by simpa [bW] using h) (by rfl) fun j kid hj=>by simp at hj
theorem WX.lit_inv {y:bH}(h:WX true [y])(hk:y.kind=1):(y.n=0∨y.n=1∧dP y.text=true):=by
 obtain⟨M,D,h⟩:=h;generalize hl:[y]=l at h
 cases h with
 | node w D kind n s kids hk' hf hc hK =>
  rw[aE] at hl;obtain⟨rfl,_⟩:=List.cons.inj hl;unfold bW at hf;rw[if_pos hk] at hf;simp only[Bool.and_eq_true,Bool.or_eq_true,decide_eq_true_eq] at hf;exact hf.1
def JI (how:Nat) (x:aA):Prop:=WX true x∧∀ y,x=[y]→y.kind=1→y.n=how
theorem JI.more {how:Nat}{kind n:Int}{s:List UInt8}{kids:List aA}(h:WX true (aE kind n s kids))(hk:kind≠1):JI how (aE kind n s kids) :=
 ⟨h,fun y e hy=>by
  rw[aE] at e;obtain⟨rfl,_⟩:=List.cons.inj e;exact absurd hy hk⟩
theorem JI.lit {how:Nat}{s:List UInt8}(hh:how=0∨how=1∧dP s=true):JI how (aE 1 how s []) :=
 ⟨WX.lit (hh.elim (fun h=>.inl (by rw[h];rfl)) (fun h=>.inr ⟨by rw[h.1];rfl,h.2⟩)),fun y e _=>by
  rw[aE] at e;obtain⟨rfl,_⟩:=List.cons.inj e;rfl⟩
theorem FR {how:Nat}(out:List aA)(x:aA)(ho:∀ y∈out,JI how y)(hx:JI how x):∀ y∈aY out x,JI how y:=by
 have hall:∀ y∈out++[x],JI how y:=fun y hy=>by
  rcases List.mem_append.1 hy with h | h
  ·exact ho y h
  ·rw[List.mem_singleton] at h;exact h ▸ hx
 unfold aY;split
 ·rename_i y z hl
  obtain⟨Q,rfl⟩:=List.getLast?_eq_some_iff.1 hl;split
  ·rename_i hk
   rw[List.dropLast_concat];have hy:=ho [y] (by simp)
   have n1:=hy.2 y rfl hk.1;have n2:=hx.2 z rfl hk.2;have i1:=hy.1.lit_inv hk.1;have i2:=hx.1.lit_inv hk.2;intro a ha
   rcases List.mem_append.1 ha with h | h
   ·exact ho a (by simp [h])
   ·rw[List.mem_singleton] at h;subst h;rw[n2];refine JI.lit ?_;rw[n1] at i1;rw[n2] at i2
    rcases i1 with i1 | i1
    ·exact .inl (by omega)
    ·rcases i2 with i2 | i2
     ·exact .inl (by omega)
     ·exact .inr ⟨by omega,pD _ _ i1.2 i2.2⟩
  ·exact hall
 ·exact hall
theorem EU (out:List aA)(x:aA):0<(aY out x).length:=by
 unfold aY;split
 ·split <;> simp
 ·simp
theorem CA {how:Nat}:∀ (l out:List aA),(∀ y∈out,JI how y)→(∀ y∈l,JI how y)→(∀ y∈l.foldl aY out,JI how y)∧(0<out.length+l.length→0<(l.foldl aY out).length)
 | [],out,ho,_=>⟨ho,fun h=>by simpa using h⟩
 | x :: l,out,ho,hl=>by
  obtain⟨h1,h2⟩:=CA l (aY out x) (FR out x ho (hl x (by simp))) (fun y hy=>hl y (by simp [hy]))
  exact⟨h1,fun _=>h2 (by have:=EU out x;omega)⟩
theorem lM {P:aA→Prop}{l:List aA}(h:∀ x∈l,P x)(j:Nat)(kid:aA)(hj:l[j]?=some kid):P kid:=h kid (List.mem_of_getElem? hj)
theorem JA {how:Nat}(l:List aA)(hl:∀ x∈l,JI how x)(hp:0<l.length):WX true (iJ l):=by
 obtain⟨h1,h2⟩:=CA l [] (fun _ h=>nomatch h) hl
 have h3:=h2 (by simpa using hp)
 unfold iJ;split
 ·rename_i x hx
  exact (h1 x (by rw[hx];simp)).1
 ·exact WX.node (by rfl) (by rfl) (by simp [bJ];omega) fun j kid hj=>lM (fun x hx=>(h1 x hx).1) j kid hj
theorem xM (l:List aA)(h:∀ x∈l,WF false x):WF false (eH l):=by
 unfold eH;split
 ·exact .node (by rfl) (by rfl) (by rfl) fun j kid hj=>by simp at hj
 ·exact h _ (by simp)
 ·rename_i h0 h1
  refine .node (by rfl) (by rfl) ?_ fun j kid hj=>lM h j kid hj
  have:2≤l.length:=by
   match l,h0,h1 with
   | [],h0,_=>exact absurd rfl h0
   | [a],_,h1=>exact absurd rfl (h1 a)
   | a :: b :: l,_,_=>simp
  simp [bJ]
  omega
theorem CI (l:List aA)(h:∀ x∈l,WF true x):WF true (lC l):=by
 unfold lC;split
 ·exact h _ (by simp)
 ·exact .node (by rfl) (by rfl) (by simp [bJ]) fun j kid hj=>lM h j kid hj
def oO (l:List (Nat×aA)):Prop:=∀ t∈l,(t.1=11∨t.1=12∨t.1=13∨t.1=14)∧WF true t.2
theorem wE:∀ (l:List (Nat×aA))(c:aA),oO l→WF false c→WF false (fO l c)
 | [],c,_,hc=>hc
 | t :: l,c,hl,hc=>by
  have ih:=wE l c (fun t ht=>hl t (by simp [ht])) hc
  obtain⟨h1,h2⟩:=hl t (by simp)
  show WF false (if t.1=14 then aE 34 0 [] [t.2,fO l c] else aE 33 ((t.1:Int) - 10) [] [t.2,fO l c])
  split
  ·exact .node (by rfl) (by rfl) (by rfl) (kD h2 ih)
  ·refine .node (by rfl) ?_ (by rfl) (kD h2 ih)
   simp [bW]
   omega
def pW (l:List (List UInt8×aA)):Prop:=∀ t∈l,bF t.1=true∧WF true t.2
theorem KA (sets:List (List UInt8×aA))(words:List aA)(hs:pW sets)(hw:∀ x∈words,WF true x):WF false (dH sets words):=by
 unfold dH;split
 ·refine xM _ fun x hx=>?_
  obtain⟨t,ht,rfl⟩:=List.mem_map.1 hx;obtain⟨h1,h2⟩:=hs t ht;exact .node (by rfl) (by simpa [bW,j8] using h1) (by rfl) (gK h2)
 ·rename_i hl
  have h0:WF false (aE 21 0 [] words):=.node (by rfl) (by rfl) (by simp [bJ];omega) fun j kid hj=>lM hw j kid hj
  clear hl
  induction sets with
  | nil=>exact h0
  | cons t sets ih =>
   obtain⟨h1,h2⟩:=hs t (by simp)
   rw[List.foldr_cons];exact .node (by rfl) (by simpa [bW,j8] using h1) (by rfl) (kD h2 (ih fun t ht=>hs t (by simp [ht])))
def OkP {α:Type} (x:aJ α) (Q:α→Prop):Prop:=∀ a e,x=some (.ok (a,e))→Q a
theorem OkP.ok {α:Type}{Q:α→Prop}{a:α}{e:Nat}(h:Q a):OkP (pOk a e) Q:=fun _ _ h'=>by cases h';exact h
theorem OkP.err {α:Type}{Q:α→Prop}{c p:Nat}:OkP (jR c p:aJ α) Q:=fun _ _ h=>by cases h
theorem OkP.form {α:Type}{Q:α→Prop}{ts:List aH}{i:Nat}:OkP (iZ ts i:aJ α) Q:=.err
theorem OkP.nest {α:Type}{Q:α→Prop}{ts:List aH}{i:Nat}:OkP (nQ ts i:aJ α) Q:=.err
theorem OkP.none {α:Type}{Q:α→Prop}:OkP (none:aJ α) Q:=fun _ _ h=>by cases h
theorem OkP.mono {α:Type}{x:aJ α}{Q R:α→Prop}(h:OkP x Q)(hR:∀ a,Q a→R a):OkP x R:=fun a e hx=>hR a (h a e hx)
theorem OkP.go {α β:Type}{x:aJ α}{k:α→Nat→aJ β}{Q:α→Prop}{R:β→Prop}(h:OkP x Q)(hk:∀ a e,Q a→OkP (k a e) R):OkP (x.go k) R:=by
 match x,h with
 | .none,_=>exact .none
 | some (.error e),_=>exact fun _ _ h'=>by cases h'
 | some (.ok (a,e)),h=>exact hk a e (h a e rfl)
theorem OkP.take {β:Type}{ts:List aH}{i:Nat}{ks:List Nat}{k:Nat→aJ β}{R:β→Prop}(hk:∀ e,OkP (k e) R):OkP (fG ts i ks k) R:=by
 unfold fG;split
 ·exact hk _
 ·exact .form
def qJ (t:aH):Prop:=(t.kind=20∨t.kind=21∨t.kind=22→bF t.text=true∨t.text=[42])∧(t.kind=23→1≤t.num∧t.num≤9)
def rM (l:List aA):Prop:=l.length % 2=1∧∀ (j:Nat) (x:aA),l[j]?=some x→WF (decide (j=0) || decide (j % 2=1)) x
theorem rM.snoc {l:List aA}(h:rM l){a b:aA}(ha:WF true a)(hb:WF false b):rM (l++[a,b]):=by
 obtain⟨h1,h2⟩:=h;refine ⟨by simp only[List.length_append,List.length_cons,List.length_nil];omega,fun j x hj=>?_⟩
 by_cases hlt:j<l.length
 ·exact h2 j x (by rwa [List.getElem?_append_left hlt] at hj)
 ·rw[List.getElem?_append_right (by omega)] at hj
  obtain⟨d,hd⟩:∃ d,j - l.length=d:=⟨_,rfl⟩;rw[hd] at hj
  match d,hd,hj with
  | 0,hd,hj =>
   cases hj
   rw[show (decide (j=0) || decide (j % 2=1))=true by simp;omega]
   exact ha
  | 1,hd,hj =>
   cases hj
   rw[show (decide (j=0) || decide (j % 2=1))=false by simp;omega]
   exact hb
  | d+2,hd,hj=>simp at hj
structure Ly (ts:List aH) (f:Nat):Prop where
 list:∀ d i,OkP (cU ts f d i) (WF false)
 chains:∀ d i L,(∀ x∈L,WF false x)→OkP (d7 ts f d i L) (WF false)
 chain:∀ d i,OkP (eV ts f d i) (WF false)
 chainR:∀ d i o,WF false o→OkP (gF ts f d i o) (WF false)
 pipe:∀ d i,OkP (eA ts f d i) (WF false)
 pipeR:∀ d i L,(∀ x∈L,WF false x)→OkP (fC ts f d i L) fun l=>(∀ x∈l,WF false x)∧0<l.length
 command:∀ d i,OkP (eL ts f d i) (WF false)
 block:∀ d i,OkP (fZ ts f d i) (WF false)
 test:∀ d i,OkP (jP ts f d i) (WF false)
 body:∀ d i,OkP (iI ts f d i) (WF false)
 choice:∀ d i,OkP (jZ ts f d i) (WF false)
 whl:∀ d i,OkP (j7 ts f d i) (WF false)
 each:∀ d i,OkP (kE ts f d i) (WF false)
 choose:∀ d i,OkP (j5 ts f d i) (WF false)
 cases:∀ d i L,rM L→OkP (jM ts f d i L) rM
 function:∀ d i,OkP (jS ts f d i) (WF false)
 turns:∀ d i c L,WF false c→oO L→OkP (fY ts f d i c L) (WF false)
 simple:∀ d i,OkP (gD ts f d i) (WF false)
 sets:∀ d i L,pW L→OkP (f8 ts f d i L) pW
 items:∀ d i ws L,(∀ x∈ws,WF true x)→oO L→OkP (dR ts f d i ws L) fun o=>(∀ x∈o.1,WF true x)∧oO o.2
 words:∀ d i how L,how≤1→(∀ x∈L,WF true x)→OkP (eW ts f d i how L) fun l=>∀ x∈l,WF true x
 word:∀ d i how,how≤1→OkP (dC ts f d i how) (WF true)
 wordR:∀ d i how L,how≤1→(∀ x∈L,JI how x)→OkP (fD ts f d i how L) fun l=>(∀ x∈l,JI how x)∧0<l.length
 one:∀ d i,eF ts i=true→OkP (fT ts f d i) (JI 0)
theorem e8 {P:aA→Prop}{l:List aA}{x:aA}(h:∀ y∈l,P y)(hx:P x):∀ y∈l++[x],P y:=fun y hy=>by
 rcases List.mem_append.1 hy with h' | h'
 ·exact h y h'
 ·rw[List.mem_singleton] at h';exact h' ▸ hx
theorem oO.snoc {l:List (Nat×aA)}(h:oO l){k:Nat}{w:aA}(hk:k=11∨k=12∨k=13∨k=14)(hw:WF true w):oO (l++[(k,w)]):=fun y hy=>by
 rcases List.mem_append.1 hy with h' | h'
 ·exact h y h'
 ·rw[List.mem_singleton] at h';exact h' ▸ ⟨hk,hw⟩
theorem pW.snoc {l:List (List UInt8×aA)}(h:pW l){n:List UInt8}{w:aA}(hn:bF n=true)(hw:WF true w):pW (l++[(n,w)]):=fun y hy=>by
 rcases List.mem_append.1 hy with h' | h'
 ·exact h y h'
 ·rw[List.mem_singleton] at h';exact h' ▸ ⟨hn,hw⟩
theorem uR {ts:List aH}{i:Nat}(h:jW ts i=true):(aK ts i).kind=11∨(aK ts i).kind=12∨(aK ts i).kind=13∨(aK ts i).kind=14:=by
 simpa using (oJ _ _ _).1 h
theorem Ko {t:aH}{x:aA}(h:JI 0 x):JI 1 (nL t x):=by
 unfold nL;split
 ·exact JI.lit (how:=1) (.inr ⟨rfl,zB _⟩)
 split
 ·exact JI.lit (how:=1) (.inr ⟨rfl,r5 _⟩)
 ·exact JI.more (WX.node (by rfl) (by rfl) (by rfl) (gK h.1)) (by decide)
theorem oY {ts:List aH}(ht:∀ i,qJ (aK ts i)):∀ f,Ly ts f
 | 0=>by
  constructor <;> intros <;> simp only[cU,d7,eV,gF,eA,fC,eL,fZ,jP,iI,jZ,j7,kE,j5,jM,jS,fY,gD,f8,dR,eW,dC,fD,fT] <;> exact OkP.none
 | f+1=>by
  have ih:=oY ht f;refine ⟨?_,?_,?_,?_,?_,?_,?_,?_,?_,?_,?_,?_,?_,?_,?_,?_,?_,?_,?_,?_,?_,?_,?_,?_⟩
  ·intro d i;rw[cU];split
   ·exact .nest
   ·exact ih.chains _ _ _ (fun _ h=>nomatch h)
  ·intro d i L hL;rw[d7];split
   ·exact .ok (xM _ hL)
   ·exact (ih.chain _ _).go fun c e hc=>ih.chains _ _ _ (e8 hL hc)
  ·intro d i;rw[eV];exact (ih.pipe _ _).go fun c e hc=>ih.chainR _ _ _ hc
  ·intro d i o ho;rw[gF];split
   ·refine (ih.pipe _ _).go fun c e hc=>ih.chainR _ _ _ ?_
    split
    ·exact .node (by rfl) (by rfl) (by rfl) (kD ho hc)
    ·exact .node (by rfl) (by rfl) (by rfl) (kD ho hc)
   ·exact .ok ho
  ·intro d i;rw[eA];refine (ih.pipeR _ _ [] (fun _ h=>nomatch h)).go fun l e ⟨hl,hp⟩=>.ok ?_
   have hb:WF false (if 1<l.length then aE 32 0 [] l else l.headD []):=by
    split
    ·exact .node (by rfl) (by rfl) (by simp [bJ];omega) fun j kid hj=>lM hl j kid hj
    ·cases l with
     | nil=>simp at hp
     | cons a l=>exact hl a (by simp)
   split
   ·exact .node (by rfl) (by rfl) (by rfl) (gK hb)
   ·exact hb
  ·intro d i L hL;rw[fC];refine (ih.command _ _).go fun c e hc=>?_
   split
   ·exact ih.pipeR _ _ _ (e8 hL hc)
   ·exact .ok ⟨e8 hL hc,by simp⟩
  ·intro d i;rw[eL];split
   ·exact (ih.block _ _).go fun c e hc=>ih.turns _ _ _ _ hc (fun _ h=>nomatch h)
   split
   ·exact ih.simple _ _
   split
   ·exact ih.choice _ _
   split
   ·exact ih.whl _ _
   split
   ·exact ih.each _ _
   split
   ·exact ih.choose _ _
   split
   ·exact ih.function _ _
   ·exact .form
  ·intro d i;rw[fZ];exact .take fun a=>(ih.list _ _).go fun l e hl=>.take fun _=>.ok hl
  ·intro d i;rw[jP];exact .take fun a=>(ih.list _ _).go fun l e hl=>.take fun _=>.ok hl
  ·intro d i;rw[iI];split
   ·exact .nest
   ·exact ih.command _ _
  ·intro d i;rw[jZ];refine (ih.test _ _).go fun c j hc=>(ih.body _ _).go fun y k hy=>?_
   split
   ·exact (ih.body _ _).go fun z m hz=>.ok (.node (by rfl) (by rfl) (by rfl) (yM hc hy hz))
   ·exact .ok (.node (by rfl) (by rfl) (by rfl) (yM hc hy (xM [] (fun _ h=>nomatch h))))
  ·intro d i;rw[j7];exact (ih.test _ _).go fun c j hc=>(ih.body _ _).go fun y k hy=>.ok (.node (by rfl) (by rfl) (by rfl) (kD hc hy))
  ·intro d i;rw[kE];refine .take fun a=>?_
   split
   ·rename_i hn
    split
    ·exact (ih.words _ _ _ [] (by omega) (fun _ h=>nomatch h)).go fun ws j hw=>.take fun b=>(ih.body _ _).go fun y k hy=>.ok (.node (by rfl) (by simpa [bW,j8] using hn.2) (by rfl) (kD (CI _ hw) hy))
    ·exact .form
   ·exact .form
  ·intro d i;rw[j5];refine .take fun a=>(ih.word _ _ _ (by omega)).go fun w j hw=>.take fun b=>.take fun c=>?_
   refine (ih.cases _ _ _ ⟨rfl,fun j x hj=>?_⟩).go fun l k hl=>.take fun e=>ih.turns _ _ _ _ ?_ (fun _ h=>nomatch h)
   ·cases j with
    | zero =>
     cases hj
     exact .node (by rfl) (by rfl) (by rfl) (gK hw)
    | succ j=>simp at hj
   ·obtain⟨h1,h2⟩:=hl;refine .node (by rfl) (by rfl) (by simp [bJ];omega) fun j kid hj=>?_
    have:=h2 j kid hj
    have hm:((j:Int) % 2=1) ↔ (j % 2=1):=by omega
    rw[show cQ 30 l.length j=(decide (j=0) || decide (j % 2=1)) by simp [cQ,hm]]
    exact this
  ·intro d i L hL;rw[jM];split
   ·exact (ih.words _ _ _ [] (by omega) (fun _ h=>nomatch h)).go fun ws j hw=>.take fun a=>(ih.list _ _).go fun c e hc=>ih.cases _ _ _ (hL.snoc (CI _ hw) hc)
   ·exact .ok hL
  ·intro d i;rw[jS];split
   ·rename_i hn
    exact (ih.block _ _).go fun l e hl=>.ok (.node (by rfl) (by simpa [bW,j8] using hn.2.1) (by rfl) (gK hl))
   ·exact .form
  ·intro d i c L hc hL;rw[fY];split
   ·rename_i hk
    exact (ih.word _ _ _ (by omega)).go fun w j hw=>ih.turns _ _ _ _ hc (hL.snoc (uR hk) hw)
   ·exact .ok (wE _ _ hL hc)
  ·intro d i;rw[gD];refine (ih.sets _ _ [] (fun _ h=>nomatch h)).go fun s j hs=>(ih.items _ _ [] [] (fun _ h=>nomatch h) (fun _ h=>nomatch h)).go fun wt e ⟨hw,hT⟩=>?_
   split
   ·exact .form
   ·exact .ok (wE _ _ hT (KA _ _ hs hw))
  ·intro d i L hL;rw[f8];split
   ·rename_i hk
    exact (ih.word _ _ _ (by omega)).go fun w j hw=>ih.sets _ _ _ (hL.snoc hk.2.2.1 hw)
   ·exact .ok hL
  ·intro d i ws L hws hL;rw[dR];split
   ·rename_i hk
    exact (ih.word _ _ _ (by omega)).go fun w j hw=>ih.items _ _ _ _ hws (hL.snoc (uR hk) hw)
   split
   ·exact .ok ⟨hws,hL⟩
   ·exact (ih.word _ _ _ (by omega)).go fun w j hw=>ih.items _ _ _ _ (e8 hws hw) hL
  ·intro d i how L hh hL;rw[eW];split
   ·exact (ih.word _ _ _ hh).go fun w j hw=>ih.words _ _ _ _ hh (e8 hL hw)
   ·exact .ok hL
  ·intro d i how hh;rw[dC];refine (ih.wordR _ _ _ [] hh (fun _ h=>nomatch h)).go fun l e ⟨hl,hp⟩=>?_
   split
   ·exact .err
   ·rename_i hs
    refine .ok (WX.checked ?_ (by simpa using hs))
    unfold kW;split
    ·exact WX.node (by rfl) (by rfl) (by rfl) (gK (WX.lit (.inr ⟨rfl,zB _⟩)))
    ·exact JA l hl hp
  ·intro d i how L hh hL;rw[fD];split
   ·exact .form
   ·rename_i hit
    refine (ih.one _ _ (by simpa using hit)).go fun x j hx=>?_
    have hy:JI how (if how=1 then nL (aK ts i) x else x):=by
     split
     ·rename_i h1
      subst h1;exact Ko hx
     ·obtain rfl:how=0:=by omega
      exact hx
    dsimp only;split
    ·exact ih.wordR _ _ _ _ hh (e8 hL hy)
    split
    ·exact .ok ⟨e8 hL hy,by simp⟩
    ·exact ih.wordR _ _ _ _ hh (e8 hL hy)
  ·intro d i hit;rw[fT];have hT:=ht i;split
   ·exact .ok (JI.lit (how:=0) (.inl rfl))
   have hv:∀ s,bF s=true∨s=[42]→WX true (aE 2 0 s []):=fun s hs=>WX.node (by rfl) (by simpa [bW] using hs) (by rfl) fun j kid hj=>by simp at hj
   split
   ·rename_i h1
    exact .ok (JI.more (WX.node (by rfl) (by rfl) (by rfl) (gK (hv _ (hT.1 (.inr (.inl h1)))))) (by decide))
   split
   ·rename_i h1
    exact .ok (JI.more (WX.node (by rfl) (by rfl) (by rfl) (gK (hv _ (hT.1 (.inr (.inr h1)))))) (by decide))
   split
   ·rename_i h1
    have:=hT.2 h1
    exact .ok (JI.more (WX.node (by rfl) (by simp [bW];omega) (by rfl) (gK (hv _ (.inr rfl)))) (by decide))
   split
   ·split
    ·exact .nest
    ·exact (ih.words _ _ _ [] (by omega) (fun _ h=>nomatch h)).go fun l j hl=>.take fun _=>.ok (JI.more (WX.node (by rfl) (by rfl) (by simp [bJ]) fun j kid hj=>(lM hl j kid hj).x) (by decide))
   split
   ·exact (ih.list _ _).go fun l j hl=>.take fun _=>.ok (JI.more (WX.node (by rfl) (by rfl) (by rfl) (gK hl.x)) (by decide))
   ·rename_i g1 g2 g3 g4 g5 g6
    have hk:=(oJ _ _ _).1 hit;simp only[List.mem_cons,List.not_mem_nil,or_false] at hk;exact .ok (JI.more (hv _ (hT.1 (by omega))) (by decide))
def dA (l:aA):Option (Nat×Option Nat) :=
 if l.length=0∨3000<l.length then some (111,none)
 else match k7 l (3 * l.length) 0 l.length 1 false true with
  | some none=>none
  | some (some (c,p))=>some (c,some p)
  | none=>some (0,none)
def nM (L:List UInt8):Except (Nat×Option Nat) aA :=
 match dD (L.length+1) true L 0 with
 | .error (c,p)=>.error (c,some p)
 | .ok ts=>match cU ts (12 * ts.length+11) 0 0 with
  | none=>.error (0,none)
  | some (.error (c,p))=>.error (c,some p)
  | some (.ok (l,i)) =>
   if isK ts i [0]=false then .error (108,some (aK ts i).place)
   else match dA l with
    | none=>.ok l
    | some (c,p)=>.error (c,if c=102 then some 0 else p)
theorem Jo {l:aA}(h:WF false l):dA l=none∨dA l=some (111,none)∨∃ p,dA l=some (102,some p):=by
 unfold dA;split
 ·exact .inr (.inl rfl)
 ·obtain⟨D,h⟩:=h;obtain⟨r,h1,h2,_⟩:=xY h l 0 l.length 1 true [] (3 * l.length) (by simp) (by omega) (fun _=>by omega) (Nat.le_refl _)
  rw[h1]
  rcases h2 with rfl | ⟨p,rfl⟩
  ·exact .inl rfl
  ·exact .inr (.inr ⟨p,rfl⟩)
theorem AB (L:List UInt8):∀ (us:List aH)(t:aH),pT L t us→∃ v,(t :: us).getLast?=some v∧v.kind=0
 | [],t,h=>⟨t,rfl,h.1⟩
 | u :: us,t,h=>by
  obtain⟨v,h1,h2⟩:=AB L us u h.2;exact⟨v,by rw[List.getLast?_cons_cons];exact h1,h2⟩
theorem wK:∀ (l x:List UInt8)(n:Nat),dG l=some (x,n)→x.length≤l.length
 | [],x,n,h=>by cases h
 | [c],x,n,h=>by
  simp only[dG] at h;split at h
  ·cases h
   exact Nat.zero_le _
  ·cases h
 | c :: d :: l,x,n,h=>by
  simp only[dG] at h;split at h
  ·split at h
   ·cases hd:dG l with
    | none=>rw[hd] at h;cases h
    | some y =>
     rw[hd] at h
     cases h
     have:=wK l y.1 y.2 hd
     simp only[List.length_cons];omega
   ·cases h
    exact Nat.zero_le _
  ·cases hd:dG (d :: l) with
   | none=>rw[hd] at h;cases h
   | some y =>
    rw[hd] at h
    cases h
    have:=wK (d :: l) y.1 y.2 hd
    simp only[List.length_cons] at this ⊢;omega
theorem JB (l:List UInt8)(p:Nat)(t:aH)(n:Nat)(h:d8 l p = .ok (t,n)):qJ t∧t.text.length≤l.length:=by
 cases l with
 | nil =>
  simp only[d8] at h
  cases h
  exact⟨⟨fun e=>(by simp at e),fun e=>(by cases e)⟩,Nat.zero_le _⟩
 | cons c m =>
  simp only[d8] at h;split at h
  ·rename_i hb
   cases h
   rcases xU (c :: m) with e | ⟨e,_,_⟩
   ·exact absurd (by rw[e]) hb
   ·have h1:=(List.getElem?_eq_some_iff.1 e).1;have h2:dI.length=18:=rfl;exact⟨⟨fun e=>by simp only[] at e;omega,fun e=>by simp only[] at e;omega⟩,Nat.zero_le _⟩
  ·split at h
   ·cases h
   ·split at h
    ·split at h
     ·rename_i x n' hd
      cases h
      refine ⟨⟨fun e=>by simp at e,fun e=>by cases e⟩,?_⟩
      exact Nat.le_succ_of_le (wK m x n' hd)
     ·cases h
    ·split at h
     ·split at h
      ·rename_i k n' x z hd
       cases h
       unfold lL at hd;split at hd
       ·rename_i hc
        cases hd
        exact⟨⟨fun e=>by simp at e,fun _=>by simp only[];omega⟩,Nat.zero_le _⟩
       ·split at hd
        ·rename_i hs
         simp only[Option.some.injEq,Prod.mk.injEq] at hd;obtain⟨rfl,rfl,rfl,rfl⟩:=hd;have h2:=z8 (m.headD 0).toNat;have h3:=vA (m.drop (lB (m.headD 0).toNat));rw[List.length_drop] at h3;exact⟨⟨fun _=>hs.symm,fun e=>by simp only[] at e;omega⟩,by simp only[List.length_cons];omega⟩
        ·cases hd
      ·cases h
     ·cases h
      exact⟨⟨fun e=>by simp at e,fun e=>by cases e⟩,(List.takeWhile_sublist _).length_le⟩
theorem Lc:∀ (f:Nat)(first:Bool)(l:List UInt8)(p:Nat)(ts:List aH),dD f first l p = .ok ts→∀ t∈ts,qJ t∧t.text.length≤l.length∧t.place≤p+l.length:=by
 intro f
 induction f with
 | zero=>intro first l p ts h;cases h;intro t ht;cases ht
 | succ f ih =>
  intro first l p ts h;rw[dD] at h;have hs:=oA false l
  cases ht:d8 (l.drop (aQ false l)) (p+aQ false l) with
  | error e=>rw[ht] at h;cases h
  | ok y =>
   obtain⟨t,n⟩:=y;rw[ht] at h;have hf:=JB _ _ _ _ ht;obtain⟨n1,n2,_⟩:=sC _ _ _ _ ht;rw[List.length_drop] at hf n1;have ht':qJ { t with glue:=!first&&aQ false l==0 }∧t.text.length≤l.length∧t.place≤p+l.length:=⟨hf.1,by omega,by omega⟩
   by_cases hk0:t.kind=0
   ·simp only[hk0,if_true] at h
    cases h
    intro u hu;rw[List.mem_singleton] at hu;subst hu;rw[hk0] at ht';exact ht'
   ·simp only[hk0,if_false] at h
    cases hl:dD f false (l.drop (aQ false l+n)) (p+aQ false l+n) with
    | error e=>rw[hl] at h;cases h
    | ok us =>
     rw[hl] at h
     cases h
     intro u hu
     cases hu with
     | head=>exact ht'
     | tail _ hu =>
      have h1:=ih _ _ _ _ hl u hu;rw[List.length_drop] at h1;exact⟨h1.1,by omega,by omega⟩
theorem Js (L:List UInt8):∀ (f:Nat)(first:Bool)(k:Nat)(ts:List aH),k≤L.length→dD f first (L.drop k) k = .ok ts→ts.length≤L.length - k+1:=by
 intro f
 induction f with
 | zero=>intro first k ts _ h;cases h;simp
 | succ f ih =>
  intro first k ts hk h;rw[dD] at h;have hs:=oA false (L.drop k);have hfront:=mO false (L.drop k);rw[List.length_drop] at hs;rw[List.drop_drop] at h hfront;obtain⟨j,hj⟩:∃ j,k+aQ false (L.drop k)=j:=⟨_,rfl⟩;rw[hj] at h hfront
  cases ht:d8 (L.drop j) j with
  | error e=>rw[ht] at h;cases h
  | ok y =>
   obtain⟨t,n⟩:=y;rw[ht] at h;obtain⟨n1,n2,n3,n4,n5⟩:=sC _ _ _ _ ht;rw[List.length_drop] at n1
   by_cases hk0:t.kind=0
   ·simp only[hk0,if_true] at h
    cases h
    simp
   ·simp only[hk0,if_false] at h;have hn1:1≤n:=n5 hfront (fun e=>hk0 (n4.2 e))
    have hd:(L.drop k).drop (aQ false (L.drop k)+n)=L.drop (j+n):=by rw[List.drop_drop];congr 1;omega
    rw[hd] at h
    cases hl:dD f false (L.drop (j+n)) (j+n) with
    | error e=>rw[hl] at h;cases h
    | ok us =>
     rw[hl] at h
     cases h
     have:=ih false (j+n) us (by omega) hl
     rw[List.length_cons];omega
structure Lu (L:List UInt8) (ts:List aH):Prop where
 good:m6 ts
 w:∀ i,qJ (aK ts i)
 place:∀ i,(aK ts i).place≤L.length
 num:ts.length≤L.length+1
theorem C4 (L:List UInt8)(hL:L.length≤8192)(ts:List aH)(h:dD (L.length+1) true L 0 = .ok ts):Lu L ts:=by
 have hd:L.drop 0=L:=List.drop_zero;have hw:=Lc _ _ _ _ _ h;obtain⟨t,us,rfl,_,_,_,_,hc⟩:=Gr L (L.length+1) true 0 ts (Nat.zero_le _) (by omega) (by rw[hd];exact h)
 have hn:=Js L (L.length+1) true 0 (t :: us) (Nat.zero_le _) (by rw[hd];exact h)
 obtain⟨v,h1,h2⟩:=AB L us t hc
 have hall:∀ i,(i<(t :: us).length∧aK (t :: us) i∈(t :: us))∨aK (t :: us) i=⟨0,0,0,[],false⟩:=fun i=>by
  unfold aK;rw[List.getD_eq_getElem?_getD]
  by_cases hi:i<(t :: us).length
  ·rw[List.getElem?_eq_getElem hi];exact .inl ⟨hi,List.getElem_mem hi⟩
  ·rw[List.getElem?_eq_none (by omega)]
   exact .inr rfl
 refine ⟨⟨by simp,?_,fun i=>?_⟩,fun i=>?_,fun i=>?_,by omega⟩
 ·unfold aK;rw[List.getD_eq_getElem?_getD,← List.getLast?_eq_getElem?,h1];exact h2
 ·rcases hall i with ⟨_,h⟩ | h
  ·have:=(hw _ h).2.1
   omega
  ·rw[h];exact Nat.zero_le _
 ·rcases hall i with ⟨_,h⟩ | h
  ·exact (hw _ h).1
  ·rw[h];exact⟨fun e=>by simp at e,fun e=>by cases e⟩
 ·rcases hall i with ⟨_,h⟩ | h
  ·have:=(hw _ h).2.2
   omega
  ·rw[h];exact Nat.zero_le _
theorem zG:∀ (s m:List UInt8),(∀ c∈s,c≠32)→(s++[32]).isPrefixOf m=true→s=m.takeWhile (fun c=>c != 32)
 | [],m,_,h=>by
  cases m with
  | nil=>simp at h
  | cons a m =>
   have:(32:UInt8)=a:=by simpa [List.isPrefixOf] using h
   subst this;rfl
 | c :: s,m,hs,h=>by
  cases m with
  | nil=>simp at h
  | cons a m =>
   have h':c=a∧(s++[32]).isPrefixOf m=true:=by simpa [List.isPrefixOf] using h
   obtain⟨rfl,h2⟩:=h';have hc:=hs c (by simp)
   rw[List.takeWhile_cons,if_pos (by simpa using hc),← zG s m (fun x hx=>hs x (by simp [hx])) h2]
theorem JE (s:List UInt8):decide (0≤Lib.indexByte s 32)=s.contains 32:=(Lib.contains_iff_indexByte s 32).symm
end Go.Proofs.YtnombfbpmmmoeaaGreatDoor
