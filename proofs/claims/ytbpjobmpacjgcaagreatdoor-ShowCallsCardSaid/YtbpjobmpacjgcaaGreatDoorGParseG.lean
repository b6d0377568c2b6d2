/- Dialect B's parser, as plain functions on lists of tokens. No program stands in it. -/
import Derived.Test.YtbpjobmpacjgcaaGreatDoorGZA
import Derived.Lib.IndexMore
import Derived.Lib.IndexAny
namespace Go.Proofs.YtbpjobmpacjgcaaGreatDoor
set_option maxHeartbeats 4000000
open Go Go.RowKit
structure bE where
 kind:Int
 n:Int
 k:Int
 size:Int
 text:List UInt8
deriving DecidableEq
def bE.cells (x:bE):List Value:=[.int .i64 x.kind,.int .i64 x.n,.int .i64 x.k,.int .i64 x.size,.string (bs x.text)]
abbrev aA:=List bE
def aC (kind n:Int) (s:List UInt8) (kids:List aA):aA:=⟨kind,n,kids.length,kids.flatten.length+1,s⟩ :: kids.flatten
def aR (s:List UInt8):aA:=aC 1 0 s []
def eX:List aA→aA
 | []=>aC 20 0 [] []
 | [l]=>l
 | l=>aC 23 0 [] l
def lW:List aA→aA
 | [l]=>l
 | l=>aC 3 0 [] l
def bP:Nat→List UInt8→List (UInt8×Bool×Nat)×Bool
 | _,[]=>([],false)
 | i,[c]=>if c.toNat=92 then ([(c,true,i)],true) else ([(c,false,i)],false)
 | i,c :: d :: l =>
  if c.toNat=92 then ((d,true,i) :: (bP (i+2) l).1,(bP (i+2) l).2)
  else ((c,false,i) :: (bP (i+1) (d :: l)).1,(bP (i+1) (d :: l)).2)
def iR (p:UInt8×Bool×Nat) (c:Nat):Bool:=decide (p.1.toNat=c)&&!p.2.1
def zM (l:List (UInt8×Bool×Nat)):Bool:=(l.drop 2).any fun p=>iR p 93
def o6:List (UInt8×Bool×Nat)→Bool
 | []=>false
 | p :: l=>iR p 42 || iR p 63 || (iR p 91&&zM (p :: l)) || o6 l
def oB (s:List UInt8):Bool:=o6 (bP 0 s).1
def d9 (s:List UInt8):Bool:=!(bP 0 s).2
def oW (s:List UInt8):List UInt8:=if d9 s then s else s++[92]
def cC:List UInt8→List UInt8
 | []=>[]
 | c :: l=>(if [42,63,91,93,92,32,9,10].contains c.toNat then [92,c] else [c])++cC l
def M6:List (List UInt8):=[[105,102],[101,108,115,101],[119,104,105,108,101],[102,111,114],[105,110],[115,119,105,116,99,104],[99,97,115,101],[102,110]]
def Aj (s:List UInt8):Bool:=M6.contains s
def aK (ts:List aH) (i:Nat):aH:=ts.getD i ⟨0,0,0,[],false⟩
def isK (ts:List aH) (i:Nat) (ks:List Nat):Bool:=ks.contains (aK ts i).kind
def skP (ts:List aH) (i:Nat):Nat:=min (i+1) (ts.length - 1)
def passP (ts:List aH) (ks:List Nat):Nat→Nat→Nat
 | 0,i=>i
 | f+1,i=>if isK ts i ks=true then passP ts ks f (skP ts i) else i
def iL (ts:List aH) (ks:List Nat) (i:Nat):Nat:=passP ts ks ts.length i
def i6 (ts:List aH) (i:Nat) (s:List UInt8):Bool:=isK ts i [18]&&decide ((aK ts i).text=s)
abbrev aJ (α:Type):=Option (Except (Nat×Nat) (α×Nat))
def pOk {α:Type} (a:α) (i:Nat):aJ α:=some (.ok (a,i))
def kC {α:Type} (c p:Nat):aJ α:=some (.error (c,p))
def aJ.go {α β:Type} (x:aJ α) (k:α→Nat→aJ β):aJ β :=
 match x with
 | none=>none
 | some (.error e)=>some (.error e)
 | some (.ok (a,i))=>k a i
def jJ {α:Type} (ts:List aH) (i:Nat):aJ α:=kC (if isK ts i [0]=true then 109 else 108) (aK ts i).place
def o8 {α:Type} (ts:List aH) (i:Nat):aJ α:=kC 102 (aK ts i).place
def fL {α:Type} (ts:List aH) (i:Nat) (ks:List Nat) (k:Nat→aJ α):aJ α:=if isK ts i ks=true then k (skP ts i) else jJ ts i
def eV (ts:List aH) (i:Nat):Bool:=isK ts i [18,19,20,21,22,23,6,10]
def iP (ts:List aH) (i:Nat):Bool:=isK ts i [11,12,13,14]
def fX:aA→Bool
 | [x]=>decide (x.kind=1)
 | _=>false
def fF (l:List (Nat×aA)) (c:aA):aA :=
 l.foldr (fun t c=>if t.1=14 then aC 34 0 [] [t.2,c] else aC 33 ((t.1:Int) - 10) [] [t.2,c]) c
def dT (sets:List (List UInt8×aA)) (words:List aA):aA :=
 if words.length=0 then eX (sets.map fun x=>aC 22 0 x.1 [x.2])
 else sets.foldr (fun x c=>aC 35 0 x.1 [x.2,c]) (aC 21 0 [] words)
def a8 (out:List aA) (x:aA):List aA :=
 match out.getLast?,x with
 | some [y],[z]=>if y.kind=1∧z.kind=1 then out.dropLast++[aC 1 z.n (y.text++z.text) []] else out++[x]
 | _,_=>out++[x]
def i8 (l:List aA):aA :=
 match l.foldl a8 [] with
 | [x]=>x
 | l=>aC 4 0 [] l
def oX (t:aH) (x:aA):aA :=
 if t.kind=18 then aC 1 1 (oW t.text) []
 else if t.kind=19 then aC 1 1 (cC t.text) []
 else aC 8 0 [] [x]
def lO (t:aH) (how:Nat) (l:List aA):aA:=if how=0∧l.length=1∧t.kind=18∧oB t.text=true then aC 6 0 [] [aC 1 1 (oW t.text) []] else i8 l
def cW (l:aA):Bool:=l.any fun x=>decide (x.kind=1)&&decide (2000<x.text.length)
mutual
def dI (ts:List aH):Nat→Nat→Nat→aJ aA
 | 0,_,_=>none
 | f+1,d,i=>if 30<d+1 then o8 ts i else eK ts f (d+1) i []
def eK (ts:List aH):Nat→Nat→Nat→List aA→aJ aA
 | 0,_,_,_=>none
 | f+1,d,i,l =>
  let j:=iL ts [1,2] i
  if isK ts j [0,7,9]=true∨i6 ts j [99,97,115,101]=true∨(0<l.length∧j=i) then pOk (eX l) j
  else (fG ts f d j).go fun c e=>eK ts f d e (l++[c])
def fG (ts:List aH):Nat→Nat→Nat→aJ aA
 | 0,_,_=>none
 | f+1,d,i=>(eC ts f d i).go fun out j=>gR ts f d j out
def gR (ts:List aH):Nat→Nat→Nat→aA→aJ aA
 | 0,_,_,_=>none
 | f+1,d,i,out =>
  if isK ts i [3,4]=true then
   (eC ts f d (iL ts [1] (skP ts i))).go fun next j=>gR ts f d j (aC (if isK ts i [4]=true then 26 else 25) 0 [] [out,next])
  else pOk out i
def eC (ts:List aH):Nat→Nat→Nat→aJ aA
 | 0,_,_=>none
 | f+1,d,i=>(eR ts f d (if isK ts i [17]=true then skP ts i else i) []).go fun l j =>
   pOk (if isK ts i [17]=true then aC 27 0 [] [if 1<l.length then aC 32 0 [] l else l.headD []] else (if 1<l.length then aC 32 0 [] l else l.headD [])) j
def eR (ts:List aH):Nat→Nat→Nat→List aA→aJ (List aA)
 | 0,_,_,_=>none
 | f+1,d,i,l=>(eE ts f d i).go fun c j =>
   if isK ts j [5]=true then eR ts f d (iL ts [1] (skP ts j)) (l++[c]) else pOk (l++[c]) j
def eE (ts:List aH):Nat→Nat→Nat→aJ aA
 | 0,_,_=>none
 | f+1,d,i =>
  if isK ts i [8]=true then (fT ts f d i).go fun l j=>eQ ts f d j l []
  else if isK ts i [18]=false∨Aj (aK ts i).text=false then gS ts f d i
  else if (aK ts i).text=[105,102] then kK ts f d i
  else if (aK ts i).text=[119,104,105,108,101] then kQ ts f d i
  else if (aK ts i).text=[102,111,114] then kV ts f d i
  else if (aK ts i).text=[115,119,105,116,99,104] then kM ts f d i
  else if (aK ts i).text=[102,110] then kD ts f d i
  else jJ ts i
def fT (ts:List aH):Nat→Nat→Nat→aJ aA
 | 0,_,_=>none
 | f+1,d,i=>fL ts i [8] fun a=>(dI ts f d a).go fun l j=>fL ts j [9] fun e=>pOk l e
def j8 (ts:List aH):Nat→Nat→Nat→aJ aA
 | 0,_,_=>none
 | f+1,d,i=>fL ts (skP ts i) [6] fun a=>(dI ts f d a).go fun l j=>fL ts j [7] fun e=>pOk l e
def i7 (ts:List aH):Nat→Nat→Nat→aJ aA
 | 0,_,_=>none
 | f+1,d,i=>if 30<d+1 then o8 ts (iL ts [1] i) else eE ts f (d+1) (iL ts [1] i)
def kK (ts:List aH):Nat→Nat→Nat→aJ aA
 | 0,_,_=>none
 | f+1,d,i=>(j8 ts f d i).go fun c j=>(i7 ts f d j).go fun yes k =>
   if i6 ts k [101,108,115,101]=true then (i7 ts f d (skP ts k)).go fun no e=>pOk (aC 24 0 [] [c,yes,no]) e
   else pOk (aC 24 0 [] [c,yes,eX []]) k
def kQ (ts:List aH):Nat→Nat→Nat→aJ aA
 | 0,_,_=>none
 | f+1,d,i=>(j8 ts f d i).go fun c j=>(i7 ts f d j).go fun l e=>pOk (aC 28 0 [] [c,l]) e
def kV (ts:List aH):Nat→Nat→Nat→aJ aA
 | 0,_,_=>none
 | f+1,d,i=>fL ts (skP ts i) [6] fun a =>
   if isK ts a [18]=true∧bI (aK ts a).text=true then
    (if i6 ts (skP ts a) [105,110]=true then (fI ts f d (skP ts (skP ts a)) 0 []).go fun ws j=>fL ts j [7] fun b =>
      (i7 ts f d b).go fun l e=>pOk (aC 29 0 (aK ts a).text [lW ws,l]) e
     else jJ ts (skP ts a))
   else jJ ts a
def kM (ts:List aH):Nat→Nat→Nat→aJ aA
 | 0,_,_=>none
 | f+1,d,i=>fL ts (skP ts i) [6] fun a=>(dJ ts f d a 0).go fun w j=>fL ts j [7] fun b =>
   fL ts (iL ts [1] b) [8] fun c=>(j5 ts f d (iL ts [1,2] c) [aC 9 0 [] [w]]).go fun l k =>
    fL ts k [9] fun e=>eQ ts f d e (aC 30 0 [] l) []
def j5 (ts:List aH):Nat→Nat→Nat→List aA→aJ (List aA)
 | 0,_,_,_=>none
 | f+1,d,i,l =>
  if i6 ts i [99,97,115,101]=true then
   (fI ts f d (skP ts i) 1 []).go fun ws j=>fL ts j [1,2] fun a=>(dI ts f d a).go fun c e=>j5 ts f d e (l++[lW ws,c])
  else pOk l i
def kD (ts:List aH):Nat→Nat→Nat→aJ aA
 | 0,_,_=>none
 | f+1,d,i =>
   if isK ts (skP ts i) [18]=true∧bI (aK ts (skP ts i)).text=true∧Aj (aK ts (skP ts i)).text=false then
    (fT ts f d (skP ts (skP ts i))).go fun l e=>pOk (aC 31 0 (aK ts (skP ts i)).text [l]) e
   else jJ ts (skP ts i)
def eQ (ts:List aH):Nat→Nat→Nat→aA→List (Nat×aA)→aJ aA
 | 0,_,_,_,_=>none
 | f+1,d,i,c,l =>
  if iP ts i=true then (dJ ts f d (skP ts i) 0).go fun w j=>eQ ts f d j c (l++[((aK ts i).kind,w)])
  else pOk (fF l c) i
def gS (ts:List aH):Nat→Nat→Nat→aJ aA
 | 0,_,_=>none
 | f+1,d,i=>(gL ts f d i []).go fun sets j=>(eB ts f d j [] []).go fun wt e =>
   if sets.length+wt.1.length+wt.2.length=0 then jJ ts e else pOk (fF wt.2 (dT sets wt.1)) e
def gL (ts:List aH):Nat→Nat→Nat→List (List UInt8×aA)→aJ (List (List UInt8×aA))
 | 0,_,_,_=>none
 | f+1,d,i,l =>
  if isK ts i [18]=true∧(aK ts (skP ts i)).kind=16∧bI (aK ts i).text=true∧Aj (aK ts i).text=false then
   (dJ ts f d (skP ts (skP ts i)) 0).go fun w j=>gL ts f d j (l++[((aK ts i).text,w)])
  else pOk l i
def eB (ts:List aH):Nat→Nat→Nat→List aA→List (Nat×aA)→aJ (List aA×List (Nat×aA))
 | 0,_,_,_,_=>none
 | f+1,d,i,ws,l =>
  if iP ts i=true then (dJ ts f d (skP ts i) 0).go fun w j=>eB ts f d j ws (l++[((aK ts i).kind,w)])
  else if eV ts i=false∨i6 ts i [101,108,115,101]=true then pOk (ws,l) i
  else (dJ ts f d i 0).go fun w j=>eB ts f d j (ws++[w]) l
def fI (ts:List aH):Nat→Nat→Nat→Nat→List aA→aJ (List aA)
 | 0,_,_,_,_=>none
 | f+1,d,i,how,l =>
  if eV ts i=true then (dJ ts f d i how).go fun w j=>fI ts f d j how (l++[w]) else pOk l i
def dJ (ts:List aH):Nat→Nat→Nat→Nat→aJ aA
 | 0,_,_,_=>none
 | f+1,d,i,how=>(fU ts f d i how []).go fun l j =>
   if cW (lO (aK ts i) how l)=true then kC 101 (aK ts i).place else pOk (lO (aK ts i) how l) j
def fU (ts:List aH):Nat→Nat→Nat→Nat→List aA→aJ (List aA)
 | 0,_,_,_,_=>none
 | f+1,d,i,how,l =>
  if eV ts i=false then jJ ts i
  else (gG ts f d i).go fun x j =>
   let m:=l++[if how=1 then oX (aK ts i) x else x]
   if isK ts j [15]=true then fU ts f d (skP ts j) how m
   else if eV ts j=false∨(aK ts j).glue=false then pOk m j
   else fU ts f d j how m
def gG (ts:List aH):Nat→Nat→Nat→aJ aA
 | 0,_,_=>none
 | f+1,d,i =>
  let t:=aK ts i
  if t.kind=18∨t.kind=19 then pOk (aR t.text) (skP ts i)
  else if t.kind=21 then pOk (aC 10 0 [] [aC 2 0 t.text []]) (skP ts i)
  else if t.kind=22 then pOk (aC 9 0 [] [aC 2 0 t.text []]) (skP ts i)
  else if t.kind=23 then pOk (aC 11 t.num [] [aC 2 0 [42] []]) (skP ts i)
  else if t.kind=6 then (if 30<d+1 then o8 ts i else (fI ts f (d+1) (skP ts i) 0 []).go fun l j=>fL ts j [7] fun e=>pOk (aC 3 0 [] l) e)
  else if t.kind=10 then (dI ts f d (skP ts i)).go fun l j=>fL ts j [9] fun e=>pOk (aC 12 0 [] [l]) e
  else pOk (aC 2 0 t.text []) (skP ts i)
end
structure oE (ts:List aH):Prop where
 pos:0<ts.length
 last:(aK ts (ts.length - 1)).kind=0
 text:∀ i,(aK ts i).text.length≤8192
theorem pV (ts:List aH)(i:Nat)(ks:List Nat):isK ts i ks=true ↔ (aK ts i).kind∈ks:=by
 unfold isK;exact List.contains_iff_mem
theorem lP {ts:List aH}(g:oE ts){i:Nat}(hi:i<ts.length)(h:(aK ts i).kind≠0):skP ts i=i+1∧i+1<ts.length:=by
 have:i≠ts.length - 1:=fun e=>h (e ▸ g.last)
 unfold skP;omega
theorem nF {ts:List aH}{i:Nat}(hi:i<ts.length):i≤skP ts i∧skP ts i<ts.length:=by
 unfold skP;omega
theorem Dz {ts:List aH}(ks:List Nat):∀ (f:Nat){i:Nat},i<ts.length→i≤passP ts ks f i∧passP ts ks f i<ts.length
 | 0,i,h=>⟨Nat.le_refl _,h⟩
 | f+1,i,h=>by
  rw[passP];split
  ·have h1:=nF h;have h2:=Dz ks f h1.2;omega
  ·exact⟨Nat.le_refl _,h⟩
theorem jT {ts:List aH}(ks:List Nat){i:Nat}(h:i<ts.length):i≤iL ts ks i∧iL ts ks i<ts.length:=Dz ks _ h
def txP (l:aA):Nat:=(l.map fun x=>x.text.length).sum
theorem e7:txP []=0:=rfl
theorem dF (l m:aA):txP (l++m)=txP l+txP m:=by simp [txP]
theorem Ln (x:bE)(m:aA):txP (x :: m)=x.text.length+txP m:=by simp [txP]
theorem bN (kind n:Int)(s:List UInt8)(kids:List aA):(aC kind n s kids).length=kids.flatten.length+1:=rfl
theorem eH (kind n:Int)(s:List UInt8)(kids:List aA):txP (aC kind n s kids)=s.length+txP kids.flatten:=by rw[aC,Ln]
def bR (ts:List aH) {α:Type} (x:aJ α) (Q:α→Nat→Prop):Prop :=
 (∀ a e,x=some (.ok (a,e))→Q a e)∧∀ c p,x=some (.error (c,p))→(c=101∨c=102∨c=108∨c=109)∧∃ i,i<ts.length∧p=(aK ts i).place
theorem bR.none {ts:List aH} {α:Type}{Q:α→Nat→Prop}:bR ts (none:aJ α) Q:=⟨fun _ _ h=>(by cases h),fun _ _ h=>(by cases h)⟩
theorem bR.ok {ts:List aH} {α:Type}{Q:α→Nat→Prop}{a:α}{e:Nat}(h:Q a e):bR ts (pOk a e) Q:=⟨fun _ _ h'=>(by cases h';exact h),fun _ _ h=>(by cases h)⟩
theorem bR.err {ts:List aH} {α:Type}{Q:α→Nat→Prop}{c p:Nat}(h1:c=101∨c=102∨c=108∨c=109)(h2:∃ i,i<ts.length∧p=(aK ts i).place):bR ts (kC c p:aJ α) Q :=
 ⟨fun _ _ h=>(by cases h),fun _ _ h=>(by cases h;exact⟨h1,h2⟩)⟩
theorem bR.form {ts:List aH} {α:Type}{Q:α→Nat→Prop}{i:Nat}(h:i<ts.length):bR ts (jJ ts i:aJ α) Q:=by
 unfold jJ;split
 ·exact .err (by simp) ⟨i,h,rfl⟩
 ·exact .err (by simp) ⟨i,h,rfl⟩
theorem bR.nest {ts:List aH} {α:Type}{Q:α→Nat→Prop}{i:Nat}(h:i<ts.length):bR ts (o8 ts i:aJ α) Q:=.err (by simp) ⟨i,h,rfl⟩
theorem bR.go {ts:List aH} {α β:Type}{x:aJ α}{k:α→Nat→aJ β}{Q:α→Nat→Prop}{R:β→Nat→Prop}(h:bR ts x Q)(hk:∀ a e,Q a e→bR ts (k a e) R):bR ts (x.go k) R:=by
 match x,h with
 | .none,_=>exact .none
 | some (.error e),h=>exact⟨fun _ _ h'=>(by cases h'),fun c p h'=>h.2 c p (by cases h';rfl)⟩
 | some (.ok (a,e)),h=>exact hk a e (h.1 a e rfl)
theorem bR.take {ts:List aH}(g:oE ts) {β:Type}{i:Nat}{ks:List Nat}{k:Nat→aJ β}{R:β→Nat→Prop}(hi:i<ts.length)(h0:0 ∉ ks)(hk:i+1<ts.length→bR ts (k (i+1)) R):bR ts (fL ts i ks k) R:=by
 unfold fL;split
 ·rename_i h
  rw[pV] at h;obtain⟨e1,e2⟩:=lP g hi (fun e=>h0 (e ▸ h))
  rw[e1];exact hk e2
 ·exact .form hi
theorem fR {ts:List aH}(g:oE ts){i:Nat}(hi:i<ts.length){ks:List Nat}(h0:0 ∉ ks)(h:isK ts i ks=true):skP ts i=i+1∧i+1<ts.length :=
 lP g hi (fun e=>h0 (e ▸ (pV _ _ _).1 h))
theorem rL {ts:List aH}(g:oE ts){i:Nat}(hi:i<ts.length){s:List UInt8}(h:i6 ts i s=true):skP ts i=i+1∧i+1<ts.length:=by
 unfold i6 at h;rw[Bool.and_eq_true] at h;exact fR g hi (by decide) h.1
theorem fD (l:List aA)(x:aA):(l++[x]).flatten=l.flatten++x:=by simp
theorem yS (l:List aA):(eX l).length≤l.flatten.length+1∧txP (eX l)=txP l.flatten:=by
 unfold eX;split
 ·exact⟨Nat.le_refl _,rfl⟩
 ·simp
 ·exact⟨by rw[bN];omega,by rw[eH];simp⟩
theorem yL (l:List aA):(lW l).length≤l.flatten.length+1∧txP (lW l)=txP l.flatten:=by
 unfold lW;split
 ·simp
 ·exact⟨by rw[bN];omega,by rw[eH];simp⟩
theorem F4 (out:List aA)(x:aA):(a8 out x).flatten.length≤out.flatten.length+x.length∧txP (a8 out x).flatten=txP out.flatten+txP x∧(a8 out x).length≤out.length+1:=by
 unfold a8;split
 ·rename_i y z hy
  obtain⟨Q,rfl⟩:=List.getLast?_eq_some_iff.1 hy;split
  ·rw[List.dropLast_concat];refine ⟨?_,?_,?_⟩
   ·simp [aC]
   ·simp [aC,txP];omega
   ·simp
  ·exact⟨by simp,by rw[fD,dF],by simp⟩
 ·exact⟨by simp,by rw[fD,dF],by simp⟩
theorem pK:∀ (l out:List aA),(l.foldl a8 out).flatten.length≤out.flatten.length+l.flatten.length∧txP (l.foldl a8 out).flatten=txP out.flatten+txP l.flatten∧(l.foldl a8 out).length≤out.length+l.length
 | [],out=>⟨by simp,by simp [e7],by simp⟩
 | x :: l,out=>by
  obtain⟨a1,a2,a3⟩:=F4 out x;obtain⟨b1,b2,b3⟩:=pK l (a8 out x);rw[List.foldl_cons,List.flatten_cons,List.length_append,dF,List.length_cons];omega
theorem x5 (l:List aA):(i8 l).length≤l.flatten.length+1∧txP (i8 l)=txP l.flatten:=by
 obtain⟨h1,h2,_⟩:=pK l [];simp only[List.flatten_nil,List.length_nil,Nat.zero_add,e7] at h1 h2;unfold i8;split
 ·rename_i x hx
  rw[hx] at h1 h2;simp only[List.flatten_cons,List.flatten_nil,List.append_nil] at h1 h2;exact⟨by omega,h2⟩
 ·exact⟨by rw[bN];omega,by rw[eH,h2];simp⟩
theorem Bg (s:List UInt8):(oW s).length≤s.length+1:=by
 unfold oW;split <;> simp
theorem tV:∀ (s:List UInt8),(cC s).length≤2 * s.length
 | []=>Nat.le_refl _
 | c :: l=>by
  have:=tV l
  rw[cC,List.length_append,List.length_cons];split <;> simp only[List.length_cons,List.length_nil] <;> omega
def dQ (l:List (Nat×aA)):Nat:=(l.map fun t=>t.2.length+1).sum
def f9 (l:List (Nat×aA)):Nat:=(l.map fun t=>txP t.2).sum
theorem xM:∀ (l:List (Nat×aA))(c:aA),(fF l c).length=dQ l+c.length∧txP (fF l c)=f9 l+txP c
 | [],c=>⟨by simp [fF,dQ],by simp [fF,f9]⟩
 | t :: l,c=>by
  obtain⟨h1,h2⟩:=xM l c;unfold fF at h1 h2 ⊢;rw[List.foldr_cons];split
  ·exact⟨by rw[bN];simp [dQ,h1] at h1 ⊢;omega,by rw[eH];simp [f9,dF,h2] at h2 ⊢;omega⟩
  ·exact⟨by rw[bN];simp [dQ,h1] at h1 ⊢;omega,by rw[eH];simp [f9,dF,h2] at h2 ⊢;omega⟩
def cQ (l:List (List UInt8×aA)):Nat:=(l.map fun t=>t.2.length+1).sum
def jZ (l:List (List UInt8×aA)):Nat:=(l.map fun t=>t.1.length+txP t.2).sum
theorem vC (sets:List (List UInt8×aA))(words:List aA):(dT sets words).length≤cQ sets+words.flatten.length+1∧txP (dT sets words)=jZ sets+txP words.flatten:=by
 unfold dT;split
 ·rename_i h
  obtain rfl:words=[]:=List.length_eq_zero_iff.1 h
  have h1:∀ l:List (List UInt8×aA),(l.map fun x=>aC 22 0 x.1 [x.2]).flatten.length=cQ l∧txP (l.map fun x=>aC 22 0 x.1 [x.2]).flatten=jZ l:=by
   intro l
   induction l with
   | nil=>exact⟨rfl,rfl⟩
   | cons t l ih =>
    rw[List.map_cons,List.flatten_cons,List.length_append,dF,bN,eH,ih.1,ih.2];simp [cQ,jZ]
  have h2:=yS (sets.map fun x=>aC 22 0 x.1 [x.2])
  rw[(h1 sets).1,(h1 sets).2] at h2;simp only[List.flatten_nil,List.length_nil,e7];omega
 ·have h1:∀ (l:List (List UInt8×aA)) (c:aA),(l.foldr (fun x c=>aC 35 0 x.1 [x.2,c]) c).length=cQ l+c.length∧txP (l.foldr (fun x c=>aC 35 0 x.1 [x.2,c]) c)=jZ l+txP c:=by
   intro l c
   induction l with
   | nil=>exact⟨by simp [cQ],by simp [jZ]⟩
   | cons t l ih =>
    rw[List.foldr_cons,bN,eH];simp only[List.flatten_cons,List.flatten_nil,List.append_nil,List.length_append,dF,ih.1,ih.2];simp only[cQ,jZ,List.map_cons,List.sum_cons];omega
  rw[(h1 sets _).1,(h1 sets _).2,bN,eH];simp only[List.length_nil];omega
structure LY (ts:List aH) (f:Nat):Prop where
 list:∀ d i,i<ts.length→bR ts (dI ts f d i) fun l e=>i≤e∧e<ts.length∧l.length≤6 * (e - i)+1∧txP l≤30000 * (e - i)
 chains:∀ d i L,i<ts.length→bR ts (eK ts f d i L) fun l e=>i≤e∧e<ts.length∧l.length≤L.flatten.length+6 * (e - i)+1∧txP l≤txP L.flatten+30000 * (e - i)
 chain:∀ d i,i<ts.length→bR ts (fG ts f d i) fun l e=>i<e∧e<ts.length∧l.length≤6 * (e - i)∧txP l≤30000 * (e - i)
 chainR:∀ d i o,i<ts.length→bR ts (gR ts f d i o) fun l e=>i≤e∧e<ts.length∧l.length≤o.length+6 * (e - i)∧txP l≤txP o+30000 * (e - i)
 pipe:∀ d i,i<ts.length→bR ts (eC ts f d i) fun l e=>i<e∧e<ts.length∧l.length≤6 * (e - i)∧txP l≤30000 * (e - i)
 pipeR:∀ d i L,i<ts.length→bR ts (eR ts f d i L) fun l e=>i<e∧e<ts.length∧L.length<l.length∧l.flatten.length+l.length≤L.flatten.length+L.length+6 * (e - i)+1∧txP l.flatten≤txP L.flatten+30000 * (e - i)∧l.length≤L.length+(e - i)
 command:∀ d i,i<ts.length→bR ts (eE ts f d i) fun l e=>i<e∧e<ts.length∧l.length≤6 * (e - i)∧txP l≤30000 * (e - i)
 block:∀ d i,i<ts.length→bR ts (fT ts f d i) fun l e=>i<e∧e<ts.length∧l.length+11≤6 * (e - i)∧txP l≤30000 * (e - i)
 test:∀ d i,i<ts.length→(aK ts i).kind≠0→bR ts (j8 ts f d i) fun l e=>i<e∧e<ts.length∧l.length+17≤6 * (e - i)∧txP l≤30000 * (e - i)
 body:∀ d i,i<ts.length→bR ts (i7 ts f d i) fun l e=>i<e∧e<ts.length∧l.length≤6 * (e - i)∧txP l≤30000 * (e - i)
 choice:∀ d i,i<ts.length→(aK ts i).kind≠0→bR ts (kK ts f d i) fun l e=>i<e∧e<ts.length∧l.length≤6 * (e - i)∧txP l≤30000 * (e - i)
 whl:∀ d i,i<ts.length→(aK ts i).kind≠0→bR ts (kQ ts f d i) fun l e=>i<e∧e<ts.length∧l.length≤6 * (e - i)∧txP l≤30000 * (e - i)
 each:∀ d i,i<ts.length→(aK ts i).kind≠0→bR ts (kV ts f d i) fun l e=>i<e∧e<ts.length∧l.length≤6 * (e - i)∧txP l≤30000 * (e - i)
 choose:∀ d i,i<ts.length→(aK ts i).kind≠0→bR ts (kM ts f d i) fun l e=>i<e∧e<ts.length∧l.length≤6 * (e - i)∧txP l≤30000 * (e - i)
 cases:∀ d i L,i<ts.length→bR ts (j5 ts f d i L) fun l e=>i≤e∧e<ts.length∧l.flatten.length≤L.flatten.length+6 * (e - i)∧txP l.flatten≤txP L.flatten+30000 * (e - i)∧l.length≤L.length+(e - i)
 function:∀ d i,i<ts.length→(aK ts i).kind≠0→bR ts (kD ts f d i) fun l e=>i<e∧e<ts.length∧l.length≤6 * (e - i)∧txP l≤30000 * (e - i)
 turns:∀ d i c L,i<ts.length→bR ts (eQ ts f d i c L) fun l e=>i≤e∧e<ts.length∧l.length≤c.length+dQ L+6 * (e - i)∧txP l≤txP c+f9 L+30000 * (e - i)
 simple:∀ d i,i<ts.length→bR ts (gS ts f d i) fun l e=>i<e∧e<ts.length∧l.length≤6 * (e - i)∧txP l≤30000 * (e - i)
 sets:∀ d i L,i<ts.length→bR ts (gL ts f d i L) fun l e=>i≤e∧e<ts.length∧cQ l≤cQ L+6 * (e - i)∧cQ l+l.length≤cQ L+L.length+6 * (e - i)∧jZ l≤jZ L+30000 * (e - i)∧l.length≤L.length+(e - i)
 items:∀ d i ws L,i<ts.length→bR ts (eB ts f d i ws L) fun o e=>i≤e∧e<ts.length∧o.1.flatten.length+o.1.length+dQ o.2+o.2.length≤ws.flatten.length+ws.length+dQ L+L.length+6 * (e - i)∧txP o.1.flatten+f9 o.2≤txP ws.flatten+f9 L+30000 * (e - i)∧o.1.length+o.2.length≤ws.length+L.length+(e - i)∧(e=i→o=(ws,L))
 words:∀ d i how L,i<ts.length→bR ts (fI ts f d i how L) fun l e=>i≤e∧e<ts.length∧l.flatten.length+l.length≤L.flatten.length+L.length+6 * (e - i)∧txP l.flatten≤txP L.flatten+30000 * (e - i)∧l.length≤L.length+(e - i)
 word:∀ d i how,i<ts.length→bR ts (dJ ts f d i how) fun l e=>i<e∧e<ts.length∧l.length+1≤6 * (e - i)∧txP l≤30000 * (e - i)
 wordR:∀ d i how L,i<ts.length→bR ts (fU ts f d i how L) fun l e=>i<e∧e<ts.length∧l.flatten.length+2 * l.length≤L.flatten.length+2 * L.length+6 * (e - i)∧txP l.flatten≤txP L.flatten+30000 * (e - i)∧L.length<l.length∧l.length≤L.length+(e - i)
 one:∀ d i,i<ts.length→eV ts i=true→bR ts (gG ts f d i) fun l e=>i<e∧e<ts.length∧l.length+3≤6 * (e - i)∧txP l+16384≤30000 * (e - i)
theorem bR.mono {ts:List aH} {α:Type}{x:aJ α}{Q R:α→Nat→Prop}(h:bR ts x Q)(hR:∀ a e,Q a e→R a e):bR ts x R:=⟨fun a e hx=>hR a e (h.1 a e hx),h.2⟩
theorem rY (l:List (Nat×aA))(t:Nat×aA):dQ (l++[t])=dQ l+(t.2.length+1):=by simp [dQ]
theorem tR (l:List (Nat×aA))(t:Nat×aA):f9 (l++[t])=f9 l+txP t.2:=by simp [f9]
theorem wN (l:List (List UInt8×aA))(t:List UInt8×aA):cQ (l++[t])=cQ l+(t.2.length+1):=by simp [cQ]
theorem A9 (l:List (List UInt8×aA))(t:List UInt8×aA):jZ (l++[t])=jZ l+(t.1.length+txP t.2):=by simp [jZ]
theorem Ek {ts:List aH}{i:Nat}{ks:List Nat}(h:isK ts i ks=true)(h0:0 ∉ ks):(aK ts i).kind≠0:=fun e=>h0 (e ▸ (pV _ _ _).1 h)
theorem II (t:aH)(x:aA)(ht:t.text.length≤8192):(oX t x).length≤x.length+1∧txP (oX t x)≤txP x+16384:=by
 unfold oX;split
 ·have:=Bg t.text
  exact⟨by rw[bN];simp,by rw[eH];simp [e7];omega⟩
 split
 ·have:=tV t.text
  exact⟨by rw[bN];simp,by rw[eH];simp [e7];omega⟩
 ·exact⟨by rw[bN];simp,by rw[eH];simp⟩
theorem jF (kind n:Int)(s:List UInt8)(a b:aA):(aC kind n s [a,b]).length=a.length+b.length+1∧txP (aC kind n s [a,b])=s.length+(txP a+txP b):=by
 rw[bN,eH];simp [dF]
theorem iJ (kind n:Int)(s:List UInt8)(a:aA):(aC kind n s [a]).length=a.length+1∧txP (aC kind n s [a])=s.length+txP a:=by
 rw[bN,eH];simp
theorem lN (kind n:Int)(s:List UInt8):(aC kind n s []).length=1∧txP (aC kind n s [])=s.length:=by
 rw[bN,eH];simp [e7]
theorem sM:∀ (l:List aA),(l.headD []).length≤l.flatten.length∧txP (l.headD [])≤txP l.flatten
 | []=>⟨Nat.le_refl _,Nat.le_refl _⟩
 | a :: l=>by
  rw[List.headD_cons,List.flatten_cons,List.length_append,dF];omega
theorem lB {ts:List aH}(g:oE ts):∀ f,LY ts f
 | 0=>by
  constructor <;> intros <;> simp only[dI,eK,fG,gR,eC,eR,eE,fT,j8,i7,kK,kQ,kV,kM,j5,kD,eQ,gS,gL,eB,fI,dJ,fU,gG] <;> exact bR.none
 | f+1=>by
  have ih:=lB g f;refine ⟨?_,?_,?_,?_,?_,?_,?_,?_,?_,?_,?_,?_,?_,?_,?_,?_,?_,?_,?_,?_,?_,?_,?_,?_⟩
  ·intro d i hi;rw[dI];split
   ·exact .nest hi
   ·exact (ih.chains _ _ _ hi).mono fun l e h=>by simpa [e7] using h
  ·intro d i L hi;rw[eK];have hp:=jT (ts:=ts) [1,2] hi;split
   ·have:=yS L
    exact .ok (by omega)
   ·refine (ih.chain _ _ hp.2).go fun c e ⟨h1,h2,h3,h4⟩=>(ih.chains _ _ _ h2).mono fun l k ⟨q1,q2,q3,q4⟩=>?_
    rw[fD] at q3 q4;rw[dF] at q4;rw[List.length_append] at q3;omega
  ·intro d i hi;rw[fG];refine (ih.pipe _ _ hi).go fun c e ⟨h1,h2,h3,h4⟩=>(ih.chainR _ _ _ h2).mono fun l k ⟨q1,q2,q3,q4⟩=>?_
   omega
  ·intro d i o hi;rw[gR];split
   ·rename_i hk
    obtain⟨e1,e2⟩:=fR g hi (by decide) hk
    rw[e1];have hp:=jT (ts:=ts) [1] e2;refine (ih.pipe _ _ hp.2).go fun c e ⟨h1,h2,h3,h4⟩=>(ih.chainR _ _ _ h2).mono fun l k ⟨q1,q2,q3,q4⟩=>?_
    obtain⟨z1,z2⟩:=jF (if isK ts i [4]=true then 26 else 25) 0 [] o c
    rw[z1] at q3;rw[z2,List.length_nil] at q4;omega
   ·exact .ok (by omega)
  ·intro d i hi;rw[eC]
   have hj:i≤(if isK ts i [17]=true then skP ts i else i)∧(if isK ts i [17]=true then skP ts i else i)<ts.length∧(isK ts i [17]=true→i+1=(if isK ts i [17]=true then skP ts i else i)):=by
    split
    ·rename_i hk
     obtain⟨e1,e2⟩:=fR g hi (by decide) hk
     exact⟨by omega,by omega,fun _=>e1.symm⟩
    ·exact⟨Nat.le_refl _,hi,fun h=>absurd h ‹_›⟩
   obtain⟨j1,j2,j3⟩:=hj;refine (ih.pipeR _ _ _ j2).go fun l e ⟨h1,h2,h3,h4,h5,h6⟩=>?_
   simp only[List.length_nil,List.flatten_nil,e7] at h3 h4 h5 h6
   have hb:(if 1<l.length then aC 32 0 [] l else l.headD []).length≤6 * (e - (if isK ts i [17]=true then skP ts i else i))∧txP (if 1<l.length then aC 32 0 [] l else l.headD [])≤30000 * (e - (if isK ts i [17]=true then skP ts i else i)):=by
    split
    ·rw[bN,eH];simp only[List.length_nil];omega
    ·have:=sM l
     omega
   refine .ok ?_
   by_cases hk:isK ts i [17]=true
   ·have:=j3 hk
    rw[if_pos hk] at *;obtain⟨z1,z2⟩:=iJ 27 0 [] (if 1<l.length then aC 32 0 [] l else l.headD [])
    rw[List.length_nil] at z2;omega
   ·rw[if_neg hk] at *;omega
  ·intro d i L hi;rw[eR];refine (ih.command _ _ hi).go fun c e ⟨h1,h2,h3,h4⟩=>?_
   split
   ·rename_i hk
    obtain⟨e1,e2⟩:=fR g h2 (by decide) hk
    rw[e1];have hp:=jT (ts:=ts) [1] e2;refine (ih.pipeR _ _ _ hp.2).mono fun l k ⟨q1,q2,q3,q4,q5,q6⟩=>?_
    rw[fD] at q4 q5;rw[dF] at q5;simp only[List.length_append,List.length_cons,List.length_nil] at q3 q4 q6;omega
   ·refine .ok ?_;rw[fD,dF];simp only[List.length_append,List.length_cons,List.length_nil];omega
  ·intro d i hi;rw[eE];split
   ·refine (ih.block _ _ hi).go fun c e ⟨h1,h2,h3,h4⟩=>(ih.turns _ _ _ _ h2).mono fun l k ⟨q1,q2,q3,q4⟩=>?_
    simp only[dQ,f9,List.map_nil,List.sum_nil] at q3 q4;omega
   split
   ·exact ih.simple _ _ hi
   rename_i hk
   have hk0:(aK ts i).kind≠0:=Ek (ks:=[18]) (by simpa using fun e=>hk (.inl e)) (by decide)
   split
   ·exact ih.choice _ _ hi hk0
   split
   ·exact ih.whl _ _ hi hk0
   split
   ·exact ih.each _ _ hi hk0
   split
   ·exact ih.choose _ _ hi hk0
   split
   ·exact ih.function _ _ hi hk0
   ·exact .form hi
  ·intro d i hi;rw[fT];refine .take g hi (by decide) fun hj=>(ih.list _ _ hj).go fun l e ⟨h1,h2,h3,h4⟩=>.take g h2 (by decide) fun hk=>.ok ?_
   omega
  ·intro d i hi h0;rw[j8];obtain⟨e1,e2⟩:=lP g hi h0;rw[e1];refine .take g e2 (by decide) fun hj=>(ih.list _ _ hj).go fun l e ⟨h1,h2,h3,h4⟩=>.take g h2 (by decide) fun hk=>.ok ?_
   omega
  ·intro d i hi;rw[i7];have hp:=jT (ts:=ts) [1] hi;split
   ·exact .nest hp.2
   ·refine (ih.command _ _ hp.2).mono fun l e ⟨h1,h2,h3,h4⟩=>?_
    omega
  ·intro d i hi h0;rw[kK];refine (ih.test _ _ hi h0).go fun c j ⟨a1,a2,a3,a4⟩=>(ih.body _ _ a2).go fun y k ⟨b1,b2,b3,b4⟩=>?_
   split
   ·rename_i hk
    obtain⟨e1,e2⟩:=rL g b2 hk;rw[e1];refine (ih.body _ _ e2).go fun z m ⟨c1,c2,c3,c4⟩=>.ok ?_
    rw[bN,eH];simp only[List.flatten_cons,List.flatten_nil,List.append_nil,List.length_append,dF,List.length_nil];omega
   ·refine .ok ?_;rw[bN,eH];simp only[List.flatten_cons,List.flatten_nil,List.append_nil,List.length_append,dF,List.length_nil,eX,bN,eH,e7];omega
  ·intro d i hi h0;rw[kQ];refine (ih.test _ _ hi h0).go fun c j ⟨a1,a2,a3,a4⟩=>(ih.body _ _ a2).go fun y k ⟨b1,b2,b3,b4⟩=>.ok ?_
   obtain⟨z1,z2⟩:=jF 28 0 [] c y;rw[List.length_nil] at z2;omega
  ·intro d i hi h0;rw[kV];obtain⟨e1,e2⟩:=lP g hi h0;rw[e1];refine .take g e2 (by decide) fun hj=>?_
   split
   ·rename_i hn
    obtain⟨e3,e4⟩:=fR g hj (by decide) hn.1
    rw[e3];split
    ·rename_i hq
     obtain⟨e5,e6⟩:=rL g e4 hq;rw[e5];refine (ih.words _ _ _ _ e6).go fun ws j ⟨a1,a2,a3,a4,a5⟩=>.take g a2 (by decide) fun hb=>(ih.body _ _ hb).go fun y k ⟨b1,b2,b3,b4⟩=>.ok ?_
     obtain⟨z1,z2⟩:=jF 29 0 (aK ts (i+1+1)).text (lW ws) y;have:=yL ws
     have:=g.text (i+1+1)
     simp only[List.length_nil,List.flatten_nil,e7] at a3 a4 a5;omega
    ·exact .form e4
   ·exact .form hj
  ·intro d i hi h0;rw[kM];obtain⟨e1,e2⟩:=lP g hi h0;rw[e1];refine .take g e2 (by decide) fun hj=>(ih.word _ _ _ hj).go fun w j ⟨a1,a2,a3,a4⟩=>.take g a2 (by decide) fun hb=>?_
   have hp:=jT (ts:=ts) [1] hb;refine .take g hp.2 (by decide) fun hc=>?_
   have hp2:=jT (ts:=ts) [1,2] hc;refine (ih.cases _ _ _ hp2.2).go fun l k ⟨b1,b2,b3,b4,b5⟩=>.take g b2 (by decide) fun he=>(ih.turns _ _ _ _ he).mono fun m z ⟨c1,c2,c3,c4⟩=>?_
   obtain⟨z1,z2⟩:=iJ 9 0 [] w;simp only[List.flatten_cons,List.flatten_nil,List.append_nil,z1,z2,List.length_nil] at b3 b4;rw[bN] at c3;rw[eH,List.length_nil] at c4;simp only[dQ,f9,List.map_nil,List.sum_nil] at c3 c4;omega
  ·intro d i L hi;rw[j5];split
   ·rename_i hk
    obtain⟨e1,e2⟩:=rL g hi hk;rw[e1];refine (ih.words _ _ _ _ e2).go fun ws j ⟨a1,a2,a3,a4,a5⟩=>.take g a2 (by decide) fun hb=>(ih.list _ _ hb).go fun c e ⟨b1,b2,b3,b4⟩=>(ih.cases _ _ _ b2).mono fun l k ⟨q1,q2,q3,q4,q5⟩=>?_
    have:=yL ws
    simp only[List.length_nil,List.flatten_nil,e7,List.flatten_append,List.flatten_cons,List.append_nil,List.length_append,dF,List.length_cons] at a3 a4 a5 q3 q4 q5;omega
   ·exact .ok (by omega)
  ·intro d i hi h0;rw[kD];obtain⟨e1,e2⟩:=lP g hi h0;rw[e1];split
   ·rename_i hn
    obtain⟨e3,e4⟩:=fR g e2 (by decide) hn.1
    rw[e3];refine (ih.block _ _ e4).go fun l e ⟨h1,h2,h3,h4⟩=>.ok ?_
    obtain⟨z1,z2⟩:=iJ 31 0 (aK ts (i+1)).text l;have:=g.text (i+1)
    omega
   ·exact .form e2
  ·intro d i c L hi;rw[eQ];split
   ·rename_i hk
    obtain⟨e1,e2⟩:=fR g hi (by decide) hk
    rw[e1];refine (ih.word _ _ _ e2).go fun w j ⟨a1,a2,a3,a4⟩=>(ih.turns _ _ _ _ a2).mono fun l k ⟨q1,q2,q3,q4⟩=>?_
    rw[rY] at q3;rw[tR] at q4;dsimp only at q3 q4;omega
   ·have:=xM L c
    exact .ok (by omega)
  ·intro d i hi;rw[gS];refine (ih.sets _ _ _ hi).go fun s j ⟨a1,a2,a3,a4,a5,a6⟩=>(ih.items _ _ _ _ a2).go fun wt e ⟨b1,b2,b3,b4,b5,b6⟩=>?_
   split
   ·exact .form b2
   ·rename_i hn
    simp only[cQ,jZ,dQ,f9,List.map_nil,List.sum_nil,List.length_nil,List.flatten_nil,e7] at a3 a4 a5 a6 b3 b4 b5;have h1:=xM wt.2 (dT s wt.1);have h2:=vC s wt.1;simp only[cQ,jZ,dQ,f9] at h1 h2;exact .ok (by omega)
  ·intro d i L hi;rw[gL];split
   ·rename_i hk
    obtain⟨e1,e2⟩:=fR g hi (by decide) hk.1
    rw[e1] at hk ⊢;obtain⟨e3,e4⟩:=lP g e2 (by rw[hk.2.1];decide)
    rw[e3];refine (ih.word _ _ _ e4).go fun w j ⟨a1,a2,a3,a4⟩=>(ih.sets _ _ _ a2).mono fun l k ⟨q1,q2,q3,q4,q5,q6⟩=>?_
    have:=g.text i
    rw[wN] at q3 q4;rw[A9] at q5;rw[List.length_append] at q4 q6;simp only[List.length_cons,List.length_nil] at q3 q4 q5 q6;omega
   ·exact .ok (by omega)
  ·intro d i ws L hi;rw[eB];split
   ·rename_i hk
    obtain⟨e1,e2⟩:=fR g hi (by decide) hk
    rw[e1];refine (ih.word _ _ _ e2).go fun w j ⟨a1,a2,a3,a4⟩=>(ih.items _ _ _ _ a2).mono fun l k ⟨q1,q2,q3,q4,q5,q6⟩=>?_
    rw[rY,List.length_append] at q3;rw[tR] at q4;rw[List.length_append] at q5;simp only[List.length_cons,List.length_nil] at q3 q4 q5;exact⟨by omega,by omega,by omega,by omega,by omega,fun e=>by omega⟩
   split
   ·exact .ok ⟨by omega,by omega,by dsimp only;omega,by dsimp only;omega,by dsimp only;omega,fun _=>rfl⟩
   ·refine (ih.word _ _ _ hi).go fun w j ⟨a1,a2,a3,a4⟩=>(ih.items _ _ _ _ a2).mono fun l k ⟨q1,q2,q3,q4,q5,q6⟩=>?_
    rw[fD] at q3 q4;rw[dF] at q4;simp only[List.length_append,List.length_cons,List.length_nil] at q3 q5;exact⟨by omega,by omega,by omega,by omega,by omega,fun e=>by omega⟩
  ·intro d i how L hi;rw[fI];split
   ·refine (ih.word _ _ _ hi).go fun w j ⟨a1,a2,a3,a4⟩=>(ih.words _ _ _ _ a2).mono fun l k ⟨q1,q2,q3,q4,q5⟩=>?_
    rw[fD] at q3 q4;rw[dF] at q4;simp only[List.length_append,List.length_cons,List.length_nil] at q3 q5;omega
   ·exact .ok (by omega)
  ·intro d i how hi;rw[dJ];refine (ih.wordR _ _ _ _ hi).go fun l e ⟨h1,h2,h3,h4,h5,h6⟩=>?_
   simp only[List.length_nil,List.flatten_nil,e7] at h3 h4 h5 h6;split
   ·exact .err (by simp) ⟨i,hi,rfl⟩
   ·refine .ok ⟨h1,h2,?_⟩;unfold lO;split
    ·obtain⟨z1,z2⟩:=iJ 6 0 [] (aC 1 1 (oW (aK ts i).text) []);obtain⟨z3,z4⟩:=lN 1 1 (oW (aK ts i).text);have:=Bg (aK ts i).text
     have:=g.text i
     rw[List.length_nil] at z2;omega
    ·have:=x5 l
     omega
  ·intro d i how L hi;rw[fU];split
   ·exact .form hi
   ·rename_i hit
    refine (ih.one _ _ hi (by simpa using hit)).go fun x j ⟨a1,a2,a3,a4⟩=>?_
    dsimp only;obtain⟨y,hy⟩:∃ y,(if how=1 then oX (aK ts i) x else x)=y:=⟨_,rfl⟩
    have hyl:y.length≤x.length+1∧txP y≤txP x+16384:=by
     rw[← hy];split
     ·exact II _ _ (g.text i)
     ·omega
    rw[hy]
    have hf:(L++[y]).flatten.length=L.flatten.length+y.length∧txP (L++[y]).flatten=txP L.flatten+txP y∧(L++[y]).length=L.length+1:=by
     rw[fD,dF];simp
    split
    ·rename_i hk
     obtain⟨e1,e2⟩:=fR g a2 (by decide) hk
     rw[e1];refine (ih.wordR _ _ _ _ e2).mono fun l k ⟨q1,q2,q3,q4,q5,q6⟩=>?_
     omega
    split
    ·exact .ok (by omega)
    ·refine (ih.wordR _ _ _ _ a2).mono fun l k ⟨q1,q2,q3,q4,q5,q6⟩=>?_
     omega
  ·intro d i hi hit;rw[gG];obtain⟨e1,e2⟩:=fR g hi (by decide) hit
   rw[e1];have ht:=g.text i;have z1:=lN 1 0 (aK ts i).text;have z2:=lN 2 0 (aK ts i).text;have z3:=lN 2 0 [42];have z4:=iJ 10 0 [] (aC 2 0 (aK ts i).text []);have z5:=iJ 9 0 [] (aC 2 0 (aK ts i).text []);have z6:=iJ 11 (aK ts i).num [] (aC 2 0 [42] []);simp only[List.length_cons,List.length_nil] at z3 z4 z5 z6;split
   ·exact .ok (by unfold aR;omega)
   split
   ·exact .ok (by omega)
   split
   ·exact .ok (by omega)
   split
   ·exact .ok (by omega)
   split
   ·split
    ·exact .nest hi
    ·refine (ih.words _ _ _ _ e2).go fun l j ⟨a1,a2,a3,a4,a5⟩=>.take g a2 (by decide) fun hb=>.ok ?_
     rw[bN,eH];simp only[List.length_nil,List.flatten_nil,e7] at a3 a4 a5 ⊢;omega
   split
   ·refine (ih.list _ _ e2).go fun l j ⟨a1,a2,a3,a4⟩=>.take g a2 (by decide) fun hb=>.ok ?_
    have:=iJ 12 0 [] l
    simp only[List.length_nil] at this;omega
   ·exact .ok (by omega)
theorem dX {ts:List aH} {α β:Type}{x:aJ α}{k:α→Nat→aJ β}{Q:α→Nat→Prop}(hx:x≠none)(hp:bR ts x Q)(hk:∀ a e,Q a e→k a e≠none):x.go k≠none:=by
 match x,hx,hp with
 | .none,hx,_=>exact absurd rfl hx
 | some (.error e),_,_=>exact fun h=>by cases h
 | some (.ok (a,e)),_,hp=>exact hk a e (hp.1 a e rfl)
theorem fA {α:Type}{a:α}{i:Nat}:pOk a i≠none:=fun h=>by cases h
theorem pW {α:Type}{ts:List aH}{i:Nat}:(jJ ts i:aJ α)≠none:=fun h=>by cases h
theorem y9 {α:Type}{ts:List aH}{i:Nat}:(o8 ts i:aJ α)≠none:=fun h=>by cases h
theorem MF {α:Type}{c p:Nat}:(kC c p:aJ α)≠none:=fun h=>by cases h
theorem lC {ts:List aH}(g:oE ts) {β:Type}{i:Nat}{ks:List Nat}{k:Nat→aJ β}(hi:i<ts.length)(h0:0 ∉ ks)(hk:i+1<ts.length→k (i+1)≠none):fL ts i ks k≠none:=by
 unfold fL;split
 ·rename_i h
  obtain⟨e1,e2⟩:=fR g hi h0 h;rw[e1];exact hk e2
 ·exact pW
structure MV (ts:List aH) (f:Nat):Prop where
 list:∀ d i,i<ts.length→12 * (ts.length - i)+11≤f→dI ts f d i≠none
 chains:∀ d i L,i<ts.length→12 * (ts.length - i)+10≤f→eK ts f d i L≠none
 chain:∀ d i,i<ts.length→12 * (ts.length - i)+9≤f→fG ts f d i≠none
 chainR:∀ d i o,i<ts.length→12 * (ts.length - i)+1≤f→gR ts f d i o≠none
 pipe:∀ d i,i<ts.length→12 * (ts.length - i)+8≤f→eC ts f d i≠none
 pipeR:∀ d i L,i<ts.length→12 * (ts.length - i)+7≤f→eR ts f d i L≠none
 command:∀ d i,i<ts.length→12 * (ts.length - i)+6≤f→eE ts f d i≠none
 block:∀ d i,i<ts.length→12 * (ts.length - i)+1≤f→fT ts f d i≠none
 test:∀ d i,i<ts.length→(aK ts i).kind≠0→12 * (ts.length - i)+1≤f→j8 ts f d i≠none
 body:∀ d i,i<ts.length→12 * (ts.length - i)+7≤f→i7 ts f d i≠none
 choice:∀ d i,i<ts.length→(aK ts i).kind≠0→12 * (ts.length - i)+2≤f→kK ts f d i≠none
 whl:∀ d i,i<ts.length→(aK ts i).kind≠0→12 * (ts.length - i)+2≤f→kQ ts f d i≠none
 each:∀ d i,i<ts.length→(aK ts i).kind≠0→12 * (ts.length - i)+2≤f→kV ts f d i≠none
 choose:∀ d i,i<ts.length→(aK ts i).kind≠0→12 * (ts.length - i)+2≤f→kM ts f d i≠none
 cases:∀ d i L,i<ts.length→12 * (ts.length - i)+2≤f→j5 ts f d i L≠none
 function:∀ d i,i<ts.length→(aK ts i).kind≠0→12 * (ts.length - i)+2≤f→kD ts f d i≠none
 turns:∀ d i c L,i<ts.length→12 * (ts.length - i)+1≤f→eQ ts f d i c L≠none
 simple:∀ d i,i<ts.length→12 * (ts.length - i)+5≤f→gS ts f d i≠none
 sets:∀ d i L,i<ts.length→12 * (ts.length - i)+1≤f→gL ts f d i L≠none
 items:∀ d i ws L,i<ts.length→12 * (ts.length - i)+4≤f→eB ts f d i ws L≠none
 words:∀ d i how L,i<ts.length→12 * (ts.length - i)+4≤f→fI ts f d i how L≠none
 word:∀ d i how,i<ts.length→12 * (ts.length - i)+3≤f→dJ ts f d i how≠none
 wordR:∀ d i how L,i<ts.length→12 * (ts.length - i)+2≤f→fU ts f d i how L≠none
 one:∀ d i,i<ts.length→eV ts i=true→12 * (ts.length - i)+1≤f→gG ts f d i≠none
theorem Ag {ts:List aH}(g:oE ts):∀ f,MV ts f
 | 0=>by
  constructor <;> intros <;> omega
 | f+1=>by
  have ih:=Ag g f;have hP:=lB g f;refine ⟨?_,?_,?_,?_,?_,?_,?_,?_,?_,?_,?_,?_,?_,?_,?_,?_,?_,?_,?_,?_,?_,?_,?_,?_⟩
  ·intro d i hi hf;rw[dI];split
   ·exact y9
   ·exact ih.chains _ _ _ hi (by omega)
  ·intro d i L hi hf;rw[eK];have hp:=jT (ts:=ts) [1,2] hi;split
   ·exact fA
   ·exact dX (ih.chain _ _ hp.2 (by omega)) (hP.chain _ _ hp.2) fun c e ⟨h1,h2,_⟩=>ih.chains _ _ _ h2 (by omega)
  ·intro d i hi hf;rw[fG];exact dX (ih.pipe _ _ hi (by omega)) (hP.pipe _ _ hi) fun c e ⟨h1,h2,_⟩=>ih.chainR _ _ _ h2 (by omega)
  ·intro d i o hi hf;rw[gR];split
   ·rename_i hk
    obtain⟨e1,e2⟩:=fR g hi (by decide) hk
    rw[e1];have hp:=jT (ts:=ts) [1] e2;exact dX (ih.pipe _ _ hp.2 (by omega)) (hP.pipe _ _ hp.2) fun c e ⟨h1,h2,_⟩=>ih.chainR _ _ _ h2 (by omega)
   ·exact fA
  ·intro d i hi hf;rw[eC]
   have hj:i≤(if isK ts i [17]=true then skP ts i else i)∧(if isK ts i [17]=true then skP ts i else i)<ts.length:=by
    split
    ·have:=nF hi
     omega
    ·omega
   exact dX (ih.pipeR _ _ _ hj.2 (by omega)) (hP.pipeR _ _ _ hj.2) fun _ _ _=>fA
  ·intro d i L hi hf;rw[eR];refine dX (ih.command _ _ hi (by omega)) (hP.command _ _ hi) fun c e ⟨h1,h2,_⟩=>?_
   split
   ·rename_i hk
    obtain⟨e1,e2⟩:=fR g h2 (by decide) hk
    rw[e1];have hp:=jT (ts:=ts) [1] e2;exact ih.pipeR _ _ _ hp.2 (by omega)
   ·exact fA
  ·intro d i hi hf;rw[eE];split
   ·exact dX (ih.block _ _ hi (by omega)) (hP.block _ _ hi) fun c e ⟨h1,h2,_⟩=>ih.turns _ _ _ _ h2 (by omega)
   split
   ·exact ih.simple _ _ hi (by omega)
   rename_i hk
   have hk0:(aK ts i).kind≠0:=Ek (ks:=[18]) (by simpa using fun e=>hk (.inl e)) (by decide)
   split
   ·exact ih.choice _ _ hi hk0 (by omega)
   split
   ·exact ih.whl _ _ hi hk0 (by omega)
   split
   ·exact ih.each _ _ hi hk0 (by omega)
   split
   ·exact ih.choose _ _ hi hk0 (by omega)
   split
   ·exact ih.function _ _ hi hk0 (by omega)
   ·exact pW
  ·intro d i hi hf;rw[fT];exact lC g hi (by decide) fun hj=>dX (ih.list _ _ hj (by omega)) (hP.list _ _ hj) fun l e ⟨h1,h2,_⟩=>lC g h2 (by decide) fun _=>fA
  ·intro d i hi h0 hf;rw[j8];obtain⟨e1,e2⟩:=lP g hi h0;rw[e1];exact lC g e2 (by decide) fun hj=>dX (ih.list _ _ hj (by omega)) (hP.list _ _ hj) fun l e ⟨h1,h2,_⟩=>lC g h2 (by decide) fun _=>fA
  ·intro d i hi hf;rw[i7];have hp:=jT (ts:=ts) [1] hi;split
   ·exact y9
   ·exact ih.command _ _ hp.2 (by omega)
  ·intro d i hi h0 hf;rw[kK];refine dX (ih.test _ _ hi h0 (by omega)) (hP.test _ _ hi h0) fun c j ⟨a1,a2,_⟩=>dX (ih.body _ _ a2 (by omega)) (hP.body _ _ a2) fun y k ⟨b1,b2,_⟩=>?_
   split
   ·rename_i hk
    obtain⟨e1,e2⟩:=rL g b2 hk;rw[e1];exact dX (ih.body _ _ e2 (by omega)) (hP.body _ _ e2) fun _ _ _=>fA
   ·exact fA
  ·intro d i hi h0 hf;rw[kQ];exact dX (ih.test _ _ hi h0 (by omega)) (hP.test _ _ hi h0) fun c j ⟨a1,a2,_⟩=>dX (ih.body _ _ a2 (by omega)) (hP.body _ _ a2) fun _ _ _=>fA
  ·intro d i hi h0 hf;rw[kV];obtain⟨e1,e2⟩:=lP g hi h0;rw[e1];refine lC g e2 (by decide) fun hj=>?_
   split
   ·rename_i hn
    obtain⟨e3,e4⟩:=fR g hj (by decide) hn.1
    rw[e3];split
    ·rename_i hq
     obtain⟨e5,e6⟩:=rL g e4 hq;rw[e5];exact dX (ih.words _ _ _ _ e6 (by omega)) (hP.words _ _ _ _ e6) fun ws j ⟨a1,a2,_⟩=>lC g a2 (by decide) fun hb=>dX (ih.body _ _ hb (by omega)) (hP.body _ _ hb) fun _ _ _=>fA
    ·exact pW
   ·exact pW
  ·intro d i hi h0 hf;rw[kM];obtain⟨e1,e2⟩:=lP g hi h0;rw[e1];refine lC g e2 (by decide) fun hj=>dX (ih.word _ _ _ hj (by omega)) (hP.word _ _ _ hj) fun w j ⟨a1,a2,_⟩=>lC g a2 (by decide) fun hb=>?_
   have hp:=jT (ts:=ts) [1] hb;refine lC g hp.2 (by decide) fun hc=>?_
   have hp2:=jT (ts:=ts) [1,2] hc;exact dX (ih.cases _ _ _ hp2.2 (by omega)) (hP.cases _ _ _ hp2.2) fun l k ⟨b1,b2,_⟩=>lC g b2 (by decide) fun he=>ih.turns _ _ _ _ he (by omega)
  ·intro d i L hi hf;rw[j5];split
   ·rename_i hk
    obtain⟨e1,e2⟩:=rL g hi hk;rw[e1];exact dX (ih.words _ _ _ _ e2 (by omega)) (hP.words _ _ _ _ e2) fun ws j ⟨a1,a2,_⟩=>lC g a2 (by decide) fun hb=>dX (ih.list _ _ hb (by omega)) (hP.list _ _ hb) fun c e ⟨b1,b2,_⟩=>ih.cases _ _ _ b2 (by omega)
   ·exact fA
  ·intro d i hi h0 hf;rw[kD];obtain⟨e1,e2⟩:=lP g hi h0;rw[e1];split
   ·rename_i hn
    obtain⟨e3,e4⟩:=fR g e2 (by decide) hn.1
    rw[e3];exact dX (ih.block _ _ e4 (by omega)) (hP.block _ _ e4) fun _ _ _=>fA
   ·exact pW
  ·intro d i c L hi hf;rw[eQ];split
   ·rename_i hk
    obtain⟨e1,e2⟩:=fR g hi (by decide) hk
    rw[e1];exact dX (ih.word _ _ _ e2 (by omega)) (hP.word _ _ _ e2) fun w j ⟨a1,a2,_⟩=>ih.turns _ _ _ _ a2 (by omega)
   ·exact fA
  ·intro d i hi hf;rw[gS];refine dX (ih.sets _ _ _ hi (by omega)) (hP.sets _ _ _ hi) fun s j ⟨a1,a2,_⟩=>dX (ih.items _ _ _ _ a2 (by omega)) (hP.items _ _ _ _ a2) fun wt e ⟨b1,b2,_⟩=>?_
   split
   ·exact pW
   ·exact fA
  ·intro d i L hi hf;rw[gL];split
   ·rename_i hk
    obtain⟨e1,e2⟩:=fR g hi (by decide) hk.1
    rw[e1] at hk ⊢;obtain⟨e3,e4⟩:=lP g e2 (by rw[hk.2.1];decide)
    rw[e3];exact dX (ih.word _ _ _ e4 (by omega)) (hP.word _ _ _ e4) fun w j ⟨a1,a2,_⟩=>ih.sets _ _ _ a2 (by omega)
   ·exact fA
  ·intro d i ws L hi hf;rw[eB];split
   ·rename_i hk
    obtain⟨e1,e2⟩:=fR g hi (by decide) hk
    rw[e1];exact dX (ih.word _ _ _ e2 (by omega)) (hP.word _ _ _ e2) fun w j ⟨a1,a2,_⟩=>ih.items _ _ _ _ a2 (by omega)
   split
   ·exact fA
   ·exact dX (ih.word _ _ _ hi (by omega)) (hP.word _ _ _ hi) fun w j ⟨a1,a2,_⟩=>ih.items _ _ _ _ a2 (by omega)
  ·intro d i how L hi hf;rw[fI];split
   ·exact dX (ih.word _ _ _ hi (by omega)) (hP.word _ _ _ hi) fun w j ⟨a1,a2,_⟩=>ih.words _ _ _ _ a2 (by omega)
   ·exact fA
  ·intro d i how hi hf;rw[dJ];refine dX (ih.wordR _ _ _ _ hi (by omega)) (hP.wordR _ _ _ _ hi) fun l e ⟨h1,h2,_⟩=>?_
   split
   ·exact MF
   ·exact fA
  ·intro d i how L hi hf;rw[fU];split
   ·exact pW
   ·rename_i hit
    refine dX (ih.one _ _ hi (by simpa using hit) (by omega)) (hP.one _ _ hi (by simpa using hit)) fun x j ⟨a1,a2,_⟩=>?_
    dsimp only;split
    ·rename_i hk
     obtain⟨e1,e2⟩:=fR g a2 (by decide) hk
     rw[e1];exact ih.wordR _ _ _ _ e2 (by omega)
    split
    ·exact fA
    ·exact ih.wordR _ _ _ _ a2 (by omega)
  ·intro d i hi hit hf;rw[gG];obtain⟨e1,e2⟩:=fR g hi (by decide) hit
   rw[e1];split
   ·exact fA
   split
   ·exact fA
   split
   ·exact fA
   split
   ·exact fA
   split
   ·split
    ·exact y9
    ·exact dX (ih.words _ _ _ _ e2 (by omega)) (hP.words _ _ _ _ e2) fun l j ⟨a1,a2,_⟩=>lC g a2 (by decide) fun _=>fA
   split
   ·exact dX (ih.list _ _ e2 (by omega)) (hP.list _ _ e2) fun l j ⟨a1,a2,_⟩=>lC g a2 (by decide) fun _=>fA
   ·exact fA
def tA (k:Int):Bool:=decide (1≤k)&&decide (k≤12)
def sF (k:Int):Bool:=decide (20≤k)&&decide (k≤37)
def kN (k:Int):Bool:=[2,22,29,31,35].contains k
def bU (M:Nat) (x:bE):Bool :=
 if x.kind=1 then (decide (x.n=0) || (decide (x.n=1)&&d9 x.text))&&decide (x.text.length≤M)
 else if x.kind=11 then decide (1≤x.n)&&decide (x.n≤99)&&decide (x.text=[])
 else if x.kind=33 then decide (1≤x.n)&&decide (x.n≤3)&&decide (x.text=[])
 else if x.n≠0 then false
 else if x.kind=2 then bI x.text || decide (x.text=[42])
 else if kN x.kind=true then bI x.text
 else decide (x.text=[])
def eA (x:bE):Bool:=bU 2000 x
def bL (x:bE):Bool :=
 if [1,2,20].contains x.kind then decide (x.k=0)
 else if x.kind=3 then decide (0≤x.k)
 else if [4,21,37].contains x.kind then decide (1≤x.k)
 else if [23,32].contains x.kind then decide (2≤x.k)
 else if x.kind=24 then decide (x.k=3)
 else if [25,26,28,29,35,33,34].contains x.kind then decide (x.k=2)
 else if x.kind=30 then decide (1≤x.k)&&decide (x.k % 2=1)
 else decide (x.k=1)
def dH (kind:Int) (K k:Int):Bool :=
 if [12,23,32,24,25,26,28,27,31].contains kind then false
 else if [29,35,33,34].contains kind then decide (k=0)
 else if kind=30 then decide (k=0) || decide (k % 2=1)
 else if kind=37 then decide (k<K - 1)
 else true
def cK (l:aA) (i:Nat):bE:=l.getD i ⟨0,0,0,0,[]⟩
def gF (l:aA):Nat→Int→Nat→Nat→Bool
 | 0,left,_,_=>decide (left≤0)
 | f+1,left,c,e=>if left≤0 then true else if e≤c then false
  else if (cK l c).size<1∨((e:Int) - c)<(cK l c).size then true else gF l f (left - 1) (c+(cK l c).size.toNat) e
def lI (x:bE) (word:Bool):Bool:=(word&&tA x.kind) || (!word&&sF x.kind)
mutual
def lV (l:aA):Nat→Nat→Nat→Nat→Bool→Bool→Option (Option (Nat×Nat))
 | 0,_,_,_,_,_=>none
 | f+1,i,e,d,word,last =>
  let x:=cK l i
  if lI x word=false∨eA x=false∨bL x=false∨x.size<1∨((e:Int) - i)<x.size∨(last=true∧x.size≠(e:Int) - i) then some (some (110,i))
  else if x.k=0∧x.size≠1 then some (some (110,i))
  else if gF l (x.size.toNat - 1) x.k (i+1) (i+x.size.toNat)=false then some (some (110,i))
  else if 30<d then some (some (102,i))
  else jM l f 0 (i+1) (i+x.size.toNat) (d+1) x
def jM (l:aA):Nat→Nat→Nat→Nat→Nat→bE→Option (Option (Nat×Nat))
 | 0,_,_,_,_,_=>none
 | f+1,k,c,e,d,x =>
  if x.k≤k then some none
  else match lV l f c e d (dH x.kind x.k k) (decide ((k:Int)=x.k - 1)) with
   | none=>none
   | some (some r)=>some (some r)
   | some none=>jM l f (k+1) (c+(cK l c).size.toNat) e d x
end
inductive WFP (K:Int→Bool) (M:Nat):Bool→Nat→aA→Prop
 | node (w:Bool) (D:Nat) (kind n:Int) (s:List UInt8) (kids:List aA)
  (hk:(lI ⟨kind,n,kids.length,0,s⟩ w&&K kind)=true) (hf:bU M ⟨kind,n,kids.length,0,s⟩=true) (hc:bL ⟨kind,n,kids.length,0,s⟩=true)
  (hK:∀ (j:Nat) (kid:aA),kids[j]?=some kid→WFP K M (dH kind kids.length j) D kid):WFP K M w (D+1) (aC kind n s kids)
theorem WFP.pos {K:Int→Bool}{M:Nat}{w:Bool}{D:Nat}{l:aA}(h:WFP K M w D l):0<l.length∧(cK l 0).size=l.length:=by
 cases h
 exact⟨by rw[aC];simp,by rw[aC];simp [cK]⟩
theorem WFP.mono {K:Int→Bool}{M:Nat}{w:Bool}{D:Nat}{l:aA}(h:WFP K M w D l):∀ {E:Nat},D≤E→WFP K M w E l:=by
 induction h with
 | node w D kind n s kids hk hf hc hK ih =>
  intro E hE;obtain⟨E',rfl⟩:∃ E',E=E'+1:=⟨E - 1,by omega⟩
  exact .node w E' kind n s kids hk hf hc fun j kid h=>ih j kid h (by omega)
theorem yF (l:aA)(i:Nat)(a b:aA)(h:l.drop i=a++b)(ha:0<a.length):cK l i=cK a 0∧i+a.length≤l.length:=by
 constructor
 ·have h1:l[i]?=a[0]?:=by
   have:=congrArg (fun m=>m[0]?) h
   simp only[List.getElem?_drop,Nat.add_zero] at this;rw[this,List.getElem?_append_left ha]
  unfold cK;rw[List.getD_eq_getElem?_getD,List.getD_eq_getElem?_getD,h1]
 ·have:=congrArg List.length h
  rw[List.length_drop,List.length_append] at this;omega
theorem MB {K:Int→Bool}{M:Nat}(l:aA)(e:Nat):∀ (kids:List aA)(c f:Nat)(post:aA),(∀ kid∈kids,∃ w D,WFP K M w D kid)→l.drop c=kids.flatten++post→c+kids.flatten.length≤e→kids.flatten.length≤f→gF l f kids.length c e=true:=by
 intro kids
 induction kids with
 | nil =>
  intro c f post _ _ _ _
  cases f <;> simp [gF]
 | cons a kids ih =>
  intro c f post hw hd he hf;obtain⟨w,D,ha⟩:=hw a (by simp)
  obtain⟨a1,a2⟩:=ha.pos;rw[List.flatten_cons,List.append_assoc] at hd;rw[List.flatten_cons,List.length_append] at he hf;obtain⟨f,rfl⟩:∃ g,f=g+1:=⟨f - 1,by omega⟩
  obtain⟨n1,n2⟩:=yF l c a _ hd a1;rw[gF,n1,a2];rw[if_neg (by simp only[List.length_cons];omega),if_neg (by omega),if_neg (by omega),Int.toNat_natCast]
  have hl:(((a :: kids).length:Nat):Int) - 1=(kids.length:Nat):=by simp only[List.length_cons];omega
  rw[hl];refine ih (c+a.length) f post (fun k hk=>hw k (by simp [hk])) ?_ (by omega) (by omega)
  rw[← List.drop_drop,hd,List.drop_left]
theorem zC {K:Int→Bool}{w:Bool}{D:Nat}{l:aA}(h:WFP K 2000 w D l):∀ (L:aA)(i e d:Nat)(last:Bool)(post:aA)(f:Nat),L.drop i=l++post→i+l.length≤e→(last=true→e=i+l.length)→3 * l.length≤f →
  ∃ r,lV L f i e d w last=some r∧(r=none∨∃ p,r=some (102,p))∧(d+D≤31→r=none):=by
 induction h with
 | node w D kind n s kids hk hf hc hK ih =>
  intro L i e d last post f hd he hlast hfu;rw[Bool.and_eq_true] at hk;replace hk:=hk.1;have hlen:(aC kind n s kids).length=kids.flatten.length+1:=rfl;obtain⟨n1,n2⟩:=yF L i (aC kind n s kids) post hd (by rw[hlen];omega)
  rw[hlen] at he hlast hfu n2;have hx:cK (aC kind n s kids) 0=⟨kind,n,kids.length,kids.flatten.length+1,s⟩:=rfl;obtain⟨f,rfl⟩:∃ g,f=g+1:=⟨f - 1,by omega⟩
  rw[lV,n1,hx]
  have hkids:∀ kid∈kids,∃ w D,WFP K 2000 w D kid:=fun kid hkid=>by
   obtain⟨j,hj⟩:=List.getElem?_of_mem hkid;exact⟨_,_,hK j kid hj⟩
  have hd1:L.drop (i+1)=kids.flatten++post:=by
   rw[← List.drop_drop,hd,aC];rfl
  have hsz:((kids.flatten.length:Int)+1).toNat=kids.flatten.length+1:=by omega
  have hfit:=MB L (i+(kids.flatten.length+1)) kids (i+1) kids.flatten.length post hkids hd1 (by omega) (Nat.le_refl _)
  dsimp only
  rw[if_neg (by
   intro hh
   rcases hh with h1 | h1 | h1 | h1 | h1 | h1
   ·exact absurd (hk.symm.trans h1) (by simp)
   ·exact absurd (hf.symm.trans h1) (by simp)
   ·exact absurd (hc.symm.trans h1) (by simp)
   ·omega
   ·omega
   ·have:=hlast h1.1
    exact h1.2 (by omega))]
  rw[hsz]
  by_cases h0:kids.length=0
  ·obtain rfl:kids=[]:=List.length_eq_zero_iff.1 h0;simp only[List.flatten_nil,List.length_nil] at hfit ⊢;rw[if_neg (by intro hh;exact hh.2 (by simp)),if_neg (by intro hh;rw[show (0+1 - 1:Nat)=0 from rfl] at hh;rw[hfit] at hh;cases hh)]
   obtain⟨f,rfl⟩:∃ g,f=g+1:=⟨f - 1,by simp only[List.flatten_nil,List.length_nil] at hfu;omega⟩
   split
   ·exact⟨_,rfl,.inr ⟨_,rfl⟩,fun hdD=>by omega⟩
   ·refine ⟨none,?_,.inl rfl,fun _=>rfl⟩
    rw[jM,if_pos (by simp)]
  ·rw[if_neg (by intro hh;exact h0 (by omega)),Nat.add_sub_cancel,if_neg (by rw[hfit];simp)]
   split
   ·exact⟨_,rfl,.inr ⟨_,rfl⟩,fun hdD=>by omega⟩
   ·rename_i hdep
    have hrest:∀ (rest:List aA) (k c f:Nat) (post':aA),kids.drop k=rest→L.drop c=rest.flatten++post→c+rest.flatten.length=i+(kids.flatten.length+1)→3 * rest.flatten.length+1≤f →
      ∃ r,jM L f k c (i+(kids.flatten.length+1)) (d+1) ⟨kind,n,kids.length,kids.flatten.length+1,s⟩=some r∧(r=none∨∃ p,r=some (102,p))∧(d+(D+1)≤31→r=none):=by
     intro rest
     induction rest with
     | nil =>
      intro k c f _ hkd hLd hce hff;obtain⟨f,rfl⟩:∃ g,f=g+1:=⟨f - 1,by omega⟩
      have:kids.length≤k:=List.drop_eq_nil_iff.1 hkd
      refine ⟨none,?_,.inl rfl,fun _=>rfl⟩
      rw[jM,if_pos (by dsimp only;omega)]
     | cons a rest ihr =>
      intro k c f post' hkd hLd hce hff
      have hka:kids[k]?=some a:=by
       have:=congrArg (fun m=>m[0]?) hkd
       simpa using this
      have hkl:k<kids.length:=(List.getElem?_eq_some_iff.1 hka).1
      have hkr:kids.drop (k+1)=rest:=by
       rw[← List.drop_drop,hkd];rfl
      have hrl:rest.length=kids.length - (k+1):=by rw[← hkr,List.length_drop]
      obtain⟨a1,a2⟩:=(hK k a hka).pos;rw[List.flatten_cons,List.append_assoc] at hLd;rw[List.flatten_cons,List.length_append] at hce hff;obtain⟨f,rfl⟩:∃ g,f=g+1:=⟨f - 1,by omega⟩
      obtain⟨m1,m2⟩:=yF L c a _ hLd a1
      obtain⟨r,q1,q2,q3⟩:=ih k a hka L c (i+(kids.flatten.length+1)) (d+1) (decide ((k:Int)=(kids.length:Nat) - 1)) _ f hLd (by omega) (fun hl=>by
       have hl':(k:Int)=(kids.length:Nat) - 1:=by simpa using hl
       have:rest=[]:=List.length_eq_zero_iff.1 (by omega)
       subst this;simp only[List.flatten_nil,List.length_nil] at hce;omega) (by omega)
      rw[jM,if_neg (by dsimp only;omega)]
      dsimp only;rw[q1]
      match r,q2,q3 with
      | some r,q2,q3=>exact⟨_,rfl,q2,fun hdD=>q3 (by omega)⟩
      | none,_,_ =>
       dsimp only;rw[m1,a2,Int.toNat_natCast];exact ihr (k+1) (c+a.length) f post' hkr (by rw[← List.drop_drop,hLd,List.drop_left]) (by omega) (by omega)
    exact hrest kids 0 (i+1) f post rfl hd1 (by omega) (by omega)
theorem wL {M N:Nat}(h:M≤N)(x:bE)(hx:bU M x=true):bU N x=true:=by
 unfold bU at hx ⊢;split
 ·rename_i h1
  rw[if_pos h1] at hx;simp only[Bool.and_eq_true,decide_eq_true_eq] at hx ⊢;exact⟨hx.1,by omega⟩
 ·rename_i h1
  rw[if_neg h1] at hx;exact hx
theorem WFP.widen {K:Int→Bool}{M N:Nat}(h:M≤N){w:Bool}{D:Nat}{l:aA}(hl:WFP K M w D l):WFP K N w D l:=by
 induction hl with
 | node w D kind n s kids hk hf hc hK ih=>exact .node w D kind n s kids hk (wL h _ hf) hc ih
theorem WFP.short {K:Int→Bool}{M N:Nat}{w:Bool}{D:Nat}{l:aA}(hl:WFP K M w D l):(∀ x∈l,x.kind=1→x.text.length≤N)→WFP K N w D l:=by
 induction hl with
 | node w D kind n s kids hk hf hc hK ih =>
  intro hN;refine .node w D kind n s kids hk ?_ hc fun j kid hj=>ih j kid hj fun x hx=>hN x ?_
  ·have h1:=hN ⟨kind,n,kids.length,kids.flatten.length+1,s⟩ (by rw[aC];simp)
   unfold bU at hf ⊢;split
   ·rename_i h2
    rw[if_pos h2] at hf;simp only[Bool.and_eq_true,decide_eq_true_eq] at hf ⊢;exact⟨hf.1,h1 h2⟩
   ·rename_i h2
    rw[if_neg h2] at hf;exact hf
  ·rw[aC];exact List.mem_cons_of_mem _ (List.mem_flatten.2 ⟨kid,List.mem_of_getElem? hj,hx⟩)
def okB (k:Int):Bool:=![5,7,36,37].contains k
def WF (w:Bool) (l:aA):Prop:=∃ D,WFP okB 2000 w D l
def WX (w:Bool) (l:aA):Prop:=∃ M D,WFP okB M w D l
theorem WF.x {w:Bool}{l:aA}(h:WF w l):WX w l:=⟨2000,h⟩
theorem Dt:∀ (kids:List aA)(T:Nat→Bool),(∀ j kid,kids[j]?=some kid→WX (T j) kid)→∃ M D,∀ j kid,kids[j]?=some kid→WFP okB M (T j) D kid
 | [],T,_=>⟨0,0,fun j kid h=>by simp at h⟩
 | a :: kids,T,h=>by
  obtain⟨M,D,ha⟩:=h 0 a rfl;obtain⟨N,E,hk⟩:=Dt kids (fun j=>T (j+1)) (fun j kid hj=>h (j+1) kid (by simpa using hj))
  refine ⟨max M N,max D E,fun j kid hj=>?_⟩
  cases j with
  | zero =>
   cases hj
   exact (ha.widen (Nat.le_max_left _ _)).mono (Nat.le_max_left _ _)
  | succ j=>exact ((hk j kid (by simpa using hj)).widen (Nat.le_max_right _ _)).mono (Nat.le_max_right _ _)
theorem Dw:∀ (kids:List aA)(T:Nat→Bool),(∀ j kid,kids[j]?=some kid→WF (T j) kid)→∃ D,∀ j kid,kids[j]?=some kid→WFP okB 2000 (T j) D kid
 | [],T,_=>⟨0,fun j kid h=>by simp at h⟩
 | a :: kids,T,h=>by
  obtain⟨D,ha⟩:=h 0 a rfl;obtain⟨E,hk⟩:=Dw kids (fun j=>T (j+1)) (fun j kid hj=>h (j+1) kid (by simpa using hj))
  refine ⟨max D E,fun j kid hj=>?_⟩
  cases j with
  | zero =>
   cases hj
   exact ha.mono (Nat.le_max_left _ _)
  | succ j=>exact (hk j kid (by simpa using hj)).mono (Nat.le_max_right _ _)
theorem WF.node {w:Bool}{kind n:Int}{s:List UInt8}{kids:List aA}(hk:(lI ⟨kind,n,kids.length,0,s⟩ w&&okB kind)=true)(hf:bU 2000 ⟨kind,n,kids.length,0,s⟩=true)(hc:bL ⟨kind,n,kids.length,0,s⟩=true)
  (hK:∀ (j:Nat) (kid:aA),kids[j]?=some kid→WF (dH kind kids.length j) kid):WF w (aC kind n s kids):=by
 obtain⟨D,hD⟩:=Dw kids (fun j=>dH kind kids.length j) hK
 exact⟨D+1,.node w D kind n s kids hk hf hc hD⟩
theorem WX.node {w:Bool}{kind n:Int}{s:List UInt8}{kids:List aA}(hk:(lI ⟨kind,n,kids.length,0,s⟩ w&&okB kind)=true)(hf:bU s.length ⟨kind,n,kids.length,0,s⟩=true)(hc:bL ⟨kind,n,kids.length,0,s⟩=true)
  (hK:∀ (j:Nat) (kid:aA),kids[j]?=some kid→WX (dH kind kids.length j) kid):WX w (aC kind n s kids):=by
 obtain⟨M,D,hD⟩:=Dt kids (fun j=>dH kind kids.length j) hK
 exact⟨max M s.length,D+1,.node w D kind n s kids hk (wL (Nat.le_max_right _ _) _ hf) hc fun j kid hj=>(hD j kid hj).widen (Nat.le_max_left _ _)⟩
theorem WX.checked {w:Bool}{l:aA}(h:WX w l)(hs:cW l=false):WF w l:=by
 obtain⟨M,D,h⟩:=h;refine ⟨D,h.short fun x hx hk=>?_⟩
 unfold cW at hs;rw[List.any_eq_false] at hs;have:=hs x hx
 simp only[Bool.and_eq_true,decide_eq_true_eq] at this;omega
theorem gW {P:Nat→aA→Prop}{a:aA}(h:P 0 a):∀ (j:Nat)(kid:aA),[a][j]?=some kid→P j kid
 | 0,_,e=>by cases e;exact h
 | j+1,_,e=>by simp at e
theorem j9 {P:Nat→aA→Prop}{a b:aA}(h:P 0 a)(h1:P 1 b):∀ (j:Nat)(kid:aA),[a,b][j]?=some kid→P j kid
 | 0,_,e=>by cases e;exact h
 | 1,_,e=>by cases e;exact h1
 | j+2,_,e=>by simp at e
theorem Ai {P:Nat→aA→Prop}{a b c:aA}(h:P 0 a)(h1:P 1 b)(h2:P 2 c):∀ (j:Nat)(kid:aA),[a,b,c][j]?=some kid→P j kid
 | 0,_,e=>by cases e;exact h
 | 1,_,e=>by cases e;exact h1
 | 2,_,e=>by cases e;exact h2
 | j+3,_,e=>by simp at e
theorem tY:∀ (l:List UInt8)(i j:Nat),(bP i l).2=(bP j l).2
 | [],_,_=>rfl
 | [c],_,_=>by simp only[bP];split <;> rfl
 | c :: d :: l,i,j=>by
  simp only[bP];split
  ·exact tY l _ _
  ·exact tY (d :: l) _ _
theorem oJ (c d:UInt8)(l:List UInt8):d9 (c :: d :: l)=if c.toNat=92 then d9 l else d9 (d :: l):=by
 unfold d9;rw[bP];split
 ·exact congrArg _ (tY l _ _)
 ·exact congrArg _ (tY (d :: l) _ _)
theorem qH:∀ (a b:List UInt8),d9 a=true→d9 b=true→d9 (a++b)=true
 | [],b,_,h=>h
 | [c],b,h1,h2=>by
  have hc:¬ c.toNat=92:=by
   intro e;simp [d9,bP,e] at h1
  cases b with
  | nil=>exact h1
  | cons d b =>
   rw[List.cons_append,List.nil_append,oJ,if_neg hc];exact h2
 | c :: d :: a,b,h1,h2=>by
  rw[oJ] at h1;rw[List.cons_append,List.cons_append,oJ];split
  ·rename_i hc
   rw[if_pos hc] at h1;exact qH a b h1 h2
  ·rename_i hc
   rw[if_neg hc] at h1;exact qH (d :: a) b h1 h2
theorem wU:∀ (a:List UInt8),d9 a=false→d9 (a++[92])=true
 | [],h=>by simp [d9,bP] at h
 | [c],h=>by
  have hc:c.toNat=92:=by
   apply Classical.byContradiction
   intro e;simp [d9,bP,e] at h
  rw[List.cons_append,List.nil_append,oJ,if_pos hc];rfl
 | c :: d :: a,h=>by
  rw[oJ] at h;rw[List.cons_append,List.cons_append,oJ];split
  ·rename_i hc
   rw[if_pos hc] at h;exact wU a h
  ·rename_i hc
   rw[if_neg hc] at h;exact wU (d :: a) h
theorem Aw (s:List UInt8):d9 (oW s)=true:=by
 unfold oW;split
 ·assumption
 ·rename_i h
  exact wU s (by simpa using h)
theorem tM:∀ (s:List UInt8),d9 (cC s)=true
 | []=>rfl
 | c :: l=>by
  rw[cC];refine qH _ _ ?_ (tM l);split
  ·rw[oJ,if_pos (by decide)]
   rfl
  ·rename_i hc
   have hc':¬ c.toNat=92:=by
    intro e;rw[e] at hc;exact hc (by decide)
   simp [d9,bP,hc']
theorem WX.lit {n:Int}{s:List UInt8}(h:n=0∨n=1∧d9 s=true):WX true (aC 1 n s []) :=
 WX.node (by rfl) (by simpa [bU] using h) (by rfl) fun j kid hj=>by simp at hj
theorem WX.lit_inv {y:bE}(h:WX true [y])(hk:y.kind=1):(y.n=0∨y.n=1∧d9 y.text=true):=by
 obtain⟨M,D,h⟩:=h;generalize hl:[y]=l at h
 cases h with
 | node w D kind n s kids hk' hf hc hK =>
  rw[aC] at hl;obtain⟨rfl,_⟩:=List.cons.inj hl;unfold bU at hf;rw[if_pos hk] at hf;simp only[Bool.and_eq_true,Bool.or_eq_true,decide_eq_true_eq] at hf;exact hf.1
def JI (how:Nat) (x:aA):Prop:=WX true x∧∀ y,x=[y]→y.kind=1→y.n=how
theorem JI.more {how:Nat}{kind n:Int}{s:List UInt8}{kids:List aA}(h:WX true (aC kind n s kids))(hk:kind≠1):JI how (aC kind n s kids) :=
 ⟨h,fun y e hy=>by
  rw[aC] at e;obtain⟨rfl,_⟩:=List.cons.inj e;exact absurd hy hk⟩
theorem JI.lit {how:Nat}{s:List UInt8}(hh:how=0∨how=1∧d9 s=true):JI how (aC 1 how s []) :=
 ⟨WX.lit (hh.elim (fun h=>.inl (by rw[h];rfl)) (fun h=>.inr ⟨by rw[h.1];rfl,h.2⟩)),fun y e _=>by
  rw[aC] at e;obtain⟨rfl,_⟩:=List.cons.inj e;rfl⟩
theorem GN {how:Nat}(out:List aA)(x:aA)(ho:∀ y∈out,JI how y)(hx:JI how x):∀ y∈a8 out x,JI how y:=by
 have hall:∀ y∈out++[x],JI how y:=fun y hy=>by
  rcases List.mem_append.1 hy with h | h
  ·exact ho y h
  ·rw[List.mem_singleton] at h;exact h ▸ hx
 unfold a8;split
 ·rename_i y z hl
  obtain⟨Q,rfl⟩:=List.getLast?_eq_some_iff.1 hl;split
  ·rename_i hk
   rw[List.dropLast_concat];have hy:=ho [y] (by simp)
   have n1:=hy.2 y rfl hk.1;have n2:=hx.2 z rfl hk.2;have i1:=hy.1.lit_inv hk.1;have i2:=hx.1.lit_inv hk.2;intro a ha
   rcases List.mem_append.1 ha with h | h
   ·exact ho a (by simp [h])
   ·rw[List.mem_singleton] at h;subst h;rw[n2];refine JI.lit ?_;rw[n1] at i1;rw[n2] at i2
    rcases i1 with i1 | i1
    ·exact .inl (by omega)
    ·rcases i2 with i2 | i2
     ·exact .inl (by omega)
     ·exact .inr ⟨by omega,qH _ _ i1.2 i2.2⟩
  ·exact hall
 ·exact hall
theorem Gy (out:List aA)(x:aA):0<(a8 out x).length:=by
 unfold a8;split
 ·split <;> simp
 ·simp
theorem DG {how:Nat}:∀ (l out:List aA),(∀ y∈out,JI how y)→(∀ y∈l,JI how y)→(∀ y∈l.foldl a8 out,JI how y)∧(0<out.length+l.length→0<(l.foldl a8 out).length)
 | [],out,ho,_=>⟨ho,fun h=>by simpa using h⟩
 | x :: l,out,ho,hl=>by
  obtain⟨h1,h2⟩:=DG l (a8 out x) (GN out x ho (hl x (by simp))) (fun y hy=>hl y (by simp [hy]))
  exact⟨h1,fun _=>h2 (by have:=Gy out x;omega)⟩
theorem mF {P:aA→Prop}{l:List aA}(h:∀ x∈l,P x)(j:Nat)(kid:aA)(hj:l[j]?=some kid):P kid:=h kid (List.mem_of_getElem? hj)
theorem K0 {how:Nat}(l:List aA)(hl:∀ x∈l,JI how x)(hp:0<l.length):WX true (i8 l):=by
 obtain⟨h1,h2⟩:=DG l [] (fun _ h=>nomatch h) hl
 have h3:=h2 (by simpa using hp)
 unfold i8;split
 ·rename_i x hx
  exact (h1 x (by rw[hx];simp)).1
 ·exact WX.node (by rfl) (by rfl) (by simp [bL];omega) fun j kid hj=>mF (fun x hx=>(h1 x hx).1) j kid hj
theorem zO (l:List aA)(h:∀ x∈l,WF false x):WF false (eX l):=by
 unfold eX;split
 ·exact .node (by rfl) (by rfl) (by rfl) fun j kid hj=>by simp at hj
 ·exact h _ (by simp)
 ·rename_i h0 h1
  refine .node (by rfl) (by rfl) ?_ fun j kid hj=>mF h j kid hj
  have:2≤l.length:=by
   match l,h0,h1 with
   | [],h0,_=>exact absurd rfl h0
   | [a],_,h1=>exact absurd rfl (h1 a)
   | a :: b :: l,_,_=>simp
  simp [bL]
  omega
theorem DX (l:List aA)(h:∀ x∈l,WF true x):WF true (lW l):=by
 unfold lW;split
 ·exact h _ (by simp)
 ·exact .node (by rfl) (by rfl) (by simp [bL]) fun j kid hj=>mF h j kid hj
def pT (l:List (Nat×aA)):Prop:=∀ t∈l,(t.1=11∨t.1=12∨t.1=13∨t.1=14)∧WF true t.2
theorem yB:∀ (l:List (Nat×aA))(c:aA),pT l→WF false c→WF false (fF l c)
 | [],c,_,hc=>hc
 | t :: l,c,hl,hc=>by
  have ih:=yB l c (fun t ht=>hl t (by simp [ht])) hc
  obtain⟨h1,h2⟩:=hl t (by simp)
  show WF false (if t.1=14 then aC 34 0 [] [t.2,fF l c] else aC 33 ((t.1:Int) - 10) [] [t.2,fF l c])
  split
  ·exact .node (by rfl) (by rfl) (by rfl) (j9 h2 ih)
  ·refine .node (by rfl) ?_ (by rfl) (j9 h2 ih)
   simp [bU]
   omega
def rG (l:List (List UInt8×aA)):Prop:=∀ t∈l,bI t.1=true∧WF true t.2
theorem L5 (sets:List (List UInt8×aA))(words:List aA)(hs:rG sets)(hw:∀ x∈words,WF true x):WF false (dT sets words):=by
 unfold dT;split
 ·refine zO _ fun x hx=>?_
  obtain⟨t,ht,rfl⟩:=List.mem_map.1 hx;obtain⟨h1,h2⟩:=hs t ht;exact .node (by rfl) (by simpa [bU,kN] using h1) (by rfl) (gW h2)
 ·rename_i hl
  have h0:WF false (aC 21 0 [] words):=.node (by rfl) (by rfl) (by simp [bL];omega) fun j kid hj=>mF hw j kid hj
  clear hl
  induction sets with
  | nil=>exact h0
  | cons t sets ih =>
   obtain⟨h1,h2⟩:=hs t (by simp)
   rw[List.foldr_cons];exact .node (by rfl) (by simpa [bU,kN] using h1) (by rfl) (j9 h2 (ih fun t ht=>hs t (by simp [ht])))
def OkP {α:Type} (x:aJ α) (Q:α→Prop):Prop:=∀ a e,x=some (.ok (a,e))→Q a
theorem OkP.ok {α:Type}{Q:α→Prop}{a:α}{e:Nat}(h:Q a):OkP (pOk a e) Q:=fun _ _ h'=>by cases h';exact h
theorem OkP.err {α:Type}{Q:α→Prop}{c p:Nat}:OkP (kC c p:aJ α) Q:=fun _ _ h=>by cases h
theorem OkP.form {α:Type}{Q:α→Prop}{ts:List aH}{i:Nat}:OkP (jJ ts i:aJ α) Q:=.err
theorem OkP.nest {α:Type}{Q:α→Prop}{ts:List aH}{i:Nat}:OkP (o8 ts i:aJ α) Q:=.err
theorem OkP.none {α:Type}{Q:α→Prop}:OkP (none:aJ α) Q:=fun _ _ h=>by cases h
theorem OkP.mono {α:Type}{x:aJ α}{Q R:α→Prop}(h:OkP x Q)(hR:∀ a,Q a→R a):OkP x R:=fun a e hx=>hR a (h a e hx)
theorem OkP.go {α β:Type}{x:aJ α}{k:α→Nat→aJ β}{Q:α→Prop}{R:β→Prop}(h:OkP x Q)(hk:∀ a e,Q a→OkP (k a e) R):OkP (x.go k) R:=by
 match x,h with
 | .none,_=>exact .none
 | some (.error e),_=>exact fun _ _ h'=>by cases h'
 | some (.ok (a,e)),h=>exact hk a e (h a e rfl)
theorem OkP.take {β:Type}{ts:List aH}{i:Nat}{ks:List Nat}{k:Nat→aJ β}{R:β→Prop}(hk:∀ e,OkP (k e) R):OkP (fL ts i ks k) R:=by
 unfold fL;split
 ·exact hk _
 ·exact .form
def rV (t:aH):Prop:=(t.kind=20∨t.kind=21∨t.kind=22→bI t.text=true∨t.text=[42])∧(t.kind=23→1≤t.num∧t.num≤9)
def sW (l:List aA):Prop:=l.length % 2=1∧∀ (j:Nat) (x:aA),l[j]?=some x→WF (decide (j=0) || decide (j % 2=1)) x
theorem sW.snoc {l:List aA}(h:sW l){a b:aA}(ha:WF true a)(hb:WF false b):sW (l++[a,b]):=by
 obtain⟨h1,h2⟩:=h;refine ⟨by simp only[List.length_append,List.length_cons,List.length_nil];omega,fun j x hj=>?_⟩
 by_cases hlt:j<l.length
 ·exact h2 j x (by rwa [List.getElem?_append_left hlt] at hj)
 ·rw[List.getElem?_append_right (by omega)] at hj
  obtain⟨d,hd⟩:∃ d,j - l.length=d:=⟨_,rfl⟩;rw[hd] at hj
  match d,hd,hj with
  | 0,hd,hj =>
   cases hj
   rw[show (decide (j=0) || decide (j % 2=1))=true by simp;omega]
   exact ha
  | 1,hd,hj =>
   cases hj
   rw[show (decide (j=0) || decide (j % 2=1))=false by simp;omega]
   exact hb
  | d+2,hd,hj=>simp at hj
structure M9 (ts:List aH) (f:Nat):Prop where
 list:∀ d i,OkP (dI ts f d i) (WF false)
 chains:∀ d i L,(∀ x∈L,WF false x)→OkP (eK ts f d i L) (WF false)
 chain:∀ d i,OkP (fG ts f d i) (WF false)
 chainR:∀ d i o,WF false o→OkP (gR ts f d i o) (WF false)
 pipe:∀ d i,OkP (eC ts f d i) (WF false)
 pipeR:∀ d i L,(∀ x∈L,WF false x)→OkP (eR ts f d i L) fun l=>(∀ x∈l,WF false x)∧0<l.length
 command:∀ d i,OkP (eE ts f d i) (WF false)
 block:∀ d i,OkP (fT ts f d i) (WF false)
 test:∀ d i,OkP (j8 ts f d i) (WF false)
 body:∀ d i,OkP (i7 ts f d i) (WF false)
 choice:∀ d i,OkP (kK ts f d i) (WF false)
 whl:∀ d i,OkP (kQ ts f d i) (WF false)
 each:∀ d i,OkP (kV ts f d i) (WF false)
 choose:∀ d i,OkP (kM ts f d i) (WF false)
 cases:∀ d i L,sW L→OkP (j5 ts f d i L) sW
 function:∀ d i,OkP (kD ts f d i) (WF false)
 turns:∀ d i c L,WF false c→pT L→OkP (eQ ts f d i c L) (WF false)
 simple:∀ d i,OkP (gS ts f d i) (WF false)
 sets:∀ d i L,rG L→OkP (gL ts f d i L) rG
 items:∀ d i ws L,(∀ x∈ws,WF true x)→pT L→OkP (eB ts f d i ws L) fun o=>(∀ x∈o.1,WF true x)∧pT o.2
 words:∀ d i how L,how≤1→(∀ x∈L,WF true x)→OkP (fI ts f d i how L) fun l=>∀ x∈l,WF true x
 word:∀ d i how,how≤1→OkP (dJ ts f d i how) (WF true)
 wordR:∀ d i how L,how≤1→(∀ x∈L,JI how x)→OkP (fU ts f d i how L) fun l=>(∀ x∈l,JI how x)∧0<l.length
 one:∀ d i,eV ts i=true→OkP (gG ts f d i) (JI 0)
theorem fP {P:aA→Prop}{l:List aA}{x:aA}(h:∀ y∈l,P y)(hx:P x):∀ y∈l++[x],P y:=fun y hy=>by
 rcases List.mem_append.1 hy with h' | h'
 ·exact h y h'
 ·rw[List.mem_singleton] at h';exact h' ▸ hx
theorem pT.snoc {l:List (Nat×aA)}(h:pT l){k:Nat}{w:aA}(hk:k=11∨k=12∨k=13∨k=14)(hw:WF true w):pT (l++[(k,w)]):=fun y hy=>by
 rcases List.mem_append.1 hy with h' | h'
 ·exact h y h'
 ·rw[List.mem_singleton] at h';exact h' ▸ ⟨hk,hw⟩
theorem rG.snoc {l:List (List UInt8×aA)}(h:rG l){n:List UInt8}{w:aA}(hn:bI n=true)(hw:WF true w):rG (l++[(n,w)]):=fun y hy=>by
 rcases List.mem_append.1 hy with h' | h'
 ·exact h y h'
 ·rw[List.mem_singleton] at h';exact h' ▸ ⟨hn,hw⟩
theorem wP {ts:List aH}{i:Nat}(h:iP ts i=true):(aK ts i).kind=11∨(aK ts i).kind=12∨(aK ts i).kind=13∨(aK ts i).kind=14:=by
 simpa using (pV _ _ _).1 h
theorem KW {t:aH}{x:aA}(h:JI 0 x):JI 1 (oX t x):=by
 unfold oX;split
 ·exact JI.lit (how:=1) (.inr ⟨rfl,Aw _⟩)
 split
 ·exact JI.lit (how:=1) (.inr ⟨rfl,tM _⟩)
 ·exact JI.more (WX.node (by rfl) (by rfl) (by rfl) (gW h.1)) (by decide)
theorem qF {ts:List aH}(ht:∀ i,rV (aK ts i)):∀ f,M9 ts f
 | 0=>by
  constructor <;> intros <;> simp only[dI,eK,fG,gR,eC,eR,eE,fT,j8,i7,kK,kQ,kV,kM,j5,kD,eQ,gS,gL,eB,fI,dJ,fU,gG] <;> exact OkP.none
 | f+1=>by
  have ih:=qF ht f;refine ⟨?_,?_,?_,?_,?_,?_,?_,?_,?_,?_,?_,?_,?_,?_,?_,?_,?_,?_,?_,?_,?_,?_,?_,?_⟩
  ·intro d i;rw[dI];split
   ·exact .nest
   ·exact ih.chains _ _ _ (fun _ h=>nomatch h)
  ·intro d i L hL;rw[eK];split
   ·exact .ok (zO _ hL)
   ·exact (ih.chain _ _).go fun c e hc=>ih.chains _ _ _ (fP hL hc)
  ·intro d i;rw[fG];exact (ih.pipe _ _).go fun c e hc=>ih.chainR _ _ _ hc
  ·intro d i o ho;rw[gR];split
   ·refine (ih.pipe _ _).go fun c e hc=>ih.chainR _ _ _ ?_
    split
    ·exact .node (by rfl) (by rfl) (by rfl) (j9 ho hc)
    ·exact .node (by rfl) (by rfl) (by rfl) (j9 ho hc)
   ·exact .ok ho
  ·intro d i;rw[eC];refine (ih.pipeR _ _ [] (fun _ h=>nomatch h)).go fun l e ⟨hl,hp⟩=>.ok ?_
   have hb:WF false (if 1<l.length then aC 32 0 [] l else l.headD []):=by
    split
    ·exact .node (by rfl) (by rfl) (by simp [bL];omega) fun j kid hj=>mF hl j kid hj
    ·cases l with
     | nil=>simp at hp
     | cons a l=>exact hl a (by simp)
   split
   ·exact .node (by rfl) (by rfl) (by rfl) (gW hb)
   ·exact hb
  ·intro d i L hL;rw[eR];refine (ih.command _ _).go fun c e hc=>?_
   split
   ·exact ih.pipeR _ _ _ (fP hL hc)
   ·exact .ok ⟨fP hL hc,by simp⟩
  ·intro d i;rw[eE];split
   ·exact (ih.block _ _).go fun c e hc=>ih.turns _ _ _ _ hc (fun _ h=>nomatch h)
   split
   ·exact ih.simple _ _
   split
   ·exact ih.choice _ _
   split
   ·exact ih.whl _ _
   split
   ·exact ih.each _ _
   split
   ·exact ih.choose _ _
   split
   ·exact ih.function _ _
   ·exact .form
  ·intro d i;rw[fT];exact .take fun a=>(ih.list _ _).go fun l e hl=>.take fun _=>.ok hl
  ·intro d i;rw[j8];exact .take fun a=>(ih.list _ _).go fun l e hl=>.take fun _=>.ok hl
  ·intro d i;rw[i7];split
   ·exact .nest
   ·exact ih.command _ _
  ·intro d i;rw[kK];refine (ih.test _ _).go fun c j hc=>(ih.body _ _).go fun y k hy=>?_
   split
   ·exact (ih.body _ _).go fun z m hz=>.ok (.node (by rfl) (by rfl) (by rfl) (Ai hc hy hz))
   ·exact .ok (.node (by rfl) (by rfl) (by rfl) (Ai hc hy (zO [] (fun _ h=>nomatch h))))
  ·intro d i;rw[kQ];exact (ih.test _ _).go fun c j hc=>(ih.body _ _).go fun y k hy=>.ok (.node (by rfl) (by rfl) (by rfl) (j9 hc hy))
  ·intro d i;rw[kV];refine .take fun a=>?_
   split
   ·rename_i hn
    split
    ·exact (ih.words _ _ _ [] (by omega) (fun _ h=>nomatch h)).go fun ws j hw=>.take fun b=>(ih.body _ _).go fun y k hy=>.ok (.node (by rfl) (by simpa [bU,kN] using hn.2) (by rfl) (j9 (DX _ hw) hy))
    ·exact .form
   ·exact .form
  ·intro d i;rw[kM];refine .take fun a=>(ih.word _ _ _ (by omega)).go fun w j hw=>.take fun b=>.take fun c=>?_
   refine (ih.cases _ _ _ ⟨rfl,fun j x hj=>?_⟩).go fun l k hl=>.take fun e=>ih.turns _ _ _ _ ?_ (fun _ h=>nomatch h)
   ·cases j with
    | zero =>
     cases hj
     exact .node (by rfl) (by rfl) (by rfl) (gW hw)
    | succ j=>simp at hj
   ·obtain⟨h1,h2⟩:=hl;refine .node (by rfl) (by rfl) (by simp [bL];omega) fun j kid hj=>?_
    have:=h2 j kid hj
    have hm:((j:Int) % 2=1) ↔ (j % 2=1):=by omega
    rw[show dH 30 l.length j=(decide (j=0) || decide (j % 2=1)) by simp [dH,hm]]
    exact this
  ·intro d i L hL;rw[j5];split
   ·exact (ih.words _ _ _ [] (by omega) (fun _ h=>nomatch h)).go fun ws j hw=>.take fun a=>(ih.list _ _).go fun c e hc=>ih.cases _ _ _ (hL.snoc (DX _ hw) hc)
   ·exact .ok hL
  ·intro d i;rw[kD];split
   ·rename_i hn
    exact (ih.block _ _).go fun l e hl=>.ok (.node (by rfl) (by simpa [bU,kN] using hn.2.1) (by rfl) (gW hl))
   ·exact .form
  ·intro d i c L hc hL;rw[eQ];split
   ·rename_i hk
    exact (ih.word _ _ _ (by omega)).go fun w j hw=>ih.turns _ _ _ _ hc (hL.snoc (wP hk) hw)
   ·exact .ok (yB _ _ hL hc)
  ·intro d i;rw[gS];refine (ih.sets _ _ [] (fun _ h=>nomatch h)).go fun s j hs=>(ih.items _ _ [] [] (fun _ h=>nomatch h) (fun _ h=>nomatch h)).go fun wt e ⟨hw,hT⟩=>?_
   split
   ·exact .form
   ·exact .ok (yB _ _ hT (L5 _ _ hs hw))
  ·intro d i L hL;rw[gL];split
   ·rename_i hk
    exact (ih.word _ _ _ (by omega)).go fun w j hw=>ih.sets _ _ _ (hL.snoc hk.2.2.1 hw)
   ·exact .ok hL
  ·intro d i ws L hws hL;rw[eB];split
   ·rename_i hk
    exact (ih.word _ _ _ (by omega)).go fun w j hw=>ih.items _ _ _ _ hws (hL.snoc (wP hk) hw)
   split
   ·exact .ok ⟨hws,hL⟩
   ·exact (ih.word _ _ _ (by omega)).go fun w j hw=>ih.items _ _ _ _ (fP hws hw) hL
  ·intro d i how L hh hL;rw[fI];split
   ·exact (ih.word _ _ _ hh).go fun w j hw=>ih.words _ _ _ _ hh (fP hL hw)
   ·exact .ok hL
  ·intro d i how hh;rw[dJ];refine (ih.wordR _ _ _ [] hh (fun _ h=>nomatch h)).go fun l e ⟨hl,hp⟩=>?_
   split
   ·exact .err
   ·rename_i hs
    refine .ok (WX.checked ?_ (by simpa using hs))
    unfold lO;split
    ·exact WX.node (by rfl) (by rfl) (by rfl) (gW (WX.lit (.inr ⟨rfl,Aw _⟩)))
    ·exact K0 l hl hp
  ·intro d i how L hh hL;rw[fU];split
   ·exact .form
   ·rename_i hit
    refine (ih.one _ _ (by simpa using hit)).go fun x j hx=>?_
    have hy:JI how (if how=1 then oX (aK ts i) x else x):=by
     split
     ·rename_i h1
      subst h1;exact KW hx
     ·obtain rfl:how=0:=by omega
      exact hx
    dsimp only;split
    ·exact ih.wordR _ _ _ _ hh (fP hL hy)
    split
    ·exact .ok ⟨fP hL hy,by simp⟩
    ·exact ih.wordR _ _ _ _ hh (fP hL hy)
  ·intro d i hit;rw[gG];have hT:=ht i;split
   ·exact .ok (JI.lit (how:=0) (.inl rfl))
   have hv:∀ s,bI s=true∨s=[42]→WX true (aC 2 0 s []):=fun s hs=>WX.node (by rfl) (by simpa [bU] using hs) (by rfl) fun j kid hj=>by simp at hj
   split
   ·rename_i h1
    exact .ok (JI.more (WX.node (by rfl) (by rfl) (by rfl) (gW (hv _ (hT.1 (.inr (.inl h1)))))) (by decide))
   split
   ·rename_i h1
    exact .ok (JI.more (WX.node (by rfl) (by rfl) (by rfl) (gW (hv _ (hT.1 (.inr (.inr h1)))))) (by decide))
   split
   ·rename_i h1
    have:=hT.2 h1
    exact .ok (JI.more (WX.node (by rfl) (by simp [bU];omega) (by rfl) (gW (hv _ (.inr rfl)))) (by decide))
   split
   ·split
    ·exact .nest
    ·exact (ih.words _ _ _ [] (by omega) (fun _ h=>nomatch h)).go fun l j hl=>.take fun _=>.ok (JI.more (WX.node (by rfl) (by rfl) (by simp [bL]) fun j kid hj=>(mF hl j kid hj).x) (by decide))
   split
   ·exact (ih.list _ _).go fun l j hl=>.take fun _=>.ok (JI.more (WX.node (by rfl) (by rfl) (by rfl) (gW hl.x)) (by decide))
   ·rename_i g1 g2 g3 g4 g5 g6
    have hk:=(pV _ _ _).1 hit;simp only[List.mem_cons,List.not_mem_nil,or_false] at hk;exact .ok (JI.more (hv _ (hT.1 (by omega))) (by decide))
def dB (l:aA):Option (Nat×Option Nat) :=
 if l.length=0∨3000<l.length then some (111,none)
 else match lV l (3 * l.length) 0 l.length 1 false true with
  | some none=>none
  | some (some (c,p))=>some (c,some p)
  | none=>some (0,none)
def nX (L:List UInt8):Except (Nat×Option Nat) aA :=
 match dZ (L.length+1) true L 0 with
 | .error (c,p)=>.error (c,some p)
 | .ok ts=>match dI ts (12 * ts.length+11) 0 0 with
  | none=>.error (0,none)
  | some (.error (c,p))=>.error (c,some p)
  | some (.ok (l,i)) =>
   if isK ts i [0]=false then .error (108,some (aK ts i).place)
   else match dB l with
    | none=>.ok l
    | some (c,p)=>.error (c,if c=102 then some 0 else p)
theorem Ll {l:aA}(h:WF false l):dB l=none∨dB l=some (111,none)∨∃ p,dB l=some (102,some p):=by
 unfold dB;split
 ·exact .inr (.inl rfl)
 ·obtain⟨D,h⟩:=h;obtain⟨r,h1,h2,_⟩:=zC h l 0 l.length 1 true [] (3 * l.length) (by simp) (by omega) (fun _=>by omega) (Nat.le_refl _)
  rw[h1]
  rcases h2 with rfl | ⟨p,rfl⟩
  ·exact .inl rfl
  ·exact .inr (.inr ⟨p,rfl⟩)
theorem B7 (L:List UInt8):∀ (us:List aH)(t:aH),rE L t us→∃ v,(t :: us).getLast?=some v∧v.kind=0
 | [],t,h=>⟨t,rfl,h.1⟩
 | u :: us,t,h=>by
  obtain⟨v,h1,h2⟩:=B7 L us u h.2;exact⟨v,by rw[List.getLast?_cons_cons];exact h1,h2⟩
theorem x8:∀ (l x:List UInt8)(n:Nat),dU l=some (x,n)→x.length≤l.length
 | [],x,n,h=>by cases h
 | [c],x,n,h=>by
  simp only[dU] at h;split at h
  ·cases h
   exact Nat.zero_le _
  ·cases h
 | c :: d :: l,x,n,h=>by
  simp only[dU] at h;split at h
  ·split at h
   ·cases hd:dU l with
    | none=>rw[hd] at h;cases h
    | some y =>
     rw[hd] at h
     cases h
     have:=x8 l y.1 y.2 hd
     simp only[List.length_cons];omega
   ·cases h
    exact Nat.zero_le _
  ·cases hd:dU (d :: l) with
   | none=>rw[hd] at h;cases h
   | some y =>
    rw[hd] at h
    cases h
    have:=x8 (d :: l) y.1 y.2 hd
    simp only[List.length_cons] at this ⊢;omega
theorem Lv (l:List UInt8)(p:Nat)(t:aH)(n:Nat)(h:cY l p = .ok (t,n)):rV t∧t.text.length≤l.length:=by
 cases l with
 | nil =>
  simp only[cY] at h
  cases h
  exact⟨⟨fun e=>(by simp at e),fun e=>(by cases e)⟩,Nat.zero_le _⟩
 | cons c m =>
  simp only[cY] at h;split at h
  ·rename_i hb
   cases h
   rcases zL (c :: m) with e | ⟨e,_,_⟩
   ·exact absurd (by rw[e]) hb
   ·have h1:=(List.getElem?_eq_some_iff.1 e).1;have h2:cN.length=18:=rfl;exact⟨⟨fun e=>by simp only[] at e;omega,fun e=>by simp only[] at e;omega⟩,Nat.zero_le _⟩
  ·split at h
   ·cases h
   ·split at h
    ·split at h
     ·rename_i x n' hd
      cases h
      refine ⟨⟨fun e=>by simp at e,fun e=>by cases e⟩,?_⟩
      exact Nat.le_succ_of_le (x8 m x n' hd)
     ·cases h
    ·split at h
     ·split at h
      ·rename_i k n' x z hd
       cases h
       unfold mG at hd;split at hd
       ·rename_i hc
        cases hd
        exact⟨⟨fun e=>by simp at e,fun _=>by simp only[];omega⟩,Nat.zero_le _⟩
       ·split at hd
        ·rename_i hs
         simp only[Option.some.injEq,Prod.mk.injEq] at hd;obtain⟨rfl,rfl,rfl,rfl⟩:=hd;have h2:=A2 (m.headD 0).toNat;have h3:=wQ (m.drop (lX (m.headD 0).toNat));rw[List.length_drop] at h3;exact⟨⟨fun _=>hs.symm,fun e=>by simp only[] at e;omega⟩,by simp only[List.length_cons];omega⟩
        ·cases hd
      ·cases h
     ·cases h
      exact⟨⟨fun e=>by simp at e,fun e=>by cases e⟩,(List.takeWhile_sublist _).length_le⟩
theorem MJ:∀ (f:Nat)(first:Bool)(l:List UInt8)(p:Nat)(ts:List aH),dZ f first l p = .ok ts→∀ t∈ts,rV t∧t.text.length≤l.length∧t.place≤p+l.length:=by
 intro f
 induction f with
 | zero=>intro first l p ts h;cases h;intro t ht;cases ht
 | succ f ih =>
  intro first l p ts h;rw[dZ] at h;have hs:=pQ false l
  cases ht:cY (l.drop (aU false l)) (p+aU false l) with
  | error e=>rw[ht] at h;cases h
  | ok y =>
   obtain⟨t,n⟩:=y;rw[ht] at h;have hf:=Lv _ _ _ _ ht;obtain⟨n1,n2,_⟩:=tQ _ _ _ _ ht;rw[List.length_drop] at hf n1;have ht':rV { t with glue:=!first&&aU false l==0 }∧t.text.length≤l.length∧t.place≤p+l.length:=⟨hf.1,by omega,by omega⟩
   by_cases hk0:t.kind=0
   ·simp only[hk0,if_true] at h
    cases h
    intro u hu;rw[List.mem_singleton] at hu;subst hu;rw[hk0] at ht';exact ht'
   ·simp only[hk0,if_false] at h
    cases hl:dZ f false (l.drop (aU false l+n)) (p+aU false l+n) with
    | error e=>rw[hl] at h;cases h
    | ok us =>
     rw[hl] at h
     cases h
     intro u hu
     cases hu with
     | head=>exact ht'
     | tail _ hu =>
      have h1:=ih _ _ _ _ hl u hu;rw[List.length_drop] at h1;exact⟨h1.1,by omega,by omega⟩
theorem K5 (L:List UInt8):∀ (f:Nat)(first:Bool)(k:Nat)(ts:List aH),k≤L.length→dZ f first (L.drop k) k = .ok ts→ts.length≤L.length - k+1:=by
 intro f
 induction f with
 | zero=>intro first k ts _ h;cases h;simp
 | succ f ih =>
  intro first k ts hk h;rw[dZ] at h;have hs:=pQ false (L.drop k);have hfront:=nM false (L.drop k);rw[List.length_drop] at hs;rw[List.drop_drop] at h hfront;obtain⟨j,hj⟩:∃ j,k+aU false (L.drop k)=j:=⟨_,rfl⟩;rw[hj] at h hfront
  cases ht:cY (L.drop j) j with
  | error e=>rw[ht] at h;cases h
  | ok y =>
   obtain⟨t,n⟩:=y;rw[ht] at h;obtain⟨n1,n2,n3,n4,n5⟩:=tQ _ _ _ _ ht;rw[List.length_drop] at n1
   by_cases hk0:t.kind=0
   ·simp only[hk0,if_true] at h
    cases h
    simp
   ·simp only[hk0,if_false] at h;have hn1:1≤n:=n5 hfront (fun e=>hk0 (n4.2 e))
    have hd:(L.drop k).drop (aU false (L.drop k)+n)=L.drop (j+n):=by rw[List.drop_drop];congr 1;omega
    rw[hd] at h
    cases hl:dZ f false (L.drop (j+n)) (j+n) with
    | error e=>rw[hl] at h;cases h
    | ok us =>
     rw[hl] at h
     cases h
     have:=ih false (j+n) us (by omega) hl
     rw[List.length_cons];omega
structure M8 (L:List UInt8) (ts:List aH):Prop where
 good:oE ts
 w:∀ i,rV (aK ts i)
 place:∀ i,(aK ts i).place≤L.length
 num:ts.length≤L.length+1
theorem Es (L:List UInt8)(hL:L.length≤8192)(ts:List aH)(h:dZ (L.length+1) true L 0 = .ok ts):M8 L ts:=by
 have hd:L.drop 0=L:=List.drop_zero;have hw:=MJ _ _ _ _ _ h;obtain⟨t,us,rfl,_,_,_,_,hc⟩:=IP L (L.length+1) true 0 ts (Nat.zero_le _) (by omega) (by rw[hd];exact h)
 have hn:=K5 L (L.length+1) true 0 (t :: us) (Nat.zero_le _) (by rw[hd];exact h)
 obtain⟨v,h1,h2⟩:=B7 L us t hc
 have hall:∀ i,(i<(t :: us).length∧aK (t :: us) i∈(t :: us))∨aK (t :: us) i=⟨0,0,0,[],false⟩:=fun i=>by
  unfold aK;rw[List.getD_eq_getElem?_getD]
  by_cases hi:i<(t :: us).length
  ·rw[List.getElem?_eq_getElem hi];exact .inl ⟨hi,List.getElem_mem hi⟩
  ·rw[List.getElem?_eq_none (by omega)]
   exact .inr rfl
 refine ⟨⟨by simp,?_,fun i=>?_⟩,fun i=>?_,fun i=>?_,by omega⟩
 ·unfold aK;rw[List.getD_eq_getElem?_getD,← List.getLast?_eq_getElem?,h1];exact h2
 ·rcases hall i with ⟨_,h⟩ | h
  ·have:=(hw _ h).2.1
   omega
  ·rw[h];exact Nat.zero_le _
 ·rcases hall i with ⟨_,h⟩ | h
  ·exact (hw _ h).1
  ·rw[h];exact⟨fun e=>by simp at e,fun e=>by cases e⟩
 ·rcases hall i with ⟨_,h⟩ | h
  ·have:=(hw _ h).2.2
   omega
  ·rw[h];exact Nat.zero_le _
theorem Ay:∀ (s m:List UInt8),(∀ c∈s,c≠32)→(s++[32]).isPrefixOf m=true→s=m.takeWhile (fun c=>c != 32)
 | [],m,_,h=>by
  cases m with
  | nil=>simp at h
  | cons a m =>
   have:(32:UInt8)=a:=by simpa [List.isPrefixOf] using h
   subst this;rfl
 | c :: s,m,hs,h=>by
  cases m with
  | nil=>simp at h
  | cons a m =>
   have h':c=a∧(s++[32]).isPrefixOf m=true:=by simpa [List.isPrefixOf] using h
   obtain⟨rfl,h2⟩:=h';have hc:=hs c (by simp)
   rw[List.takeWhile_cons,if_pos (by simpa using hc),← Ay s m (fun x hx=>hs x (by simp [hx])) h2]
theorem Lh (s:List UInt8):decide (0≤Lib.indexByte s 32)=s.contains 32:=(Lib.contains_iff_indexByte s 32).symm
end Go.Proofs.YtbpjobmpacjgcaaGreatDoor
