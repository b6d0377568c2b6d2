/- Dialect B's parser, as plain functions on lists of tokens. No program stands in it. -/
import Derived.Test.YtbplbehhlbkklaaGreatDoorGZA
import Derived.Lib.IndexMore
import Derived.Lib.IndexAny
namespace Go.Proofs.YtbplbehhlbkklaaGreatDoor
set_option maxHeartbeats 4000000
open Go Go.RowKit
structure PNode where
 kind:Int
 n:Int
 k:Int
 size:Int
 text:List UInt8
deriving DecidableEq
def PNode.cells (x:PNode):List Value:=[.int .i64 x.kind,.int .i64 x.n,.int .i64 x.k,.int .i64 x.size,.string (bs x.text)]
abbrev Prog:=List PNode
def newP (kind n:Int) (s:List UInt8) (kids:List Prog):Prog:=⟨kind,n,kids.length,kids.flatten.length+1,s⟩ :: kids.flatten
def litP (s:List UInt8):Prog:=newP 1 0 s []
def seqP:List Prog→Prog
 | []=>newP 20 0 [] []
 | [l]=>l
 | l=>newP 23 0 [] l
def catP:List Prog→Prog
 | [l]=>l
 | l=>newP 3 0 [] l
def piecesP:Nat→List UInt8→List (UInt8×Bool×Nat)×Bool
 | _,[]=>([],false)
 | i,[c]=>if c.toNat=92 then ([(c,true,i)],true) else ([(c,false,i)],false)
 | i,c :: d :: l =>
  if c.toNat=92 then ((d,true,i) :: (piecesP (i+2) l).1,(piecesP (i+2) l).2)
  else ((c,false,i) :: (piecesP (i+1) (d :: l)).1,(piecesP (i+1) (d :: l)).2)
def pieceIs (p:UInt8×Bool×Nat) (c:Nat):Bool:=decide (p.1.toNat=c)&&!p.2.1
def setEnds (l:List (UInt8×Bool×Nat)):Bool:=(l.drop 2).any fun p=>pieceIs p 93
def liveL:List (UInt8×Bool×Nat)→Bool
 | []=>false
 | p :: l=>pieceIs p 42 || pieceIs p 63 || (pieceIs p 91&&setEnds (p :: l)) || liveL l
def liveP (s:List UInt8):Bool:=liveL (piecesP 0 s).1
def isClosed (s:List UInt8):Bool:=!(piecesP 0 s).2
def closedP (s:List UInt8):List UInt8:=if isClosed s then s else s++[92]
def escapeP:List UInt8→List UInt8
 | []=>[]
 | c :: l=>(if [42,63,91,93,92,32,9,10].contains c.toNat then [92,c] else [c])++escapeP l
def keyL:List (List UInt8):=[[105,102],[101,108,115,101],[119,104,105,108,101],[102,111,114],[105,110],[115,119,105,116,99,104],[99,97,115,101],[102,110]]
def keyB (s:List UInt8):Bool:=keyL.contains s
def tkAt (ts:List BTok) (i:Nat):BTok:=ts.getD i ⟨0,0,0,[],false⟩
def isK (ts:List BTok) (i:Nat) (ks:List Nat):Bool:=ks.contains (tkAt ts i).kind
def skP (ts:List BTok) (i:Nat):Nat:=min (i+1) (ts.length - 1)
def passP (ts:List BTok) (ks:List Nat):Nat→Nat→Nat
 | 0,i=>i
 | f+1,i=>if isK ts i ks=true then passP ts ks f (skP ts i) else i
def passT (ts:List BTok) (ks:List Nat) (i:Nat):Nat:=passP ts ks ts.length i
def keyAt (ts:List BTok) (i:Nat) (s:List UInt8):Bool:=isK ts i [18]&&decide ((tkAt ts i).text=s)
abbrev PRes (α:Type):=Option (Except (Nat×Nat) (α×Nat))
def pOk {α:Type} (a:α) (i:Nat):PRes α:=some (.ok (a,i))
def pErr {α:Type} (c p:Nat):PRes α:=some (.error (c,p))
def PRes.go {α β:Type} (x:PRes α) (k:α→Nat→PRes β):PRes β :=
 match x with
 | none=>none
 | some (.error e)=>some (.error e)
 | some (.ok (a,i))=>k a i
theorem PRes.go_some {α β:Type}{x:PRes α}{k:α→Nat→PRes β}{r:Except (Nat×Nat) (β×Nat)}(h:x.go k=some r) :
  (∃ e,x=some (.error e)∧r = .error e)∨∃ a i,x=some (.ok (a,i))∧k a i=some r:=by
 unfold PRes.go at h;split at h
 ·cases h
 ·cases h
  exact .inl ⟨_,rfl,rfl⟩
 ·exact .inr ⟨_,_,rfl,h⟩
def formP {α:Type} (ts:List BTok) (i:Nat):PRes α:=pErr (if isK ts i [0]=true then 109 else 108) (tkAt ts i).place
def nestP {α:Type} (ts:List BTok) (i:Nat):PRes α:=pErr 102 (tkAt ts i).place
def takeP {α:Type} (ts:List BTok) (i:Nat) (ks:List Nat) (k:Nat→PRes α):PRes α:=if isK ts i ks=true then k (skP ts i) else formP ts i
def itemP (ts:List BTok) (i:Nat):Bool:=isK ts i [18,19,20,21,22,23,6,10]
def turningP (ts:List BTok) (i:Nat):Bool:=isK ts i [11,12,13,14]
def isLit:Prog→Bool
 | [x]=>decide (x.kind=1)
 | _=>false
def aroundP (l:List (Nat×Prog)) (c:Prog):Prog :=
 l.foldr (fun t c=>if t.1=14 then newP 34 0 [] [t.2,c] else newP 33 ((t.1:Int) - 10) [] [t.2,c]) c
def madeP (sets:List (List UInt8×Prog)) (words:List Prog):Prog :=
 if words.length=0 then seqP (sets.map fun x=>newP 22 0 x.1 [x.2])
 else sets.foldr (fun x c=>newP 35 0 x.1 [x.2,c]) (newP 21 0 [] words)
def joinStep (out:List Prog) (x:Prog):List Prog :=
 match out.getLast?,x with
 | some [y],[z]=>if y.kind=1∧z.kind=1 then out.dropLast++[newP 1 z.n (y.text++z.text) []] else out++[x]
 | _,_=>out++[x]
def joinP (l:List Prog):Prog :=
 match l.foldl joinStep [] with
 | [x]=>x
 | l=>newP 4 0 [] l
def aliveP (t:BTok) (x:Prog):Prog :=
 if t.kind=18 then newP 1 1 (closedP t.text) []
 else if t.kind=19 then newP 1 1 (escapeP t.text) []
 else newP 8 0 [] [x]
def wordOut (t:BTok) (how:Nat) (l:List Prog):Prog:=if how=0∧l.length=1∧t.kind=18∧liveP t.text=true then newP 6 0 [] [newP 1 1 (closedP t.text) []] else joinP l
def tooLong (l:Prog):Bool:=l.any fun x=>decide (x.kind=1)&&decide (2000<x.text.length)
mutual
def pList (ts:List BTok):Nat→Nat→Nat→PRes Prog
 | 0,_,_=>none
 | f+1,d,i=>if 30<d+1 then nestP ts i else pChains ts f (d+1) i []
def pChains (ts:List BTok):Nat→Nat→Nat→List Prog→PRes Prog
 | 0,_,_,_=>none
 | f+1,d,i,l =>
  let j:=passT ts [1,2] i
  if isK ts j [0,7,9]=true∨keyAt ts j [99,97,115,101]=true∨(0<l.length∧j=i) then pOk (seqP l) j
  else (pChain ts f d j).go fun c e=>pChains ts f d e (l++[c])
def pChain (ts:List BTok):Nat→Nat→Nat→PRes Prog
 | 0,_,_=>none
 | f+1,d,i=>(pPipe ts f d i).go fun out j=>pChainR ts f d j out
def pChainR (ts:List BTok):Nat→Nat→Nat→Prog→PRes Prog
 | 0,_,_,_=>none
 | f+1,d,i,out =>
  if isK ts i [3,4]=true then
   (pPipe ts f d (passT ts [1] (skP ts i))).go fun next j=>pChainR ts f d j (newP (if isK ts i [4]=true then 26 else 25) 0 [] [out,next])
  else pOk out i
def pPipe (ts:List BTok):Nat→Nat→Nat→PRes Prog
 | 0,_,_=>none
 | f+1,d,i=>(pPipeR ts f d (if isK ts i [17]=true then skP ts i else i) []).go fun l j =>
   pOk (if isK ts i [17]=true then newP 27 0 [] [if 1<l.length then newP 32 0 [] l else l.headD []] else (if 1<l.length then newP 32 0 [] l else l.headD [])) j
def pPipeR (ts:List BTok):Nat→Nat→Nat→List Prog→PRes (List Prog)
 | 0,_,_,_=>none
 | f+1,d,i,l=>(pCommand ts f d i).go fun c j =>
   if isK ts j [5]=true then pPipeR ts f d (passT ts [1] (skP ts j)) (l++[c]) else pOk (l++[c]) j
def pCommand (ts:List BTok):Nat→Nat→Nat→PRes Prog
 | 0,_,_=>none
 | f+1,d,i =>
  if isK ts i [8]=true then (pBlock ts f d i).go fun l j=>pTurns ts f d j l []
  else if isK ts i [18]=false∨keyB (tkAt ts i).text=false then pSimple ts f d i
  else if (tkAt ts i).text=[105,102] then pChoice ts f d i
  else if (tkAt ts i).text=[119,104,105,108,101] then pWhile ts f d i
  else if (tkAt ts i).text=[102,111,114] then pEach ts f d i
  else if (tkAt ts i).text=[115,119,105,116,99,104] then pChoose ts f d i
  else if (tkAt ts i).text=[102,110] then pFunction ts f d i
  else formP ts i
def pBlock (ts:List BTok):Nat→Nat→Nat→PRes Prog
 | 0,_,_=>none
 | f+1,d,i=>takeP ts i [8] fun a=>(pList ts f d a).go fun l j=>takeP ts j [9] fun e=>pOk l e
def pTest (ts:List BTok):Nat→Nat→Nat→PRes Prog
 | 0,_,_=>none
 | f+1,d,i=>takeP ts (skP ts i) [6] fun a=>(pList ts f d a).go fun l j=>takeP ts j [7] fun e=>pOk l e
def pBody (ts:List BTok):Nat→Nat→Nat→PRes Prog
 | 0,_,_=>none
 | f+1,d,i=>if 30<d+1 then nestP ts (passT ts [1] i) else pCommand ts f (d+1) (passT ts [1] i)
def pChoice (ts:List BTok):Nat→Nat→Nat→PRes Prog
 | 0,_,_=>none
 | f+1,d,i=>(pTest ts f d i).go fun c j=>(pBody ts f d j).go fun yes k =>
   if keyAt ts k [101,108,115,101]=true then (pBody ts f d (skP ts k)).go fun no e=>pOk (newP 24 0 [] [c,yes,no]) e
   else pOk (newP 24 0 [] [c,yes,seqP []]) k
def pWhile (ts:List BTok):Nat→Nat→Nat→PRes Prog
 | 0,_,_=>none
 | f+1,d,i=>(pTest ts f d i).go fun c j=>(pBody ts f d j).go fun l e=>pOk (newP 28 0 [] [c,l]) e
def pEach (ts:List BTok):Nat→Nat→Nat→PRes Prog
 | 0,_,_=>none
 | f+1,d,i=>takeP ts (skP ts i) [6] fun a =>
   if isK ts a [18]=true∧nameB (tkAt ts a).text=true then
    (if keyAt ts (skP ts a) [105,110]=true then (pWords ts f d (skP ts (skP ts a)) 0 []).go fun ws j=>takeP ts j [7] fun b =>
      (pBody ts f d b).go fun l e=>pOk (newP 29 0 (tkAt ts a).text [catP ws,l]) e
     else formP ts (skP ts a))
   else formP ts a
def pChoose (ts:List BTok):Nat→Nat→Nat→PRes Prog
 | 0,_,_=>none
 | f+1,d,i=>takeP ts (skP ts i) [6] fun a=>(pWord ts f d a 0).go fun w j=>takeP ts j [7] fun b =>
   takeP ts (passT ts [1] b) [8] fun c=>(pCases ts f d (passT ts [1,2] c) [newP 9 0 [] [w]]).go fun l k =>
    takeP ts k [9] fun e=>pTurns ts f d e (newP 30 0 [] l) []
def pCases (ts:List BTok):Nat→Nat→Nat→List Prog→PRes (List Prog)
 | 0,_,_,_=>none
 | f+1,d,i,l =>
  if keyAt ts i [99,97,115,101]=true then
   (pWords ts f d (skP ts i) 1 []).go fun ws j=>takeP ts j [1,2] fun a=>(pList ts f d a).go fun c e=>pCases ts f d e (l++[catP ws,c])
  else pOk l i
def pFunction (ts:List BTok):Nat→Nat→Nat→PRes Prog
 | 0,_,_=>none
 | f+1,d,i =>
   if isK ts (skP ts i) [18]=true∧nameB (tkAt ts (skP ts i)).text=true∧keyB (tkAt ts (skP ts i)).text=false then
    (pBlock ts f d (skP ts (skP ts i))).go fun l e=>pOk (newP 31 0 (tkAt ts (skP ts i)).text [l]) e
   else formP ts (skP ts i)
def pTurns (ts:List BTok):Nat→Nat→Nat→Prog→List (Nat×Prog)→PRes Prog
 | 0,_,_,_,_=>none
 | f+1,d,i,c,l =>
  if turningP ts i=true then (pWord ts f d (skP ts i) 0).go fun w j=>pTurns ts f d j c (l++[((tkAt ts i).kind,w)])
  else pOk (aroundP l c) i
def pSimple (ts:List BTok):Nat→Nat→Nat→PRes Prog
 | 0,_,_=>none
 | f+1,d,i=>(pSets ts f d i []).go fun sets j=>(pItems ts f d j [] []).go fun wt e =>
   if sets.length+wt.1.length+wt.2.length=0 then formP ts e else pOk (aroundP wt.2 (madeP sets wt.1)) e
def pSets (ts:List BTok):Nat→Nat→Nat→List (List UInt8×Prog)→PRes (List (List UInt8×Prog))
 | 0,_,_,_=>none
 | f+1,d,i,l =>
  if isK ts i [18]=true∧(tkAt ts (skP ts i)).kind=16∧nameB (tkAt ts i).text=true∧keyB (tkAt ts i).text=false then
   (pWord ts f d (skP ts (skP ts i)) 0).go fun w j=>pSets ts f d j (l++[((tkAt ts i).text,w)])
  else pOk l i
def pItems (ts:List BTok):Nat→Nat→Nat→List Prog→List (Nat×Prog)→PRes (List Prog×List (Nat×Prog))
 | 0,_,_,_,_=>none
 | f+1,d,i,ws,l =>
  if turningP ts i=true then (pWord ts f d (skP ts i) 0).go fun w j=>pItems ts f d j ws (l++[((tkAt ts i).kind,w)])
  else if itemP ts i=false∨keyAt ts i [101,108,115,101]=true then pOk (ws,l) i
  else (pWord ts f d i 0).go fun w j=>pItems ts f d j (ws++[w]) l
def pWords (ts:List BTok):Nat→Nat→Nat→Nat→List Prog→PRes (List Prog)
 | 0,_,_,_,_=>none
 | f+1,d,i,how,l =>
  if itemP ts i=true then (pWord ts f d i how).go fun w j=>pWords ts f d j how (l++[w]) else pOk l i
def pWord (ts:List BTok):Nat→Nat→Nat→Nat→PRes Prog
 | 0,_,_,_=>none
 | f+1,d,i,how=>(pWordR ts f d i how []).go fun l j =>
   if tooLong (wordOut (tkAt ts i) how l)=true then pErr 101 (tkAt ts i).place else pOk (wordOut (tkAt ts i) how l) j
def pWordR (ts:List BTok):Nat→Nat→Nat→Nat→List Prog→PRes (List Prog)
 | 0,_,_,_,_=>none
 | f+1,d,i,how,l =>
  if itemP ts i=false then formP ts i
  else (pOne ts f d i).go fun x j =>
   let m:=l++[if how=1 then aliveP (tkAt ts i) x else x]
   if isK ts j [15]=true then pWordR ts f d (skP ts j) how m
   else if itemP ts j=false∨(tkAt ts j).glue=false then pOk m j
   else pWordR ts f d j how m
def pOne (ts:List BTok):Nat→Nat→Nat→PRes Prog
 | 0,_,_=>none
 | f+1,d,i =>
  let t:=tkAt ts i
  if t.kind=18∨t.kind=19 then pOk (litP t.text) (skP ts i)
  else if t.kind=21 then pOk (newP 10 0 [] [newP 2 0 t.text []]) (skP ts i)
  else if t.kind=22 then pOk (newP 9 0 [] [newP 2 0 t.text []]) (skP ts i)
  else if t.kind=23 then pOk (newP 11 t.num [] [newP 2 0 [42] []]) (skP ts i)
  else if t.kind=6 then (if 30<d+1 then nestP ts i else (pWords ts f (d+1) (skP ts i) 0 []).go fun l j=>takeP ts j [7] fun e=>pOk (newP 3 0 [] l) e)
  else if t.kind=10 then (pList ts f d (skP ts i)).go fun l j=>takeP ts j [9] fun e=>pOk (newP 12 0 [] [l]) e
  else pOk (newP 2 0 t.text []) (skP ts i)
end
end Go.Proofs.YtbplbehhlbkklaaGreatDoor
namespace Go.Proofs.YtbplbehhlbkklaaGreatDoor
set_option maxHeartbeats 4000000
open Go Go.RowKit
structure GoodT (ts:List BTok):Prop where
 pos:0<ts.length
 last:(tkAt ts (ts.length - 1)).kind=0
 text:∀ i,(tkAt ts i).text.length≤8192
theorem isK_iff (ts:List BTok)(i:Nat)(ks:List Nat):isK ts i ks=true ↔ (tkAt ts i).kind∈ks:=by
 unfold isK;exact List.contains_iff_mem
theorem skP_eq {ts:List BTok}(g:GoodT ts){i:Nat}(hi:i<ts.length)(h:(tkAt ts i).kind≠0):skP ts i=i+1∧i+1<ts.length:=by
 have:i≠ts.length - 1:=fun e=>h (e ▸ g.last)
 unfold skP;omega
theorem skP_le {ts:List BTok}{i:Nat}(hi:i<ts.length):i≤skP ts i∧skP ts i<ts.length:=by
 unfold skP;omega
theorem passP_le {ts:List BTok}(ks:List Nat):∀ (f:Nat){i:Nat},i<ts.length→i≤passP ts ks f i∧passP ts ks f i<ts.length
 | 0,i,h=>⟨Nat.le_refl _,h⟩
 | f+1,i,h=>by
  rw[passP];split
  ·have h1:=skP_le h;have h2:=passP_le ks f h1.2;omega
  ·exact⟨Nat.le_refl _,h⟩
theorem passT_le {ts:List BTok}(ks:List Nat){i:Nat}(h:i<ts.length):i≤passT ts ks i∧passT ts ks i<ts.length:=passP_le ks _ h
def txP (l:Prog):Nat:=(l.map fun x=>x.text.length).sum
theorem txP_nil:txP []=0:=rfl
theorem txP_append (l m:Prog):txP (l++m)=txP l+txP m:=by simp [txP]
theorem txP_cons (x:PNode)(m:Prog):txP (x :: m)=x.text.length+txP m:=by simp [txP]
theorem len_newP (kind n:Int)(s:List UInt8)(kids:List Prog):(newP kind n s kids).length=kids.flatten.length+1:=rfl
theorem txP_newP (kind n:Int)(s:List UInt8)(kids:List Prog):txP (newP kind n s kids)=s.length+txP kids.flatten:=by rw[newP,txP_cons]
def Post (ts:List BTok) {α:Type} (x:PRes α) (Q:α→Nat→Prop):Prop :=
 (∀ a e,x=some (.ok (a,e))→Q a e)∧∀ c p,x=some (.error (c,p))→(c=101∨c=102∨c=108∨c=109)∧∃ i,i<ts.length∧p=(tkAt ts i).place
theorem Post.none {ts:List BTok} {α:Type}{Q:α→Nat→Prop}:Post ts (none:PRes α) Q:=⟨fun _ _ h=>(by cases h),fun _ _ h=>(by cases h)⟩
theorem Post.ok {ts:List BTok} {α:Type}{Q:α→Nat→Prop}{a:α}{e:Nat}(h:Q a e):Post ts (pOk a e) Q:=⟨fun _ _ h'=>(by cases h';exact h),fun _ _ h=>(by cases h)⟩
theorem Post.err {ts:List BTok} {α:Type}{Q:α→Nat→Prop}{c p:Nat}(h1:c=101∨c=102∨c=108∨c=109)(h2:∃ i,i<ts.length∧p=(tkAt ts i).place):Post ts (pErr c p:PRes α) Q :=
 ⟨fun _ _ h=>(by cases h),fun _ _ h=>(by cases h;exact⟨h1,h2⟩)⟩
theorem Post.form {ts:List BTok} {α:Type}{Q:α→Nat→Prop}{i:Nat}(h:i<ts.length):Post ts (formP ts i:PRes α) Q:=by
 unfold formP;split
 ·exact .err (by simp) ⟨i,h,rfl⟩
 ·exact .err (by simp) ⟨i,h,rfl⟩
theorem Post.nest {ts:List BTok} {α:Type}{Q:α→Nat→Prop}{i:Nat}(h:i<ts.length):Post ts (nestP ts i:PRes α) Q:=.err (by simp) ⟨i,h,rfl⟩
theorem Post.go {ts:List BTok} {α β:Type}{x:PRes α}{k:α→Nat→PRes β}{Q:α→Nat→Prop}{R:β→Nat→Prop}(h:Post ts x Q)(hk:∀ a e,Q a e→Post ts (k a e) R):Post ts (x.go k) R:=by
 match x,h with
 | .none,_=>exact .none
 | some (.error e),h=>exact⟨fun _ _ h'=>(by cases h'),fun c p h'=>h.2 c p (by cases h';rfl)⟩
 | some (.ok (a,e)),h=>exact hk a e (h.1 a e rfl)
theorem Post.take {ts:List BTok}(g:GoodT ts) {β:Type}{i:Nat}{ks:List Nat}{k:Nat→PRes β}{R:β→Nat→Prop}(hi:i<ts.length)(h0:0 ∉ ks)(hk:i+1<ts.length→Post ts (k (i+1)) R):Post ts (takeP ts i ks k) R:=by
 unfold takeP;split
 ·rename_i h
  rw[isK_iff] at h;obtain⟨e1,e2⟩:=skP_eq g hi (fun e=>h0 (e ▸ h))
  rw[e1];exact hk e2
 ·exact .form hi
theorem skip_of {ts:List BTok}(g:GoodT ts){i:Nat}(hi:i<ts.length){ks:List Nat}(h0:0 ∉ ks)(h:isK ts i ks=true):skP ts i=i+1∧i+1<ts.length :=
 skP_eq g hi (fun e=>h0 (e ▸ (isK_iff _ _ _).1 h))
theorem key_of {ts:List BTok}(g:GoodT ts){i:Nat}(hi:i<ts.length){s:List UInt8}(h:keyAt ts i s=true):skP ts i=i+1∧i+1<ts.length:=by
 unfold keyAt at h;rw[Bool.and_eq_true] at h;exact skip_of g hi (by decide) h.1
theorem flat_snoc (l:List Prog)(x:Prog):(l++[x]).flatten=l.flatten++x:=by simp
theorem len_seqP (l:List Prog):(seqP l).length≤l.flatten.length+1∧txP (seqP l)=txP l.flatten:=by
 unfold seqP;split
 ·exact⟨Nat.le_refl _,rfl⟩
 ·simp
 ·exact⟨by rw[len_newP];omega,by rw[txP_newP];simp⟩
theorem len_catP (l:List Prog):(catP l).length≤l.flatten.length+1∧txP (catP l)=txP l.flatten:=by
 unfold catP;split
 ·simp
 ·exact⟨by rw[len_newP];omega,by rw[txP_newP];simp⟩
theorem joinStep_len (out:List Prog)(x:Prog):(joinStep out x).flatten.length≤out.flatten.length+x.length∧txP (joinStep out x).flatten=txP out.flatten+txP x∧(joinStep out x).length≤out.length+1:=by
 unfold joinStep;split
 ·rename_i y z hy
  obtain⟨Q,rfl⟩:=List.getLast?_eq_some_iff.1 hy;split
  ·rw[List.dropLast_concat];refine ⟨?_,?_,?_⟩
   ·simp [newP]
   ·simp [newP,txP];omega
   ·simp
  ·exact⟨by simp,by rw[flat_snoc,txP_append],by simp⟩
 ·exact⟨by simp,by rw[flat_snoc,txP_append],by simp⟩
theorem join_fold:∀ (l out:List Prog),(l.foldl joinStep out).flatten.length≤out.flatten.length+l.flatten.length∧txP (l.foldl joinStep out).flatten=txP out.flatten+txP l.flatten∧(l.foldl joinStep out).length≤out.length+l.length
 | [],out=>⟨by simp,by simp [txP_nil],by simp⟩
 | x :: l,out=>by
  obtain⟨a1,a2,a3⟩:=joinStep_len out x;obtain⟨b1,b2,b3⟩:=join_fold l (joinStep out x);rw[List.foldl_cons,List.flatten_cons,List.length_append,txP_append,List.length_cons];omega
theorem len_joinP (l:List Prog):(joinP l).length≤l.flatten.length+1∧txP (joinP l)=txP l.flatten:=by
 obtain⟨h1,h2,_⟩:=join_fold l [];simp only[List.flatten_nil,List.length_nil,Nat.zero_add,txP_nil] at h1 h2;unfold joinP;split
 ·rename_i x hx
  rw[hx] at h1 h2;simp only[List.flatten_cons,List.flatten_nil,List.append_nil] at h1 h2;exact⟨by omega,h2⟩
 ·exact⟨by rw[len_newP];omega,by rw[txP_newP,h2];simp⟩
theorem closedP_len (s:List UInt8):(closedP s).length≤s.length+1:=by
 unfold closedP;split <;> simp
theorem escapeP_len:∀ (s:List UInt8),(escapeP s).length≤2 * s.length
 | []=>Nat.le_refl _
 | c :: l=>by
  have:=escapeP_len l
  rw[escapeP,List.length_append,List.length_cons];split <;> simp only[List.length_cons,List.length_nil] <;> omega
def turnsLen (l:List (Nat×Prog)):Nat:=(l.map fun t=>t.2.length+1).sum
def turnsTx (l:List (Nat×Prog)):Nat:=(l.map fun t=>txP t.2).sum
theorem around_len:∀ (l:List (Nat×Prog))(c:Prog),(aroundP l c).length=turnsLen l+c.length∧txP (aroundP l c)=turnsTx l+txP c
 | [],c=>⟨by simp [aroundP,turnsLen],by simp [aroundP,turnsTx]⟩
 | t :: l,c=>by
  obtain⟨h1,h2⟩:=around_len l c;unfold aroundP at h1 h2 ⊢;rw[List.foldr_cons];split
  ·exact⟨by rw[len_newP];simp [turnsLen,h1] at h1 ⊢;omega,by rw[txP_newP];simp [turnsTx,txP_append,h2] at h2 ⊢;omega⟩
  ·exact⟨by rw[len_newP];simp [turnsLen,h1] at h1 ⊢;omega,by rw[txP_newP];simp [turnsTx,txP_append,h2] at h2 ⊢;omega⟩
def setsLen (l:List (List UInt8×Prog)):Nat:=(l.map fun t=>t.2.length+1).sum
def setsTx (l:List (List UInt8×Prog)):Nat:=(l.map fun t=>t.1.length+txP t.2).sum
theorem made_len (sets:List (List UInt8×Prog))(words:List Prog):(madeP sets words).length≤setsLen sets+words.flatten.length+1∧txP (madeP sets words)=setsTx sets+txP words.flatten:=by
 unfold madeP;split
 ·rename_i h
  obtain rfl:words=[]:=List.length_eq_zero_iff.1 h
  have h1:∀ l:List (List UInt8×Prog),(l.map fun x=>newP 22 0 x.1 [x.2]).flatten.length=setsLen l∧txP (l.map fun x=>newP 22 0 x.1 [x.2]).flatten=setsTx l:=by
   intro l
   induction l with
   | nil=>exact⟨rfl,rfl⟩
   | cons t l ih =>
    rw[List.map_cons,List.flatten_cons,List.length_append,txP_append,len_newP,txP_newP,ih.1,ih.2];simp [setsLen,setsTx]
  have h2:=len_seqP (sets.map fun x=>newP 22 0 x.1 [x.2])
  rw[(h1 sets).1,(h1 sets).2] at h2;simp only[List.flatten_nil,List.length_nil,txP_nil];omega
 ·have h1:∀ (l:List (List UInt8×Prog)) (c:Prog),(l.foldr (fun x c=>newP 35 0 x.1 [x.2,c]) c).length=setsLen l+c.length∧txP (l.foldr (fun x c=>newP 35 0 x.1 [x.2,c]) c)=setsTx l+txP c:=by
   intro l c
   induction l with
   | nil=>exact⟨by simp [setsLen],by simp [setsTx]⟩
   | cons t l ih =>
    rw[List.foldr_cons,len_newP,txP_newP];simp only[List.flatten_cons,List.flatten_nil,List.append_nil,List.length_append,txP_append,ih.1,ih.2];simp only[setsLen,setsTx,List.map_cons,List.sum_cons];omega
  rw[(h1 sets _).1,(h1 sets _).2,len_newP,txP_newP];simp only[List.length_nil];omega
structure PostAll (ts:List BTok) (f:Nat):Prop where
 list:∀ d i,i<ts.length→Post ts (pList ts f d i) fun l e=>i≤e∧e<ts.length∧l.length≤6 * (e - i)+1∧txP l≤30000 * (e - i)
 chains:∀ d i L,i<ts.length→Post ts (pChains ts f d i L) fun l e=>i≤e∧e<ts.length∧l.length≤L.flatten.length+6 * (e - i)+1∧txP l≤txP L.flatten+30000 * (e - i)
 chain:∀ d i,i<ts.length→Post ts (pChain ts f d i) fun l e=>i<e∧e<ts.length∧l.length≤6 * (e - i)∧txP l≤30000 * (e - i)
 chainR:∀ d i o,i<ts.length→Post ts (pChainR ts f d i o) fun l e=>i≤e∧e<ts.length∧l.length≤o.length+6 * (e - i)∧txP l≤txP o+30000 * (e - i)
 pipe:∀ d i,i<ts.length→Post ts (pPipe ts f d i) fun l e=>i<e∧e<ts.length∧l.length≤6 * (e - i)∧txP l≤30000 * (e - i)
 pipeR:∀ d i L,i<ts.length→Post ts (pPipeR ts f d i L) fun l e=>i<e∧e<ts.length∧L.length<l.length∧l.flatten.length+l.length≤L.flatten.length+L.length+6 * (e - i)+1∧txP l.flatten≤txP L.flatten+30000 * (e - i)∧l.length≤L.length+(e - i)
 command:∀ d i,i<ts.length→Post ts (pCommand ts f d i) fun l e=>i<e∧e<ts.length∧l.length≤6 * (e - i)∧txP l≤30000 * (e - i)
 block:∀ d i,i<ts.length→Post ts (pBlock ts f d i) fun l e=>i<e∧e<ts.length∧l.length+11≤6 * (e - i)∧txP l≤30000 * (e - i)
 test:∀ d i,i<ts.length→(tkAt ts i).kind≠0→Post ts (pTest ts f d i) fun l e=>i<e∧e<ts.length∧l.length+17≤6 * (e - i)∧txP l≤30000 * (e - i)
 body:∀ d i,i<ts.length→Post ts (pBody ts f d i) fun l e=>i<e∧e<ts.length∧l.length≤6 * (e - i)∧txP l≤30000 * (e - i)
 choice:∀ d i,i<ts.length→(tkAt ts i).kind≠0→Post ts (pChoice ts f d i) fun l e=>i<e∧e<ts.length∧l.length≤6 * (e - i)∧txP l≤30000 * (e - i)
 whl:∀ d i,i<ts.length→(tkAt ts i).kind≠0→Post ts (pWhile ts f d i) fun l e=>i<e∧e<ts.length∧l.length≤6 * (e - i)∧txP l≤30000 * (e - i)
 each:∀ d i,i<ts.length→(tkAt ts i).kind≠0→Post ts (pEach ts f d i) fun l e=>i<e∧e<ts.length∧l.length≤6 * (e - i)∧txP l≤30000 * (e - i)
 choose:∀ d i,i<ts.length→(tkAt ts i).kind≠0→Post ts (pChoose ts f d i) fun l e=>i<e∧e<ts.length∧l.length≤6 * (e - i)∧txP l≤30000 * (e - i)
 cases:∀ d i L,i<ts.length→Post ts (pCases ts f d i L) fun l e=>i≤e∧e<ts.length∧l.flatten.length≤L.flatten.length+6 * (e - i)∧txP l.flatten≤txP L.flatten+30000 * (e - i)∧l.length≤L.length+(e - i)
 function:∀ d i,i<ts.length→(tkAt ts i).kind≠0→Post ts (pFunction ts f d i) fun l e=>i<e∧e<ts.length∧l.length≤6 * (e - i)∧txP l≤30000 * (e - i)
 turns:∀ d i c L,i<ts.length→Post ts (pTurns ts f d i c L) fun l e=>i≤e∧e<ts.length∧l.length≤c.length+turnsLen L+6 * (e - i)∧txP l≤txP c+turnsTx L+30000 * (e - i)
 simple:∀ d i,i<ts.length→Post ts (pSimple ts f d i) fun l e=>i<e∧e<ts.length∧l.length≤6 * (e - i)∧txP l≤30000 * (e - i)
 sets:∀ d i L,i<ts.length→Post ts (pSets ts f d i L) fun l e=>i≤e∧e<ts.length∧setsLen l≤setsLen L+6 * (e - i)∧setsLen l+l.length≤setsLen L+L.length+6 * (e - i)∧setsTx l≤setsTx L+30000 * (e - i)∧l.length≤L.length+(e - i)
 items:∀ d i ws L,i<ts.length→Post ts (pItems ts f d i ws L) fun o e=>i≤e∧e<ts.length∧o.1.flatten.length+o.1.length+turnsLen o.2+o.2.length≤ws.flatten.length+ws.length+turnsLen L+L.length+6 * (e - i)∧txP o.1.flatten+turnsTx o.2≤txP ws.flatten+turnsTx L+30000 * (e - i)∧o.1.length+o.2.length≤ws.length+L.length+(e - i)∧(e=i→o=(ws,L))
 words:∀ d i how L,i<ts.length→Post ts (pWords ts f d i how L) fun l e=>i≤e∧e<ts.length∧l.flatten.length+l.length≤L.flatten.length+L.length+6 * (e - i)∧txP l.flatten≤txP L.flatten+30000 * (e - i)∧l.length≤L.length+(e - i)
 word:∀ d i how,i<ts.length→Post ts (pWord ts f d i how) fun l e=>i<e∧e<ts.length∧l.length+1≤6 * (e - i)∧txP l≤30000 * (e - i)
 wordR:∀ d i how L,i<ts.length→Post ts (pWordR ts f d i how L) fun l e=>i<e∧e<ts.length∧l.flatten.length+2 * l.length≤L.flatten.length+2 * L.length+6 * (e - i)∧txP l.flatten≤txP L.flatten+30000 * (e - i)∧L.length<l.length∧l.length≤L.length+(e - i)
 one:∀ d i,i<ts.length→itemP ts i=true→Post ts (pOne ts f d i) fun l e=>i<e∧e<ts.length∧l.length+3≤6 * (e - i)∧txP l+16384≤30000 * (e - i)
end Go.Proofs.YtbplbehhlbkklaaGreatDoor
namespace Go.Proofs.YtbplbehhlbkklaaGreatDoor
set_option maxHeartbeats 4000000
open Go Go.RowKit
theorem Post.mono {ts:List BTok} {α:Type}{x:PRes α}{Q R:α→Nat→Prop}(h:Post ts x Q)(hR:∀ a e,Q a e→R a e):Post ts x R:=⟨fun a e hx=>hR a e (h.1 a e hx),h.2⟩
theorem turnsLen_snoc (l:List (Nat×Prog))(t:Nat×Prog):turnsLen (l++[t])=turnsLen l+(t.2.length+1):=by simp [turnsLen]
theorem turnsTx_snoc (l:List (Nat×Prog))(t:Nat×Prog):turnsTx (l++[t])=turnsTx l+txP t.2:=by simp [turnsTx]
theorem setsLen_snoc (l:List (List UInt8×Prog))(t:List UInt8×Prog):setsLen (l++[t])=setsLen l+(t.2.length+1):=by simp [setsLen]
theorem setsTx_snoc (l:List (List UInt8×Prog))(t:List UInt8×Prog):setsTx (l++[t])=setsTx l+(t.1.length+txP t.2):=by simp [setsTx]
theorem isK_ne {ts:List BTok}{i:Nat}{ks:List Nat}(h:isK ts i ks=true)(h0:0 ∉ ks):(tkAt ts i).kind≠0:=fun e=>h0 (e ▸ (isK_iff _ _ _).1 h)
theorem aliveP_len (t:BTok)(x:Prog)(ht:t.text.length≤8192):(aliveP t x).length≤x.length+1∧txP (aliveP t x)≤txP x+16384:=by
 unfold aliveP;split
 ·have:=closedP_len t.text
  exact⟨by rw[len_newP];simp,by rw[txP_newP];simp [txP_nil];omega⟩
 split
 ·have:=escapeP_len t.text
  exact⟨by rw[len_newP];simp,by rw[txP_newP];simp [txP_nil];omega⟩
 ·exact⟨by rw[len_newP];simp,by rw[txP_newP];simp⟩
theorem len_two (kind n:Int)(s:List UInt8)(a b:Prog):(newP kind n s [a,b]).length=a.length+b.length+1∧txP (newP kind n s [a,b])=s.length+(txP a+txP b):=by
 rw[len_newP,txP_newP];simp [txP_append]
theorem len_one (kind n:Int)(s:List UInt8)(a:Prog):(newP kind n s [a]).length=a.length+1∧txP (newP kind n s [a])=s.length+txP a:=by
 rw[len_newP,txP_newP];simp
theorem len_none (kind n:Int)(s:List UInt8):(newP kind n s []).length=1∧txP (newP kind n s [])=s.length:=by
 rw[len_newP,txP_newP];simp [txP_nil]
theorem headD_le:∀ (l:List Prog),(l.headD []).length≤l.flatten.length∧txP (l.headD [])≤txP l.flatten
 | []=>⟨Nat.le_refl _,Nat.le_refl _⟩
 | a :: l=>by
  rw[List.headD_cons,List.flatten_cons,List.length_append,txP_append];omega
theorem postAll {ts:List BTok}(g:GoodT ts):∀ f,PostAll ts f
 | 0=>by
  constructor <;> intros <;> simp only[pList,pChains,pChain,pChainR,pPipe,pPipeR,pCommand,pBlock,pTest,pBody,pChoice,pWhile,pEach,pChoose,pCases,pFunction,pTurns,pSimple,pSets,pItems,pWords,pWord,pWordR,pOne] <;> exact Post.none
 | f+1=>by
  have ih:=postAll g f;refine ⟨?_,?_,?_,?_,?_,?_,?_,?_,?_,?_,?_,?_,?_,?_,?_,?_,?_,?_,?_,?_,?_,?_,?_,?_⟩
  ·intro d i hi;rw[pList];split
   ·exact .nest hi
   ·exact (ih.chains _ _ _ hi).mono fun l e h=>by simpa [txP_nil] using h
  ·intro d i L hi;rw[pChains];have hp:=passT_le (ts:=ts) [1,2] hi;split
   ·have:=len_seqP L
    exact .ok (by omega)
   ·refine (ih.chain _ _ hp.2).go fun c e ⟨h1,h2,h3,h4⟩=>(ih.chains _ _ _ h2).mono fun l k ⟨q1,q2,q3,q4⟩=>?_
    rw[flat_snoc] at q3 q4;rw[txP_append] at q4;rw[List.length_append] at q3;omega
  ·intro d i hi;rw[pChain];refine (ih.pipe _ _ hi).go fun c e ⟨h1,h2,h3,h4⟩=>(ih.chainR _ _ _ h2).mono fun l k ⟨q1,q2,q3,q4⟩=>?_
   omega
  ·intro d i o hi;rw[pChainR];split
   ·rename_i hk
    obtain⟨e1,e2⟩:=skip_of g hi (by decide) hk
    rw[e1];have hp:=passT_le (ts:=ts) [1] e2;refine (ih.pipe _ _ hp.2).go fun c e ⟨h1,h2,h3,h4⟩=>(ih.chainR _ _ _ h2).mono fun l k ⟨q1,q2,q3,q4⟩=>?_
    obtain⟨z1,z2⟩:=len_two (if isK ts i [4]=true then 26 else 25) 0 [] o c
    rw[z1] at q3;rw[z2,List.length_nil] at q4;omega
   ·exact .ok (by omega)
  ·intro d i hi;rw[pPipe]
   have hj:i≤(if isK ts i [17]=true then skP ts i else i)∧(if isK ts i [17]=true then skP ts i else i)<ts.length∧(isK ts i [17]=true→i+1=(if isK ts i [17]=true then skP ts i else i)):=by
    split
    ·rename_i hk
     obtain⟨e1,e2⟩:=skip_of g hi (by decide) hk
     exact⟨by omega,by omega,fun _=>e1.symm⟩
    ·exact⟨Nat.le_refl _,hi,fun h=>absurd h ‹_›⟩
   obtain⟨j1,j2,j3⟩:=hj;refine (ih.pipeR _ _ _ j2).go fun l e ⟨h1,h2,h3,h4,h5,h6⟩=>?_
   simp only[List.length_nil,List.flatten_nil,txP_nil] at h3 h4 h5 h6
   have hb:(if 1<l.length then newP 32 0 [] l else l.headD []).length≤6 * (e - (if isK ts i [17]=true then skP ts i else i))∧txP (if 1<l.length then newP 32 0 [] l else l.headD [])≤30000 * (e - (if isK ts i [17]=true then skP ts i else i)):=by
    split
    ·rw[len_newP,txP_newP];simp only[List.length_nil];omega
    ·have:=headD_le l
     omega
   refine .ok ?_
   by_cases hk:isK ts i [17]=true
   ·have:=j3 hk
    rw[if_pos hk] at *;obtain⟨z1,z2⟩:=len_one 27 0 [] (if 1<l.length then newP 32 0 [] l else l.headD [])
    rw[List.length_nil] at z2;omega
   ·rw[if_neg hk] at *;omega
  ·intro d i L hi;rw[pPipeR];refine (ih.command _ _ hi).go fun c e ⟨h1,h2,h3,h4⟩=>?_
   split
   ·rename_i hk
    obtain⟨e1,e2⟩:=skip_of g h2 (by decide) hk
    rw[e1];have hp:=passT_le (ts:=ts) [1] e2;refine (ih.pipeR _ _ _ hp.2).mono fun l k ⟨q1,q2,q3,q4,q5,q6⟩=>?_
    rw[flat_snoc] at q4 q5;rw[txP_append] at q5;simp only[List.length_append,List.length_cons,List.length_nil] at q3 q4 q6;omega
   ·refine .ok ?_;rw[flat_snoc,txP_append];simp only[List.length_append,List.length_cons,List.length_nil];omega
  ·intro d i hi;rw[pCommand];split
   ·refine (ih.block _ _ hi).go fun c e ⟨h1,h2,h3,h4⟩=>(ih.turns _ _ _ _ h2).mono fun l k ⟨q1,q2,q3,q4⟩=>?_
    simp only[turnsLen,turnsTx,List.map_nil,List.sum_nil] at q3 q4;omega
   split
   ·exact ih.simple _ _ hi
   rename_i hk
   have hk0:(tkAt ts i).kind≠0:=isK_ne (ks:=[18]) (by simpa using fun e=>hk (.inl e)) (by decide)
   split
   ·exact ih.choice _ _ hi hk0
   split
   ·exact ih.whl _ _ hi hk0
   split
   ·exact ih.each _ _ hi hk0
   split
   ·exact ih.choose _ _ hi hk0
   split
   ·exact ih.function _ _ hi hk0
   ·exact .form hi
  ·intro d i hi;rw[pBlock];refine .take g hi (by decide) fun hj=>(ih.list _ _ hj).go fun l e ⟨h1,h2,h3,h4⟩=>.take g h2 (by decide) fun hk=>.ok ?_
   omega
  ·intro d i hi h0;rw[pTest];obtain⟨e1,e2⟩:=skP_eq g hi h0;rw[e1];refine .take g e2 (by decide) fun hj=>(ih.list _ _ hj).go fun l e ⟨h1,h2,h3,h4⟩=>.take g h2 (by decide) fun hk=>.ok ?_
   omega
  ·intro d i hi;rw[pBody];have hp:=passT_le (ts:=ts) [1] hi;split
   ·exact .nest hp.2
   ·refine (ih.command _ _ hp.2).mono fun l e ⟨h1,h2,h3,h4⟩=>?_
    omega
  ·intro d i hi h0;rw[pChoice];refine (ih.test _ _ hi h0).go fun c j ⟨a1,a2,a3,a4⟩=>(ih.body _ _ a2).go fun y k ⟨b1,b2,b3,b4⟩=>?_
   split
   ·rename_i hk
    obtain⟨e1,e2⟩:=key_of g b2 hk;rw[e1];refine (ih.body _ _ e2).go fun z m ⟨c1,c2,c3,c4⟩=>.ok ?_
    rw[len_newP,txP_newP];simp only[List.flatten_cons,List.flatten_nil,List.append_nil,List.length_append,txP_append,List.length_nil];omega
   ·refine .ok ?_;rw[len_newP,txP_newP];simp only[List.flatten_cons,List.flatten_nil,List.append_nil,List.length_append,txP_append,List.length_nil,seqP,len_newP,txP_newP,txP_nil];omega
  ·intro d i hi h0;rw[pWhile];refine (ih.test _ _ hi h0).go fun c j ⟨a1,a2,a3,a4⟩=>(ih.body _ _ a2).go fun y k ⟨b1,b2,b3,b4⟩=>.ok ?_
   obtain⟨z1,z2⟩:=len_two 28 0 [] c y;rw[List.length_nil] at z2;omega
  ·intro d i hi h0;rw[pEach];obtain⟨e1,e2⟩:=skP_eq g hi h0;rw[e1];refine .take g e2 (by decide) fun hj=>?_
   split
   ·rename_i hn
    obtain⟨e3,e4⟩:=skip_of g hj (by decide) hn.1
    rw[e3];split
    ·rename_i hq
     obtain⟨e5,e6⟩:=key_of g e4 hq;rw[e5];refine (ih.words _ _ _ _ e6).go fun ws j ⟨a1,a2,a3,a4,a5⟩=>.take g a2 (by decide) fun hb=>(ih.body _ _ hb).go fun y k ⟨b1,b2,b3,b4⟩=>.ok ?_
     obtain⟨z1,z2⟩:=len_two 29 0 (tkAt ts (i+1+1)).text (catP ws) y;have:=len_catP ws
     have:=g.text (i+1+1)
     simp only[List.length_nil,List.flatten_nil,txP_nil] at a3 a4 a5;omega
    ·exact .form e4
   ·exact .form hj
  ·intro d i hi h0;rw[pChoose];obtain⟨e1,e2⟩:=skP_eq g hi h0;rw[e1];refine .take g e2 (by decide) fun hj=>(ih.word _ _ _ hj).go fun w j ⟨a1,a2,a3,a4⟩=>.take g a2 (by decide) fun hb=>?_
   have hp:=passT_le (ts:=ts) [1] hb;refine .take g hp.2 (by decide) fun hc=>?_
   have hp2:=passT_le (ts:=ts) [1,2] hc;refine (ih.cases _ _ _ hp2.2).go fun l k ⟨b1,b2,b3,b4,b5⟩=>.take g b2 (by decide) fun he=>(ih.turns _ _ _ _ he).mono fun m z ⟨c1,c2,c3,c4⟩=>?_
   obtain⟨z1,z2⟩:=len_one 9 0 [] w;simp only[List.flatten_cons,List.flatten_nil,List.append_nil,z1,z2,List.length_nil] at b3 b4;rw[len_newP] at c3;rw[txP_newP,List.length_nil] at c4;simp only[turnsLen,turnsTx,List.map_nil,List.sum_nil] at c3 c4;omega
  ·intro d i L hi;rw[pCases];split
   ·rename_i hk
    obtain⟨e1,e2⟩:=key_of g hi hk;rw[e1];refine (ih.words _ _ _ _ e2).go fun ws j ⟨a1,a2,a3,a4,a5⟩=>.take g a2 (by decide) fun hb=>(ih.list _ _ hb).go fun c e ⟨b1,b2,b3,b4⟩=>(ih.cases _ _ _ b2).mono fun l k ⟨q1,q2,q3,q4,q5⟩=>?_
    have:=len_catP ws
    simp only[List.length_nil,List.flatten_nil,txP_nil,List.flatten_append,List.flatten_cons,List.append_nil,List.length_append,txP_append,List.length_cons] at a3 a4 a5 q3 q4 q5;omega
   ·exact .ok (by omega)
  ·intro d i hi h0;rw[pFunction];obtain⟨e1,e2⟩:=skP_eq g hi h0;rw[e1];split
   ·rename_i hn
    obtain⟨e3,e4⟩:=skip_of g e2 (by decide) hn.1
    rw[e3];refine (ih.block _ _ e4).go fun l e ⟨h1,h2,h3,h4⟩=>.ok ?_
    obtain⟨z1,z2⟩:=len_one 31 0 (tkAt ts (i+1)).text l;have:=g.text (i+1)
    omega
   ·exact .form e2
  ·intro d i c L hi;rw[pTurns];split
   ·rename_i hk
    obtain⟨e1,e2⟩:=skip_of g hi (by decide) hk
    rw[e1];refine (ih.word _ _ _ e2).go fun w j ⟨a1,a2,a3,a4⟩=>(ih.turns _ _ _ _ a2).mono fun l k ⟨q1,q2,q3,q4⟩=>?_
    rw[turnsLen_snoc] at q3;rw[turnsTx_snoc] at q4;dsimp only at q3 q4;omega
   ·have:=around_len L c
    exact .ok (by omega)
  ·intro d i hi;rw[pSimple];refine (ih.sets _ _ _ hi).go fun s j ⟨a1,a2,a3,a4,a5,a6⟩=>(ih.items _ _ _ _ a2).go fun wt e ⟨b1,b2,b3,b4,b5,b6⟩=>?_
   split
   ·exact .form b2
   ·rename_i hn
    simp only[setsLen,setsTx,turnsLen,turnsTx,List.map_nil,List.sum_nil,List.length_nil,List.flatten_nil,txP_nil] at a3 a4 a5 a6 b3 b4 b5;have h1:=around_len wt.2 (madeP s wt.1);have h2:=made_len s wt.1;simp only[setsLen,setsTx,turnsLen,turnsTx] at h1 h2;exact .ok (by omega)
  ·intro d i L hi;rw[pSets];split
   ·rename_i hk
    obtain⟨e1,e2⟩:=skip_of g hi (by decide) hk.1
    rw[e1] at hk ⊢;obtain⟨e3,e4⟩:=skP_eq g e2 (by rw[hk.2.1];decide)
    rw[e3];refine (ih.word _ _ _ e4).go fun w j ⟨a1,a2,a3,a4⟩=>(ih.sets _ _ _ a2).mono fun l k ⟨q1,q2,q3,q4,q5,q6⟩=>?_
    have:=g.text i
    rw[setsLen_snoc] at q3 q4;rw[setsTx_snoc] at q5;rw[List.length_append] at q4 q6;simp only[List.length_cons,List.length_nil] at q3 q4 q5 q6;omega
   ·exact .ok (by omega)
  ·intro d i ws L hi;rw[pItems];split
   ·rename_i hk
    obtain⟨e1,e2⟩:=skip_of g hi (by decide) hk
    rw[e1];refine (ih.word _ _ _ e2).go fun w j ⟨a1,a2,a3,a4⟩=>(ih.items _ _ _ _ a2).mono fun l k ⟨q1,q2,q3,q4,q5,q6⟩=>?_
    rw[turnsLen_snoc,List.length_append] at q3;rw[turnsTx_snoc] at q4;rw[List.length_append] at q5;simp only[List.length_cons,List.length_nil] at q3 q4 q5;exact⟨by omega,by omega,by omega,by omega,by omega,fun e=>by omega⟩
   split
   ·exact .ok ⟨by omega,by omega,by dsimp only;omega,by dsimp only;omega,by dsimp only;omega,fun _=>rfl⟩
   ·refine (ih.word _ _ _ hi).go fun w j ⟨a1,a2,a3,a4⟩=>(ih.items _ _ _ _ a2).mono fun l k ⟨q1,q2,q3,q4,q5,q6⟩=>?_
    rw[flat_snoc] at q3 q4;rw[txP_append] at q4;simp only[List.length_append,List.length_cons,List.length_nil] at q3 q5;exact⟨by omega,by omega,by omega,by omega,by omega,fun e=>by omega⟩
  ·intro d i how L hi;rw[pWords];split
   ·refine (ih.word _ _ _ hi).go fun w j ⟨a1,a2,a3,a4⟩=>(ih.words _ _ _ _ a2).mono fun l k ⟨q1,q2,q3,q4,q5⟩=>?_
    rw[flat_snoc] at q3 q4;rw[txP_append] at q4;simp only[List.length_append,List.length_cons,List.length_nil] at q3 q5;omega
   ·exact .ok (by omega)
  ·intro d i how hi;rw[pWord];refine (ih.wordR _ _ _ _ hi).go fun l e ⟨h1,h2,h3,h4,h5,h6⟩=>?_
   simp only[List.length_nil,List.flatten_nil,txP_nil] at h3 h4 h5 h6;split
   ·exact .err (by simp) ⟨i,hi,rfl⟩
   ·refine .ok ⟨h1,h2,?_⟩;unfold wordOut;split
    ·obtain⟨z1,z2⟩:=len_one 6 0 [] (newP 1 1 (closedP (tkAt ts i).text) []);obtain⟨z3,z4⟩:=len_none 1 1 (closedP (tkAt ts i).text);have:=closedP_len (tkAt ts i).text
     have:=g.text i
     rw[List.length_nil] at z2;omega
    ·have:=len_joinP l
     omega
  ·intro d i how L hi;rw[pWordR];split
   ·exact .form hi
   ·rename_i hit
    refine (ih.one _ _ hi (by simpa using hit)).go fun x j ⟨a1,a2,a3,a4⟩=>?_
    dsimp only;obtain⟨y,hy⟩:∃ y,(if how=1 then aliveP (tkAt ts i) x else x)=y:=⟨_,rfl⟩
    have hyl:y.length≤x.length+1∧txP y≤txP x+16384:=by
     rw[← hy];split
     ·exact aliveP_len _ _ (g.text i)
     ·omega
    rw[hy]
    have hf:(L++[y]).flatten.length=L.flatten.length+y.length∧txP (L++[y]).flatten=txP L.flatten+txP y∧(L++[y]).length=L.length+1:=by
     rw[flat_snoc,txP_append];simp
    split
    ·rename_i hk
     obtain⟨e1,e2⟩:=skip_of g a2 (by decide) hk
     rw[e1];refine (ih.wordR _ _ _ _ e2).mono fun l k ⟨q1,q2,q3,q4,q5,q6⟩=>?_
     omega
    split
    ·exact .ok (by omega)
    ·refine (ih.wordR _ _ _ _ a2).mono fun l k ⟨q1,q2,q3,q4,q5,q6⟩=>?_
     omega
  ·intro d i hi hit;rw[pOne];obtain⟨e1,e2⟩:=skip_of g hi (by decide) hit
   rw[e1];have ht:=g.text i;have z1:=len_none 1 0 (tkAt ts i).text;have z2:=len_none 2 0 (tkAt ts i).text;have z3:=len_none 2 0 [42];have z4:=len_one 10 0 [] (newP 2 0 (tkAt ts i).text []);have z5:=len_one 9 0 [] (newP 2 0 (tkAt ts i).text []);have z6:=len_one 11 (tkAt ts i).num [] (newP 2 0 [42] []);simp only[List.length_cons,List.length_nil] at z3 z4 z5 z6;split
   ·exact .ok (by unfold litP;omega)
   split
   ·exact .ok (by omega)
   split
   ·exact .ok (by omega)
   split
   ·exact .ok (by omega)
   split
   ·split
    ·exact .nest hi
    ·refine (ih.words _ _ _ _ e2).go fun l j ⟨a1,a2,a3,a4,a5⟩=>.take g a2 (by decide) fun hb=>.ok ?_
     rw[len_newP,txP_newP];simp only[List.length_nil,List.flatten_nil,txP_nil] at a3 a4 a5 ⊢;omega
   split
   ·refine (ih.list _ _ e2).go fun l j ⟨a1,a2,a3,a4⟩=>.take g a2 (by decide) fun hb=>.ok ?_
    have:=len_one 12 0 [] l
    simp only[List.length_nil] at this;omega
   ·exact .ok (by omega)
end Go.Proofs.YtbplbehhlbkklaaGreatDoor
namespace Go.Proofs.YtbplbehhlbkklaaGreatDoor
set_option maxHeartbeats 4000000
open Go Go.RowKit
theorem nn_go {ts:List BTok} {α β:Type}{x:PRes α}{k:α→Nat→PRes β}{Q:α→Nat→Prop}(hx:x≠none)(hp:Post ts x Q)(hk:∀ a e,Q a e→k a e≠none):x.go k≠none:=by
 match x,hx,hp with
 | .none,hx,_=>exact absurd rfl hx
 | some (.error e),_,_=>exact fun h=>by cases h
 | some (.ok (a,e)),_,hp=>exact hk a e (hp.1 a e rfl)
theorem nn_ok {α:Type}{a:α}{i:Nat}:pOk a i≠none:=fun h=>by cases h
theorem nn_form {α:Type}{ts:List BTok}{i:Nat}:(formP ts i:PRes α)≠none:=fun h=>by cases h
theorem nn_nest {α:Type}{ts:List BTok}{i:Nat}:(nestP ts i:PRes α)≠none:=fun h=>by cases h
theorem nn_err {α:Type}{c p:Nat}:(pErr c p:PRes α)≠none:=fun h=>by cases h
theorem nn_take {ts:List BTok}(g:GoodT ts) {β:Type}{i:Nat}{ks:List Nat}{k:Nat→PRes β}(hi:i<ts.length)(h0:0 ∉ ks)(hk:i+1<ts.length→k (i+1)≠none):takeP ts i ks k≠none:=by
 unfold takeP;split
 ·rename_i h
  obtain⟨e1,e2⟩:=skip_of g hi h0 h;rw[e1];exact hk e2
 ·exact nn_form
structure NNAll (ts:List BTok) (f:Nat):Prop where
 list:∀ d i,i<ts.length→12 * (ts.length - i)+11≤f→pList ts f d i≠none
 chains:∀ d i L,i<ts.length→12 * (ts.length - i)+10≤f→pChains ts f d i L≠none
 chain:∀ d i,i<ts.length→12 * (ts.length - i)+9≤f→pChain ts f d i≠none
 chainR:∀ d i o,i<ts.length→12 * (ts.length - i)+1≤f→pChainR ts f d i o≠none
 pipe:∀ d i,i<ts.length→12 * (ts.length - i)+8≤f→pPipe ts f d i≠none
 pipeR:∀ d i L,i<ts.length→12 * (ts.length - i)+7≤f→pPipeR ts f d i L≠none
 command:∀ d i,i<ts.length→12 * (ts.length - i)+6≤f→pCommand ts f d i≠none
 block:∀ d i,i<ts.length→12 * (ts.length - i)+1≤f→pBlock ts f d i≠none
 test:∀ d i,i<ts.length→(tkAt ts i).kind≠0→12 * (ts.length - i)+1≤f→pTest ts f d i≠none
 body:∀ d i,i<ts.length→12 * (ts.length - i)+7≤f→pBody ts f d i≠none
 choice:∀ d i,i<ts.length→(tkAt ts i).kind≠0→12 * (ts.length - i)+2≤f→pChoice ts f d i≠none
 whl:∀ d i,i<ts.length→(tkAt ts i).kind≠0→12 * (ts.length - i)+2≤f→pWhile ts f d i≠none
 each:∀ d i,i<ts.length→(tkAt ts i).kind≠0→12 * (ts.length - i)+2≤f→pEach ts f d i≠none
 choose:∀ d i,i<ts.length→(tkAt ts i).kind≠0→12 * (ts.length - i)+2≤f→pChoose ts f d i≠none
 cases:∀ d i L,i<ts.length→12 * (ts.length - i)+2≤f→pCases ts f d i L≠none
 function:∀ d i,i<ts.length→(tkAt ts i).kind≠0→12 * (ts.length - i)+2≤f→pFunction ts f d i≠none
 turns:∀ d i c L,i<ts.length→12 * (ts.length - i)+1≤f→pTurns ts f d i c L≠none
 simple:∀ d i,i<ts.length→12 * (ts.length - i)+5≤f→pSimple ts f d i≠none
 sets:∀ d i L,i<ts.length→12 * (ts.length - i)+1≤f→pSets ts f d i L≠none
 items:∀ d i ws L,i<ts.length→12 * (ts.length - i)+4≤f→pItems ts f d i ws L≠none
 words:∀ d i how L,i<ts.length→12 * (ts.length - i)+4≤f→pWords ts f d i how L≠none
 word:∀ d i how,i<ts.length→12 * (ts.length - i)+3≤f→pWord ts f d i how≠none
 wordR:∀ d i how L,i<ts.length→12 * (ts.length - i)+2≤f→pWordR ts f d i how L≠none
 one:∀ d i,i<ts.length→itemP ts i=true→12 * (ts.length - i)+1≤f→pOne ts f d i≠none
theorem nnAll {ts:List BTok}(g:GoodT ts):∀ f,NNAll ts f
 | 0=>by
  constructor <;> intros <;> omega
 | f+1=>by
  have ih:=nnAll g f;have hP:=postAll g f;refine ⟨?_,?_,?_,?_,?_,?_,?_,?_,?_,?_,?_,?_,?_,?_,?_,?_,?_,?_,?_,?_,?_,?_,?_,?_⟩
  ·intro d i hi hf;rw[pList];split
   ·exact nn_nest
   ·exact ih.chains _ _ _ hi (by omega)
  ·intro d i L hi hf;rw[pChains];have hp:=passT_le (ts:=ts) [1,2] hi;split
   ·exact nn_ok
   ·exact nn_go (ih.chain _ _ hp.2 (by omega)) (hP.chain _ _ hp.2) fun c e ⟨h1,h2,_⟩=>ih.chains _ _ _ h2 (by omega)
  ·intro d i hi hf;rw[pChain];exact nn_go (ih.pipe _ _ hi (by omega)) (hP.pipe _ _ hi) fun c e ⟨h1,h2,_⟩=>ih.chainR _ _ _ h2 (by omega)
  ·intro d i o hi hf;rw[pChainR];split
   ·rename_i hk
    obtain⟨e1,e2⟩:=skip_of g hi (by decide) hk
    rw[e1];have hp:=passT_le (ts:=ts) [1] e2;exact nn_go (ih.pipe _ _ hp.2 (by omega)) (hP.pipe _ _ hp.2) fun c e ⟨h1,h2,_⟩=>ih.chainR _ _ _ h2 (by omega)
   ·exact nn_ok
  ·intro d i hi hf;rw[pPipe]
   have hj:i≤(if isK ts i [17]=true then skP ts i else i)∧(if isK ts i [17]=true then skP ts i else i)<ts.length:=by
    split
    ·have:=skP_le hi
     omega
    ·omega
   exact nn_go (ih.pipeR _ _ _ hj.2 (by omega)) (hP.pipeR _ _ _ hj.2) fun _ _ _=>nn_ok
  ·intro d i L hi hf;rw[pPipeR];refine nn_go (ih.command _ _ hi (by omega)) (hP.command _ _ hi) fun c e ⟨h1,h2,_⟩=>?_
   split
   ·rename_i hk
    obtain⟨e1,e2⟩:=skip_of g h2 (by decide) hk
    rw[e1];have hp:=passT_le (ts:=ts) [1] e2;exact ih.pipeR _ _ _ hp.2 (by omega)
   ·exact nn_ok
  ·intro d i hi hf;rw[pCommand];split
   ·exact nn_go (ih.block _ _ hi (by omega)) (hP.block _ _ hi) fun c e ⟨h1,h2,_⟩=>ih.turns _ _ _ _ h2 (by omega)
   split
   ·exact ih.simple _ _ hi (by omega)
   rename_i hk
   have hk0:(tkAt ts i).kind≠0:=isK_ne (ks:=[18]) (by simpa using fun e=>hk (.inl e)) (by decide)
   split
   ·exact ih.choice _ _ hi hk0 (by omega)
   split
   ·exact ih.whl _ _ hi hk0 (by omega)
   split
   ·exact ih.each _ _ hi hk0 (by omega)
   split
   ·exact ih.choose _ _ hi hk0 (by omega)
   split
   ·exact ih.function _ _ hi hk0 (by omega)
   ·exact nn_form
  ·intro d i hi hf;rw[pBlock];exact nn_take g hi (by decide) fun hj=>nn_go (ih.list _ _ hj (by omega)) (hP.list _ _ hj) fun l e ⟨h1,h2,_⟩=>nn_take g h2 (by decide) fun _=>nn_ok
  ·intro d i hi h0 hf;rw[pTest];obtain⟨e1,e2⟩:=skP_eq g hi h0;rw[e1];exact nn_take g e2 (by decide) fun hj=>nn_go (ih.list _ _ hj (by omega)) (hP.list _ _ hj) fun l e ⟨h1,h2,_⟩=>nn_take g h2 (by decide) fun _=>nn_ok
  ·intro d i hi hf;rw[pBody];have hp:=passT_le (ts:=ts) [1] hi;split
   ·exact nn_nest
   ·exact ih.command _ _ hp.2 (by omega)
  ·intro d i hi h0 hf;rw[pChoice];refine nn_go (ih.test _ _ hi h0 (by omega)) (hP.test _ _ hi h0) fun c j ⟨a1,a2,_⟩=>nn_go (ih.body _ _ a2 (by omega)) (hP.body _ _ a2) fun y k ⟨b1,b2,_⟩=>?_
   split
   ·rename_i hk
    obtain⟨e1,e2⟩:=key_of g b2 hk;rw[e1];exact nn_go (ih.body _ _ e2 (by omega)) (hP.body _ _ e2) fun _ _ _=>nn_ok
   ·exact nn_ok
  ·intro d i hi h0 hf;rw[pWhile];exact nn_go (ih.test _ _ hi h0 (by omega)) (hP.test _ _ hi h0) fun c j ⟨a1,a2,_⟩=>nn_go (ih.body _ _ a2 (by omega)) (hP.body _ _ a2) fun _ _ _=>nn_ok
  ·intro d i hi h0 hf;rw[pEach];obtain⟨e1,e2⟩:=skP_eq g hi h0;rw[e1];refine nn_take g e2 (by decide) fun hj=>?_
   split
   ·rename_i hn
    obtain⟨e3,e4⟩:=skip_of g hj (by decide) hn.1
    rw[e3];split
    ·rename_i hq
     obtain⟨e5,e6⟩:=key_of g e4 hq;rw[e5];exact nn_go (ih.words _ _ _ _ e6 (by omega)) (hP.words _ _ _ _ e6) fun ws j ⟨a1,a2,_⟩=>nn_take g a2 (by decide) fun hb=>nn_go (ih.body _ _ hb (by omega)) (hP.body _ _ hb) fun _ _ _=>nn_ok
    ·exact nn_form
   ·exact nn_form
  ·intro d i hi h0 hf;rw[pChoose];obtain⟨e1,e2⟩:=skP_eq g hi h0;rw[e1];refine nn_take g e2 (by decide) fun hj=>nn_go (ih.word _ _ _ hj (by omega)) (hP.word _ _ _ hj) fun w j ⟨a1,a2,_⟩=>nn_take g a2 (by decide) fun hb=>?_
   have hp:=passT_le (ts:=ts) [1] hb;refine nn_take g hp.2 (by decide) fun hc=>?_
   have hp2:=passT_le (ts:=ts) [1,2] hc;exact nn_go (ih.cases _ _ _ hp2.2 (by omega)) (hP.cases _ _ _ hp2.2) fun l k ⟨b1,b2,_⟩=>nn_take g b2 (by decide) fun he=>ih.turns _ _ _ _ he (by omega)
  ·intro d i L hi hf;rw[pCases];split
   ·rename_i hk
    obtain⟨e1,e2⟩:=key_of g hi hk;rw[e1];exact nn_go (ih.words _ _ _ _ e2 (by omega)) (hP.words _ _ _ _ e2) fun ws j ⟨a1,a2,_⟩=>nn_take g a2 (by decide) fun hb=>nn_go (ih.list _ _ hb (by omega)) (hP.list _ _ hb) fun c e ⟨b1,b2,_⟩=>ih.cases _ _ _ b2 (by omega)
   ·exact nn_ok
  ·intro d i hi h0 hf;rw[pFunction];obtain⟨e1,e2⟩:=skP_eq g hi h0;rw[e1];split
   ·rename_i hn
    obtain⟨e3,e4⟩:=skip_of g e2 (by decide) hn.1
    rw[e3];exact nn_go (ih.block _ _ e4 (by omega)) (hP.block _ _ e4) fun _ _ _=>nn_ok
   ·exact nn_form
  ·intro d i c L hi hf;rw[pTurns];split
   ·rename_i hk
    obtain⟨e1,e2⟩:=skip_of g hi (by decide) hk
    rw[e1];exact nn_go (ih.word _ _ _ e2 (by omega)) (hP.word _ _ _ e2) fun w j ⟨a1,a2,_⟩=>ih.turns _ _ _ _ a2 (by omega)
   ·exact nn_ok
  ·intro d i hi hf;rw[pSimple];refine nn_go (ih.sets _ _ _ hi (by omega)) (hP.sets _ _ _ hi) fun s j ⟨a1,a2,_⟩=>nn_go (ih.items _ _ _ _ a2 (by omega)) (hP.items _ _ _ _ a2) fun wt e ⟨b1,b2,_⟩=>?_
   split
   ·exact nn_form
   ·exact nn_ok
  ·intro d i L hi hf;rw[pSets];split
   ·rename_i hk
    obtain⟨e1,e2⟩:=skip_of g hi (by decide) hk.1
    rw[e1] at hk ⊢;obtain⟨e3,e4⟩:=skP_eq g e2 (by rw[hk.2.1];decide)
    rw[e3];exact nn_go (ih.word _ _ _ e4 (by omega)) (hP.word _ _ _ e4) fun w j ⟨a1,a2,_⟩=>ih.sets _ _ _ a2 (by omega)
   ·exact nn_ok
  ·intro d i ws L hi hf;rw[pItems];split
   ·rename_i hk
    obtain⟨e1,e2⟩:=skip_of g hi (by decide) hk
    rw[e1];exact nn_go (ih.word _ _ _ e2 (by omega)) (hP.word _ _ _ e2) fun w j ⟨a1,a2,_⟩=>ih.items _ _ _ _ a2 (by omega)
   split
   ·exact nn_ok
   ·exact nn_go (ih.word _ _ _ hi (by omega)) (hP.word _ _ _ hi) fun w j ⟨a1,a2,_⟩=>ih.items _ _ _ _ a2 (by omega)
  ·intro d i how L hi hf;rw[pWords];split
   ·exact nn_go (ih.word _ _ _ hi (by omega)) (hP.word _ _ _ hi) fun w j ⟨a1,a2,_⟩=>ih.words _ _ _ _ a2 (by omega)
   ·exact nn_ok
  ·intro d i how hi hf;rw[pWord];refine nn_go (ih.wordR _ _ _ _ hi (by omega)) (hP.wordR _ _ _ _ hi) fun l e ⟨h1,h2,_⟩=>?_
   split
   ·exact nn_err
   ·exact nn_ok
  ·intro d i how L hi hf;rw[pWordR];split
   ·exact nn_form
   ·rename_i hit
    refine nn_go (ih.one _ _ hi (by simpa using hit) (by omega)) (hP.one _ _ hi (by simpa using hit)) fun x j ⟨a1,a2,_⟩=>?_
    dsimp only;split
    ·rename_i hk
     obtain⟨e1,e2⟩:=skip_of g a2 (by decide) hk
     rw[e1];exact ih.wordR _ _ _ _ e2 (by omega)
    split
    ·exact nn_ok
    ·exact ih.wordR _ _ _ _ a2 (by omega)
  ·intro d i hi hit hf;rw[pOne];obtain⟨e1,e2⟩:=skip_of g hi (by decide) hit
   rw[e1];split
   ·exact nn_ok
   split
   ·exact nn_ok
   split
   ·exact nn_ok
   split
   ·exact nn_ok
   split
   ·split
    ·exact nn_nest
    ·exact nn_go (ih.words _ _ _ _ e2 (by omega)) (hP.words _ _ _ _ e2) fun l j ⟨a1,a2,_⟩=>nn_take g a2 (by decide) fun _=>nn_ok
   split
   ·exact nn_go (ih.list _ _ e2 (by omega)) (hP.list _ _ e2) fun l j ⟨a1,a2,_⟩=>nn_take g a2 (by decide) fun _=>nn_ok
   ·exact nn_ok
end Go.Proofs.YtbplbehhlbkklaaGreatDoor
namespace Go.Proofs.YtbplbehhlbkklaaGreatDoor
set_option maxHeartbeats 4000000
open Go Go.RowKit
def isWord (k:Int):Bool:=decide (1≤k)&&decide (k≤12)
def isCommand (k:Int):Bool:=decide (20≤k)&&decide (k≤37)
def namedB (k:Int):Bool:=[2,22,29,31,35].contains k
def fieldsM (M:Nat) (x:PNode):Bool :=
 if x.kind=1 then (decide (x.n=0) || (decide (x.n=1)&&isClosed x.text))&&decide (x.text.length≤M)
 else if x.kind=11 then decide (1≤x.n)&&decide (x.n≤99)&&decide (x.text=[])
 else if x.kind=33 then decide (1≤x.n)&&decide (x.n≤3)&&decide (x.text=[])
 else if x.n≠0 then false
 else if x.kind=2 then nameB x.text || decide (x.text=[42])
 else if namedB x.kind=true then nameB x.text
 else decide (x.text=[])
def fieldsB (x:PNode):Bool:=fieldsM 2000 x
def childrenB (x:PNode):Bool :=
 if [1,2,20].contains x.kind then decide (x.k=0)
 else if x.kind=3 then decide (0≤x.k)
 else if [4,21,37].contains x.kind then decide (1≤x.k)
 else if [23,32].contains x.kind then decide (2≤x.k)
 else if x.kind=24 then decide (x.k=3)
 else if [25,26,28,29,35,33,34].contains x.kind then decide (x.k=2)
 else if x.kind=30 then decide (1≤x.k)&&decide (x.k % 2=1)
 else decide (x.k=1)
def takesB (kind:Int) (K k:Int):Bool :=
 if [12,23,32,24,25,26,28,27,31].contains kind then false
 else if [29,35,33,34].contains kind then decide (k=0)
 else if kind=30 then decide (k=0) || decide (k % 2=1)
 else if kind=37 then decide (k<K - 1)
 else true
def ndAt (l:Prog) (i:Nat):PNode:=l.getD i ⟨0,0,0,0,[]⟩
def fitP (l:Prog):Nat→Int→Nat→Nat→Bool
 | 0,left,_,_=>decide (left≤0)
 | f+1,left,c,e=>if left≤0 then true else if e≤c then false
  else if (ndAt l c).size<1∨((e:Int) - c)<(ndAt l c).size then true else fitP l f (left - 1) (c+(ndAt l c).size.toNat) e
def kindB (x:PNode) (word:Bool):Bool:=(word&&isWord x.kind) || (!word&&isCommand x.kind)
mutual
def lookP (l:Prog):Nat→Nat→Nat→Nat→Bool→Bool→Option (Option (Nat×Nat))
 | 0,_,_,_,_,_=>none
 | f+1,i,e,d,word,last =>
  let x:=ndAt l i
  if kindB x word=false∨fieldsB x=false∨childrenB x=false∨x.size<1∨((e:Int) - i)<x.size∨(last=true∧x.size≠(e:Int) - i) then some (some (110,i))
  else if x.k=0∧x.size≠1 then some (some (110,i))
  else if fitP l (x.size.toNat - 1) x.k (i+1) (i+x.size.toNat)=false then some (some (110,i))
  else if 30<d then some (some (102,i))
  else lookK l f 0 (i+1) (i+x.size.toNat) (d+1) x
def lookK (l:Prog):Nat→Nat→Nat→Nat→Nat→PNode→Option (Option (Nat×Nat))
 | 0,_,_,_,_,_=>none
 | f+1,k,c,e,d,x =>
  if x.k≤k then some none
  else match lookP l f c e d (takesB x.kind x.k k) (decide ((k:Int)=x.k - 1)) with
   | none=>none
   | some (some r)=>some (some r)
   | some none=>lookK l f (k+1) (c+(ndAt l c).size.toNat) e d x
end
inductive WFP (K:Int→Bool) (M:Nat):Bool→Nat→Prog→Prop
 | node (w:Bool) (D:Nat) (kind n:Int) (s:List UInt8) (kids:List Prog)
  (hk:(kindB ⟨kind,n,kids.length,0,s⟩ w&&K kind)=true) (hf:fieldsM M ⟨kind,n,kids.length,0,s⟩=true) (hc:childrenB ⟨kind,n,kids.length,0,s⟩=true)
  (hK:∀ (j:Nat) (kid:Prog),kids[j]?=some kid→WFP K M (takesB kind kids.length j) D kid):WFP K M w (D+1) (newP kind n s kids)
theorem WFP.pos {K:Int→Bool}{M:Nat}{w:Bool}{D:Nat}{l:Prog}(h:WFP K M w D l):0<l.length∧(ndAt l 0).size=l.length:=by
 cases h
 exact⟨by rw[newP];simp,by rw[newP];simp [ndAt]⟩
theorem WFP.mono {K:Int→Bool}{M:Nat}{w:Bool}{D:Nat}{l:Prog}(h:WFP K M w D l):∀ {E:Nat},D≤E→WFP K M w E l:=by
 induction h with
 | node w D kind n s kids hk hf hc hK ih =>
  intro E hE;obtain⟨E',rfl⟩:∃ E',E=E'+1:=⟨E - 1,by omega⟩
  exact .node w E' kind n s kids hk hf hc fun j kid h=>ih j kid h (by omega)
theorem WFP.kinds {K:Int→Bool}{M:Nat}{w:Bool}{D:Nat}{l:Prog}(h:WFP K M w D l):∀ x∈l,K x.kind=true:=by
 induction h with
 | node w D kind n s kids hk hf hc hK ih =>
  intro x hx;rw[newP] at hx
  rcases List.mem_cons.1 hx with rfl | hx
  ·rw[Bool.and_eq_true] at hk;exact hk.2
  ·obtain⟨kid,h1,h2⟩:=List.mem_flatten.1 hx;obtain⟨j,hj⟩:=List.getElem?_of_mem h1;exact ih j kid hj x h2
theorem ndAt_drop (l:Prog)(i:Nat)(a b:Prog)(h:l.drop i=a++b)(ha:0<a.length):ndAt l i=ndAt a 0∧i+a.length≤l.length:=by
 constructor
 ·have h1:l[i]?=a[0]?:=by
   have:=congrArg (fun m=>m[0]?) h
   simp only[List.getElem?_drop,Nat.add_zero] at this;rw[this,List.getElem?_append_left ha]
  unfold ndAt;rw[List.getD_eq_getElem?_getD,List.getD_eq_getElem?_getD,h1]
 ·have:=congrArg List.length h
  rw[List.length_drop,List.length_append] at this;omega
theorem fit_wf {K:Int→Bool}{M:Nat}(l:Prog)(e:Nat):∀ (kids:List Prog)(c f:Nat)(post:Prog),(∀ kid∈kids,∃ w D,WFP K M w D kid)→l.drop c=kids.flatten++post→c+kids.flatten.length≤e→kids.flatten.length≤f→fitP l f kids.length c e=true:=by
 intro kids
 induction kids with
 | nil =>
  intro c f post _ _ _ _
  cases f <;> simp [fitP]
 | cons a kids ih =>
  intro c f post hw hd he hf;obtain⟨w,D,ha⟩:=hw a (by simp)
  obtain⟨a1,a2⟩:=ha.pos;rw[List.flatten_cons,List.append_assoc] at hd;rw[List.flatten_cons,List.length_append] at he hf;obtain⟨f,rfl⟩:∃ g,f=g+1:=⟨f - 1,by omega⟩
  obtain⟨n1,n2⟩:=ndAt_drop l c a _ hd a1;rw[fitP,n1,a2];rw[if_neg (by simp only[List.length_cons];omega),if_neg (by omega),if_neg (by omega),Int.toNat_natCast]
  have hl:(((a :: kids).length:Nat):Int) - 1=(kids.length:Nat):=by simp only[List.length_cons];omega
  rw[hl];refine ih (c+a.length) f post (fun k hk=>hw k (by simp [hk])) ?_ (by omega) (by omega)
  rw[← List.drop_drop,hd,List.drop_left]
theorem look_wf {K:Int→Bool}{w:Bool}{D:Nat}{l:Prog}(h:WFP K 2000 w D l):∀ (L:Prog)(i e d:Nat)(last:Bool)(post:Prog)(f:Nat),L.drop i=l++post→i+l.length≤e→(last=true→e=i+l.length)→3 * l.length≤f →
  ∃ r,lookP L f i e d w last=some r∧(r=none∨∃ p,r=some (102,p))∧(d+D≤31→r=none):=by
 induction h with
 | node w D kind n s kids hk hf hc hK ih =>
  intro L i e d last post f hd he hlast hfu;rw[Bool.and_eq_true] at hk;replace hk:=hk.1;have hlen:(newP kind n s kids).length=kids.flatten.length+1:=rfl;obtain⟨n1,n2⟩:=ndAt_drop L i (newP kind n s kids) post hd (by rw[hlen];omega)
  rw[hlen] at he hlast hfu n2;have hx:ndAt (newP kind n s kids) 0=⟨kind,n,kids.length,kids.flatten.length+1,s⟩:=rfl;obtain⟨f,rfl⟩:∃ g,f=g+1:=⟨f - 1,by omega⟩
  rw[lookP,n1,hx]
  have hkids:∀ kid∈kids,∃ w D,WFP K 2000 w D kid:=fun kid hkid=>by
   obtain⟨j,hj⟩:=List.getElem?_of_mem hkid;exact⟨_,_,hK j kid hj⟩
  have hd1:L.drop (i+1)=kids.flatten++post:=by
   rw[← List.drop_drop,hd,newP];rfl
  have hsz:((kids.flatten.length:Int)+1).toNat=kids.flatten.length+1:=by omega
  have hfit:=fit_wf L (i+(kids.flatten.length+1)) kids (i+1) kids.flatten.length post hkids hd1 (by omega) (Nat.le_refl _)
  dsimp only
  rw[if_neg (by
   intro hh
   rcases hh with h1 | h1 | h1 | h1 | h1 | h1
   ·exact absurd (hk.symm.trans h1) (by simp)
   ·exact absurd (hf.symm.trans h1) (by simp)
   ·exact absurd (hc.symm.trans h1) (by simp)
   ·omega
   ·omega
   ·have:=hlast h1.1
    exact h1.2 (by omega))]
  rw[hsz]
  by_cases h0:kids.length=0
  ·obtain rfl:kids=[]:=List.length_eq_zero_iff.1 h0;simp only[List.flatten_nil,List.length_nil] at hfit ⊢;rw[if_neg (by intro hh;exact hh.2 (by simp)),if_neg (by intro hh;rw[show (0+1 - 1:Nat)=0 from rfl] at hh;rw[hfit] at hh;cases hh)]
   obtain⟨f,rfl⟩:∃ g,f=g+1:=⟨f - 1,by simp only[List.flatten_nil,List.length_nil] at hfu;omega⟩
   split
   ·exact⟨_,rfl,.inr ⟨_,rfl⟩,fun hdD=>by omega⟩
   ·refine ⟨none,?_,.inl rfl,fun _=>rfl⟩
    rw[lookK,if_pos (by simp)]
  ·rw[if_neg (by intro hh;exact h0 (by omega)),Nat.add_sub_cancel,if_neg (by rw[hfit];simp)]
   split
   ·exact⟨_,rfl,.inr ⟨_,rfl⟩,fun hdD=>by omega⟩
   ·rename_i hdep
    have hrest:∀ (rest:List Prog) (k c f:Nat) (post':Prog),kids.drop k=rest→L.drop c=rest.flatten++post→c+rest.flatten.length=i+(kids.flatten.length+1)→3 * rest.flatten.length+1≤f →
      ∃ r,lookK L f k c (i+(kids.flatten.length+1)) (d+1) ⟨kind,n,kids.length,kids.flatten.length+1,s⟩=some r∧(r=none∨∃ p,r=some (102,p))∧(d+(D+1)≤31→r=none):=by
     intro rest
     induction rest with
     | nil =>
      intro k c f _ hkd hLd hce hff;obtain⟨f,rfl⟩:∃ g,f=g+1:=⟨f - 1,by omega⟩
      have:kids.length≤k:=List.drop_eq_nil_iff.1 hkd
      refine ⟨none,?_,.inl rfl,fun _=>rfl⟩
      rw[lookK,if_pos (by dsimp only;omega)]
     | cons a rest ihr =>
      intro k c f post' hkd hLd hce hff
      have hka:kids[k]?=some a:=by
       have:=congrArg (fun m=>m[0]?) hkd
       simpa using this
      have hkl:k<kids.length:=(List.getElem?_eq_some_iff.1 hka).1
      have hkr:kids.drop (k+1)=rest:=by
       rw[← List.drop_drop,hkd];rfl
      have hrl:rest.length=kids.length - (k+1):=by rw[← hkr,List.length_drop]
      obtain⟨a1,a2⟩:=(hK k a hka).pos;rw[List.flatten_cons,List.append_assoc] at hLd;rw[List.flatten_cons,List.length_append] at hce hff;obtain⟨f,rfl⟩:∃ g,f=g+1:=⟨f - 1,by omega⟩
      obtain⟨m1,m2⟩:=ndAt_drop L c a _ hLd a1
      obtain⟨r,q1,q2,q3⟩:=ih k a hka L c (i+(kids.flatten.length+1)) (d+1) (decide ((k:Int)=(kids.length:Nat) - 1)) _ f hLd (by omega) (fun hl=>by
       have hl':(k:Int)=(kids.length:Nat) - 1:=by simpa using hl
       have:rest=[]:=List.length_eq_zero_iff.1 (by omega)
       subst this;simp only[List.flatten_nil,List.length_nil] at hce;omega) (by omega)
      rw[lookK,if_neg (by dsimp only;omega)]
      dsimp only;rw[q1]
      match r,q2,q3 with
      | some r,q2,q3=>exact⟨_,rfl,q2,fun hdD=>q3 (by omega)⟩
      | none,_,_ =>
       dsimp only;rw[m1,a2,Int.toNat_natCast];exact ihr (k+1) (c+a.length) f post' hkr (by rw[← List.drop_drop,hLd,List.drop_left]) (by omega) (by omega)
    exact hrest kids 0 (i+1) f post rfl hd1 (by omega) (by omega)
end Go.Proofs.YtbplbehhlbkklaaGreatDoor
namespace Go.Proofs.YtbplbehhlbkklaaGreatDoor
set_option maxHeartbeats 4000000
open Go Go.RowKit
theorem fieldsM_mono {M N:Nat}(h:M≤N)(x:PNode)(hx:fieldsM M x=true):fieldsM N x=true:=by
 unfold fieldsM at hx ⊢;split
 ·rename_i h1
  rw[if_pos h1] at hx;simp only[Bool.and_eq_true,decide_eq_true_eq] at hx ⊢;exact⟨hx.1,by omega⟩
 ·rename_i h1
  rw[if_neg h1] at hx;exact hx
theorem WFP.widen {K:Int→Bool}{M N:Nat}(h:M≤N){w:Bool}{D:Nat}{l:Prog}(hl:WFP K M w D l):WFP K N w D l:=by
 induction hl with
 | node w D kind n s kids hk hf hc hK ih=>exact .node w D kind n s kids hk (fieldsM_mono h _ hf) hc ih
theorem WFP.short {K:Int→Bool}{M N:Nat}{w:Bool}{D:Nat}{l:Prog}(hl:WFP K M w D l):(∀ x∈l,x.kind=1→x.text.length≤N)→WFP K N w D l:=by
 induction hl with
 | node w D kind n s kids hk hf hc hK ih =>
  intro hN;refine .node w D kind n s kids hk ?_ hc fun j kid hj=>ih j kid hj fun x hx=>hN x ?_
  ·have h1:=hN ⟨kind,n,kids.length,kids.flatten.length+1,s⟩ (by rw[newP];simp)
   unfold fieldsM at hf ⊢;split
   ·rename_i h2
    rw[if_pos h2] at hf;simp only[Bool.and_eq_true,decide_eq_true_eq] at hf ⊢;exact⟨hf.1,h1 h2⟩
   ·rename_i h2
    rw[if_neg h2] at hf;exact hf
  ·rw[newP];exact List.mem_cons_of_mem _ (List.mem_flatten.2 ⟨kid,List.mem_of_getElem? hj,hx⟩)
def okB (k:Int):Bool:=![5,7,36,37].contains k
def WF (w:Bool) (l:Prog):Prop:=∃ D,WFP okB 2000 w D l
def WX (w:Bool) (l:Prog):Prop:=∃ M D,WFP okB M w D l
theorem WF.x {w:Bool}{l:Prog}(h:WF w l):WX w l:=⟨2000,h⟩
theorem common_x:∀ (kids:List Prog)(T:Nat→Bool),(∀ j kid,kids[j]?=some kid→WX (T j) kid)→∃ M D,∀ j kid,kids[j]?=some kid→WFP okB M (T j) D kid
 | [],T,_=>⟨0,0,fun j kid h=>by simp at h⟩
 | a :: kids,T,h=>by
  obtain⟨M,D,ha⟩:=h 0 a rfl;obtain⟨N,E,hk⟩:=common_x kids (fun j=>T (j+1)) (fun j kid hj=>h (j+1) kid (by simpa using hj))
  refine ⟨max M N,max D E,fun j kid hj=>?_⟩
  cases j with
  | zero =>
   cases hj
   exact (ha.widen (Nat.le_max_left _ _)).mono (Nat.le_max_left _ _)
  | succ j=>exact ((hk j kid (by simpa using hj)).widen (Nat.le_max_right _ _)).mono (Nat.le_max_right _ _)
theorem common_f:∀ (kids:List Prog)(T:Nat→Bool),(∀ j kid,kids[j]?=some kid→WF (T j) kid)→∃ D,∀ j kid,kids[j]?=some kid→WFP okB 2000 (T j) D kid
 | [],T,_=>⟨0,fun j kid h=>by simp at h⟩
 | a :: kids,T,h=>by
  obtain⟨D,ha⟩:=h 0 a rfl;obtain⟨E,hk⟩:=common_f kids (fun j=>T (j+1)) (fun j kid hj=>h (j+1) kid (by simpa using hj))
  refine ⟨max D E,fun j kid hj=>?_⟩
  cases j with
  | zero =>
   cases hj
   exact ha.mono (Nat.le_max_left _ _)
  | succ j=>exact (hk j kid (by simpa using hj)).mono (Nat.le_max_right _ _)
theorem WF.node {w:Bool}{kind n:Int}{s:List UInt8}{kids:List Prog}(hk:(kindB ⟨kind,n,kids.length,0,s⟩ w&&okB kind)=true)(hf:fieldsM 2000 ⟨kind,n,kids.length,0,s⟩=true)(hc:childrenB ⟨kind,n,kids.length,0,s⟩=true)
  (hK:∀ (j:Nat) (kid:Prog),kids[j]?=some kid→WF (takesB kind kids.length j) kid):WF w (newP kind n s kids):=by
 obtain⟨D,hD⟩:=common_f kids (fun j=>takesB kind kids.length j) hK
 exact⟨D+1,.node w D kind n s kids hk hf hc hD⟩
theorem WX.node {w:Bool}{kind n:Int}{s:List UInt8}{kids:List Prog}(hk:(kindB ⟨kind,n,kids.length,0,s⟩ w&&okB kind)=true)(hf:fieldsM s.length ⟨kind,n,kids.length,0,s⟩=true)(hc:childrenB ⟨kind,n,kids.length,0,s⟩=true)
  (hK:∀ (j:Nat) (kid:Prog),kids[j]?=some kid→WX (takesB kind kids.length j) kid):WX w (newP kind n s kids):=by
 obtain⟨M,D,hD⟩:=common_x kids (fun j=>takesB kind kids.length j) hK
 exact⟨max M s.length,D+1,.node w D kind n s kids hk (fieldsM_mono (Nat.le_max_right _ _) _ hf) hc fun j kid hj=>(hD j kid hj).widen (Nat.le_max_left _ _)⟩
theorem WX.checked {w:Bool}{l:Prog}(h:WX w l)(hs:tooLong l=false):WF w l:=by
 obtain⟨M,D,h⟩:=h;refine ⟨D,h.short fun x hx hk=>?_⟩
 unfold tooLong at hs;rw[List.any_eq_false] at hs;have:=hs x hx
 simp only[Bool.and_eq_true,decide_eq_true_eq] at this;omega
theorem kids1 {P:Nat→Prog→Prop}{a:Prog}(h:P 0 a):∀ (j:Nat)(kid:Prog),[a][j]?=some kid→P j kid
 | 0,_,e=>by cases e;exact h
 | j+1,_,e=>by simp at e
theorem kids2 {P:Nat→Prog→Prop}{a b:Prog}(h:P 0 a)(h1:P 1 b):∀ (j:Nat)(kid:Prog),[a,b][j]?=some kid→P j kid
 | 0,_,e=>by cases e;exact h
 | 1,_,e=>by cases e;exact h1
 | j+2,_,e=>by simp at e
theorem kids3 {P:Nat→Prog→Prop}{a b c:Prog}(h:P 0 a)(h1:P 1 b)(h2:P 2 c):∀ (j:Nat)(kid:Prog),[a,b,c][j]?=some kid→P j kid
 | 0,_,e=>by cases e;exact h
 | 1,_,e=>by cases e;exact h1
 | 2,_,e=>by cases e;exact h2
 | j+3,_,e=>by simp at e
theorem pieces_flag:∀ (l:List UInt8)(i j:Nat),(piecesP i l).2=(piecesP j l).2
 | [],_,_=>rfl
 | [c],_,_=>by simp only[piecesP];split <;> rfl
 | c :: d :: l,i,j=>by
  simp only[piecesP];split
  ·exact pieces_flag l _ _
  ·exact pieces_flag (d :: l) _ _
theorem closed_cons (c d:UInt8)(l:List UInt8):isClosed (c :: d :: l)=if c.toNat=92 then isClosed l else isClosed (d :: l):=by
 unfold isClosed;rw[piecesP];split
 ·exact congrArg _ (pieces_flag l _ _)
 ·exact congrArg _ (pieces_flag (d :: l) _ _)
theorem closed_append:∀ (a b:List UInt8),isClosed a=true→isClosed b=true→isClosed (a++b)=true
 | [],b,_,h=>h
 | [c],b,h1,h2=>by
  have hc:¬ c.toNat=92:=by
   intro e;simp [isClosed,piecesP,e] at h1
  cases b with
  | nil=>exact h1
  | cons d b =>
   rw[List.cons_append,List.nil_append,closed_cons,if_neg hc];exact h2
 | c :: d :: a,b,h1,h2=>by
  rw[closed_cons] at h1;rw[List.cons_append,List.cons_append,closed_cons];split
  ·rename_i hc
   rw[if_pos hc] at h1;exact closed_append a b h1 h2
  ·rename_i hc
   rw[if_neg hc] at h1;exact closed_append (d :: a) b h1 h2
theorem closed_more:∀ (a:List UInt8),isClosed a=false→isClosed (a++[92])=true
 | [],h=>by simp [isClosed,piecesP] at h
 | [c],h=>by
  have hc:c.toNat=92:=by
   apply Classical.byContradiction
   intro e;simp [isClosed,piecesP,e] at h
  rw[List.cons_append,List.nil_append,closed_cons,if_pos hc];rfl
 | c :: d :: a,h=>by
  rw[closed_cons] at h;rw[List.cons_append,List.cons_append,closed_cons];split
  ·rename_i hc
   rw[if_pos hc] at h;exact closed_more a h
  ·rename_i hc
   rw[if_neg hc] at h;exact closed_more (d :: a) h
theorem closedP_closed (s:List UInt8):isClosed (closedP s)=true:=by
 unfold closedP;split
 ·assumption
 ·rename_i h
  exact closed_more s (by simpa using h)
theorem escapeP_closed:∀ (s:List UInt8),isClosed (escapeP s)=true
 | []=>rfl
 | c :: l=>by
  rw[escapeP];refine closed_append _ _ ?_ (escapeP_closed l);split
  ·rw[closed_cons,if_pos (by decide)]
   rfl
  ·rename_i hc
   have hc':¬ c.toNat=92:=by
    intro e;rw[e] at hc;exact hc (by decide)
   simp [isClosed,piecesP,hc']
theorem WX.lit {n:Int}{s:List UInt8}(h:n=0∨n=1∧isClosed s=true):WX true (newP 1 n s []) :=
 WX.node (by rfl) (by simpa [fieldsM] using h) (by rfl) fun j kid hj=>by simp at hj
theorem WX.lit_inv {y:PNode}(h:WX true [y])(hk:y.kind=1):(y.n=0∨y.n=1∧isClosed y.text=true):=by
 obtain⟨M,D,h⟩:=h;generalize hl:[y]=l at h
 cases h with
 | node w D kind n s kids hk' hf hc hK =>
  rw[newP] at hl;obtain⟨rfl,_⟩:=List.cons.inj hl;unfold fieldsM at hf;rw[if_pos hk] at hf;simp only[Bool.and_eq_true,Bool.or_eq_true,decide_eq_true_eq] at hf;exact hf.1
def JI (how:Nat) (x:Prog):Prop:=WX true x∧∀ y,x=[y]→y.kind=1→y.n=how
theorem JI.more {how:Nat}{kind n:Int}{s:List UInt8}{kids:List Prog}(h:WX true (newP kind n s kids))(hk:kind≠1):JI how (newP kind n s kids) :=
 ⟨h,fun y e hy=>by
  rw[newP] at e;obtain⟨rfl,_⟩:=List.cons.inj e;exact absurd hy hk⟩
theorem JI.lit {how:Nat}{s:List UInt8}(hh:how=0∨how=1∧isClosed s=true):JI how (newP 1 how s []) :=
 ⟨WX.lit (hh.elim (fun h=>.inl (by rw[h];rfl)) (fun h=>.inr ⟨by rw[h.1];rfl,h.2⟩)),fun y e _=>by
  rw[newP] at e;obtain⟨rfl,_⟩:=List.cons.inj e;rfl⟩
end Go.Proofs.YtbplbehhlbkklaaGreatDoor
namespace Go.Proofs.YtbplbehhlbkklaaGreatDoor
set_option maxHeartbeats 4000000
open Go Go.RowKit
theorem joinStep_ji {how:Nat}(out:List Prog)(x:Prog)(ho:∀ y∈out,JI how y)(hx:JI how x):∀ y∈joinStep out x,JI how y:=by
 have hall:∀ y∈out++[x],JI how y:=fun y hy=>by
  rcases List.mem_append.1 hy with h | h
  ·exact ho y h
  ·rw[List.mem_singleton] at h;exact h ▸ hx
 unfold joinStep;split
 ·rename_i y z hl
  obtain⟨Q,rfl⟩:=List.getLast?_eq_some_iff.1 hl;split
  ·rename_i hk
   rw[List.dropLast_concat];have hy:=ho [y] (by simp)
   have n1:=hy.2 y rfl hk.1;have n2:=hx.2 z rfl hk.2;have i1:=hy.1.lit_inv hk.1;have i2:=hx.1.lit_inv hk.2;intro a ha
   rcases List.mem_append.1 ha with h | h
   ·exact ho a (by simp [h])
   ·rw[List.mem_singleton] at h;subst h;rw[n2];refine JI.lit ?_;rw[n1] at i1;rw[n2] at i2
    rcases i1 with i1 | i1
    ·exact .inl (by omega)
    ·rcases i2 with i2 | i2
     ·exact .inl (by omega)
     ·exact .inr ⟨by omega,closed_append _ _ i1.2 i2.2⟩
  ·exact hall
 ·exact hall
theorem joinStep_pos (out:List Prog)(x:Prog):0<(joinStep out x).length:=by
 unfold joinStep;split
 ·split <;> simp
 ·simp
theorem fold_ji {how:Nat}:∀ (l out:List Prog),(∀ y∈out,JI how y)→(∀ y∈l,JI how y)→(∀ y∈l.foldl joinStep out,JI how y)∧(0<out.length+l.length→0<(l.foldl joinStep out).length)
 | [],out,ho,_=>⟨ho,fun h=>by simpa using h⟩
 | x :: l,out,ho,hl=>by
  obtain⟨h1,h2⟩:=fold_ji l (joinStep out x) (joinStep_ji out x ho (hl x (by simp))) (fun y hy=>hl y (by simp [hy]))
  exact⟨h1,fun _=>h2 (by have:=joinStep_pos out x;omega)⟩
theorem mem_get {P:Prog→Prop}{l:List Prog}(h:∀ x∈l,P x)(j:Nat)(kid:Prog)(hj:l[j]?=some kid):P kid:=h kid (List.mem_of_getElem? hj)
theorem joinP_wx {how:Nat}(l:List Prog)(hl:∀ x∈l,JI how x)(hp:0<l.length):WX true (joinP l):=by
 obtain⟨h1,h2⟩:=fold_ji l [] (fun _ h=>nomatch h) hl
 have h3:=h2 (by simpa using hp)
 unfold joinP;split
 ·rename_i x hx
  exact (h1 x (by rw[hx];simp)).1
 ·exact WX.node (by rfl) (by rfl) (by simp [childrenB];omega) fun j kid hj=>mem_get (fun x hx=>(h1 x hx).1) j kid hj
theorem seqP_wf (l:List Prog)(h:∀ x∈l,WF false x):WF false (seqP l):=by
 unfold seqP;split
 ·exact .node (by rfl) (by rfl) (by rfl) fun j kid hj=>by simp at hj
 ·exact h _ (by simp)
 ·rename_i h0 h1
  refine .node (by rfl) (by rfl) ?_ fun j kid hj=>mem_get h j kid hj
  have:2≤l.length:=by
   match l,h0,h1 with
   | [],h0,_=>exact absurd rfl h0
   | [a],_,h1=>exact absurd rfl (h1 a)
   | a :: b :: l,_,_=>simp
  simp [childrenB]
  omega
theorem catP_wf (l:List Prog)(h:∀ x∈l,WF true x):WF true (catP l):=by
 unfold catP;split
 ·exact h _ (by simp)
 ·exact .node (by rfl) (by rfl) (by simp [childrenB]) fun j kid hj=>mem_get h j kid hj
def TurnsOk (l:List (Nat×Prog)):Prop:=∀ t∈l,(t.1=11∨t.1=12∨t.1=13∨t.1=14)∧WF true t.2
theorem around_wf:∀ (l:List (Nat×Prog))(c:Prog),TurnsOk l→WF false c→WF false (aroundP l c)
 | [],c,_,hc=>hc
 | t :: l,c,hl,hc=>by
  have ih:=around_wf l c (fun t ht=>hl t (by simp [ht])) hc
  obtain⟨h1,h2⟩:=hl t (by simp)
  show WF false (if t.1=14 then newP 34 0 [] [t.2,aroundP l c] else newP 33 ((t.1:Int) - 10) [] [t.2,aroundP l c])
  split
  ·exact .node (by rfl) (by rfl) (by rfl) (kids2 h2 ih)
  ·refine .node (by rfl) ?_ (by rfl) (kids2 h2 ih)
   simp [fieldsM]
   omega
def SetsOk (l:List (List UInt8×Prog)):Prop:=∀ t∈l,nameB t.1=true∧WF true t.2
theorem made_wf (sets:List (List UInt8×Prog))(words:List Prog)(hs:SetsOk sets)(hw:∀ x∈words,WF true x):WF false (madeP sets words):=by
 unfold madeP;split
 ·refine seqP_wf _ fun x hx=>?_
  obtain⟨t,ht,rfl⟩:=List.mem_map.1 hx;obtain⟨h1,h2⟩:=hs t ht;exact .node (by rfl) (by simpa [fieldsM,namedB] using h1) (by rfl) (kids1 h2)
 ·rename_i hl
  have h0:WF false (newP 21 0 [] words):=.node (by rfl) (by rfl) (by simp [childrenB];omega) fun j kid hj=>mem_get hw j kid hj
  clear hl
  induction sets with
  | nil=>exact h0
  | cons t sets ih =>
   obtain⟨h1,h2⟩:=hs t (by simp)
   rw[List.foldr_cons];exact .node (by rfl) (by simpa [fieldsM,namedB] using h1) (by rfl) (kids2 h2 (ih fun t ht=>hs t (by simp [ht])))
def OkP {α:Type} (x:PRes α) (Q:α→Prop):Prop:=∀ a e,x=some (.ok (a,e))→Q a
theorem OkP.ok {α:Type}{Q:α→Prop}{a:α}{e:Nat}(h:Q a):OkP (pOk a e) Q:=fun _ _ h'=>by cases h';exact h
theorem OkP.err {α:Type}{Q:α→Prop}{c p:Nat}:OkP (pErr c p:PRes α) Q:=fun _ _ h=>by cases h
theorem OkP.form {α:Type}{Q:α→Prop}{ts:List BTok}{i:Nat}:OkP (formP ts i:PRes α) Q:=.err
theorem OkP.nest {α:Type}{Q:α→Prop}{ts:List BTok}{i:Nat}:OkP (nestP ts i:PRes α) Q:=.err
theorem OkP.none {α:Type}{Q:α→Prop}:OkP (none:PRes α) Q:=fun _ _ h=>by cases h
theorem OkP.mono {α:Type}{x:PRes α}{Q R:α→Prop}(h:OkP x Q)(hR:∀ a,Q a→R a):OkP x R:=fun a e hx=>hR a (h a e hx)
theorem OkP.go {α β:Type}{x:PRes α}{k:α→Nat→PRes β}{Q:α→Prop}{R:β→Prop}(h:OkP x Q)(hk:∀ a e,Q a→OkP (k a e) R):OkP (x.go k) R:=by
 match x,h with
 | .none,_=>exact .none
 | some (.error e),_=>exact fun _ _ h'=>by cases h'
 | some (.ok (a,e)),h=>exact hk a e (h a e rfl)
theorem OkP.take {β:Type}{ts:List BTok}{i:Nat}{ks:List Nat}{k:Nat→PRes β}{R:β→Prop}(hk:∀ e,OkP (k e) R):OkP (takeP ts i ks k) R:=by
 unfold takeP;split
 ·exact hk _
 ·exact .form
def TokW (t:BTok):Prop:=(t.kind=20∨t.kind=21∨t.kind=22→nameB t.text=true∨t.text=[42])∧(t.kind=23→1≤t.num∧t.num≤9)
def CasesOk (l:List Prog):Prop:=l.length % 2=1∧∀ (j:Nat) (x:Prog),l[j]?=some x→WF (decide (j=0) || decide (j % 2=1)) x
theorem CasesOk.snoc {l:List Prog}(h:CasesOk l){a b:Prog}(ha:WF true a)(hb:WF false b):CasesOk (l++[a,b]):=by
 obtain⟨h1,h2⟩:=h;refine ⟨by simp only[List.length_append,List.length_cons,List.length_nil];omega,fun j x hj=>?_⟩
 by_cases hlt:j<l.length
 ·exact h2 j x (by rwa [List.getElem?_append_left hlt] at hj)
 ·rw[List.getElem?_append_right (by omega)] at hj
  obtain⟨d,hd⟩:∃ d,j - l.length=d:=⟨_,rfl⟩;rw[hd] at hj
  match d,hd,hj with
  | 0,hd,hj =>
   cases hj
   rw[show (decide (j=0) || decide (j % 2=1))=true by simp;omega]
   exact ha
  | 1,hd,hj =>
   cases hj
   rw[show (decide (j=0) || decide (j % 2=1))=false by simp;omega]
   exact hb
  | d+2,hd,hj=>simp at hj
structure WAll (ts:List BTok) (f:Nat):Prop where
 list:∀ d i,OkP (pList ts f d i) (WF false)
 chains:∀ d i L,(∀ x∈L,WF false x)→OkP (pChains ts f d i L) (WF false)
 chain:∀ d i,OkP (pChain ts f d i) (WF false)
 chainR:∀ d i o,WF false o→OkP (pChainR ts f d i o) (WF false)
 pipe:∀ d i,OkP (pPipe ts f d i) (WF false)
 pipeR:∀ d i L,(∀ x∈L,WF false x)→OkP (pPipeR ts f d i L) fun l=>(∀ x∈l,WF false x)∧0<l.length
 command:∀ d i,OkP (pCommand ts f d i) (WF false)
 block:∀ d i,OkP (pBlock ts f d i) (WF false)
 test:∀ d i,OkP (pTest ts f d i) (WF false)
 body:∀ d i,OkP (pBody ts f d i) (WF false)
 choice:∀ d i,OkP (pChoice ts f d i) (WF false)
 whl:∀ d i,OkP (pWhile ts f d i) (WF false)
 each:∀ d i,OkP (pEach ts f d i) (WF false)
 choose:∀ d i,OkP (pChoose ts f d i) (WF false)
 cases:∀ d i L,CasesOk L→OkP (pCases ts f d i L) CasesOk
 function:∀ d i,OkP (pFunction ts f d i) (WF false)
 turns:∀ d i c L,WF false c→TurnsOk L→OkP (pTurns ts f d i c L) (WF false)
 simple:∀ d i,OkP (pSimple ts f d i) (WF false)
 sets:∀ d i L,SetsOk L→OkP (pSets ts f d i L) SetsOk
 items:∀ d i ws L,(∀ x∈ws,WF true x)→TurnsOk L→OkP (pItems ts f d i ws L) fun o=>(∀ x∈o.1,WF true x)∧TurnsOk o.2
 words:∀ d i how L,how≤1→(∀ x∈L,WF true x)→OkP (pWords ts f d i how L) fun l=>∀ x∈l,WF true x
 word:∀ d i how,how≤1→OkP (pWord ts f d i how) (WF true)
 wordR:∀ d i how L,how≤1→(∀ x∈L,JI how x)→OkP (pWordR ts f d i how L) fun l=>(∀ x∈l,JI how x)∧0<l.length
 one:∀ d i,itemP ts i=true→OkP (pOne ts f d i) (JI 0)
theorem snoc_all {P:Prog→Prop}{l:List Prog}{x:Prog}(h:∀ y∈l,P y)(hx:P x):∀ y∈l++[x],P y:=fun y hy=>by
 rcases List.mem_append.1 hy with h' | h'
 ·exact h y h'
 ·rw[List.mem_singleton] at h';exact h' ▸ hx
theorem TurnsOk.snoc {l:List (Nat×Prog)}(h:TurnsOk l){k:Nat}{w:Prog}(hk:k=11∨k=12∨k=13∨k=14)(hw:WF true w):TurnsOk (l++[(k,w)]):=fun y hy=>by
 rcases List.mem_append.1 hy with h' | h'
 ·exact h y h'
 ·rw[List.mem_singleton] at h';exact h' ▸ ⟨hk,hw⟩
theorem SetsOk.snoc {l:List (List UInt8×Prog)}(h:SetsOk l){n:List UInt8}{w:Prog}(hn:nameB n=true)(hw:WF true w):SetsOk (l++[(n,w)]):=fun y hy=>by
 rcases List.mem_append.1 hy with h' | h'
 ·exact h y h'
 ·rw[List.mem_singleton] at h';exact h' ▸ ⟨hn,hw⟩
theorem turning_kind {ts:List BTok}{i:Nat}(h:turningP ts i=true):(tkAt ts i).kind=11∨(tkAt ts i).kind=12∨(tkAt ts i).kind=13∨(tkAt ts i).kind=14:=by
 simpa using (isK_iff _ _ _).1 h
theorem alive_ji {t:BTok}{x:Prog}(h:JI 0 x):JI 1 (aliveP t x):=by
 unfold aliveP;split
 ·exact JI.lit (how:=1) (.inr ⟨rfl,closedP_closed _⟩)
 split
 ·exact JI.lit (how:=1) (.inr ⟨rfl,escapeP_closed _⟩)
 ·exact JI.more (WX.node (by rfl) (by rfl) (by rfl) (kids1 h.1)) (by decide)
theorem wAll {ts:List BTok}(ht:∀ i,TokW (tkAt ts i)):∀ f,WAll ts f
 | 0=>by
  constructor <;> intros <;> simp only[pList,pChains,pChain,pChainR,pPipe,pPipeR,pCommand,pBlock,pTest,pBody,pChoice,pWhile,pEach,pChoose,pCases,pFunction,pTurns,pSimple,pSets,pItems,pWords,pWord,pWordR,pOne] <;> exact OkP.none
 | f+1=>by
  have ih:=wAll ht f;refine ⟨?_,?_,?_,?_,?_,?_,?_,?_,?_,?_,?_,?_,?_,?_,?_,?_,?_,?_,?_,?_,?_,?_,?_,?_⟩
  ·intro d i;rw[pList];split
   ·exact .nest
   ·exact ih.chains _ _ _ (fun _ h=>nomatch h)
  ·intro d i L hL;rw[pChains];split
   ·exact .ok (seqP_wf _ hL)
   ·exact (ih.chain _ _).go fun c e hc=>ih.chains _ _ _ (snoc_all hL hc)
  ·intro d i;rw[pChain];exact (ih.pipe _ _).go fun c e hc=>ih.chainR _ _ _ hc
  ·intro d i o ho;rw[pChainR];split
   ·refine (ih.pipe _ _).go fun c e hc=>ih.chainR _ _ _ ?_
    split
    ·exact .node (by rfl) (by rfl) (by rfl) (kids2 ho hc)
    ·exact .node (by rfl) (by rfl) (by rfl) (kids2 ho hc)
   ·exact .ok ho
  ·intro d i;rw[pPipe];refine (ih.pipeR _ _ [] (fun _ h=>nomatch h)).go fun l e ⟨hl,hp⟩=>.ok ?_
   have hb:WF false (if 1<l.length then newP 32 0 [] l else l.headD []):=by
    split
    ·exact .node (by rfl) (by rfl) (by simp [childrenB];omega) fun j kid hj=>mem_get hl j kid hj
    ·cases l with
     | nil=>simp at hp
     | cons a l=>exact hl a (by simp)
   split
   ·exact .node (by rfl) (by rfl) (by rfl) (kids1 hb)
   ·exact hb
  ·intro d i L hL;rw[pPipeR];refine (ih.command _ _).go fun c e hc=>?_
   split
   ·exact ih.pipeR _ _ _ (snoc_all hL hc)
   ·exact .ok ⟨snoc_all hL hc,by simp⟩
  ·intro d i;rw[pCommand];split
   ·exact (ih.block _ _).go fun c e hc=>ih.turns _ _ _ _ hc (fun _ h=>nomatch h)
   split
   ·exact ih.simple _ _
   split
   ·exact ih.choice _ _
   split
   ·exact ih.whl _ _
   split
   ·exact ih.each _ _
   split
   ·exact ih.choose _ _
   split
   ·exact ih.function _ _
   ·exact .form
  ·intro d i;rw[pBlock];exact .take fun a=>(ih.list _ _).go fun l e hl=>.take fun _=>.ok hl
  ·intro d i;rw[pTest];exact .take fun a=>(ih.list _ _).go fun l e hl=>.take fun _=>.ok hl
  ·intro d i;rw[pBody];split
   ·exact .nest
   ·exact ih.command _ _
  ·intro d i;rw[pChoice];refine (ih.test _ _).go fun c j hc=>(ih.body _ _).go fun y k hy=>?_
   split
   ·exact (ih.body _ _).go fun z m hz=>.ok (.node (by rfl) (by rfl) (by rfl) (kids3 hc hy hz))
   ·exact .ok (.node (by rfl) (by rfl) (by rfl) (kids3 hc hy (seqP_wf [] (fun _ h=>nomatch h))))
  ·intro d i;rw[pWhile];exact (ih.test _ _).go fun c j hc=>(ih.body _ _).go fun y k hy=>.ok (.node (by rfl) (by rfl) (by rfl) (kids2 hc hy))
  ·intro d i;rw[pEach];refine .take fun a=>?_
   split
   ·rename_i hn
    split
    ·exact (ih.words _ _ _ [] (by omega) (fun _ h=>nomatch h)).go fun ws j hw=>.take fun b=>(ih.body _ _).go fun y k hy=>.ok (.node (by rfl) (by simpa [fieldsM,namedB] using hn.2) (by rfl) (kids2 (catP_wf _ hw) hy))
    ·exact .form
   ·exact .form
  ·intro d i;rw[pChoose];refine .take fun a=>(ih.word _ _ _ (by omega)).go fun w j hw=>.take fun b=>.take fun c=>?_
   refine (ih.cases _ _ _ ⟨rfl,fun j x hj=>?_⟩).go fun l k hl=>.take fun e=>ih.turns _ _ _ _ ?_ (fun _ h=>nomatch h)
   ·cases j with
    | zero =>
     cases hj
     exact .node (by rfl) (by rfl) (by rfl) (kids1 hw)
    | succ j=>simp at hj
   ·obtain⟨h1,h2⟩:=hl;refine .node (by rfl) (by rfl) (by simp [childrenB];omega) fun j kid hj=>?_
    have:=h2 j kid hj
    have hm:((j:Int) % 2=1) ↔ (j % 2=1):=by omega
    rw[show takesB 30 l.length j=(decide (j=0) || decide (j % 2=1)) by simp [takesB,hm]]
    exact this
  ·intro d i L hL;rw[pCases];split
   ·exact (ih.words _ _ _ [] (by omega) (fun _ h=>nomatch h)).go fun ws j hw=>.take fun a=>(ih.list _ _).go fun c e hc=>ih.cases _ _ _ (hL.snoc (catP_wf _ hw) hc)
   ·exact .ok hL
  ·intro d i;rw[pFunction];split
   ·rename_i hn
    exact (ih.block _ _).go fun l e hl=>.ok (.node (by rfl) (by simpa [fieldsM,namedB] using hn.2.1) (by rfl) (kids1 hl))
   ·exact .form
  ·intro d i c L hc hL;rw[pTurns];split
   ·rename_i hk
    exact (ih.word _ _ _ (by omega)).go fun w j hw=>ih.turns _ _ _ _ hc (hL.snoc (turning_kind hk) hw)
   ·exact .ok (around_wf _ _ hL hc)
  ·intro d i;rw[pSimple];refine (ih.sets _ _ [] (fun _ h=>nomatch h)).go fun s j hs=>(ih.items _ _ [] [] (fun _ h=>nomatch h) (fun _ h=>nomatch h)).go fun wt e ⟨hw,hT⟩=>?_
   split
   ·exact .form
   ·exact .ok (around_wf _ _ hT (made_wf _ _ hs hw))
  ·intro d i L hL;rw[pSets];split
   ·rename_i hk
    exact (ih.word _ _ _ (by omega)).go fun w j hw=>ih.sets _ _ _ (hL.snoc hk.2.2.1 hw)
   ·exact .ok hL
  ·intro d i ws L hws hL;rw[pItems];split
   ·rename_i hk
    exact (ih.word _ _ _ (by omega)).go fun w j hw=>ih.items _ _ _ _ hws (hL.snoc (turning_kind hk) hw)
   split
   ·exact .ok ⟨hws,hL⟩
   ·exact (ih.word _ _ _ (by omega)).go fun w j hw=>ih.items _ _ _ _ (snoc_all hws hw) hL
  ·intro d i how L hh hL;rw[pWords];split
   ·exact (ih.word _ _ _ hh).go fun w j hw=>ih.words _ _ _ _ hh (snoc_all hL hw)
   ·exact .ok hL
  ·intro d i how hh;rw[pWord];refine (ih.wordR _ _ _ [] hh (fun _ h=>nomatch h)).go fun l e ⟨hl,hp⟩=>?_
   split
   ·exact .err
   ·rename_i hs
    refine .ok (WX.checked ?_ (by simpa using hs))
    unfold wordOut;split
    ·exact WX.node (by rfl) (by rfl) (by rfl) (kids1 (WX.lit (.inr ⟨rfl,closedP_closed _⟩)))
    ·exact joinP_wx l hl hp
  ·intro d i how L hh hL;rw[pWordR];split
   ·exact .form
   ·rename_i hit
    refine (ih.one _ _ (by simpa using hit)).go fun x j hx=>?_
    have hy:JI how (if how=1 then aliveP (tkAt ts i) x else x):=by
     split
     ·rename_i h1
      subst h1;exact alive_ji hx
     ·obtain rfl:how=0:=by omega
      exact hx
    dsimp only;split
    ·exact ih.wordR _ _ _ _ hh (snoc_all hL hy)
    split
    ·exact .ok ⟨snoc_all hL hy,by simp⟩
    ·exact ih.wordR _ _ _ _ hh (snoc_all hL hy)
  ·intro d i hit;rw[pOne];have hT:=ht i;split
   ·exact .ok (JI.lit (how:=0) (.inl rfl))
   have hv:∀ s,nameB s=true∨s=[42]→WX true (newP 2 0 s []):=fun s hs=>WX.node (by rfl) (by simpa [fieldsM] using hs) (by rfl) fun j kid hj=>by simp at hj
   split
   ·rename_i h1
    exact .ok (JI.more (WX.node (by rfl) (by rfl) (by rfl) (kids1 (hv _ (hT.1 (.inr (.inl h1)))))) (by decide))
   split
   ·rename_i h1
    exact .ok (JI.more (WX.node (by rfl) (by rfl) (by rfl) (kids1 (hv _ (hT.1 (.inr (.inr h1)))))) (by decide))
   split
   ·rename_i h1
    have:=hT.2 h1
    exact .ok (JI.more (WX.node (by rfl) (by simp [fieldsM];omega) (by rfl) (kids1 (hv _ (.inr rfl)))) (by decide))
   split
   ·split
    ·exact .nest
    ·exact (ih.words _ _ _ [] (by omega) (fun _ h=>nomatch h)).go fun l j hl=>.take fun _=>.ok (JI.more (WX.node (by rfl) (by rfl) (by simp [childrenB]) fun j kid hj=>(mem_get hl j kid hj).x) (by decide))
   split
   ·exact (ih.list _ _).go fun l j hl=>.take fun _=>.ok (JI.more (WX.node (by rfl) (by rfl) (by rfl) (kids1 hl.x)) (by decide))
   ·rename_i g1 g2 g3 g4 g5 g6
    have hk:=(isK_iff _ _ _).1 hit;simp only[List.mem_cons,List.not_mem_nil,or_false] at hk;exact .ok (JI.more (hv _ (hT.1 (by omega))) (by decide))
end Go.Proofs.YtbplbehhlbkklaaGreatDoor
namespace Go.Proofs.YtbplbehhlbkklaaGreatDoor
set_option maxHeartbeats 4000000
open Go Go.RowKit
def checkP (l:Prog):Option (Nat×Option Nat) :=
 if l.length=0∨3000<l.length then some (111,none)
 else match lookP l (3 * l.length) 0 l.length 1 false true with
  | some none=>none
  | some (some (c,p))=>some (c,some p)
  | none=>some (0,none)
def parseB (L:List UInt8):Except (Nat×Option Nat) Prog :=
 match lexB (L.length+1) true L 0 with
 | .error (c,p)=>.error (c,some p)
 | .ok ts=>match pList ts (12 * ts.length+11) 0 0 with
  | none=>.error (0,none)
  | some (.error (c,p))=>.error (c,some p)
  | some (.ok (l,i)) =>
   if isK ts i [0]=false then .error (108,some (tkAt ts i).place)
   else match checkP l with
    | none=>.ok l
    | some (c,p)=>.error (c,if c=102 then some 0 else p)
theorem check_wf {l:Prog}(h:WF false l):checkP l=none∨checkP l=some (111,none)∨∃ p,checkP l=some (102,some p):=by
 unfold checkP;split
 ·exact .inr (.inl rfl)
 ·obtain⟨D,h⟩:=h;obtain⟨r,h1,h2,_⟩:=look_wf h l 0 l.length 1 true [] (3 * l.length) (by simp) (by omega) (fun _=>by omega) (Nat.le_refl _)
  rw[h1]
  rcases h2 with rfl | ⟨p,rfl⟩
  ·exact .inl rfl
  ·exact .inr (.inr ⟨p,rfl⟩)
theorem chain_last (L:List UInt8):∀ (us:List BTok)(t:BTok),ChainB L t us→∃ v,(t :: us).getLast?=some v∧v.kind=0
 | [],t,h=>⟨t,rfl,h.1⟩
 | u :: us,t,h=>by
  obtain⟨v,h1,h2⟩:=chain_last L us u h.2;exact⟨v,by rw[List.getLast?_cons_cons];exact h1,h2⟩
theorem deadB_len:∀ (l x:List UInt8)(n:Nat),deadB l=some (x,n)→x.length≤l.length
 | [],x,n,h=>by cases h
 | [c],x,n,h=>by
  simp only[deadB] at h;split at h
  ·cases h
   exact Nat.zero_le _
  ·cases h
 | c :: d :: l,x,n,h=>by
  simp only[deadB] at h;split at h
  ·split at h
   ·cases hd:deadB l with
    | none=>rw[hd] at h;cases h
    | some y =>
     rw[hd] at h
     cases h
     have:=deadB_len l y.1 y.2 hd
     simp only[List.length_cons];omega
   ·cases h
    exact Nat.zero_le _
  ·cases hd:deadB (d :: l) with
   | none=>rw[hd] at h;cases h
   | some y =>
    rw[hd] at h
    cases h
    have:=deadB_len (d :: l) y.1 y.2 hd
    simp only[List.length_cons] at this ⊢;omega
theorem tokenB_w (l:List UInt8)(p:Nat)(t:BTok)(n:Nat)(h:tokenB l p = .ok (t,n)):TokW t∧t.text.length≤l.length:=by
 cases l with
 | nil =>
  simp only[tokenB] at h
  cases h
  exact⟨⟨fun e=>(by simp at e),fun e=>(by cases e)⟩,Nat.zero_le _⟩
 | cons c m =>
  simp only[tokenB] at h;split at h
  ·rename_i hb
   cases h
   rcases best_is (c :: m) with e | ⟨e,_,_⟩
   ·exact absurd (by rw[e]) hb
   ·have h1:=(List.getElem?_eq_some_iff.1 e).1;have h2:opsB.length=18:=rfl;exact⟨⟨fun e=>by simp only[] at e;omega,fun e=>by simp only[] at e;omega⟩,Nat.zero_le _⟩
  ·split at h
   ·cases h
   ·split at h
    ·split at h
     ·rename_i x n' hd
      cases h
      refine ⟨⟨fun e=>by simp at e,fun e=>by cases e⟩,?_⟩
      exact Nat.le_succ_of_le (deadB_len m x n' hd)
     ·cases h
    ·split at h
     ·split at h
      ·rename_i k n' x z hd
       cases h
       unfold dollarB at hd;split at hd
       ·rename_i hc
        cases hd
        exact⟨⟨fun e=>by simp at e,fun _=>by simp only[];omega⟩,Nat.zero_le _⟩
       ·split at hd
        ·rename_i hs
         simp only[Option.some.injEq,Prod.mk.injEq] at hd;obtain⟨rfl,rfl,rfl,rfl⟩:=hd;have h2:=dKind_range (m.headD 0).toNat;have h3:=starName_le (m.drop (dPre (m.headD 0).toNat));rw[List.length_drop] at h3;exact⟨⟨fun _=>hs.symm,fun e=>by simp only[] at e;omega⟩,by simp only[List.length_cons];omega⟩
        ·cases hd
      ·cases h
     ·cases h
      exact⟨⟨fun e=>by simp at e,fun e=>by cases e⟩,(List.takeWhile_sublist _).length_le⟩
theorem lexB_w:∀ (f:Nat)(first:Bool)(l:List UInt8)(p:Nat)(ts:List BTok),lexB f first l p = .ok ts→∀ t∈ts,TokW t∧t.text.length≤l.length∧t.place≤p+l.length:=by
 intro f
 induction f with
 | zero=>intro first l p ts h;cases h;intro t ht;cases ht
 | succ f ih =>
  intro first l p ts h;rw[lexB] at h;have hs:=skipN_le false l
  cases ht:tokenB (l.drop (skipN false l)) (p+skipN false l) with
  | error e=>rw[ht] at h;cases h
  | ok y =>
   obtain⟨t,n⟩:=y;rw[ht] at h;have hf:=tokenB_w _ _ _ _ ht;obtain⟨n1,n2,_⟩:=tokenB_takes _ _ _ _ ht;rw[List.length_drop] at hf n1;have ht':TokW { t with glue:=!first&&skipN false l==0 }∧t.text.length≤l.length∧t.place≤p+l.length:=⟨hf.1,by omega,by omega⟩
   by_cases hk0:t.kind=0
   ·simp only[hk0,if_true] at h
    cases h
    intro u hu;rw[List.mem_singleton] at hu;subst hu;rw[hk0] at ht';exact ht'
   ·simp only[hk0,if_false] at h
    cases hl:lexB f false (l.drop (skipN false l+n)) (p+skipN false l+n) with
    | error e=>rw[hl] at h;cases h
    | ok us =>
     rw[hl] at h
     cases h
     intro u hu
     cases hu with
     | head=>exact ht'
     | tail _ hu =>
      have h1:=ih _ _ _ _ hl u hu;rw[List.length_drop] at h1;exact⟨h1.1,by omega,by omega⟩
theorem lexB_num (L:List UInt8):∀ (f:Nat)(first:Bool)(k:Nat)(ts:List BTok),k≤L.length→lexB f first (L.drop k) k = .ok ts→ts.length≤L.length - k+1:=by
 intro f
 induction f with
 | zero=>intro first k ts _ h;cases h;simp
 | succ f ih =>
  intro first k ts hk h;rw[lexB] at h;have hs:=skipN_le false (L.drop k);have hfront:=skip_front false (L.drop k);rw[List.length_drop] at hs;rw[List.drop_drop] at h hfront;obtain⟨j,hj⟩:∃ j,k+skipN false (L.drop k)=j:=⟨_,rfl⟩;rw[hj] at h hfront
  cases ht:tokenB (L.drop j) j with
  | error e=>rw[ht] at h;cases h
  | ok y =>
   obtain⟨t,n⟩:=y;rw[ht] at h;obtain⟨n1,n2,n3,n4,n5⟩:=tokenB_takes _ _ _ _ ht;rw[List.length_drop] at n1
   by_cases hk0:t.kind=0
   ·simp only[hk0,if_true] at h
    cases h
    simp
   ·simp only[hk0,if_false] at h;have hn1:1≤n:=n5 hfront (fun e=>hk0 (n4.2 e))
    have hd:(L.drop k).drop (skipN false (L.drop k)+n)=L.drop (j+n):=by rw[List.drop_drop];congr 1;omega
    rw[hd] at h
    cases hl:lexB f false (L.drop (j+n)) (j+n) with
    | error e=>rw[hl] at h;cases h
    | ok us =>
     rw[hl] at h
     cases h
     have:=ih false (j+n) us (by omega) hl
     rw[List.length_cons];omega
structure LexT (L:List UInt8) (ts:List BTok):Prop where
 good:GoodT ts
 w:∀ i,TokW (tkAt ts i)
 place:∀ i,(tkAt ts i).place≤L.length
 num:ts.length≤L.length+1
theorem lexB_t (L:List UInt8)(hL:L.length≤8192)(ts:List BTok)(h:lexB (L.length+1) true L 0 = .ok ts):LexT L ts:=by
 have hd:L.drop 0=L:=List.drop_zero;have hw:=lexB_w _ _ _ _ _ h;obtain⟨t,us,rfl,_,_,_,_,hc⟩:=lexB_chain L (L.length+1) true 0 ts (Nat.zero_le _) (by omega) (by rw[hd];exact h)
 have hn:=lexB_num L (L.length+1) true 0 (t :: us) (Nat.zero_le _) (by rw[hd];exact h)
 obtain⟨v,h1,h2⟩:=chain_last L us t hc
 have hall:∀ i,(i<(t :: us).length∧tkAt (t :: us) i∈(t :: us))∨tkAt (t :: us) i=⟨0,0,0,[],false⟩:=fun i=>by
  unfold tkAt;rw[List.getD_eq_getElem?_getD]
  by_cases hi:i<(t :: us).length
  ·rw[List.getElem?_eq_getElem hi];exact .inl ⟨hi,List.getElem_mem hi⟩
  ·rw[List.getElem?_eq_none (by omega)]
   exact .inr rfl
 refine ⟨⟨by simp,?_,fun i=>?_⟩,fun i=>?_,fun i=>?_,by omega⟩
 ·unfold tkAt;rw[List.getD_eq_getElem?_getD,← List.getLast?_eq_getElem?,h1];exact h2
 ·rcases hall i with ⟨_,h⟩ | h
  ·have:=(hw _ h).2.1
   omega
  ·rw[h];exact Nat.zero_le _
 ·rcases hall i with ⟨_,h⟩ | h
  ·exact (hw _ h).1
  ·rw[h];exact⟨fun e=>by simp at e,fun e=>by cases e⟩
 ·rcases hall i with ⟨_,h⟩ | h
  ·have:=(hw _ h).2.2
   omega
  ·rw[h];exact Nat.zero_le _
theorem parseB_may (L:List UInt8)(hL:L.length≤8192):match parseB L with
  | .ok l=>checkP l=none∧∀ x∈l,okB x.kind=true
  | .error (c,p)=>(c=111∧p=none)∨∃ q,p=some q∧q≤L.length:=by
 unfold parseB
 cases hl:lexB (L.length+1) true L 0 with
 | error e =>
  obtain⟨c,p⟩:=e;have hd:L.drop 0=L:=List.drop_zero;have:=lexB_err L (L.length+1) true 0 c p (Nat.zero_le _) (by rw[hd];exact hl)
  exact .inr ⟨p,rfl,by omega⟩
 | ok ts =>
  have hT:=lexB_t L hL ts hl;have hn:=(nnAll hT.good (12 * ts.length+11)).list 0 0 hT.good.pos (by omega)
  have hp:=(postAll hT.good (12 * ts.length+11)).list 0 0 hT.good.pos;have hw:=(wAll hT.w (12 * ts.length+11)).list 0 0;dsimp only
  cases hx:pList ts (12 * ts.length+11) 0 0 with
  | none=>exact absurd hx hn
  | some r =>
   cases r with
   | error e =>
    obtain⟨c,p⟩:=e;obtain⟨_,i,_,rfl⟩:=hp.2 c p hx;exact .inr ⟨_,rfl,hT.place i⟩
   | ok y =>
    obtain⟨l,i⟩:=y;have hwf:=hw l i hx;dsimp only;split
    ·rename_i heq
     split at heq
     ·cases heq
     ·rcases check_wf hwf with h | h | ⟨p,h⟩
      ·rw[h] at heq
       cases heq
       obtain⟨D,hD⟩:=hwf;exact⟨h,hD.kinds⟩
      ·rw[h] at heq;cases heq
      ·rw[h] at heq;cases heq
    ·rename_i heq
     split at heq
     ·cases heq
      exact .inr ⟨_,rfl,hT.place i⟩
     ·rcases check_wf hwf with h | h | ⟨p,h⟩
      ·rw[h] at heq;cases heq
      ·rw[h] at heq
       cases heq
       exact .inl ⟨rfl,rfl⟩
      ·rw[h] at heq
       cases heq
       exact .inr ⟨0,rfl,Nat.zero_le _⟩
end Go.Proofs.YtbplbehhlbkklaaGreatDoor
namespace Go.Proofs.YtbplbehhlbkklaaGreatDoor
set_option maxHeartbeats 4000000
open Go Go.RowKit
def keysL:List UInt8:=[32,105,102,32,101,108,115,101,32,119,104,105,108,101,32,102,111,114,32,105,110,32,115,119,105,116,99,104,32,99,97,115,101,32,102,110,32]
theorem run_of_prefix:∀ (s m:List UInt8),(∀ c∈s,c≠32)→(s++[32]).isPrefixOf m=true→s=m.takeWhile (fun c=>c != 32)
 | [],m,_,h=>by
  cases m with
  | nil=>simp at h
  | cons a m =>
   have:(32:UInt8)=a:=by simpa [List.isPrefixOf] using h
   subst this;rfl
 | c :: s,m,hs,h=>by
  cases m with
  | nil=>simp at h
  | cons a m =>
   have h':c=a∧(s++[32]).isPrefixOf m=true:=by simpa [List.isPrefixOf] using h
   obtain⟨rfl,h2⟩:=h';have hc:=hs c (by simp)
   rw[List.takeWhile_cons,if_pos (by simpa using hc),← run_of_prefix s m (fun x hx=>hs x (by simp [hx])) h2]
theorem runs_all:((List.range 38).all fun i=>(keysL.drop i).headD 0 != 32 || ((keysL.drop (i+1)).takeWhile (fun c=>c != 32)).isEmpty || keyB ((keysL.drop (i+1)).takeWhile (fun c=>c != 32)))=true:=by decide +kernel
theorem keys_have:(keyL.all fun s=>Lib.contains keysL (32 :: (s++[32])))=true:=by decide +kernel
theorem keys_in (s:List UInt8)(hb:∀ c∈s,c≠32)(hne:s≠[]):Lib.contains keysL (32 :: (s++[32]))=keyB s:=by
 rw[Bool.eq_iff_iff];constructor
 ·intro h;unfold Lib.contains at h;rw[decide_eq_true_eq] at h
  rcases Lib.index_spec keysL (32 :: (s++[32])) with ⟨h1,_⟩ | ⟨i,h1,h2,h3,_⟩
  ·omega
  ·unfold Lib.occAt at h3;have h4:=List.all_eq_true.1 runs_all i (List.mem_range.2 (by have:keysL.length=37:=rfl;omega))
   have hd:keysL.drop (i+1)=(keysL.drop i).drop 1:=by rw[List.drop_drop]
   cases hk:keysL.drop i with
   | nil=>rw[hk] at h3;simp [List.isPrefixOf] at h3
   | cons a m =>
    rw[hk] at h3;have h5:(32:UInt8)=a∧(s++[32]).isPrefixOf m=true:=by simpa [List.isPrefixOf] using h3
    obtain⟨rfl,h6⟩:=h5;have h7:=run_of_prefix s m hb h6;rw[hd,hk] at h4;have h8:(m.takeWhile fun c=>c != 32)=s:=h7.symm
    simp only[List.headD_cons,List.drop_succ_cons,List.drop_zero,h8] at h4
    have h9:s.isEmpty=false:=by cases s with
     | nil=>exact absurd rfl hne
     | cons c s=>rfl
    simpa [h9] using h4
 ·intro h;unfold keyB at h;rw[List.contains_iff_mem] at h;exact List.all_eq_true.1 keys_have s h
theorem key_blank (s:List UInt8)(h:(32:UInt8)∈s):keyB s=false:=by
 have hall:(keyL.all fun s=>!s.contains 32)=true:=by decide +kernel
 cases hk:keyB s with
 | false=>rfl
 | true =>
  unfold keyB at hk;rw[List.contains_iff_mem] at hk;have:=List.all_eq_true.1 hall s hk
  rw[List.contains_iff_mem.2 h] at this
  cases this
theorem blank_in (s:List UInt8):decide (0≤Lib.indexByte s 32)=s.contains 32:=(Lib.contains_iff_indexByte s 32).symm
end Go.Proofs.YtbplbehhlbkklaaGreatDoor
