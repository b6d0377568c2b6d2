/- Dialect B's parser, as plain functions on lists of tokens. No program stands in it. -/
import Derived.Test.YtbfeoinoepoiaaaGreatDoorGZA
import Derived.Lib.IndexMore
import Derived.Lib.IndexAny
namespace Go.Proofs.YtbfeoinoepoiaaaGreatDoor
open Go Go.RowKit
structure PNode where
 kind:Int
 n:Int
 k:Int
 size:Int
 text:List UInt8
deriving DecidableEq
def PNode.cells (x:PNode):List Value:=[.int .i64 x.kind,.int .i64 x.n,.int .i64 x.k,.int .i64 x.size,.string (bs x.text)]
abbrev Prog:=List PNode
def newP (kind n:Int) (s:List UInt8) (kids:List Prog):Prog:=⟨kind,n,kids.length,kids.flatten.length+1,s⟩ :: kids.flatten
def litP (s:List UInt8):Prog:=newP 1 0 s []
def seqP:List Prog→Prog
 | []=>newP 20 0 [] []
 | [l]=>l
 | l=>newP 23 0 [] l
def catP:List Prog→Prog
 | [l]=>l
 | l=>newP 3 0 [] l
def piecesP:Nat→List UInt8→List (UInt8 × Bool × Nat) × Bool
 | _,[]=>([],false)
 | i,[c]=>if c.toNat=92 then ([(c,true,i)],true) else ([(c,false,i)],false)
 | i,c :: d :: l =>
  if c.toNat=92 then ((d,true,i) :: (piecesP (i+2) l).1,(piecesP (i+2) l).2)
  else ((c,false,i) :: (piecesP (i+1) (d :: l)).1,(piecesP (i+1) (d :: l)).2)
def pieceIs (p:UInt8 × Bool × Nat) (c:Nat):Bool:=decide (p.1.toNat=c) && !p.2.1
def setEnds (l:List (UInt8 × Bool × Nat)):Bool:=(l.drop 2).any fun p=>pieceIs p 93
def liveL:List (UInt8 × Bool × Nat)→Bool
 | []=>false
 | p :: l=>pieceIs p 42 || pieceIs p 63 || (pieceIs p 91 && setEnds (p :: l)) || liveL l
def liveP (s:List UInt8):Bool:=liveL (piecesP 0 s).1
def isClosed (s:List UInt8):Bool:=!(piecesP 0 s).2
def escapeP:List UInt8→List UInt8
 | []=>[]
 | c :: l=>(if [42,63,91,93,92,32,9,10].contains c.toNat then [92,c] else [c])++escapeP l
def tkAt (ts:List BTok) (i:Nat):BTok:=ts.getD i ⟨0,0,0,[],false⟩
def isK (ts:List BTok) (i:Nat) (ks:List Nat):Bool:=ks.contains (tkAt ts i).kind
def skP (ts:List BTok) (i:Nat):Nat:=min (i+1) (ts.length - 1)
def passP (ts:List BTok) (ks:List Nat):Nat→Nat→Nat
 | 0,i=>i
 | f+1,i=>if isK ts i ks=true then passP ts ks f (skP ts i) else i
abbrev PRes (α:Type):=Option (Except (Nat × Nat) (α × Nat))
def pOk {α:Type} (a:α) (i:Nat):PRes α:=some (.ok (a,i))
def pErr {α:Type} (c p:Nat):PRes α:=some (.error (c,p))
def PRes.go {α β:Type} (x:PRes α) (k:α→Nat→PRes β):PRes β :=
 match x with
 | none=>none
 | some (.error e)=>some (.error e)
 | some (.ok (a,i))=>k a i
def isLit:Prog→Bool
 | [x]=>decide (x.kind=1)
 | _=>false
def madeP (sets:List (List UInt8 × Prog)) (words:List Prog):Prog :=
 if words.length=0 then seqP (sets.map fun x=>newP 22 0 x.1 [x.2])
 else sets.foldr (fun x c=>newP 35 0 x.1 [x.2,c]) (newP 21 0 [] words)
def joinStep (out:List Prog) (x:Prog):List Prog :=
 match out.getLast?,x with
 | some [y],[z]=>if y.kind=1∧z.kind=1 then out.dropLast++[newP 1 z.n (y.text++z.text) []] else out++[x]
 | _,_=>out++[x]
def tooLong (l:Prog):Bool:=l.any fun x=>decide (x.kind=1) && decide (2000<x.text.length)
end Go.Proofs.YtbfeoinoepoiaaaGreatDoor
namespace Go.Proofs.YtbfeoinoepoiaaaGreatDoor
open Go Go.RowKit
def txP (l:Prog):Nat:=(l.map fun x=>x.text.length).sum
theorem txP_nil:txP []=0:=rfl
theorem txP_append (l m:Prog):txP (l++m)=txP l+txP m:=by simp [txP]
theorem txP_cons (x:PNode) (m:Prog):txP (x :: m)=x.text.length+txP m:=by simp [txP]
theorem len_newP (kind n:Int) (s:List UInt8) (kids:List Prog):(newP kind n s kids).length=kids.flatten.length+1:=rfl
theorem txP_newP (kind n:Int) (s:List UInt8) (kids:List Prog):txP (newP kind n s kids)=s.length+txP kids.flatten:=by rw [newP,txP_cons]
theorem flat_snoc (l:List Prog) (x:Prog):(l++[x]).flatten=l.flatten++x:=by simp
theorem len_seqP (l:List Prog):(seqP l).length≤l.flatten.length+1∧txP (seqP l)=txP l.flatten:=by
 unfold seqP
 split
 ·exact ⟨Nat.le_refl _,rfl⟩
 ·simp
 ·exact ⟨by rw [len_newP]; omega,by rw [txP_newP]; simp⟩
theorem len_catP (l:List Prog):(catP l).length≤l.flatten.length+1∧txP (catP l)=txP l.flatten:=by
 unfold catP
 split
 ·simp
 ·exact ⟨by rw [len_newP]; omega,by rw [txP_newP]; simp⟩
theorem joinStep_len (out:List Prog) (x:Prog):(joinStep out x).flatten.length≤out.flatten.length+x.length∧txP (joinStep out x).flatten=txP out.flatten+txP x∧(joinStep out x).length≤out.length+1:=by
 unfold joinStep
 split
 ·rename_i y z hy
  obtain ⟨Q,rfl⟩:=List.getLast?_eq_some_iff.1 hy
  split
  ·rw [List.dropLast_concat]
   refine ⟨?_,?_,?_⟩
   ·simp [newP]
   ·simp [newP,txP]; omega
   ·simp
  ·exact ⟨by simp,by rw [flat_snoc,txP_append],by simp⟩
 ·exact ⟨by simp,by rw [flat_snoc,txP_append],by simp⟩
theorem join_fold:∀ (l out:List Prog),(l.foldl joinStep out).flatten.length≤out.flatten.length+l.flatten.length∧txP (l.foldl joinStep out).flatten=txP out.flatten+txP l.flatten∧(l.foldl joinStep out).length≤out.length+l.length
 | [],out=>⟨by simp,by simp [txP_nil],by simp⟩
 | x :: l,out=>by
  obtain ⟨a1,a2,a3⟩:=joinStep_len out x
  obtain ⟨b1,b2,b3⟩:=join_fold l (joinStep out x)
  rw [List.foldl_cons,List.flatten_cons,List.length_append,txP_append,List.length_cons]
  omega
theorem escapeP_len:∀ (s:List UInt8),(escapeP s).length≤2 * s.length
 | []=>Nat.le_refl _
 | c :: l=>by
  have:=escapeP_len l
  rw [escapeP,List.length_append,List.length_cons]
  split <;> simp only [List.length_cons,List.length_nil] <;> omega
def turnsLen (l:List (Nat × Prog)):Nat:=(l.map fun t=>t.2.length+1).sum
def turnsTx (l:List (Nat × Prog)):Nat:=(l.map fun t=>txP t.2).sum
def setsLen (l:List (List UInt8 × Prog)):Nat:=(l.map fun t=>t.2.length+1).sum
def setsTx (l:List (List UInt8 × Prog)):Nat:=(l.map fun t=>t.1.length+txP t.2).sum
theorem made_len (sets:List (List UInt8 × Prog)) (words:List Prog):(madeP sets words).length≤setsLen sets+words.flatten.length+1∧txP (madeP sets words)=setsTx sets+txP words.flatten:=by
 unfold madeP
 split
 ·rename_i h
  obtain rfl:words=[]:=List.length_eq_zero_iff.1 h
  have h1:∀ l:List (List UInt8 × Prog),(l.map fun x=>newP 22 0 x.1 [x.2]).flatten.length=setsLen l∧txP (l.map fun x=>newP 22 0 x.1 [x.2]).flatten=setsTx l:=by
   intro l
   induction l with
   | nil=>exact ⟨rfl,rfl⟩
   | cons t l ih =>
    rw [List.map_cons,List.flatten_cons,List.length_append,txP_append,len_newP,txP_newP,ih.1,ih.2]
    simp [setsLen,setsTx]
  have h2:=len_seqP (sets.map fun x=>newP 22 0 x.1 [x.2])
  rw [(h1 sets).1,(h1 sets).2] at h2
  simp only [List.flatten_nil,List.length_nil,txP_nil]
  omega
 ·have h1:∀ (l:List (List UInt8 × Prog)) (c:Prog),(l.foldr (fun x c=>newP 35 0 x.1 [x.2,c]) c).length=setsLen l+c.length∧txP (l.foldr (fun x c=>newP 35 0 x.1 [x.2,c]) c)=setsTx l+txP c:=by
   intro l c
   induction l with
   | nil=>exact ⟨by simp [setsLen],by simp [setsTx]⟩
   | cons t l ih =>
    rw [List.foldr_cons,len_newP,txP_newP]
    simp only [List.flatten_cons,List.flatten_nil,List.append_nil,List.length_append,txP_append,ih.1,ih.2]
    simp only [setsLen,setsTx,List.map_cons,List.sum_cons]
    omega
  rw [(h1 sets _).1,(h1 sets _).2,len_newP,txP_newP]
  simp only [List.length_nil]
  omega
end Go.Proofs.YtbfeoinoepoiaaaGreatDoor
namespace Go.Proofs.YtbfeoinoepoiaaaGreatDoor
open Go Go.RowKit
theorem turnsLen_snoc (l:List (Nat × Prog)) (t:Nat × Prog):turnsLen (l++[t])=turnsLen l+(t.2.length+1):=by simp [turnsLen]
theorem turnsTx_snoc (l:List (Nat × Prog)) (t:Nat × Prog):turnsTx (l++[t])=turnsTx l+txP t.2:=by simp [turnsTx]
theorem setsLen_snoc (l:List (List UInt8 × Prog)) (t:List UInt8 × Prog):setsLen (l++[t])=setsLen l+(t.2.length+1):=by simp [setsLen]
theorem setsTx_snoc (l:List (List UInt8 × Prog)) (t:List UInt8 × Prog):setsTx (l++[t])=setsTx l+(t.1.length+txP t.2):=by simp [setsTx]
theorem len_two (kind n:Int) (s:List UInt8) (a b:Prog):(newP kind n s [a,b]).length=a.length+b.length+1∧txP (newP kind n s [a,b])=s.length+(txP a+txP b):=by
 rw [len_newP,txP_newP]
 simp [txP_append]
theorem len_one (kind n:Int) (s:List UInt8) (a:Prog):(newP kind n s [a]).length=a.length+1∧txP (newP kind n s [a])=s.length+txP a:=by
 rw [len_newP,txP_newP]
 simp
theorem len_none (kind n:Int) (s:List UInt8):(newP kind n s []).length=1∧txP (newP kind n s [])=s.length:=by
 rw [len_newP,txP_newP]
 simp [txP_nil]
theorem headD_le:∀ (l:List Prog),(l.headD []).length≤l.flatten.length∧txP (l.headD [])≤txP l.flatten
 | []=>⟨Nat.le_refl _,Nat.le_refl _⟩
 | a :: l=>by
  rw [List.headD_cons,List.flatten_cons,List.length_append,txP_append]
  omega
end Go.Proofs.YtbfeoinoepoiaaaGreatDoor
namespace Go.Proofs.YtbfeoinoepoiaaaGreatDoor
open Go Go.RowKit
end Go.Proofs.YtbfeoinoepoiaaaGreatDoor
namespace Go.Proofs.YtbfeoinoepoiaaaGreatDoor
open Go Go.RowKit
def isWord (k:Int):Bool:=decide (1≤k) && decide (k≤12)
def isCommand (k:Int):Bool:=decide (20≤k) && decide (k≤37)
def namedB (k:Int):Bool:=[2,22,29,31,35].contains k
def fieldsM (M:Nat) (x:PNode):Bool :=
 if x.kind=1 then (decide (x.n=0) || (decide (x.n=1) && isClosed x.text)) && decide (x.text.length≤M)
 else if x.kind=11 then decide (1≤x.n) && decide (x.n≤99) && decide (x.text=[])
 else if x.kind=33 then decide (1≤x.n) && decide (x.n≤3) && decide (x.text=[])
 else if x.n≠0 then false
 else if x.kind=2 then nameB x.text || decide (x.text=[42])
 else if namedB x.kind=true then nameB x.text
 else decide (x.text=[])
def fieldsB (x:PNode):Bool:=fieldsM 2000 x
def childrenB (x:PNode):Bool :=
 if [1,2,20].contains x.kind then decide (x.k=0)
 else if x.kind=3 then decide (0≤x.k)
 else if [4,21,37].contains x.kind then decide (1≤x.k)
 else if [23,32].contains x.kind then decide (2≤x.k)
 else if x.kind=24 then decide (x.k=3)
 else if [25,26,28,29,35,33,34].contains x.kind then decide (x.k=2)
 else if x.kind=30 then decide (1≤x.k) && decide (x.k % 2=1)
 else decide (x.k=1)
def takesB (kind:Int) (K k:Int):Bool :=
 if [12,23,32,24,25,26,28,27,31].contains kind then false
 else if [29,35,33,34].contains kind then decide (k=0)
 else if kind=30 then decide (k=0) || decide (k % 2=1)
 else if kind=37 then decide (k<K - 1)
 else true
def ndAt (l:Prog) (i:Nat):PNode:=l.getD i ⟨0,0,0,0,[]⟩
def fitP (l:Prog):Nat→Int→Nat→Nat→Bool
 | 0,left,_,_=>decide (left≤0)
 | f+1,left,c,e=>if left≤0 then true else if e≤c then false
  else if (ndAt l c).size<1∨((e:Int) - c)<(ndAt l c).size then true else fitP l f (left - 1) (c+(ndAt l c).size.toNat) e
def kindB (x:PNode) (word:Bool):Bool:=(word && isWord x.kind) || (!word && isCommand x.kind)
mutual
def lookP (l:Prog):Nat→Nat→Nat→Nat→Bool→Bool→Option (Option (Nat × Nat))
 | 0,_,_,_,_,_=>none
 | f+1,i,e,d,word,last =>
  let x:=ndAt l i
  if kindB x word=false∨fieldsB x=false∨childrenB x=false∨x.size<1∨((e:Int) - i)<x.size∨(last=true∧x.size≠(e:Int) - i) then some (some (110,i))
  else if x.k=0∧x.size≠1 then some (some (110,i))
  else if fitP l (x.size.toNat - 1) x.k (i+1) (i+x.size.toNat)=false then some (some (110,i))
  else if 30<d then some (some (102,i))
  else lookK l f 0 (i+1) (i+x.size.toNat) (d+1) x
def lookK (l:Prog):Nat→Nat→Nat→Nat→Nat→PNode→Option (Option (Nat × Nat))
 | 0,_,_,_,_,_=>none
 | f+1,k,c,e,d,x =>
  if x.k≤k then some none
  else match lookP l f c e d (takesB x.kind x.k k) (decide ((k:Int)=x.k - 1)) with
   | none=>none
   | some (some r)=>some (some r)
   | some none=>lookK l f (k+1) (c+(ndAt l c).size.toNat) e d x
end
inductive WFP (K:Int→Bool) (M:Nat):Bool→Nat→Prog→Prop
 | node (w:Bool) (D:Nat) (kind n:Int) (s:List UInt8) (kids:List Prog)
  (hk:(kindB ⟨kind,n,kids.length,0,s⟩ w && K kind)=true) (hf:fieldsM M ⟨kind,n,kids.length,0,s⟩=true) (hc:childrenB ⟨kind,n,kids.length,0,s⟩=true)
  (hK:∀ (j:Nat) (kid:Prog),kids[j]?=some kid→WFP K M (takesB kind kids.length j) D kid):WFP K M w (D+1) (newP kind n s kids)
theorem WFP.pos {K:Int→Bool} {M:Nat} {w:Bool} {D:Nat} {l:Prog} (h:WFP K M w D l):0<l.length∧(ndAt l 0).size=l.length:=by
 cases h
 exact ⟨by rw [newP]; simp,by rw [newP]; simp [ndAt]⟩
theorem WFP.mono {K:Int→Bool} {M:Nat} {w:Bool} {D:Nat} {l:Prog} (h:WFP K M w D l):∀ {E:Nat},D≤E→WFP K M w E l:=by
 induction h with
 | node w D kind n s kids hk hf hc hK ih =>
  intro E hE
  obtain ⟨E',rfl⟩:∃ E',E=E'+1:=⟨E - 1,by omega⟩
  exact .node w E' kind n s kids hk hf hc fun j kid h=>ih j kid h (by omega)
theorem WFP.kinds {K:Int→Bool} {M:Nat} {w:Bool} {D:Nat} {l:Prog} (h:WFP K M w D l):∀ x∈l,K x.kind=true:=by
 induction h with
 | node w D kind n s kids hk hf hc hK ih =>
  intro x hx
  rw [newP] at hx
  rcases List.mem_cons.1 hx with rfl | hx
  ·rw [Bool.and_eq_true] at hk
   exact hk.2
  ·obtain ⟨kid,h1,h2⟩:=List.mem_flatten.1 hx
   obtain ⟨j,hj⟩:=List.getElem?_of_mem h1
   exact ih j kid hj x h2
theorem ndAt_drop (l:Prog) (i:Nat) (a b:Prog) (h:l.drop i=a++b) (ha:0<a.length):ndAt l i=ndAt a 0∧i+a.length≤l.length:=by
 constructor
 ·have h1:l[i]?=a[0]?:=by
   have:=congrArg (fun m=>m[0]?) h
   simp only [List.getElem?_drop,Nat.add_zero] at this
   rw [this,List.getElem?_append_left ha]
  unfold ndAt
  rw [List.getD_eq_getElem?_getD,List.getD_eq_getElem?_getD,h1]
 ·have:=congrArg List.length h
  rw [List.length_drop,List.length_append] at this
  omega
theorem fit_wf {K:Int→Bool} {M:Nat} (l:Prog) (e:Nat):∀ (kids:List Prog) (c f:Nat) (post:Prog),(∀ kid∈kids,∃ w D,WFP K M w D kid)→l.drop c=kids.flatten++post→c+kids.flatten.length≤e→kids.flatten.length≤f→fitP l f kids.length c e=true:=by
 intro kids
 induction kids with
 | nil =>
  intro c f post _ _ _ _
  cases f <;> simp [fitP]
 | cons a kids ih =>
  intro c f post hw hd he hf
  obtain ⟨w,D,ha⟩:=hw a (by simp)
  obtain ⟨a1,a2⟩:=ha.pos
  rw [List.flatten_cons,List.append_assoc] at hd
  rw [List.flatten_cons,List.length_append] at he hf
  obtain ⟨f,rfl⟩:∃ g,f=g+1:=⟨f - 1,by omega⟩
  obtain ⟨n1,n2⟩:=ndAt_drop l c a _ hd a1
  rw [fitP,n1,a2]
  rw [if_neg (by simp only [List.length_cons]; omega),if_neg (by omega),if_neg (by omega),Int.toNat_natCast]
  have hl:(((a :: kids).length:Nat):Int) - 1=(kids.length:Nat):=by simp only [List.length_cons]; omega
  rw [hl]
  refine ih (c+a.length) f post (fun k hk=>hw k (by simp [hk])) ?_ (by omega) (by omega)
  rw [← List.drop_drop,hd,List.drop_left]
theorem look_wf {K:Int→Bool} {w:Bool} {D:Nat} {l:Prog} (h:WFP K 2000 w D l):∀ (L:Prog) (i e d:Nat) (last:Bool) (post:Prog) (f:Nat),L.drop i=l++post→i+l.length≤e→(last=true→e=i+l.length)→3 * l.length≤f →
  ∃ r,lookP L f i e d w last=some r∧(r=none∨∃ p,r=some (102,p))∧(d+D≤31→r=none):=by
 induction h with
 | node w D kind n s kids hk hf hc hK ih =>
  intro L i e d last post f hd he hlast hfu
  rw [Bool.and_eq_true] at hk
  replace hk:=hk.1
  have hlen:(newP kind n s kids).length=kids.flatten.length+1:=rfl
  obtain ⟨n1,n2⟩:=ndAt_drop L i (newP kind n s kids) post hd (by rw [hlen]; omega)
  rw [hlen] at he hlast hfu n2
  have hx:ndAt (newP kind n s kids) 0=⟨kind,n,kids.length,kids.flatten.length+1,s⟩:=rfl
  obtain ⟨f,rfl⟩:∃ g,f=g+1:=⟨f - 1,by omega⟩
  rw [lookP,n1,hx]
  have hkids:∀ kid∈kids,∃ w D,WFP K 2000 w D kid:=fun kid hkid=>by
   obtain ⟨j,hj⟩:=List.getElem?_of_mem hkid
   exact ⟨_,_,hK j kid hj⟩
  have hd1:L.drop (i+1)=kids.flatten++post:=by
   rw [← List.drop_drop,hd,newP]
   rfl
  have hsz:((kids.flatten.length:Int)+1).toNat=kids.flatten.length+1:=by omega
  have hfit:=fit_wf L (i+(kids.flatten.length+1)) kids (i+1) kids.flatten.length post hkids hd1 (by omega) (Nat.le_refl _)
  dsimp only
  rw [if_neg (by
   intro hh
   rcases hh with h1 | h1 | h1 | h1 | h1 | h1
   ·exact absurd (hk.symm.trans h1) (by simp)
   ·exact absurd (hf.symm.trans h1) (by simp)
   ·exact absurd (hc.symm.trans h1) (by simp)
   ·omega
   ·omega
   ·have:=hlast h1.1
    exact h1.2 (by omega))]
  rw [hsz]
  by_cases h0:kids.length=0
  ·obtain rfl:kids=[]:=List.length_eq_zero_iff.1 h0
   simp only [List.flatten_nil,List.length_nil] at hfit ⊢
   rw [if_neg (by intro hh; exact hh.2 (by simp)),if_neg (by intro hh; rw [show (0+1 - 1:Nat)=0 from rfl] at hh; rw [hfit] at hh; cases hh)]
   obtain ⟨f,rfl⟩:∃ g,f=g+1:=⟨f - 1,by simp only [List.flatten_nil,List.length_nil] at hfu; omega⟩
   split
   ·exact ⟨_,rfl,.inr ⟨_,rfl⟩,fun hdD=>by omega⟩
   ·refine ⟨none,?_,.inl rfl,fun _=>rfl⟩
    rw [lookK,if_pos (by simp)]
  ·rw [if_neg (by intro hh; exact h0 (by omega)),Nat.add_sub_cancel,if_neg (by rw [hfit]; simp)]
   split
   ·exact ⟨_,rfl,.inr ⟨_,rfl⟩,fun hdD=>by omega⟩
   ·rename_i hdep
    have hrest:∀ (rest:List Prog) (k c f:Nat) (post':Prog),kids.drop k=rest→L.drop c=rest.flatten++post→c+rest.flatten.length=i+(kids.flatten.length+1)→3 * rest.flatten.length+1≤f →
      ∃ r,lookK L f k c (i+(kids.flatten.length+1)) (d+1) ⟨kind,n,kids.length,kids.flatten.length+1,s⟩=some r∧(r=none∨∃ p,r=some (102,p))∧(d+(D+1)≤31→r=none):=by
     intro rest
     induction rest with
     | nil =>
      intro k c f _ hkd hLd hce hff
      obtain ⟨f,rfl⟩:∃ g,f=g+1:=⟨f - 1,by omega⟩
      have:kids.length≤k:=List.drop_eq_nil_iff.1 hkd
      refine ⟨none,?_,.inl rfl,fun _=>rfl⟩
      rw [lookK,if_pos (by dsimp only; omega)]
     | cons a rest ihr =>
      intro k c f post' hkd hLd hce hff
      have hka:kids[k]?=some a:=by
       have:=congrArg (fun m=>m[0]?) hkd
       simpa using this
      have hkl:k<kids.length:=(List.getElem?_eq_some_iff.1 hka).1
      have hkr:kids.drop (k+1)=rest:=by
       rw [← List.drop_drop,hkd]
       rfl
      have hrl:rest.length=kids.length - (k+1):=by rw [← hkr,List.length_drop]
      obtain ⟨a1,a2⟩:=(hK k a hka).pos
      rw [List.flatten_cons,List.append_assoc] at hLd
      rw [List.flatten_cons,List.length_append] at hce hff
      obtain ⟨f,rfl⟩:∃ g,f=g+1:=⟨f - 1,by omega⟩
      obtain ⟨m1,m2⟩:=ndAt_drop L c a _ hLd a1
      obtain ⟨r,q1,q2,q3⟩:=ih k a hka L c (i+(kids.flatten.length+1)) (d+1) (decide ((k:Int)=(kids.length:Nat) - 1)) _ f hLd (by omega) (fun hl=>by
       have hl':(k:Int)=(kids.length:Nat) - 1:=by simpa using hl
       have:rest=[]:=List.length_eq_zero_iff.1 (by omega)
       subst this
       simp only [List.flatten_nil,List.length_nil] at hce
       omega) (by omega)
      rw [lookK,if_neg (by dsimp only; omega)]
      dsimp only
      rw [q1]
      match r,q2,q3 with
      | some r,q2,q3=>exact ⟨_,rfl,q2,fun hdD=>q3 (by omega)⟩
      | none,_,_ =>
       dsimp only
       rw [m1,a2,Int.toNat_natCast]
       exact ihr (k+1) (c+a.length) f post' hkr (by rw [← List.drop_drop,hLd,List.drop_left]) (by omega) (by omega)
    exact hrest kids 0 (i+1) f post rfl hd1 (by omega) (by omega)
end Go.Proofs.YtbfeoinoepoiaaaGreatDoor
namespace Go.Proofs.YtbfeoinoepoiaaaGreatDoor
open Go Go.RowKit
theorem fieldsM_mono {M N:Nat} (h:M≤N) (x:PNode) (hx:fieldsM M x=true):fieldsM N x=true:=by
 unfold fieldsM at hx ⊢
 split
 ·rename_i h1
  rw [if_pos h1] at hx
  simp only [Bool.and_eq_true,decide_eq_true_eq] at hx ⊢
  exact ⟨hx.1,by omega⟩
 ·rename_i h1
  rw [if_neg h1] at hx
  exact hx
theorem WFP.widen {K:Int→Bool} {M N:Nat} (h:M≤N) {w:Bool} {D:Nat} {l:Prog} (hl:WFP K M w D l):WFP K N w D l:=by
 induction hl with
 | node w D kind n s kids hk hf hc hK ih=>exact .node w D kind n s kids hk (fieldsM_mono h _ hf) hc ih
theorem WFP.short {K:Int→Bool} {M N:Nat} {w:Bool} {D:Nat} {l:Prog} (hl:WFP K M w D l):(∀ x∈l,x.kind=1→x.text.length≤N)→WFP K N w D l:=by
 induction hl with
 | node w D kind n s kids hk hf hc hK ih =>
  intro hN
  refine .node w D kind n s kids hk ?_ hc fun j kid hj=>ih j kid hj fun x hx=>hN x ?_
  ·have h1:=hN ⟨kind,n,kids.length,kids.flatten.length+1,s⟩ (by rw [newP]; simp)
   unfold fieldsM at hf ⊢
   split
   ·rename_i h2
    rw [if_pos h2] at hf
    simp only [Bool.and_eq_true,decide_eq_true_eq] at hf ⊢
    exact ⟨hf.1,h1 h2⟩
   ·rename_i h2
    rw [if_neg h2] at hf
    exact hf
  ·rw [newP]
   exact List.mem_cons_of_mem _ (List.mem_flatten.2 ⟨kid,List.mem_of_getElem? hj,hx⟩)
theorem kids1 {P:Nat→Prog→Prop} {a:Prog} (h:P 0 a):∀ (j:Nat) (kid:Prog),[a][j]?=some kid→P j kid
 | 0,_,e=>by cases e; exact h
 | j+1,_,e=>by simp at e
theorem kids2 {P:Nat→Prog→Prop} {a b:Prog} (h:P 0 a) (h1:P 1 b):∀ (j:Nat) (kid:Prog),[a,b][j]?=some kid→P j kid
 | 0,_,e=>by cases e; exact h
 | 1,_,e=>by cases e; exact h1
 | j+2,_,e=>by simp at e
theorem kids3 {P:Nat→Prog→Prop} {a b c:Prog} (h:P 0 a) (h1:P 1 b) (h2:P 2 c):∀ (j:Nat) (kid:Prog),[a,b,c][j]?=some kid→P j kid
 | 0,_,e=>by cases e; exact h
 | 1,_,e=>by cases e; exact h1
 | 2,_,e=>by cases e; exact h2
 | j+3,_,e=>by simp at e
theorem pieces_flag:∀ (l:List UInt8) (i j:Nat),(piecesP i l).2=(piecesP j l).2
 | [],_,_=>rfl
 | [c],_,_=>by simp only [piecesP]; split <;> rfl
 | c :: d :: l,i,j=>by
  simp only [piecesP]
  split
  ·exact pieces_flag l _ _
  ·exact pieces_flag (d :: l) _ _
theorem closed_cons (c d:UInt8) (l:List UInt8):isClosed (c :: d :: l)=if c.toNat=92 then isClosed l else isClosed (d :: l):=by
 unfold isClosed
 rw [piecesP]
 split
 ·exact congrArg _ (pieces_flag l _ _)
 ·exact congrArg _ (pieces_flag (d :: l) _ _)
theorem closed_append:∀ (a b:List UInt8),isClosed a=true→isClosed b=true→isClosed (a++b)=true
 | [],b,_,h=>h
 | [c],b,h1,h2=>by
  have hc:¬ c.toNat=92:=by
   intro e
   simp [isClosed,piecesP,e] at h1
  cases b with
  | nil=>exact h1
  | cons d b =>
   rw [List.cons_append,List.nil_append,closed_cons,if_neg hc]
   exact h2
 | c :: d :: a,b,h1,h2=>by
  rw [closed_cons] at h1
  rw [List.cons_append,List.cons_append,closed_cons]
  split
  ·rename_i hc
   rw [if_pos hc] at h1
   exact closed_append a b h1 h2
  ·rename_i hc
   rw [if_neg hc] at h1
   exact closed_append (d :: a) b h1 h2
theorem escapeP_closed:∀ (s:List UInt8),isClosed (escapeP s)=true
 | []=>rfl
 | c :: l=>by
  rw [escapeP]
  refine closed_append _ _ ?_ (escapeP_closed l)
  split
  ·rw [closed_cons,if_pos (by decide)]
   rfl
  ·rename_i hc
   have hc':¬ c.toNat=92:=by
    intro e
    rw [e] at hc
    exact hc (by decide)
   simp [isClosed,piecesP,hc']
end Go.Proofs.YtbfeoinoepoiaaaGreatDoor
namespace Go.Proofs.YtbfeoinoepoiaaaGreatDoor
open Go Go.RowKit
theorem mem_get {P:Prog→Prop} {l:List Prog} (h:∀ x∈l,P x) (j:Nat) (kid:Prog) (hj:l[j]?=some kid):P kid:=h kid (List.mem_of_getElem? hj)
def OkP {α:Type} (x:PRes α) (Q:α→Prop):Prop:=∀ a e,x=some (.ok (a,e))→Q a
theorem OkP.ok {α:Type} {Q:α→Prop} {a:α} {e:Nat} (h:Q a):OkP (pOk a e) Q:=fun _ _ h'=>by cases h'; exact h
theorem OkP.err {α:Type} {Q:α→Prop} {c p:Nat}:OkP (pErr c p:PRes α) Q:=fun _ _ h=>by cases h
theorem OkP.none {α:Type} {Q:α→Prop}:OkP (none:PRes α) Q:=fun _ _ h=>by cases h
theorem OkP.go {α β:Type} {x:PRes α} {k:α→Nat→PRes β} {Q:α→Prop} {R:β→Prop} (h:OkP x Q) (hk:∀ a e,Q a→OkP (k a e) R):OkP (x.go k) R:=by
 match x,h with
 | .none,_=>exact .none
 | some (.error e),_=>exact fun _ _ h'=>by cases h'
 | some (.ok (a,e)),h=>exact hk a e (h a e rfl)
theorem snoc_all {P:Prog→Prop} {l:List Prog} {x:Prog} (h:∀ y∈l,P y) (hx:P x):∀ y∈l++[x],P y:=fun y hy=>by
 rcases List.mem_append.1 hy with h' | h'
 ·exact h y h'
 ·rw [List.mem_singleton] at h'
  exact h' ▸ hx
end Go.Proofs.YtbfeoinoepoiaaaGreatDoor
namespace Go.Proofs.YtbfeoinoepoiaaaGreatDoor
open Go Go.RowKit
def checkP (l:Prog):Option (Nat × Option Nat) :=
 if l.length=0∨3000<l.length then some (111,none)
 else match lookP l (3 * l.length) 0 l.length 1 false true with
  | some none=>none
  | some (some (c,p))=>some (c,some p)
  | none=>some (0,none)
end Go.Proofs.YtbfeoinoepoiaaaGreatDoor
namespace Go.Proofs.YtbfeoinoepoiaaaGreatDoor
open Go Go.RowKit
theorem run_of_prefix:∀ (s m:List UInt8),(∀ c∈s,c≠32)→(s++[32]).isPrefixOf m=true→s=m.takeWhile (fun c=>c != 32)
 | [],m,_,h=>by
  cases m with
  | nil=>simp at h
  | cons a m =>
   have:(32:UInt8)=a:=by simpa [List.isPrefixOf] using h
   subst this
   rfl
 | c :: s,m,hs,h=>by
  cases m with
  | nil=>simp at h
  | cons a m =>
   have h':c=a∧(s++[32]).isPrefixOf m=true:=by simpa [List.isPrefixOf] using h
   obtain ⟨rfl,h2⟩:=h'
   have hc:=hs c (by simp)
   rw [List.takeWhile_cons,if_pos (by simpa using hc),← run_of_prefix s m (fun x hx=>hs x (by simp [hx])) h2]
theorem blank_in (s:List UInt8):decide (0≤Lib.indexByte s 32)=s.contains 32:=(Lib.contains_iff_indexByte s 32).symm
end Go.Proofs.YtbfeoinoepoiaaaGreatDoor
