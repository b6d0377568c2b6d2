/- Small lemmas on memory that every text of this seat uses: blocks known whole ('Blk'), frames ('Kept'), and the last step of a row. No program stands in it. -/
import Derived.WalkKit
import Derived.WalkSpells
import Derived.WalkLawsBesides
import Derived.Deep.QuietTactic
import Derived.BigQuiet
import Derived.Lib.QuietBelow
import Derived.Lib.Hide
import Derived.Deep.DeepFit
import Derived.Lib.Strings
import Derived.Laws.Bits
import Derived.Test.YtbpjobmpacjgcaaGreatDoorProg
import Derived.Test.YtbpjobmpacjgcaaGreatDoorGShelf
import Derived.Lib.Builder
import Derived.Lib.AppendStr
import Derived.Deep.LoopGhost
import Derived.Deep.RegionHeld3
import Derived.Deep.CutBlock
import Derived.Deep.DeepCutAuto
namespace Go.Proofs.YtbpjobmpacjgcaaGreatDoor
open Go Go.RowKit
theorem Ng {p : Prop} (h : p) : Hid p := Lib.hid h
structure aB (S:Nat→Prop) (w w':World):Prop where
 os:w'.os=w.os
 tape:w'.tape=w.tape
 output:w'.output=w.output
 size:w.heap.size≤w'.heap.size
 block:∀ k,k<w.heap.size→¬ S k→w'.heap[k]?=w.heap[k]?
def bW (_:Nat):Prop:=False
def At (b:Nat) (k:Nat):Prop:=k=b
theorem aB.refl (S:Nat→Prop)(w:World):aB S w w:=⟨rfl,rfl,rfl,Nat.le_refl _,fun _ _ _=>rfl⟩
theorem aB.trans {S T:Nat→Prop}{a b c:World}(h:aB S a b)(k:aB T b c)(hT:∀ i,i<a.heap.size→T i→S i):aB S a c :=
 ⟨k.os.trans h.os,k.tape.trans h.tape,k.output.trans h.output,Nat.le_trans h.size k.size,
  fun i hi hn=>(k.block i (Nat.lt_of_lt_of_le hi h.size) (fun e=>hn (hT i hi e))).trans (h.block i hi hn)⟩
theorem aB.mono {S T:Nat→Prop}{w w':World}(h:aB S w w')(hS:∀ i,i<w.heap.size→S i→T i):aB T w w' :=
 ⟨h.os,h.tape,h.output,h.size,fun k hk hn=>h.block k hk (fun e=>hn (hS k hk e))⟩
theorem aB.same {S:Nat→Prop}{a b c:World}(h:aB S a b)(k:aB S b c):aB S a c:=h.trans k fun _ _ e=>e
theorem aB.ofBelow {S:Nat→Prop}{w w':World}(h:Below w.heap.size w w'):aB S w w':=⟨h.os,h.tape,h.output,h.size,fun k hk _=>h.block k hk⟩
theorem aB.andBelow {S:Nat→Prop}{a b c:World}(h:aB S a b)(k:Below b.heap.size b c):aB S a c:=h.same (.ofBelow k)
theorem aB.toBelow {w w':World}(h:aB bW w w'):Below w.heap.size w w':=⟨h.os,h.tape,h.output,h.size,fun k hk=>h.block k hk (fun e=>e)⟩
theorem aB.below {S:Nat→Prop}{B:Nat}{w w':World}(h:aB S w w')(hB:B≤w.heap.size)(hS:∀ k,k<B→¬ S k):Below B w w' :=
 ⟨h.os,h.tape,h.output,h.size,fun k hk=>h.block k (Nat.lt_of_lt_of_le hk hB) (hS k hk)⟩
theorem aB.fresh {S:Nat→Prop}{a b c:World}(h:Below a.heap.size a b)(k:aB S b c)(hS:∀ i,i<a.heap.size→¬ S i):Below a.heap.size a c :=
 h.trans (k.below h.size hS)
theorem aB.alloc {S:Nat→Prop}{a w:World}(h:aB S a w)(o:Obj):aB S a (w.alloc o) :=
 h.andBelow ((Below.refl _ _).alloc (Nat.le_refl _) _)
theorem aB.drew {S:Nat→Prop}{a w:World}(h:aB S a w):aB S a w.drew:=⟨h.os,h.tape,h.output,h.size,h.block⟩
theorem aB.drewN {S:Nat→Prop}{a w:World}(h:aB S a w)(n:Nat):aB S a (w.drewN n):=⟨h.os,h.tape,h.output,h.size,h.block⟩
theorem aB.setCell {S:Nat→Prop}{a w:World}(h:aB S a w){p:Addr}(hp:p.block<a.heap.size→S p.block)(u:Value):aB S a (w.setCell p u) :=
 ⟨h.os,h.tape,h.output,by simpa [World.setCell] using h.size,fun k hk hn=>by
  rw[Below.heap_setCell _ _ _ _ (fun e=>hn (by subst e;exact hp hk))]
  exact h.block k hk hn⟩
theorem aB.grown {S:Nat→Prop}{a w w':World}{row:Option Nat}(h:aB S a w)(hg:w.grownBy w' row)(hr:∀ k,row=some k→k<a.heap.size→S k):aB S a w' :=
 ⟨hg.os.trans h.os,hg.tape.trans h.tape,hg.output.trans h.output,Nat.le_trans h.size hg.size,
  fun k hk hn=>(hg.block k (Nat.lt_of_lt_of_le hk h.size) (fun e=>hn (hr k e.symm hk))).trans (h.block k hk hn)⟩
theorem aB.cell {S:Nat→Prop}{w w':World}(h:aB S w w'){p:Addr}{v:Value}(hc:w.cell? p=some v)(hn:¬ S p.block):w'.cell? p=some v :=
 (World.cell?_of_block (w:=w) (h.block p.block (block_lt_of_cell hc) hn)).trans hc
theorem sZ {B:Nat}{a w:World}(h:Below B a w)(n:Nat):Below B a (w.drewN n):=⟨h.os,h.tape,h.output,h.size,h.block⟩
theorem aF {w w':World}(h:Below w.heap.size w w'){p:Addr}{v:Value}(hc:w.cell? p=some v):w'.cell? p=some v :=
 (h.cell (block_lt_of_cell hc)).trans hc
theorem kT {w w':World}(h:Below w.heap.size w w'){p:Addr}{v:Value}(hc:w.cell? p=some v)(hf:w.frozen? p=false):w'.frozen? p=false :=
 (h.frozen (block_lt_of_cell hc)).trans hf
theorem aE {a b c:World}(h:Below a.heap.size a b)(k:Below b.heap.size b c):Below a.heap.size a c :=
 h.trans (k.mono h.size)
def Blk (w:World) (b:Nat) (cs:List Value):Prop:=∃ t,w.heap[b]?=some (.cells cs.toArray t (0,0))
section
variable {w w':World} {b:Nat} {cs:List Value}
theorem Blk.lt (h:Blk w b cs):b<w.heap.size:=by
 obtain⟨t,h⟩:=h;exact lt_of_block h
theorem Blk.cell (h:Blk w b cs)(i:Nat){v:Value}(hv:cs[i]?=some v):w.cell? ⟨b,i,none⟩=some v:=by
 obtain⟨t,h⟩:=h;simp [World.cell?,h,hv]
theorem Blk.free (h:Blk w b cs)(i:Nat):w.frozen? ⟨b,i,none⟩=false:=by
 obtain⟨t,h⟩:=h;simp [World.frozen?,h]
theorem Blk.of_heap (h:Blk w b cs)(he:w'.heap[b]?=w.heap[b]?):Blk w' b cs:=by
 obtain⟨t,h⟩:=h;exact⟨t,he.trans h⟩
theorem Blk.kept {S:Nat→Prop}(h:Blk w b cs)(hk:aB S w w')(hn:¬ S b):Blk w' b cs:=h.of_heap (hk.block b h.lt hn)
theorem Blk.below (h:Blk w b cs)(hk:Below w.heap.size w w'):Blk w' b cs:=h.of_heap (hk.block b h.lt)
theorem Blk.apart {a:Nat}{ds:List Value}(h:Blk w b cs)(k:Blk w a ds)(hl:cs.length≠ds.length):b≠a:=by
 obtain⟨t,h⟩:=h;obtain⟨u,k⟩:=k;intro e;subst e;rw[h] at k;simp only[Option.some.injEq,Obj.cells.injEq] at k;have:=congrArg Array.size k.1
 simp at this
 exact hl this
theorem Blk.alloc (h:Blk w b cs)(o:Obj):Blk (w.alloc o) b cs:=h.of_heap (Below.heap_alloc _ _ _ h.lt)
theorem Blk.drew (h:Blk w b cs):Blk w.drew b cs:=h
theorem Blk.drewN (h:Blk w b cs)(n:Nat):Blk (w.drewN n) b cs:=h
theorem Blk.other (h:Blk w b cs){p:Addr}(hp:p.block≠b)(u:Value):Blk (w.setCell p u) b cs:=h.of_heap (Below.heap_setCell _ _ _ _ (Ne.symm hp))
theorem Blk.new (w:World)(cs:List Value)(t:TypeId):Blk (w.alloc (.cells cs.toArray t)) w.heap.size cs :=
 ⟨t,by show (w.heap.push _)[w.heap.size]?=_;rw[Array.getElem?_push,if_pos rfl]⟩
theorem Blk.newAt {w:World}{b:Nat}(cs:List Value)(t:TypeId)(hb:b=w.heap.size):Blk (w.alloc (.cells cs.toArray t)) b cs:=by
 subst hb;exact Blk.new w cs t
theorem Blk.as {cs':List Value}(h:Blk w b cs)(he:cs=cs'):Blk w b cs':=he ▸ h
theorem Blk.set (h:Blk w b cs)(i:Nat)(u:Value):Blk (w.setCell ⟨b,i,none⟩ u) b (cs.set i u):=by
 obtain⟨t,h⟩:=h;refine ⟨t,?_⟩;have hlt:=lt_of_block h;have h':w.heap[b] = .cells cs.toArray t (0,0):=by simpa [Array.getElem?_eq_getElem hlt] using h
 show (w.heap.modify b _)[b]?=_
 rw[Array.getElem?_eq_getElem (by simpa using hlt),Array.getElem_modify_self,h']
 simp
end
theorem eY {P:Program}{fn:Func}{p u:Tmp}{ty:TypeId}(h:fn.results=#[.cell p ty,.tmp u])(tmps:Array Value)(w:World)(g:Nat)(cs:List Value)(d:TypeDesc)
  (hp:tmps.getD p undef = .pointer (some ⟨g,0,none⟩)) (hg:Blk w g cs) (hu:P.underlying ty=some d) (hd:(match d with | .struct _ | .array _ _=>true | _=>false)=true) (hi:(P.info? ty).map (·.size)=some cs.length) :
  (results fn tmps).run P w = .ok (.tuple #[.agg cs.toArray,tmps.getD u undef]) w:=by
 obtain⟨t,hg⟩:=hg;rw[results_cell_tmp h,hp];simp only[asAddr,Sem.run_pure,Result.andThen_ok];rw[run_loadVar_row w g t ty cs.toArray (0,0) d hg hu hd (by simpa using hi)]
 rfl
theorem eJ {P:Program}{c:Code}{Q:Exit→Act→World→Prop}{a:Act}{w:World}(F:World→Prop)(hF:F w)(h:∀ w1,F w1→c.wp P Q a w1):c.wp P Q a w:=h w hF
theorem b8 {w w':World}(h:∃ p:Regrown,w'=Go.Sort.grow (redrawn w p.d) p.os):Below w.heap.size w w':=by
 obtain⟨⟨dq,osq⟩,h⟩:=h;subst h;exact below_regrown w dq osq
def bat (s:ByteArray) (i:Nat):UInt8:=s.data.toList.getD i 0
theorem Ei (s:ByteArray)(i:Nat):(bat s i).toNat<256:=(bat s i).toNat_lt
theorem oL (s:ByteArray)(i:Nat)(h:i<s.size):s[i]=bat s i:=by
 have h1:i<s.data.size:=h;show s.data[i]=_
 simp [bat,List.getD,Array.getElem?_eq_getElem h1]
theorem dN (s:ByteArray)(i:Nat)(h:i<s.size):s.data.toList.drop i=bat s i :: s.data.toList.drop (i+1):=by
 have h1:i<s.data.toList.length:=by simpa using h
 have h2:i<s.data.size:=h;rw[List.drop_eq_getElem_cons h1];simp [bat,List.getD,Array.getElem?_eq_getElem h2]
theorem size_eq (s:ByteArray):s.data.toList.length=s.size:=by simp
def bs (l:List UInt8):ByteArray:=⟨l.toArray⟩
theorem aY (l:List UInt8):(bs l).size=l.length:=by
 show l.toArray.size=_
 simp
theorem bK (l:List UInt8):(bs l).data.toList=l:=by simp [bs]
theorem tI (s:ByteArray):bs s.data.toList=s:=by
 obtain⟨⟨l⟩⟩:=s;rfl
theorem MT {l m:List UInt8}(h:bs l=bs m):l=m:=by rw[← bK l,h,bK]
theorem BZ (s:ByteArray)(i j:Nat):s.extract i j=bs ((s.data.toList.take j).drop i):=by
 rw[← tI (s.extract i j),Lib.extract_data,List.drop_take]
def aZ (l:List UInt8) (i j:Int):List UInt8:=(l.take j.toNat).drop i.toNat
def yV (c:UInt8):Bool:=(decide (65≤c.toNat)&&decide (c.toNat≤90)) || (decide (97≤c.toNat)&&decide (c.toNat≤122))
def D0 (c:UInt8):Bool:=decide (48≤c.toNat)&&decide (c.toNat≤57)
def eL (c:UInt8):Bool:=yV c || c.toNat==95
def cP (c:UInt8):Bool:=eL c || D0 c
def eG:List UInt8→List UInt8
 | []=>[]
 | c :: l=>if eL c then (c :: l).takeWhile cP else []
def bI:List UInt8→Bool
 | []=>false
 | c :: l=>decide (l.length<20)&&eL c&&(c :: l).all cP
theorem Nd (c:UInt8):(decide ((97:Int)≤bits BinOp.or IntKind.u8 (c.toNat:Int) 32)&&decide (bits BinOp.or IntKind.u8 (c.toNat:Int) 32≤122))=yV c:=by
 have h:∀ n:Fin 256,(decide ((97:Int)≤bits BinOp.or IntKind.u8 (n.val:Int) 32)&&decide (bits BinOp.or IntKind.u8 (n.val:Int) 32≤122))=yV (UInt8.ofNat n.val):=by decide +kernel
 have h1:=h ⟨c.toNat,c.toNat_lt⟩;simpa using h1
def aU:Bool→List UInt8→Nat
 | _,[]=>0
 | true,c :: l=>if c.toNat=10 then 0 else aU true l+1
 | false,c :: l=>if c.toNat=32∨c.toNat=9 then aU false l+1 else if c.toNat=35 then aU true l+1 else 0
structure aH where
 kind:Nat
 place:Nat
 num:Nat
 text:List UInt8
 glue:Bool
def aH.cells (t:aH):List Value:=[.int .i64 t.kind,.int .i64 t.place,.int .i64 t.num,.string (bs t.text),.bool t.glue]
def cN:List (List UInt8):=[[],[10],[59],[38,38],[124,124],[124],[40],[41],[123],[125],[96,123],[60],[62],[62,62],[60,60,60],[94],[61],[33]]
def bB (l:List UInt8):List (List UInt8)→Nat→List UInt8→Nat→List UInt8×Nat
 | [],_,b,k=>(b,k)
 | o :: os,i,b,k=>if b.length<o.length∧Lib.hasPrefix l o=true then bB l os (i+1) o i else bB l os (i+1) b k
def gY (c:UInt8):Bool:=[32,9,10,59,38,124,40,41,123,125,60,62,94,61,33,36,96,39,35].contains c.toNat
def dU:List UInt8→Option (List UInt8×Nat)
 | []=>none
 | [c]=>if c.toNat=39 then some ([],1) else none
 | c :: d :: l =>
  if c.toNat=39 then (if d.toNat=39 then (dU l).map (fun x=>(39 :: x.1,x.2+2)) else some ([],1))
  else (dU (d :: l)).map (fun x=>(c :: x.1,x.2+1))
def lX (c:Nat):Nat:=if c=35∨c=34 then 1 else 0
def tG (c:Nat):Nat:=if c=35 then 21 else if c=34 then 22 else 20
def jV (l:List UInt8):List UInt8:=if Lib.hasPrefix l [42] then [42] else eG l
def mG (l:List UInt8):Option (Nat×Nat×List UInt8×Nat) :=
 if 49≤(l.headD 0).toNat∧(l.headD 0).toNat≤57 then some (23,(l.headD 0).toNat - 48,[],1)
 else if jV (l.drop (lX (l.headD 0).toNat))=[42]∨bI (jV (l.drop (lX (l.headD 0).toNat)))=true then
  some (tG (l.headD 0).toNat,0,jV (l.drop (lX (l.headD 0).toNat)),lX (l.headD 0).toNat+(jV (l.drop (lX (l.headD 0).toNat))).length)
 else none
theorem sD (l:List UInt8):(eG l).length≤l.length:=by
 cases l with
 | nil=>simp [eG]
 | cons c l =>
  rw[show eG (c :: l)=if eL c then (c :: l).takeWhile cP else [] from rfl]
  split
  ·exact (List.takeWhile_sublist _).length_le
  ·simp
theorem wQ (l:List UInt8):(jV l).length≤l.length:=by
 unfold jV;split
 ·rename_i h
  cases l with
  | nil=>exact absurd h (by decide)
  | cons c l=>simp
 ·exact sD l
def cY (l:List UInt8) (p:Nat):Except (Nat×Nat) (aH×Nat) :=
 match l with
 | []=>.ok (⟨0,p,0,[],false⟩,0)
 | c :: m =>
  let b:=bB l cN 0 [] 0
  if b.1≠[] then .ok (⟨b.2,p,0,[],false⟩,b.1.length)
  else if c.toNat=38∨c.toNat=96 then .error (107,p)
  else if c.toNat=39 then match dU m with
   | some (x,n)=>.ok (⟨19,p,0,x,false⟩,n+1)
   | none=>.error (103,p)
  else if c.toNat=36 then match mG m with
   | some (k,n,x,z)=>.ok (⟨k,p,n,x,false⟩,z+1)
   | none=>.error (106,p)
  else .ok (⟨18,p,0,l.takeWhile (fun c=>!gY c),false⟩,(l.takeWhile (fun c=>!gY c)).length)
def dZ:Nat→Bool→List UInt8→Nat→Except (Nat×Nat) (List aH)
 | 0,_,_,_=>.ok []
 | f+1,first,l,p =>
  match cY (l.drop (aU false l)) (p+aU false l) with
  | .error e=>.error e
  | .ok (t,n) =>
   if t.kind=0 then .ok [{ t with glue:=!first&&aU false l==0 }]
   else match dZ f false (l.drop (aU false l+n)) (p+aU false l+n) with
    | .error e=>.error e
    | .ok ts=>.ok ({ t with glue:=!first&&aU false l==0 } :: ts)
theorem pQ (b:Bool)(l:List UInt8):aU b l≤l.length:=by
 induction l generalizing b with
 | nil=>cases b <;> simp [aU]
 | cons c l ih =>
  have h1:=ih true;have h2:=ih false
  cases b <;> simp only[aU,List.length_cons] <;> (repeat' split) <;> omega
theorem AZ {l o:List UInt8}(h:Lib.hasPrefix l o=true):o.length≤l.length :=
 (List.isPrefixOf_iff_prefix.1 h).length_le
theorem CL (l:List UInt8)(ops:List (List UInt8)):∀ (i:Nat)(b:List UInt8)(k:Nat),b.length≤(bB l ops i b k).1.length∧∀ o∈ops,Lib.hasPrefix l o=true→o.length≤(bB l ops i b k).1.length:=by
 induction ops with
 | nil=>exact fun i b k=>⟨Nat.le_refl _,fun o ho=>by cases ho⟩
 | cons o os ih =>
  intro i b k;rw[bB];split
  ·rename_i h
   obtain⟨h1,h2⟩:=ih (i+1) o i;refine ⟨by omega,fun p hp hpre=>?_⟩
   cases hp with
   | head=>exact h1
   | tail _ hp=>exact h2 p hp hpre
  ·rename_i h
   obtain⟨h1,h2⟩:=ih (i+1) b k;refine ⟨h1,fun p hp hpre=>?_⟩
   cases hp with
   | head =>
    have:¬ b.length<o.length:=fun e=>h ⟨e,hpre⟩
    omega
   | tail _ hp=>exact h2 p hp hpre
theorem xN (l:List UInt8)(ops:List (List UInt8)):∀ (i:Nat)(b:List UInt8)(k:Nat),(bB l ops i b k=(b,k))∨(∃ j,ops[j]?=some (bB l ops i b k).1∧(bB l ops i b k).2=i+j∧Lib.hasPrefix l (bB l ops i b k).1=true∧b.length<(bB l ops i b k).1.length):=by
 induction ops with
 | nil=>exact fun i b k=>.inl rfl
 | cons o os ih =>
  intro i b k;rw[bB];split
  ·rename_i h
   refine .inr ?_
   rcases ih (i+1) o i with e | ⟨j,h1,h2,h3,h4⟩
   ·rw[e];exact⟨0,rfl,rfl,h.2,h.1⟩
   ·exact⟨j+1,by simpa using h1,by omega,h3,by omega⟩
  ·rcases ih (i+1) b k with e | ⟨j,h1,h2,h3,h4⟩
   ·exact .inl e
   ·exact .inr ⟨j+1,by simpa using h1,by omega,h3,h4⟩
theorem zL (l:List UInt8):(bB l cN 0 [] 0=([],0))∨(cN[(bB l cN 0 [] 0).2]?=some (bB l cN 0 [] 0).1∧Lib.hasPrefix l (bB l cN 0 [] 0).1=true∧0<(bB l cN 0 [] 0).1.length):=by
 rcases xN l cN 0 [] 0 with e | ⟨j,h1,h2,h3,h4⟩
 ·exact .inl e
 ·refine .inr ⟨?_,h3,h4⟩;rw[h2,Nat.zero_add];exact h1
theorem yW:∀ (l x:List UInt8)(n:Nat),dU l=some (x,n)→n≤l.length∧1≤n
 | [],x,n,h=>by cases h
 | [c],x,n,h=>by
  simp only[dU] at h;split at h
  ·cases h;exact⟨Nat.le_refl _,Nat.le_refl _⟩
  ·cases h
 | c :: d :: l,x,n,h=>by
  simp only[dU] at h;split at h
  ·split at h
   ·cases hd:dU l with
    | none=>rw[hd] at h;cases h
    | some y =>
     rw[hd] at h
     cases h
     have:=yW l y.1 y.2 hd
     simp only[List.length_cons];omega
   ·cases h
    simp only[List.length_cons];omega
  ·cases hd:dU (d :: l) with
   | none=>rw[hd] at h;cases h
   | some y =>
    rw[hd] at h
    cases h
    have:=yW (d :: l) y.1 y.2 hd
    simp only[List.length_cons] at this ⊢;omega
theorem Mx (l:List UInt8):lX (l.headD 0).toNat≤l.length:=by
 cases l with
 | nil=>simp [lX]
 | cons c l=>unfold lX;simp only[List.length_cons];split <;> omega
theorem A2 (c:Nat):20≤tG c∧tG c≤22:=by unfold tG;(repeat' split) <;> omega
theorem IQ (l:List UInt8)(k n:Nat)(x:List UInt8)(z:Nat)(h:mG l=some (k,n,x,z)):z≤l.length∧20≤k∧k≤23:=by
 unfold mG at h;have h1:=Mx l;have h2:=wQ (l.drop (lX (l.headD 0).toNat));have h3:=A2 (l.headD 0).toNat;rw[List.length_drop] at h2;split at h
 ·rename_i hc
  cases h
  cases l with
  | nil=>exact absurd hc (by decide)
  | cons c l=>exact⟨by simp,by omega,by omega⟩
 ·split at h
  ·simp only[Option.some.injEq,Prod.mk.injEq] at h;obtain⟨hk,_,_,hz⟩:=h;exact⟨by omega,by omega,by omega⟩
  ·cases h
theorem nM:∀ (b:Bool)(l:List UInt8)(c:UInt8)(m:List UInt8),l.drop (aU b l)=c :: m→¬ (c.toNat=32∨c.toNat=9∨c.toNat=35)
 | b,[],c,m,h=>by simp at h
 | true,a :: l,c,m,h=>by
  simp only[aU] at h;split at h
  ·rename_i ha
   simp only[List.drop_zero] at h;injection h with h1 _
   rw[← h1];omega
  ·exact nM true l c m (by simpa using h)
 | false,a :: l,c,m,h=>by
  simp only[aU] at h;split at h
  ·exact nM false l c m (by simpa using h)
  ·split at h
   ·exact nM true l c m (by simpa using h)
   ·simp only[List.drop_zero] at h;injection h with h1 _
    rw[← h1];omega
theorem IW (c:UInt8)(m:List UInt8)(hb:(bB (c :: m) cN 0 [] 0).1=[])(h0:¬ (c.toNat=32∨c.toNat=9∨c.toNat=35))(h1:¬ (c.toNat=38∨c.toNat=96))(h2:¬ c.toNat=39)(h3:¬ c.toNat=36):gY c=false:=by
 have hops:∀ o:UInt8,[o]∈cN→¬ c.toNat=o.toNat:=by
  intro o ho e;have e':c=o:=UInt8.toNat_inj.1 e;subst e';have:=(CL (c :: m) cN 0 [] 0).2 [c] ho (by simp [Lib.hasPrefix,List.isPrefixOf])
  rw[hb] at this;simp at this
 have e10:=hops 10 (by decide)
 have e59:=hops 59 (by decide)
 have e124:=hops 124 (by decide)
 have e40:=hops 40 (by decide)
 have e41:=hops 41 (by decide)
 have e123:=hops 123 (by decide)
 have e125:=hops 125 (by decide)
 have e60:=hops 60 (by decide)
 have e62:=hops 62 (by decide)
 have e94:=hops 94 (by decide)
 have e61:=hops 61 (by decide)
 have e33:=hops 33 (by decide)
 clear hops
 simp only[show (10:UInt8).toNat=10 from rfl,show (59:UInt8).toNat=59 from rfl,show (124:UInt8).toNat=124 from rfl,show (40:UInt8).toNat=40 from rfl,show (41:UInt8).toNat=41 from rfl,show (123:UInt8).toNat=123 from rfl,show (125:UInt8).toNat=125 from rfl,
  show (60:UInt8).toNat=60 from rfl,show (62:UInt8).toNat=62 from rfl,show (94:UInt8).toNat=94 from rfl,show (61:UInt8).toNat=61 from rfl,show (33:UInt8).toNat=33 from rfl] at *
 rw[gY,← Bool.not_eq_true,List.contains_iff_mem];simp only[List.mem_cons,List.not_mem_nil,or_false];omega
theorem tQ (l:List UInt8)(p:Nat)(t:aH)(n:Nat)(h:cY l p = .ok (t,n)):n≤l.length∧t.place=p∧t.glue=false∧(t.kind=0 ↔ l=[])∧((∀ c m,l=c :: m→¬ (c.toNat=32∨c.toNat=9∨c.toNat=35))→l≠[]→1≤n):=by
 cases l with
 | nil =>
  simp only[cY] at h
  cases h
  exact⟨Nat.le_refl _,rfl,rfl,⟨fun _=>rfl,fun _=>rfl⟩,fun _ e=>absurd rfl e⟩
 | cons c m =>
  simp only[cY] at h;split at h
  ·rename_i hb
   cases h
   rcases zL (c :: m) with e | ⟨h1,h2,h3⟩
   ·rw[e] at hb;exact absurd rfl hb
   ·refine ⟨AZ h2,rfl,rfl,⟨fun e=>?_,fun e=>by cases e⟩,fun _ _=>h3⟩
    simp only at e;rw[e] at h1;simp only[cN,List.getElem?_cons_zero,Option.some.injEq] at h1;exact absurd h1.symm hb
  ·rename_i hb
   have hb':(bB (c :: m) cN 0 [] 0).1=[]:=by simpa using hb
   split at h
   ·cases h
   ·rename_i h38
    split at h
    ·rename_i h39
     split at h
     ·rename_i x n' hd
      cases h
      have:=yW m x n' hd
      exact⟨by simp only[List.length_cons];omega,rfl,rfl,⟨fun e=>by simp at e,fun e=>by cases e⟩,fun _ _=>by omega⟩
     ·cases h
    ·rename_i h39
     split at h
     ·split at h
      ·rename_i k n' x z hd
       cases h
       have:=IQ m k n' x z hd
       exact⟨by simp only[List.length_cons];omega,rfl,rfl,⟨fun e=>by simp only at e;omega,fun e=>by cases e⟩,fun _ _=>by omega⟩
      ·cases h
     ·rename_i h36
      cases h
      refine ⟨(List.takeWhile_sublist _).length_le,rfl,rfl,⟨fun e=>by simp at e,fun e=>by cases e⟩,fun hne _=>?_⟩
      have he:=IW c m hb' (hne c m rfl) h38 h39 h36;rw[List.takeWhile_cons_of_pos (by rw[he];rfl)]
      simp
def iZ (c:UInt8):Bool:=c.toNat==32 || c.toNat==9
def MR (L:List UInt8) (a b:aH):Prop :=
 a.place<b.place∧b.place≤L.length∧(b.glue=true→iZ (L.getD (b.place - 1) 0)=true→a.kind=19) ∧
  (b.glue=false→iZ (L.getD (b.place - 1) 0)=false→b.kind=0∨b.kind=1)
theorem wX {x l:List UInt8}(h:x <+: l)(hx:1≤x.length)(hb:∀ c∈x,iZ c=false):iZ (l.getD (x.length - 1) 0)=false:=by
 obtain⟨r,rfl⟩:=h;have h1:x.length - 1<x.length:=by omega
 rw[List.getD_eq_getElem?_getD,List.getElem?_append_left h1,List.getElem?_eq_getElem h1];exact hb _ (List.getElem_mem h1)
theorem Fa (l:List UInt8):eG l <+: l:=by
 cases l with
 | nil=>exact List.prefix_refl _
 | cons c l =>
  rw[show eG (c :: l)=if eL c then (c :: l).takeWhile cP else [] from rfl]
  split
  ·exact List.takeWhile_prefix _
  ·exact List.nil_prefix
theorem EW (l:List UInt8):jV l <+: l:=by
 unfold jV;split
 ·rename_i h
  exact List.isPrefixOf_iff_prefix.1 h
 ·exact Fa l
theorem K4 (c:UInt8)(h:cP c=true):iZ c=false:=by
 have h2:∀ n:Fin 256,cP (UInt8.ofNat n.val)=true→iZ (UInt8.ofNat n.val)=false:=by decide +kernel
 have h3:=h2 ⟨c.toNat,c.toNat_lt⟩;simp only[UInt8.ofNat_toNat] at h3;exact h3 h
theorem Ja (c:UInt8)(h:gY c=false):iZ c=false:=by
 have h2:∀ n:Fin 256,gY (UInt8.ofNat n.val)=false→iZ (UInt8.ofNat n.val)=false:=by decide +kernel
 have h3:=h2 ⟨c.toNat,c.toNat_lt⟩;simp only[UInt8.ofNat_toNat] at h3;exact h3 h
theorem KL (l:List UInt8)(h:bI l=true):1≤l.length∧∀ c∈l,cP c=true:=by
 cases l with
 | nil=>cases h
 | cons c l =>
  simp only[bI,Bool.and_eq_true,List.all_eq_true] at h;exact⟨by simp,h.2⟩
theorem Ga (m:List UInt8)(k n:Nat)(x:List UInt8)(z:Nat)(h:mG m=some (k,n,x,z)):1≤z∧iZ (m.getD (z - 1) 0)=false:=by
 unfold mG at h;split at h
 ·rename_i hc
  cases h
  cases m with
  | nil=>exact absurd hc (by decide)
  | cons c m =>
   refine ⟨by omega,?_⟩
   show iZ c=false
   have hc':49≤c.toNat∧c.toNat≤57:=hc;unfold iZ;rw[Bool.or_eq_false_iff];exact⟨beq_false_of_ne (by omega),beq_false_of_ne (by omega)⟩
 ·split at h
  ·rename_i hs
   simp only[Option.some.injEq,Prod.mk.injEq] at h;obtain⟨hk,_,_,rfl⟩:=h;generalize hd:lX (m.headD 0).toNat=pre at *;generalize hy:jV (m.drop pre)=y at *;have hp:y <+: m.drop pre:=by rw[← hy];exact EW _
   have h1:1≤y.length∧∀ c∈y,iZ c=false:=by
    rcases hs with e | e
    ·rw[e];exact⟨by simp,fun c hc=>by simp only[List.mem_singleton] at hc;rw[hc];rfl⟩
    ·obtain⟨a,b⟩:=KL y e;exact⟨a,fun c hc=>K4 c (b c hc)⟩
   have h2:=wX hp h1.1 h1.2;refine ⟨by omega,?_⟩
   rw[← h2,List.getD_eq_getElem?_getD,List.getD_eq_getElem?_getD,List.getElem?_drop];congr 3
   omega
  ·cases h
theorem Hk (l:List UInt8)(p:Nat)(t:aH)(n:Nat)(h:cY l p = .ok (t,n))(hn:1≤n)(hk:t.kind≠19):iZ (l.getD (n - 1) 0)=false:=by
 cases l with
 | nil =>
  simp only[cY] at h
  cases h
  omega
 | cons c m =>
  simp only[cY] at h;split at h
  ·rename_i hb
   cases h
   rcases zL (c :: m) with e | ⟨h1,h2,h3⟩
   ·rw[e] at hb;exact absurd rfl hb
   ·have hall:∀ o∈cN,∀ c∈o,iZ c=false:=by decide +kernel
    exact wX (List.isPrefixOf_iff_prefix.1 h2) h3 (hall _ (List.mem_of_getElem? h1))
  ·split at h
   ·cases h
   ·split at h
    ·split at h
     ·cases h
      exact absurd rfl hk
     ·cases h
    ·split at h
     ·split at h
      ·rename_i k n' x z hd
       cases h
       obtain⟨h1,h2⟩:=Ga m k n' x z hd;rw[← h2,show z+1 - 1=(z - 1)+1 from by omega]
       rfl
      ·cases h
     ·cases h
      refine wX (List.takeWhile_prefix _) hn (fun d hd=>?_)
      have:=List.all_eq_true.1 (List.all_takeWhile (p:=fun c=>!gY c) (l:=c :: m)) d hd
      exact Ja d (by simpa using this)
theorem uR:∀ (b:Bool)(l:List UInt8),1≤aU b l→iZ (l.getD (aU b l - 1) 0)=false→(l.drop (aU b l)=[]∨∃ c m,l.drop (aU b l)=c :: m∧c.toNat=10)
 | b,[],h,_=>by cases b <;> simp [aU] at h
 | true,a :: l,h,hb=>by
  simp only[aU] at h hb ⊢;split at h
  ·omega
  ·rename_i ha
   rw[if_neg ha] at hb;simp only[if_neg ha,List.drop_succ_cons]
   by_cases h0:aU true l=0
   ·rw[h0,List.drop_zero]
    cases l with
    | nil=>exact .inl rfl
    | cons c m =>
     simp only[aU] at h0;split at h0
     ·exact .inr ⟨c,m,rfl,by assumption⟩
     ·omega
   ·refine uR true l (by omega) ?_
    refine Eq.trans ?_ hb;rw[show aU true l+1 - 1=(aU true l - 1)+1 from by omega]
    rfl
 | false,a :: l,h,hb=>by
  simp only[aU] at h hb ⊢;split at h
  ·rename_i ha
   rw[if_pos ha] at hb;simp only[if_pos ha,List.drop_succ_cons]
   by_cases h0:aU false l=0
   ·rw[h0] at hb
    have:iZ a=true:=by
     unfold iZ;rw[Bool.or_eq_true,beq_iff_eq,beq_iff_eq];exact ha
    rw[show (a :: l).getD (0+1 - 1) 0=a from rfl,this] at hb
    cases hb
   ·refine uR false l (by omega) ?_
    refine Eq.trans ?_ hb;rw[show aU false l+1 - 1=(aU false l - 1)+1 from by omega]
    rfl
  ·rename_i ha
   split at h
   ·rename_i h35
    rw[if_neg ha,if_pos h35] at hb;simp only[if_neg ha,if_pos h35,List.drop_succ_cons]
    by_cases h0:aU true l=0
    ·rw[h0,List.drop_zero]
     cases l with
     | nil=>exact .inl rfl
     | cons c m =>
      simp only[aU] at h0;split at h0
      ·exact .inr ⟨c,m,rfl,by assumption⟩
      ·omega
    ·refine uR true l (by omega) ?_
     refine Eq.trans ?_ hb;rw[show aU true l+1 - 1=(aU true l - 1)+1 from by omega]
     rfl
   ·omega
theorem G5 (c:UInt8)(m:List UInt8)(p:Nat)(t:aH)(n:Nat)(hc:c.toNat=10)(h:cY (c :: m) p = .ok (t,n)):t.kind=1:=by
 obtain rfl:c=10:=UInt8.toNat_inj.1 hc;have hb:bB (10 :: m) cN 0 [] 0=([10],1):=by simp [bB,cN,Lib.hasPrefix,List.isPrefixOf]
 simp only[cY,hb] at h
 cases h
 rfl
def rE (L:List UInt8):aH→List aH→Prop
 | t,[]=>t.kind=0∧t.place=L.length
 | t,u :: us=>MR L t u∧rE L u us
theorem IP (L:List UInt8):∀ (f:Nat)(first:Bool)(k:Nat)(ts:List aH),k≤L.length→L.length - k<f→dZ f first (L.drop k) k = .ok ts →
  ∃ t us,ts=t :: us∧t.place=k+aU false (L.drop k)∧t.place≤L.length∧t.glue=(!first&&aU false (L.drop k)==0) ∧
   ((L.drop t.place=[]∨∃ c m,L.drop t.place=c :: m∧c.toNat=10)→t.kind=0∨t.kind=1)∧rE L t us:=by
 intro f
 induction f with
 | zero=>intro first k ts _ h;omega
 | succ f ih =>
  intro first k ts hk hf h;rw[dZ] at h;have hs:=pQ false (L.drop k);have hfront:=nM false (L.drop k);rw[List.length_drop] at hs;rw[List.drop_drop] at h hfront;obtain⟨j,hj⟩:∃ j,k+aU false (L.drop k)=j:=⟨_,rfl⟩;rw[hj] at h hfront
  cases ht:cY (L.drop j) j with
  | error e=>rw[ht] at h;cases h
  | ok y =>
   obtain⟨t,n⟩:=y;rw[ht] at h;obtain⟨n1,n2,n3,n4,n5⟩:=tQ _ _ _ _ ht;rw[List.length_drop] at n1
   have hline:(L.drop j=[]∨∃ c m,L.drop j=c :: m∧c.toNat=10)→t.kind=0∨t.kind=1:=by
    rintro (e | ⟨c,m,e,hc⟩)
    ·exact .inl (n4.2 e)
    ·rw[e] at ht;exact .inr (G5 c m j t n hc ht)
   by_cases hk0:t.kind=0
   ·simp only[hk0,if_true] at h
    cases h
    refine ⟨_,_,rfl,?_,?_,rfl,?_,rfl,?_⟩
    ·exact n2.trans hj.symm
    ·show t.place≤_
     omega
    ·exact fun _=>.inl rfl
    ·have:=congrArg List.length (n4.1 hk0)
     rw[List.length_drop,List.length_nil] at this;show t.place=_
     omega
   ·simp only[hk0,if_false] at h;have hn1:1≤n:=n5 hfront (fun e=>hk0 (n4.2 e))
    have hd:(L.drop k).drop (aU false (L.drop k)+n)=L.drop (j+n):=by rw[List.drop_drop];congr 1;omega
    rw[hd] at h
    cases hl:dZ f false (L.drop (j+n)) (j+n) with
    | error e=>rw[hl] at h;cases h
    | ok us =>
     rw[hl] at h
     cases h
     obtain⟨u,vs,rfl,u1,u2,u3,u4,u5⟩:=ih false (j+n) us (by omega) (by omega) hl
     refine ⟨_,_,rfl,n2.trans hj.symm,?_,rfl,?_,⟨?_,u2,?_,?_⟩,u5⟩
     ·show t.place≤_
      omega
     ·show (L.drop t.place=[]∨∃ c m,L.drop t.place=c :: m∧c.toNat=10)→t.kind=0∨t.kind=1
      rw[n2];exact hline
     ·show t.place<u.place
      omega
     ·intro hg hb;show t.kind=19
      apply Classical.byContradiction
      intro hne;rw[u3] at hg;simp only[Bool.not_false,Bool.true_and,beq_iff_eq] at hg;have:=Hk _ _ _ _ ht hn1 hne
      rw[u1,hg] at hb;rw[List.getD_eq_getElem?_getD,List.getElem?_drop,← List.getD_eq_getElem?_getD,show j+(n - 1)=j+n+0 - 1 from by omega,hb] at this
      cases this
     ·intro hg hb;apply u4
      rw[u3] at hg;simp only[Bool.not_false,Bool.true_and,beq_eq_false_iff_ne] at hg
      have:=uR false (L.drop (j+n)) (by omega) (by
       refine Eq.trans ?_ hb;rw[u1,List.getD_eq_getElem?_getD,List.getD_eq_getElem?_getD,List.getElem?_drop];congr 3
       omega)
      rw[List.drop_drop,← u1] at this;exact this
theorem rE.last {L:List UInt8}:∀ {t:aH}{us:List aH},rE L t us→∃ z,(t :: us)[us.length]?=some z∧z.kind=0∧z.place=L.length
 | t,[],h=>⟨t,rfl,h⟩
 | t,u :: us,h=>by
  obtain⟨z,h1,h2⟩:=rE.last h.2;exact⟨z,by simpa using h1,h2⟩
def d8:List UInt8→List UInt8
 | []=>[]
 | c :: l=>if c.toNat=39 then 39 :: 39 :: d8 l else c :: d8 l
theorem Br (l:List UInt8):(d8 l).length≤2 * l.length:=by
 induction l with
 | nil=>exact Nat.le_refl _
 | cons c l ih =>
  rw[d8];split <;> simp only[List.length_cons] <;> omega
theorem FV (m:List UInt8)(p:Nat):cY (39 :: m) p=match dU m with
   | some (x,n)=>.ok (⟨19,p,0,x,false⟩,n+1)
   | none=>.error (103,p):=by
 have hb:bB (39 :: m) cN 0 [] 0=([],0):=by simp [bB,cN,Lib.hasPrefix,List.isPrefixOf]
 simp only[cY,hb];rfl
theorem jD (s:ByteArray)(w:World) :
  Calls Tryz.prog 170 #[.agg #[.string s]] w fun e w'=>e = .returned (.int .i64 s.size)∧Below w.heap.size w w':=by
 go_enter Tryz.func170,Tryz.ntmps170
 go_wp2
 go_ret;exact⟨rfl,(Below.refl _ _).alloc (Nat.le_refl _) _⟩
theorem Kz (s:ByteArray)(i:Nat)(w:World)(_hs:s.size≤1000000)(hi:i<s.size) :
  Calls Tryz.prog 94 #[.agg #[.string s],.int .i64 i] w fun e w'=>e = .returned (.tuple #[.int .u8 s[i].toNat,.bool true])∧Below w.heap.size w w':=by
 go_enter Tryz.func94,Tryz.ntmps94
 go_wp2
 go_ret2;exact⟨rfl,(Below.refl _ _).alloc (Nat.le_refl _) _⟩
theorem kF (s:ByteArray)(i:Nat)(w:World)(hs:s.size≤1000000)(hi:i<s.size) :
  Calls Tryz.prog 94 #[.agg #[.string s],.int .i64 i] w fun e w'=>e = .returned (.tuple #[.int .u8 (bat s i).toNat,.bool true])∧Below w.heap.size w w':=by
 rw[← oL s i hi];exact Kz s i w hs hi
theorem nP (s:ByteArray)(i:Int)(w:World)(_hs:s.size≤1000000)(_hi:s.size≤i) :
  Calls Tryz.prog 94 #[.agg #[.string s],.int .i64 i] w fun e w'=>e = .returned (.tuple #[.int .u8 0,.bool false])∧Below w.heap.size w w':=by
 have _h0:0≤i:=by omega
 go_enter Tryz.func94,Tryz.ntmps94
 go_wp2
 go_ret2;exact⟨rfl,(Below.refl _ _).alloc (Nat.le_refl _) _⟩
theorem He (s:ByteArray)(i j:Int)(a b:Nat)(w:World)(_hs:s.size≤1000000)(_h1:a≤s.size)(_h2:b≤s.size)(r:ByteArray)(hr1:b≤a→r=⟨#[]⟩)(hr2:a<b→r=s.extract a b)
  (E1:Hid (min (max i 0) (s.size:Int)=(a:Int)))
  (E2:Hid (min (max j 0) (s.size:Int)=(b:Int))) :
  Calls Tryz.prog 101 #[.agg #[.string s],.int .i64 i,.int .i64 j] w fun e w'=>e = .returned (.string r)∧Below w.heap.size w w':=by
 by_cases hab:b≤a
 ·obtain rfl:=hr1 hab;clear hr1 hr2;go_enter Tryz.func101,Tryz.ntmps101
  go_wp2
  go_quiet (fail)
  rw[E1.out,E2.out];go_wp2
  all_goals go_ret
  all_goals exact⟨rfl,sZ ((Below.refl _ _).alloc (Nat.le_refl _) _) _⟩
 ·have hab':a<b:=by omega
  obtain rfl:=hr2 hab';clear hr1 hr2;go_enter Tryz.func101,Tryz.ntmps101
  go_wp2
  go_quiet (fail)
  rw[E1.out,E2.out];go_wp2
  all_goals go_ret
  all_goals exact⟨rfl,sZ ((Below.refl _ _).alloc (Nat.le_refl _) _) _⟩
theorem gQ (s:ByteArray)(i j:Int)(w:World)(hs:s.size≤1000000) :
  Calls Tryz.prog 101 #[.agg #[.string s],.int .i64 i,.int .i64 j] w fun e w'=>e = .returned (.string (bs (aZ s.data.toList i j)))∧Below w.heap.size w w':=by
 have hsz:=size_eq s;have E:∀ k:Int,min (max k 0) (s.size:Int)=((min k.toNat s.size:Nat):Int):=fun k=>by omega
 refine He s i j (min i.toNat s.size) (min j.toNat s.size) w hs (Nat.min_le_right _ _) (Nat.min_le_right _ _) _ (fun h=>?_) (fun h=>?_) (Ng (E i)) (Ng (E j))
 ·have e:aZ s.data.toList i j=[]:=by
   unfold aZ;apply List.drop_eq_nil_of_le
   rw[List.length_take];omega
  rw[e];rfl
 ·rw[BZ];congr 1
  unfold aZ;rw[show min i.toNat s.size=i.toNat from by omega]
  congr 1
  by_cases hj:j.toNat≤s.size
  ·rw[Nat.min_eq_left hj]
  ·rw[Nat.min_eq_right (by omega),List.take_of_length_le (by omega),List.take_of_length_le (by omega)]
theorem Kj (s t:ByteArray)(i:Nat)(w:World)(_hs:s.size≤1000000)(_hi:i≤s.size) :
  Calls Tryz.prog 96 #[.agg #[.string s],.int .i64 i,.string t] w fun e w'=>e = .returned (.bool (Lib.hasPrefix (List.take (s.size - i) (List.drop i s.data.toList)) t.data.toList))∧Below w.heap.size w w':=by
 go_enter Tryz.func96,Tryz.ntmps96
 go_wp2_with (go_at_call 145;refine (Tryz.strings_HasPrefix _ _ _).mono ?_;rintro e w' ⟨rfl,rfl⟩)
 go_ret;exact⟨rfl,(Below.refl _ _).alloc (Nat.le_refl _) _⟩
theorem qY (s t:ByteArray)(i:Nat)(w:World)(hs:s.size≤1000000)(hi:i≤s.size) :
  Calls Tryz.prog 96 #[.agg #[.string s],.int .i64 i,.string t] w fun e w'=>e = .returned (.bool (Lib.hasPrefix (s.data.toList.drop i) t.data.toList))∧Below w.heap.size w w':=by
 have e:List.take (s.size - i) (List.drop i s.data.toList)=s.data.toList.drop i:=by
  apply List.take_of_length_le
  rw[List.length_drop,size_eq];exact Nat.le_refl _
 have h:=Kj s t i w hs hi;rw[e] at h;exact h
theorem mY {a b:Bool}(h:a=b):Ending.returned (.bool a) = .returned (.bool b):=by rw[h]
theorem qK (c:UInt8)(w:World) :
  Calls Tryz.prog 162 #[.int .u8 c.toNat] w fun e w'=>e = .returned (.bool (eL c))∧w=w':=by
 have H:=Ng (Nd c);go_enter Tryz.func162,Tryz.ntmps162
 go_wp2
 all_goals go_ret
 ·exact⟨mY (by rw[eL,← H.out,Bool.eq_iff_iff];simp only[Bool.or_eq_true,Bool.and_eq_true,decide_eq_true_eq,beq_iff_eq];omega),rfl⟩
 ·exact⟨mY (by rw[eL,← H.out,Bool.eq_iff_iff];simp only[Bool.or_eq_true,Bool.and_eq_true,decide_eq_true_eq,beq_iff_eq,eq_self,true_iff];omega),rfl⟩
 ·exact⟨mY (by rw[eL,← H.out,Bool.eq_iff_iff];simp only[Bool.or_eq_true,Bool.and_eq_true,decide_eq_true_eq,beq_iff_eq];omega),rfl⟩
theorem r8 (c:UInt8)(w:World) :
  Calls Tryz.prog 163 #[.int .u8 c.toNat] w fun e w'=>e = .returned (.bool (cP c))∧w=w':=by
 by_cases hb:eL c=true
 ·have HB:=Ng hb;go_enter Tryz.func163,Tryz.ntmps163
  go_wp2_with (go_at_call 162;refine (qK c _).mono ?_;rintro e w' ⟨rfl,rfl⟩;rw[HB.out])
  go_ret;exact⟨mY (by simp [cP,HB.out]),rfl⟩
 ·have hb':eL c=false:=by simpa using hb
  clear hb;have HB:=Ng hb';clear hb';go_enter Tryz.func163,Tryz.ntmps163
  go_wp2_with (go_at_call 162;refine (qK c _).mono ?_;rintro e w' ⟨rfl,rfl⟩;rw[HB.out])
  all_goals go_ret
  all_goals exact⟨mY (by rw[cP,HB.out,D0,Bool.eq_iff_iff];simp only[Bool.false_or,Bool.and_eq_true,decide_eq_true_eq,Bool.false_eq_true,false_iff];omega),rfl⟩
theorem Ji (s:ByteArray)(h0:0<s.size)(h20:s.size≤20):bI s.data.toList=(eL (bat s 0)&&s.data.toList.all cP):=by
 have h:=dN s 0 h0;rw[List.drop_zero] at h;have hl:=size_eq s;rw[h] at hl ⊢;simp only[List.length_cons] at hl;rw[bI];rw[show decide ((s.data.toList.drop (0+1)).length<20)=true from by simp only[decide_eq_true_eq];omega,Bool.true_and]
theorem IM (s:ByteArray)(h:20<s.size):bI s.data.toList=false:=by
 have h0:=dN s 0 (by omega)
 rw[List.drop_zero] at h0;have hl:=size_eq s;rw[h0] at hl ⊢;simp only[List.length_cons] at hl;rw[bI];rw[show decide ((s.data.toList.drop (0+1)).length<20)=false from by simp only[decide_eq_false_iff_not];omega,Bool.false_and,Bool.false_and]
theorem Ft (s:ByteArray)(k:Nat)(h:k<s.size):(s.data.toList.take (k+1)).all cP=((s.data.toList.take k).all cP&&cP (bat s k)):=by
 have h1:k<s.data.toList.length:=by rw[size_eq];exact h
 rw[List.take_succ_eq_append_getElem h1,List.all_append,List.all_cons,List.all_nil,Bool.and_true];congr 2
 have h2:k<s.data.size:=h;simp [bat,List.getD,Array.getElem?_eq_getElem h2]
theorem Jy (s:ByteArray)(k:Nat)(h:k<s.size)(hb:cP (bat s k)=false):s.data.toList.all cP=false:=by
 rw[← List.take_append_drop k s.data.toList,List.all_append,dN s k h,List.all_cons,hb,Bool.false_and,Bool.and_false]
theorem FD (s:ByteArray)(h:s.size=0):s=⟨#[]⟩:=by
 rw[← tI s,List.eq_nil_of_length_eq_zero ((size_eq s).trans h)];rfl
theorem pL (s:ByteArray)(h:0<s.size):(¬ s.toList=[])∧s.toList.isEmpty=false:=by
 have h1:s.toList≠[]:=by
  rw[Lib.toList_data];intro e;have:=size_eq s
  rw[e] at this;simp at this
  omega
 exact⟨h1,by simpa using h1⟩
theorem Hu (w:World) :
  Calls Tryz.prog 120 #[.string ⟨#[]⟩] w fun e w'=>e = .returned (.bool false)∧w=w':=by
 go_enter Tryz.func120,Tryz.ntmps120
 go_wp2
 go_ret;exact⟨rfl,rfl⟩
theorem Ib (s:ByteArray)(w:World)(h:20<s.size)(hs:s.size≤1000000) :
  Calls Tryz.prog 120 #[.string s] w fun e w'=>e = .returned (.bool false)∧w=w':=by
 obtain⟨hn,hm⟩:=pL s (by omega)
 go_enter Tryz.func120,Tryz.ntmps120
 go_wp2
 go_ret;exact⟨rfl,rfl⟩
theorem Ha (s:ByteArray)(w:World)(h0:0<s.size)(h20:s.size≤20)(hb:Hid (eL (bat s 0)=false)) :
  Calls Tryz.prog 120 #[.string s] w fun e w'=>e = .returned (.bool false)∧w=w':=by
 obtain⟨hn,hm⟩:=pL s h0;have HB:Hid (eL s[0]=false):=Ng (by rw[oL];exact hb.out)
 go_enter Tryz.func120,Tryz.ntmps120
 go_wp2_with (go_at_call 162;refine (qK _ _).mono ?_;rintro e w' ⟨rfl,rfl⟩;rw[HB.out])
 go_ret;exact⟨rfl,rfl⟩
theorem IU (s:ByteArray)(w:World)(h0:0<s.size)(h20:s.size≤20)(hb:Hid (eL (bat s 0)=true))(b:Bool)(hB:Hid (s.data.toList.all cP=b)) :
  Calls Tryz.prog 120 #[.string s] w fun e w'=>e = .returned (.bool b)∧w=w':=by
 obtain⟨hn,hm⟩:=pL s h0;have HB:Hid (eL s[0]=true):=Ng (by rw[oL];exact hb.out)
 go_enter Tryz.func120,Tryz.ntmps120
 go_wp2_with (go_at_call 162;refine (qK _ _).mono ?_;rintro e w' ⟨rfl,rfl⟩;rw[HB.out])
 go_loop [19] (fun c=>∃ k:Nat,k≤s.size∧c = .int .i64 k∧Hid ((s.data.toList.take k).all cP=true)) (fun c=>s.size - (intOf c).toNat)
 case atStart=>exact⟨0,Nat.zero_le _,rfl,Ng rfl⟩
 case round =>
  obtain⟨k,hk,rfl,hall⟩:=hrel
  by_cases hlt:k<s.size
  ·by_cases hg:cP (bat s k)=true
   ·have HG:Hid (cP s[k]=true):=Ng (by rw[oL];exact hg)
    have hnext:=Ng ((Ft s k hlt).trans (by rw[hall.out,hg]))
    clear hg;go_wp2_with (go_at_call 163;refine (r8 _ _).mono ?_;rintro e w' ⟨rfl,rfl⟩;rw[HG.out])
    go_round
    case rel=>exact⟨k+1,by omega,by go_num,hnext⟩
    case measure=>simp [intOf];omega
   ·have hg':cP (bat s k)=false:=by simpa using hg
    have HF:=Ng (Jy s k hlt hg');have HG:Hid (cP s[k]=false):=Ng (by rw[oL];exact hg')
    clear hg hg';go_wp2_with (go_at_call 163;refine (r8 _ _).mono ?_;rintro e w' ⟨rfl,rfl⟩;rw[HG.out])
    go_ret;exact⟨mY (HF.out.symm.trans hB.out),rfl⟩
  ·have hall':Hid (s.data.toList.all cP=true):=Ng (by
    have h:=hall.out;rwa [List.take_of_length_le (by rw[size_eq];omega)] at h)
   go_wp2
   go_ret;exact⟨mY (hall'.out.symm.trans hB.out),rfl⟩
theorem mV (s:ByteArray)(w:World)(hs:s.size≤1000000) :
  Calls Tryz.prog 120 #[.string s] w fun e w'=>e = .returned (.bool (bI s.data.toList))∧w=w':=by
 by_cases h0:s.size=0
 ·rw[FD s h0];exact Hu w
 ·by_cases h20:20<s.size
  ·rw[IM s h20];exact Ib s w h20 hs
  ·rw[Ji s (by omega) (by omega)]
   cases hb:eL (bat s 0) with
   | false=>exact Ha s w (by omega) (by omega) (Ng hb)
   | true=>exact IU s w (by omega) (by omega) (Ng hb) _ (Ng (Bool.true_and _).symm)
theorem AV (p:UInt8→Bool)(l:List UInt8)(n:Nat)(h1:(l.take n).all p=true)(h2:∀ c m,l.drop n=c :: m→p c=false):l.takeWhile p=l.take n:=by
 induction l generalizing n with
 | nil=>simp
 | cons c l ih =>
  cases n with
  | zero =>
   have:=h2 c l rfl
   simp [this]
  | succ n =>
   simp only[List.take_succ_cons,List.all_cons,Bool.and_eq_true] at h1;rw[List.takeWhile_cons_of_pos h1.1,List.take_succ_cons,ih n h1.2 (fun c m h=>h2 c m (by simpa using h))]
theorem Me (s:ByteArray)(i k:Nat)(hi:i<s.size)(hik:i≤k)(hk:k≤s.size)(hb:eL (bat s i)=true)(hall:((s.data.toList.drop i).take (k - i)).all cP=true)(hend:k<s.size→cP (bat s k)=false) :
  eG (s.data.toList.drop i)=aZ s.data.toList i k:=by
 have h:=dN s i hi
 have e:aZ s.data.toList i k=(s.data.toList.drop i).take (k - i):=by
  unfold aZ;rw[show ((i:Nat):Int).toNat=i from rfl,show ((k:Nat):Int).toNat=k from rfl,List.drop_take]
 rw[e,← AV cP (s.data.toList.drop i) (k - i) hall ?_,h,eG,if_pos hb];intro c m hcm;rw[List.drop_drop,show i+(k - i)=k from by omega] at hcm
 by_cases hlt:k<s.size
 ·rw[dN s k hlt] at hcm;injection hcm with h1 _
  rw[← h1];exact hend hlt
 ·rw[List.drop_eq_nil_of_le (by rw[size_eq];omega)] at hcm
  cases hcm
theorem Lp (s:ByteArray)(i k:Nat)(hik:i≤k)(hk:k<s.size)(hall:((s.data.toList.drop i).take (k - i)).all cP=true)(hg:cP (bat s k)=true):((s.data.toList.drop i).take (k+1 - i)).all cP=true:=by
 rw[show k+1 - i=(k - i)+1 from by omega]
 have h1:k - i<(s.data.toList.drop i).length:=by rw[List.length_drop,size_eq];omega
 rw[List.take_succ_eq_append_getElem h1,List.all_append,hall,Bool.true_and,List.all_cons,List.all_nil,Bool.and_true];rw[← hg];congr 1
 have h2:k<s.data.size:=hk;simp [bat,List.getD,Array.getElem?_eq_getElem h2,show i+(k - i)=k from by omega]
theorem Ly (s:ByteArray)(i:Nat)(h:s.size≤i):eG (s.data.toList.drop i)=[]:=by
 rw[List.drop_eq_nil_of_le (by rw[size_eq];omega)]
 rfl
theorem Mv (s:ByteArray)(i:Nat)(h:i<s.size)(hb:eL (bat s i)=false):eG (s.data.toList.drop i)=[]:=by
 rw[dN s i h,eG,hb];rfl
theorem Jk (q:Addr)(s:ByteArray)(i:Nat)(w:World)(hs:s.size≤1000000)(hi:s.size≤i)(_hi2:i≤10000000)(hc:w.cell? q=some (.string s)) :
  Calls Tryz.prog 147 #[.pointer (some q),.int .i64 i] w fun e w'=>e = .returned (.string ⟨#[]⟩)∧Below w.heap.size w w':=by
 go_enter Tryz.func147,Tryz.ntmps147
 go_wp2_with (go_at_call 94;refine (nP s _ _ hs (by omega)).mono ?_;rintro e w' ⟨rfl,hb⟩)
 go_ret;exact⟨rfl,hb⟩
theorem Ks (q:Addr)(s:ByteArray)(i:Nat)(w:World)(hs:s.size≤1000000)(hi:i<s.size)(hb:Hid (eL (bat s i)=false))(hc:w.cell? q=some (.string s)) :
  Calls Tryz.prog 147 #[.pointer (some q),.int .i64 i] w fun e w'=>e = .returned (.string ⟨#[]⟩)∧Below w.heap.size w w':=by
 go_enter Tryz.func147,Tryz.ntmps147
 go_wp2_with (first | (go_at_call 94;refine (kF s _ _ hs (by omega)).mono ?_;rintro e w' ⟨rfl,hb1⟩) | (go_at_call 162;refine (qK _ _).mono ?_;rintro e w' ⟨rfl,rfl⟩;rw[hb.out]))
 go_ret;exact⟨rfl,‹_›⟩
theorem Js (q:Addr)(s:ByteArray)(i:Nat)(w:World)(hs:s.size≤1000000)(hi:i<s.size)(hb:Hid (eL (bat s i)=true))(hc:w.cell? q=some (.string s))(r:List UInt8)
  (hr:Hid (∀ k:Nat,i≤k→k≤s.size→((s.data.toList.drop i).take (k - i)).all cP=true→(k<s.size→cP (bat s k)=false)→aZ s.data.toList i k=r)) :
  Calls Tryz.prog 147 #[.pointer (some q),.int .i64 i] w fun e w'=>e = .returned (.string (bs r))∧Below w.heap.size w w':=by
 go_enter Tryz.func147,Tryz.ntmps147
 go_wp2_with (first | (go_at_call 94;refine (kF s _ _ hs (by omega)).mono ?_;rintro e w1 ⟨rfl,hb1⟩) | (go_at_call 162;refine (qK _ _).mono ?_;rintro e w' ⟨rfl,rfl⟩;rw[hb.out]))
 go_loopw [5,6,7] (fun c x t wr=>∃ k:Nat,i≤k∧k≤s.size∧t = .int .i64 k∧Below w.heap.size w wr∧Hid (((s.data.toList.drop i).take (k - i)).all cP=true) ∧
   ((k<s.size∧c = .int .u8 (bat s k).toNat∧x = .bool true)∨(s.size≤k∧c = .int .u8 0∧x = .bool false))) (fun _ _ t _=>s.size - (intOf t).toNat)
 case atStart=>exact⟨i,Nat.le_refl _,by omega,rfl,‹_›,Ng (by rw[Nat.sub_self];rfl),.inl ⟨hi,rfl,rfl⟩⟩
 case round =>
  obtain⟨k,hik,hk,rfl,hbr,hall,hcase⟩:=hrel;have hcr:=aF hbr hc;clear hc
  rcases hcase with ⟨hlt,rfl,rfl⟩ | ⟨hge,rfl,rfl⟩
  ·by_cases hg:cP (bat s k)=true
   ·have HG:=Ng hg;have hn:=Ng (Lp s i k hik hlt hall.out hg);clear hg
    by_cases hlt2:k+1<s.size
    ·go_wp2_with (first | (go_at_call 163;refine (r8 _ _).mono ?_;rintro e w' ⟨rfl,rfl⟩;rw[HG.out]) | (go_at_call 94;refine (kF s (k+1) _ hs (by omega)).mono ?_;rintro e w2 ⟨rfl,hb2⟩))
     go_roundw
     case rel=>exact⟨k+1,by omega,by omega,by go_num,aE hbr hb2,hn,.inl ⟨hlt2,rfl,rfl⟩⟩
     case measure=>simp [intOf];omega
    ·go_wp2_with (first | (go_at_call 163;refine (r8 _ _).mono ?_;rintro e w' ⟨rfl,rfl⟩;rw[HG.out]) | (go_at_call 94;refine (nP s _ _ hs (by omega)).mono ?_;rintro e w2 ⟨rfl,hb2⟩))
     go_roundw
     case rel=>exact⟨k+1,by omega,by omega,by go_num,aE hbr hb2,hn,.inr ⟨by omega,rfl,rfl⟩⟩
     case measure=>simp [intOf];omega
   ·have hg':cP (bat s k)=false:=by simpa using hg
    have HG:=Ng hg';have HR:=Ng (hr.out k hik hk hall.out (fun _=>hg'))
    clear hg hg';go_wp2_with (first | (go_at_call 163;refine (r8 _ _).mono ?_;rintro e w' ⟨rfl,rfl⟩;rw[HG.out]) | (go_at_call 101;refine (gQ s _ _ _ hs).mono ?_;rintro e w2 ⟨rfl,hb2⟩))
    go_ret;exact⟨by rw[← HR.out];rfl,aE hbr ‹_›⟩
  ·have HR:=Ng (hr.out k hik hk hall.out (fun h=>absurd h (by omega)))
   go_wp2_with (first | (go_at_call 101;refine (gQ s _ _ _ hs).mono ?_;rintro e w2 ⟨rfl,hb2⟩))
   go_ret;exact⟨by rw[← HR.out];rfl,aE hbr ‹_›⟩
theorem Ch (q:Addr)(s:ByteArray)(i:Nat)(w:World)(hs:s.size≤1000000)(hi2:i≤10000000)(hc:w.cell? q=some (.string s)) :
  Calls Tryz.prog 147 #[.pointer (some q),.int .i64 i] w fun e w'=>e = .returned (.string (bs (eG (s.data.toList.drop i))))∧Below w.heap.size w w':=by
 by_cases hi:s.size≤i
 ·rw[Ly s i hi];exact Jk q s i w hs hi hi2 hc
 ·cases hb:eL (bat s i) with
  | false =>
   rw[Mv s i (by omega) hb]
   exact Ks q s i w hs (by omega) (Ng hb) hc
  | true =>
   exact Js q s i w hs (by omega) (Ng hb) hc _ (Ng fun k h1 h2 h3 h4=>(Me s i k (by omega) h1 h2 hb h3 h4).symm)
theorem Ld (s:ByteArray)(w:World)(hs:s.size≤8192) :
  Calls Tryz.prog 45 #[.string s] w fun e w'=>e = .returned (.tuple #[.pointer (some ⟨w.heap.size,0,none⟩),.nilIface])∧w.alloc (.cells #[.string s] 124)=w':=by
 go_enter Tryz.func45,Tryz.ntmps45
 go_wp2
 go_ret2;exact⟨rfl,rfl⟩
theorem D6 (s:ByteArray)(w:World)(hs:s.size≤8192) :
  Calls Tryz.prog 45 #[.string s] w fun e w'=>e = .returned (.tuple #[.pointer (some ⟨w.heap.size,0,none⟩),.nilIface])∧Blk w' w.heap.size [.string s]∧Below w.heap.size w w':=by
 refine (Ld s w hs).mono ?_;rintro e w' ⟨rfl,rfl⟩;exact⟨rfl,Blk.new w [.string s] _,(Below.refl _ _).alloc (Nat.le_refl _) _⟩
set_option maxHeartbeats 2000000
set_option maxRecDepth 100000
theorem Ec:(Tryz.prog.info? 149).map (fun i=>i.size)=some 2:=by kernel_rfl
theorem infoByte:(Tryz.prog.info? 5).map (fun i=>(i.zero,i.size,i.bytes))=some (some (.int .u8 0),1,1):=by kernel_rfl
theorem Ml:liesAt Tryz.prog Tryz.prog.depth 149 (2 / Tryz.prog.cellsOf 149) 0 149 1=true:=by kernel_rfl
theorem EQ (b:Nat)(w:World)(h0:w.cell? ⟨b,0,none⟩=some (.pointer (some ⟨b,0,none⟩))) :
  Calls Tryz.prog 166 #[.pointer (some ⟨b,0,none⟩)] w fun e w'=>e = .returned (.tuple #[])∧w=w':=by
 obtain⟨j,hj,_⟩:=Option.map_eq_some_iff.1 Ec;have hn:=fun w:World=>Lib.run_neq_ptr_same (P:=Tryz.prog) w ⟨b,0,none⟩ Tryz.underlying146 hj
 go_enter Tryz.func166,Tryz.ntmps166
 go_wp2
 go_end0
 exact⟨rfl,rfl⟩
theorem EP (b:Nat)(w:World)(h0:w.cell? ⟨b,0,none⟩=some (.pointer none))(hsh:w.shape? b=some (149,2))(hfz:w.frozen? ⟨b,0,none⟩=false) :
  Calls Tryz.prog 166 #[.pointer (some ⟨b,0,none⟩)] w fun e w'=>e = .returned (.tuple #[])∧w.setCell ⟨b,0,none⟩ (.pointer (some ⟨b,0,none⟩))=w':=by
 obtain⟨j,hj,hjs⟩:=Option.map_eq_some_iff.1 Ec;have k1:=Lib.run_to_unsafe w ⟨b,0,none⟩ Tryz.underlying146 Tryz.underlying158 hj (by rw[hjs];decide) hsh (Nat.zero_lt_succ 1)
 have k2:=Lib.run_from_unsafe w ⟨b,0,none⟩ Tryz.underlying158 Tryz.underlying146 hj hsh Ml;clear hjs hj;go_enter Tryz.func166,Tryz.ntmps166
 go_wp2
 rw[run_callFunc_extern Tryz.func189 (by kernel_rfl) (by kernel_rfl) (by kernel_rfl) (e:=Extern.AbiNoEscape.same) (by kernel_rfl)]
 rw[Lib.run_noEscape];simp only[Result.andThen];rw[Oper.upon_value];go_wp2
 go_end0
 exact⟨rfl,rfl⟩
theorem EX (B b:Nat)(l:List Value)(w:World)(h:Lib.IsBuilder 149 5 B b l w) :
  Calls Tryz.prog 166 #[.pointer (some ⟨b,0,none⟩)] w fun e w'=>e = .returned (.tuple #[])∧(Lib.BuilderAt 149 5 B b (.pointer (some ⟨b,0,none⟩)) l w'∧Below B w w'):=by
 rcases h with h | h
 ·refine (EP b w h.cell0 h.shape h.frozen0).mono ?_;rintro e w' ⟨rfl,rfl⟩;exact⟨rfl,h.used _,(Below.refl B w).setCell (p:=⟨b,0,none⟩) h.1 _⟩
 ·refine (EQ b w h.cell0).mono ?_;rintro e w' ⟨rfl,rfl⟩;exact⟨rfl,h,Below.refl B _⟩
theorem EV (B b:Nat)(l:List Value)(c:Int)(w:World)(h:Lib.IsBuilder 149 5 B b l w)(hlen:l.length+1≤140737488355328)(hBw:B≤w.heap.size) :
  Calls Tryz.prog 146 #[.pointer (some ⟨b,0,none⟩),.int .u8 c] w fun e w'=>e = .returned .nilIface∧(Lib.BuilderAt 149 5 B b (.pointer (some ⟨b,0,none⟩)) (l++[.int .u8 c]) w'∧Below B w w'):=by
 obtain⟨i0,hi,hz0,hz1,hz2⟩:=info_parts infoByte;go_enter Tryz.func146,Tryz.ntmps146
 go_wp2_with (go_at_call 166;refine (EX B b l _ h).mono ?_)
 rintro e w1 ⟨rfl,h1,hb1⟩;obtain⟨hB,v,hbk,hown,hne⟩:=h1;have c0:w1.cell? ⟨b,0,none⟩=some (.pointer (some ⟨b,0,none⟩)):=by rw[Lib.cell_of_heap hbk];rfl
 have c1:w1.cell? ⟨b,1,none⟩=some v:=by rw[Lib.cell_of_heap hbk];rfl
 go_wp2_with (at_builtin;refine wpList_append_own _ rfl _ _ 147 rfl B 5 i0 (.int .u8 0) 1 1 Tryz.underlying147 hi hz0 hz1 hz2 rfl (by decide) _ _ _ rfl (hown.alloc _) ⟨w1.heap.size,0,none⟩ 1 1 [.int .u8 c] rfl rfl ?c1 ?c2 ?c3 ?c4 ?c5 ?_)
 case c1 =>
  intro j u hj
  match j,hj with
  | 0,hj=>simp at hj;subst hj;simp [Addr.add]
 case c2=>intro u hu;simp at hu;subst hu;rfl
 case c3=>unfold maxLen;omega
 case c4=>omega
 case c5=>have:=hb1.size;simp;omega
 intro v' w2 hown' hgrow _;have hlt:b<w1.heap.size:=lt_of_block hbk
 have hb2:w2.heap[b]?=some (.cells #[.pointer (some ⟨b,0,none⟩),v] 149 (0,0)):=by
  rw[hgrow.block b (by simp;omega) (fun e=>hne e.symm),Lib.alloc_old w1 _ b hlt]
  exact hbk
 have d0:w2.cell? ⟨b,0,none⟩=some (.pointer (some ⟨b,0,none⟩)):=by rw[Lib.cell_of_heap hb2];rfl
 have d1:w2.cell? ⟨b,1,none⟩=some v:=by rw[Lib.cell_of_heap hb2];rfl
 have f1:w2.frozen? ⟨b,1,none⟩=false:=Lib.frozen_of_heap hb2 1
 obtain⟨g,cap,rfl⟩:∃ g cap,v' = .slice (some ⟨g,0,none⟩) (l.length+1) cap:=by
  rcases hown'.2 with ⟨_,h0⟩ | ⟨g,cap,cur,hv,_⟩
  ·omega
  ·exact⟨g,cap,hv⟩
 go_wp2
 go_ret;refine ⟨rfl,?_,?_⟩
 ·exact Lib.BuilderAt.put (T:=149) (e:=5) hB hb2 (bs':=l++[.int .u8 c]) (by simpa using hown') (by decide)
 ·exact ((hb1.alloc (by have:=hb1.size;omega) _).grown hgrow (by have:=hb1.size;simp;omega) (fun k hk=>(hown.lt k hk).1)).setCell (p:=⟨b,1,none⟩) hB _
structure Rdr (w:World) (r q:Nat) (s:ByteArray) (i:Nat):Prop where
 here:Blk w r [.pointer (some ⟨q,0,none⟩),.int .i64 i]
 src:Blk w q [.string s]
 ne:r≠q
theorem Rdr.below {w w':World}{r q:Nat}{s:ByteArray}{i:Nat}(h:Rdr w r q s i)(hb:Below w.heap.size w w'):Rdr w' r q s i :=
 ⟨h.here.below hb,h.src.below hb,h.ne⟩
theorem Rdr.kept {w w':World}{r q:Nat}{s:ByteArray}{i:Nat}{S:Nat→Prop}(h:Rdr w r q s i)(hk:aB S w w')(h1:¬ S r)(h2:¬ S q):Rdr w' r q s i :=
 ⟨h.here.kept hk h1,h.src.kept hk h2,h.ne⟩
theorem Rdr.alloc {w:World}{r q:Nat}{s:ByteArray}{i:Nat}(h:Rdr w r q s i)(o:Obj):Rdr (w.alloc o) r q s i:=⟨h.here.alloc o,h.src.alloc o,h.ne⟩
theorem Rdr.drew {w:World}{r q:Nat}{s:ByteArray}{i:Nat}(h:Rdr w r q s i):Rdr w.drew r q s i:=⟨h.here,h.src,h.ne⟩
theorem Rdr.drewN {w:World}{r q:Nat}{s:ByteArray}{i:Nat}(h:Rdr w r q s i)(n:Nat):Rdr (w.drewN n) r q s i:=⟨h.here,h.src,h.ne⟩
theorem Rdr.other {w:World}{r q:Nat}{s:ByteArray}{i:Nat}(h:Rdr w r q s i){p:Addr}(h1:p.block≠r)(h2:p.block≠q)(u:Value):Rdr (w.setCell p u) r q s i:=⟨h.here.other h1 u,h.src.other h2 u,h.ne⟩
theorem Rdr.move {w:World}{r q:Nat}{s:ByteArray}{i:Nat}(h:Rdr w r q s i)(j:Nat):Rdr (w.setCell ⟨r,1,none⟩ (.int .i64 j)) r q s j :=
 ⟨by have:=h.here.set 1 (.int .i64 j);exact this,h.src.other h.ne _,h.ne⟩
def aV (w:World) (r q:Nat) (s:ByteArray):Prop:=∃ i,Rdr w r q s i
theorem aV.of {w:World}{r q:Nat}{s:ByteArray}{i:Nat}(h:Rdr w r q s i):aV w r q s:=⟨i,h⟩
theorem aV.alloc {w:World}{r q:Nat}{s:ByteArray}(h:aV w r q s)(o:Obj):aV (w.alloc o) r q s:=h.elim fun _ k=>⟨_,k.alloc o⟩
theorem aV.other {w:World}{r q:Nat}{s:ByteArray}(h:aV w r q s){p:Addr}(h1:p.block≠r)(h2:p.block≠q)(u:Value):aV (w.setCell p u) r q s:=h.elim fun _ k=>⟨_,k.other h1 h2 u⟩
theorem aV.move {w:World}{r q:Nat}{s:ByteArray}(h:aV w r q s)(j:Nat):aV (w.setCell ⟨r,1,none⟩ (.int .i64 j)) r q s:=h.elim fun _ k=>⟨_,k.move j⟩
theorem Rdr.moveTo {w:World}{r q:Nat}{s:ByteArray}{j:Nat}{v:Value}(h:aV w r q s)(hv:v = .int .i64 (j:Nat)):Rdr (w.setCell ⟨r,1,none⟩ v) r q s j:=by
 rw[hv];exact h.elim fun _ k=>k.move j
theorem Rdr.c0 {w:World}{r q:Nat}{s:ByteArray}{i:Nat}(h:Rdr w r q s i):w.cell? ⟨r,0,none⟩=some (.pointer (some ⟨q,0,none⟩)):=h.here.cell 0 rfl
theorem Rdr.c1 {w:World}{r q:Nat}{s:ByteArray}{i:Nat}(h:Rdr w r q s i):w.cell? ⟨r,1,none⟩=some (.int .i64 i):=h.here.cell 1 rfl
theorem Rdr.cs {w:World}{r q:Nat}{s:ByteArray}{i:Nat}(h:Rdr w r q s i):w.cell? ⟨q,0,none⟩=some (.string s):=h.src.cell 0 rfl
theorem Rdr.f1 {w:World}{r q:Nat}{s:ByteArray}{i:Nat}(h:Rdr w r q s i):w.frozen? ⟨r,1,none⟩=false:=h.here.free 1
theorem Bv (s:ByteArray)(k:Nat)(h:k<s.size)(hb:(bat s k).toNat=32∨(bat s k).toNat=9):k+aU false (s.data.toList.drop k)=k+1+aU false (s.data.toList.drop (k+1)):=by
 rw[dN s k h,aU,if_pos hb];omega
theorem BC (s:ByteArray)(k:Nat)(h:k<s.size)(hb:(bat s k).toNat=35):k+aU false (s.data.toList.drop k)=k+1+aU true (s.data.toList.drop (k+1)):=by
 rw[dN s k h,aU,if_neg (by omega),if_pos hb];omega
theorem Cd (s:ByteArray)(k:Nat)(h:k<s.size)(hb:¬ ((bat s k).toNat=32∨(bat s k).toNat=9))(hc:¬ (bat s k).toNat=35):k+aU false (s.data.toList.drop k)=k:=by
 rw[dN s k h,aU,if_neg hb,if_neg hc];rfl
theorem qL (b:Bool)(s:ByteArray)(k:Nat)(h:s.size≤k):k+aU b (s.data.toList.drop k)=k:=by
 rw[List.drop_eq_nil_of_le (by rw[size_eq];omega)]
 cases b <;> rfl
theorem DS (s:ByteArray)(k:Nat)(h:k<s.size)(hb:¬ (bat s k).toNat=10):k+aU true (s.data.toList.drop k)=k+1+aU true (s.data.toList.drop (k+1)):=by
 rw[dN s k h,aU,if_neg hb];omega
theorem CR (s:ByteArray)(k:Nat)(h:k<s.size)(hb:(bat s k).toNat=10):k+aU true (s.data.toList.drop k)=k+aU false (s.data.toList.drop k):=by
 rw[dN s k h,aU,if_pos hb,aU,if_neg (by omega),if_neg (by omega)]
theorem JV (r q:Nat)(s:ByteArray)(i t:Nat)(w:World)(hs:s.size≤1000000)(hi:i≤s.size)(hR:Rdr w r q s i)(ht:Hid (i+aU false (s.data.toList.drop i)=t)) :
  Calls Tryz.prog 46 #[.pointer (some ⟨r,0,none⟩)] w fun e w'=>e = .returned (.tuple #[])∧Rdr w' r q s t∧aB (At r) w w':=by
 go_enter Tryz.func46,Tryz.ntmps46
 go_wp2_with fail
 go_loopg [] (s.size - i) (fun n wr=>∃ k:Nat,n=s.size - k∧k≤s.size∧Rdr wr r q s k∧aB (At r) w wr∧Hid (k+aU false (s.data.toList.drop k)=t))
 case atStart=>exact⟨i,rfl,hi,hR,aB.refl _ _,ht⟩
 case round =>
  obtain⟨k,hn,hk,hR,hK,ht⟩:=hrel;clear hi;have g0:=cell_regrown hR.c0;have g1:=cell_regrown hR.c1;have g2:=cell_regrown hR.cs;go_wp2_with fail
  by_cases hlt:k<s.size
  ·refine wp_region_quiet_below (by kernel_rfl) (by kernel_rfl) ?_
   repeat (go_big_quiet_step ((go_at_call 94;exact Calls.regrown_of (kF s k _ hs hlt))))
   refine wpQuiet_nil ?_;intro w1 hw';have hb:Below wr.heap.size wr w1:=b8 hw';clear hw';have hR1:=hR.below hb;have hK1:=hK.andBelow hb;have k0:=hR1.c0;have k1:=hR1.c1;have k2:=hR1.cs;have f1:=hR1.f1;clear g0 g1 g2 hb
   by_cases hbl:(bat s k).toNat=32∨(bat s k).toNat=9
   ·have HN:=Ng ((Bv s k hlt hbl).symm.trans ht.out)
    rcases hbl with hbl | hbl
    ·have d1:(((bat s k).toNat:Int)==32)=true:=by rw[beq_iff_eq];omega
     clear hbl;go_wp2_with fail
     go_roundg (s.size - (k+1))
     case measure=>omega
     case rel=>exact⟨k+1,rfl,by omega,hR1.move (k+1),hK1.setCell (p:=⟨r,1,none⟩) (fun _=>rfl) _,HN⟩
    ·have d1:(((bat s k).toNat:Int)==32)=false:=by rw[beq_eq_false_iff_ne];omega
     have d2:(((bat s k).toNat:Int)==9)=true:=by rw[beq_iff_eq];omega
     clear hbl;go_wp2_with fail
     go_roundg (s.size - (k+1))
     case measure=>omega
     case rel=>exact⟨k+1,rfl,by omega,hR1.move (k+1),hK1.setCell (p:=⟨r,1,none⟩) (fun _=>rfl) _,HN⟩
   ·by_cases hsh:(bat s k).toNat=35
    ·have HN:=Ng ((BC s k hlt hsh).symm.trans ht.out);have d1:(((bat s k).toNat:Int)==32)=false:=by rw[beq_eq_false_iff_ne];omega
     have d2:(((bat s k).toNat:Int)==9)=false:=by rw[beq_eq_false_iff_ne];omega
     have d3:(((bat s k).toNat:Int)==35)=true:=by rw[beq_iff_eq];omega
     have d4:(((bat s k).toNat:Int)==10)=false:=by rw[beq_eq_false_iff_ne];omega
     have d5:(((bat s k).toNat:Int) != 10)=true:=by rw[bne_iff_ne];omega
     have hk35:=Ng hsh;clear hbl hsh;go_wp2_with fail
     obtain⟨wo,rfl⟩:∃ wo:World,wo=w1:=⟨_,rfl⟩
     go_loopg [2,3] (s.size - k) (fun n c x wr=>∃ j:Nat,n=s.size - j∧k≤j∧j≤s.size∧Rdr wr r q s j∧aB (At r) w wr ∧
      ((j<s.size∧c = .int .u8 (bat s j).toNat∧x = .bool true∧Hid ((j=k∧k+1+aU true (s.data.toList.drop (k+1))=t)∨(k<j∧j+aU true (s.data.toList.drop j)=t)))∨(s.size=j∧c = .int .u8 0∧x = .bool false∧Hid (j=t))))
     case atStart=>exact⟨k,rfl,Nat.le_refl _,hk,hR1,hK1,.inl ⟨hlt,rfl,rfl,Ng (.inl ⟨rfl,HN.out⟩)⟩⟩
     case round =>
      obtain⟨j,rfl,hkj,hj,hR,hK,hcase⟩:=hrel;clear HN hK1 hR1 k0 k1 k2 f1
      rcases hcase with ⟨hlt,rfl,rfl,ht⟩ | ⟨hge,rfl,rfl,ht⟩
      ·by_cases h10:(bat s j).toNat=10
       ·have HT:Hid (k<j∧j+aU false (s.data.toList.drop j)=t):=Ng (by
         rcases ht.out with ⟨rfl,_⟩ | ⟨h1,h⟩
         ·exact absurd (hk35.out.symm.trans h10) (by decide)
         ·rw[CR s j hlt h10] at h;exact⟨h1,h⟩)
        have e1:(((bat s j).toNat:Int) != 10)=false:=by rw[bne_eq_false_iff_eq];omega
        clear h10;go_wp2_with fail
        go_roundg (s.size - j)
        case measure=>have:=HT.out.1;omega
        case rel=>exact⟨j,rfl,hj,hR,hK,Ng HT.out.2⟩
       ·have HT:Hid (j+1+aU true (s.data.toList.drop (j+1))=t):=Ng (by
         rcases ht.out with ⟨rfl,h⟩ | ⟨_,h⟩
         ·exact h
         ·rw[DS s j hlt h10] at h;exact h)
        have e1:(((bat s j).toNat:Int) != 10)=true:=by rw[bne_iff_ne];omega
        have k1:=hR.c1;have f1:=hR.f1;clear h10 ht;go_wp2_with fail
        generalize hw2:wr.setCell ⟨r,1,none⟩ (.int .i64 (↑j+1))=w2;have hR2:Rdr w2 r q s (j+1):=by rw[← hw2];exact hR.move (j+1)
        have hK2:aB (At r) w w2:=by rw[← hw2];exact hK.setCell (p:=⟨r,1,none⟩) (fun _=>rfl) _
        clear hw2 k1 f1;have g0:=cell_regrown hR2.c0;have g1:=cell_regrown hR2.c1;have g2:=cell_regrown hR2.cs
        by_cases hlt2:j+1<s.size
        ·refine wp_region_quiet_below (by kernel_rfl) (by kernel_rfl) ?_
         repeat (go_big_quiet_step ((go_at_call 94;exact Calls.regrown_of (kF s (j+1) _ hs hlt2))))
         refine wpQuiet_nil ?_;intro w1 hw';have hb:Below w2.heap.size w2 w1:=b8 hw';clear hw';clear g0 g1 g2;go_wp2_with fail
         go_roundg (s.size - (j+1))
         case measure=>omega
         case rel=>exact⟨j+1,rfl,by omega,by omega,hR2.below hb,hK2.andBelow hb,.inl ⟨hlt2,rfl,rfl,Ng (.inr ⟨by omega,HT.out⟩)⟩⟩
        ·refine wp_region_quiet_below (by kernel_rfl) (by kernel_rfl) ?_
         repeat (go_big_quiet_step ((go_at_call 94;exact Calls.regrown_of (nP s (j+1) _ hs (by omega)))))
         refine wpQuiet_nil ?_;intro w1 hw';have hb:Below w2.heap.size w2 w1:=b8 hw';clear hw';clear g0 g1 g2;go_wp2_with fail
         go_roundg (s.size - (j+1))
         case measure=>omega
         case rel=>exact⟨j+1,rfl,by omega,by omega,hR2.below hb,hK2.andBelow hb,.inr ⟨by omega,rfl,rfl,Ng (by rw[← HT.out,qL true s (j+1) (by omega)])⟩⟩
      ·have HT:Hid (k<j∧j+aU false (s.data.toList.drop j)=t):=Ng (by
        rw[qL false s j (by omega)];exact⟨by omega,ht.out⟩)
       clear hge;go_wp2_with fail
       go_roundg (s.size - j)
       case measure=>have:=HT.out.1;omega
       case rel=>exact⟨j,rfl,hj,hR,hK,Ng HT.out.2⟩
    ·have HN:=Ng ((Cd s k hlt hbl hsh).symm.trans ht.out);have d1:(((bat s k).toNat:Int)==32)=false:=by rw[beq_eq_false_iff_ne];omega
     have d2:(((bat s k).toNat:Int)==9)=false:=by rw[beq_eq_false_iff_ne];omega
     have d3:(((bat s k).toNat:Int)==35)=false:=by rw[beq_eq_false_iff_ne];omega
     clear hbl hsh;go_wp2_with fail
     (try simp only[Exit.inBlock,Exit.then])
     refine bodyPost_ret (results_none rfl _ _ _) rfl ?_;exact⟨rfl,by rw[← HN.out];exact hR1,hK1⟩
  ·have HN:=Ng ((qL false s k (by omega)).symm.trans ht.out)
   refine wp_region_quiet_below (by kernel_rfl) (by kernel_rfl) ?_
   repeat (go_big_quiet_step ((go_at_call 94;exact Calls.regrown_of (nP s k _ hs (by omega)))))
   refine wpQuiet_nil ?_;intro w1 hw';have hb:Below wr.heap.size wr w1:=b8 hw';clear hw';go_wp2_with fail
   (try simp only[Exit.inBlock,Exit.then])
   refine bodyPost_ret (results_none rfl _ _ _) rfl ?_;exact⟨rfl,by rw[← HN.out];exact hR.below hb,hK.andBelow hb⟩
theorem Fr (l:List UInt8)(c:UInt8) : -1≤Lib.indexByte l c:=by
 induction l with
 | nil=>simp [Lib.indexByte]
 | cons d l ih =>
  simp only[Lib.indexByte];split
  ·omega
  ·split <;> omega
theorem Fs (l:List UInt8)(c:UInt8):(0:Int)≤Lib.indexByte l c ↔ l.contains c=true:=by
 induction l with
 | nil=>simp [Lib.indexByte]
 | cons d l ih =>
  have h0:=Fr l c;rw[List.contains_cons,Bool.or_eq_true,← ih,beq_iff_eq];simp only[Lib.indexByte];split
  ·rename_i h
   simp only[beq_iff_eq] at h;simp [h]
  ·rename_i h
   simp only[beq_iff_eq] at h;have h2:¬ c=d:=fun e=>h e.symm
   split
   ·rename_i h3
    simp only[beq_iff_eq] at h3;rw[h3];simp [h2]
   ·rename_i h3
    simp only[beq_iff_eq] at h3;simp only[h2,false_or];omega
theorem indexByte_ge (l:List UInt8)(c:UInt8):decide ((0:Int)≤Lib.indexByte l c)=l.contains c:=by
 rw[Bool.eq_iff_iff,decide_eq_true_eq,Fs]
theorem Iu (c:Int)(b:Bool)(w:World)(h:Hid (decide ((0:Int)≤Lib.indexByte [32,9,10,59,38,124,40,41,123,125,60,62,94,61,33,36,96,39,35] c.toNat.toUInt8)=b)) :
  Calls Tryz.prog 100 #[.int .u8 c] w fun e w'=>e = .returned (.bool b)∧w=w':=by
 go_enter Tryz.func100,Tryz.ntmps100
 go_wp2_with (go_at_call 148;refine (Tryz.strings_IndexByte _ _ _).mono ?_;rintro e w' ⟨rfl,rfl⟩)
 go_ret;exact⟨mY h.out,rfl⟩
theorem yD (c:UInt8)(w:World) :
  Calls Tryz.prog 100 #[.int .u8 c.toNat] w fun e w'=>e = .returned (.bool (gY c))∧w=w':=by
 refine Iu _ _ w (Ng ?_);rw[indexByte_ge,show ((c.toNat:Int).toNat.toUInt8)=c from by simp]
 have h:∀ n:Fin 256,List.contains ([32,9,10,59,38,124,40,41,123,125,60,62,94,61,33,36,96,39,35]:List UInt8) (UInt8.ofNat n.val)=gY (UInt8.ofNat n.val):=by decide +kernel
 have h1:=h ⟨c.toNat,c.toNat_lt⟩;simpa using h1
theorem uD (p:Int)(tv:TypeId)(xv:Value)(w:World) :
  Calls Tryz.prog 97 #[.int .i64 p,.iface tv xv] w fun e w'=>e = .returned (.iface 61 (.pointer (some ⟨w.heap.size,0,none⟩)))∧w.alloc (.cells #[.int .i64 p,.iface tv xv] 63)=w':=by
 go_enter Tryz.func97,Tryz.ntmps97
 go_wp2
 go_ret;exact⟨rfl,rfl⟩
theorem LN (w:World) :
  Calls Tryz.prog 95 #[] w fun e w'=>e = .returned (.slice (some ⟨w.heap.size,0,none⟩) 18 18)∧Blk w' w.heap.size (cN.map fun l=>.string (bs l))∧Below w.heap.size w w':=by
 go_enter Tryz.func95,Tryz.ntmps95
 go_wp2
 go_ret;exact⟨rfl,Blk.new w _ _,(Below.refl _ _).alloc (Nat.le_refl _) _⟩
theorem Hr (r q:Nat)(s:ByteArray)(i p:Nat)(w:World)(hs:s.size≤1000000)(hi:i+1<s.size)(hR:Rdr w r q s i)(h1:49≤(bat s (i+1)).toNat)(h2:(bat s (i+1)).toNat≤57) :
  Calls Tryz.prog 99 #[.pointer (some ⟨r,0,none⟩),.agg #[.int .i64 0,.int .i64 p,.int .i64 0,.string ⟨#[]⟩,.bool false]] w fun e w' =>
   e = .returned (.tuple #[.agg #[.int .i64 23,.int .i64 p,.int .i64 (((bat s (i+1)).toNat - 48:Nat):Int),.string ⟨#[]⟩,.bool false],.nilIface])∧Rdr w' r q s (i+2)∧aB (At r) w w':=by
 have hr:=hR.here.lt;have hq:=hR.src.lt;have c0:=hR.c0;have c1:=hR.c1;have cs:=hR.cs;have f1:=hR.f1;have c3:=Ei s (i+1);go_enter Tryz.func99,Tryz.ntmps99
 go_wp2_with fail
 refine eJ (fun w1=>Rdr w1 r q s (i+1)∧Blk w1 w.heap.size [.int .i64 20,.int .i64 p,.int .i64 0,.string ⟨#[]⟩,.bool false]∧Blk w1 (w.heap.size+1) [.int .i64 0,.int .i64 0,.int .i64 0,.string ⟨#[]⟩,.bool false]∧aB (At r) w w1)
  ⟨((hR.move (i+1)).alloc _).alloc _,(Blk.newAt _ _ (by simp)).alloc _,Blk.newAt _ _ (by simp),(((aB.refl (At r) w).setCell (p:=⟨r,1,none⟩) (fun _=>rfl) _).alloc _).alloc _⟩ ?_
 intro w1 ⟨hR1,hB3,hB4,hK1⟩;clear c0 c1 cs f1;have g0:=cell_regrown hR1.c0;have g1:=cell_regrown hR1.c1;have g2:=cell_regrown hR1.cs;refine wp_region_quiet_below (by kernel_rfl) (by kernel_rfl) ?_
 repeat (go_big_quiet_step ((go_at_call 94;exact Calls.regrown_of (kF s (i+1) _ hs hi))))
 refine wpQuiet_nil ?_;intro w2 hw';have hb:Below w1.heap.size w1 w2:=b8 hw';clear hw' g0 g1 g2;have hR2:=hR1.below hb;have hB32:=hB3.below hb;have hB42:=hB4.below hb;have hK2:=hK1.andBelow hb;clear hR1 hB3 hB4 hK1 hb;have c0:=hR2.c0;have c1:=hR2.c1;have f1:=hR2.f1;have n1:¬ r=w.heap.size:=by omega
 have tc0:=hB32.cell 0 rfl;have tc1:=hB32.cell 1 rfl;have tc2:=hB32.cell 2 rfl;have tc3:=hB32.cell 3 rfl;have tc4:=hB32.cell 4 rfl;have tf0:=hB32.free 0;have tf1:=hB32.free 1;have tf2:=hB32.free 2;have tf3:=hB32.free 3;have tf4:=hB32.free 4;have uc0:=hB42.cell 0 rfl;have uc1:=hB42.cell 1 rfl;have uc2:=hB42.cell 2 rfl;have uc3:=hB42.cell 3 rfl;have uc4:=hB42.cell 4 rfl;have uf0:=hB42.free 0;have uf1:=hB42.free 1;have uf2:=hB42.free 2;have uf3:=hB42.free 3;have uf4:=hB42.free 4;go_wp2_with fail
 (try simp only[Exit.inBlock,Exit.then])
 refine bodyPost_ret (eY (g:=w.heap.size+1) (cs:=[.int .i64 23,.int .i64 p,.int .i64 ((bat s (i+1)).toNat - 48),.string ⟨#[]⟩,.bool false]) rfl _ _ _ rfl ?hB Tryz.underlying87 rfl ?hi) rfl ⟨?he,?hr,?hk⟩
 case hB =>
  apply Blk.as
  with_reducible repeat first | assumption | (apply Blk.newAt;focus (simp;done)) | apply Blk.set | (apply Blk.other;case hp=>first | omega | (simp;omega) | simp) | apply Blk.alloc | apply Blk.drewN | apply Blk.drew
  rfl
 case hi=>kernel_rfl
 case he=>simp;omega
 case hr =>
  repeat first | with_reducible assumption | ((with_reducible refine Rdr.moveTo ?_ ?_);rotate_left;focus go_num) | with_reducible exact aV.of (by assumption) | ((with_reducible first | refine aV.other ?_ ?_ ?_ _ | refine Rdr.other ?_ ?_ ?_ _);rotate_left;(focus first | omega | (simp;omega) | simp);focus first | omega | (simp;omega) | simp) | with_reducible first | refine aV.move ?_ _ | refine aV.alloc ?_ _ | refine Rdr.alloc ?_ _ | refine Rdr.drewN ?_ _ | refine Rdr.drew ?_
 case hk =>
  repeat first | with_reducible assumption | with_reducible exact aB.refl _ _ | ((with_reducible refine aB.setCell ?_ ?_ _);rotate_left;focus first | exact fun _=>rfl | exact fun h=>absurd h (by first | omega | (simp;omega) | simp)) | with_reducible first | refine aB.alloc ?_ _ | refine aB.drewN ?_ _ | refine aB.drew ?_
theorem Jl (l:List UInt8):¬ eG l=[42]:=by
 cases l with
 | nil=>simp [eG]
 | cons c l =>
  rw[show eG (c :: l)=if eL c then (c :: l).takeWhile cP else [] from rfl]
  split
  ·rename_i hb
   intro e;have hg:cP c=true:=by rw[cP,hb];rfl
   rw[List.takeWhile_cons_of_pos hg] at e;injection e with e1 _
   subst e1;revert hb
   decide
  ·intro e;cases e
theorem Ge (r q:Nat)(s:ByteArray)(i p kind pre c0:Nat)(w:World)(hs:s.size≤1000000)(hi:i<s.size)(hR:Rdr w r q s i)(ev:Addr)(te:TypeId)(hev:w.cell? ⟨10,0,none⟩=some (.iface te (.pointer (some ev))))(hgr:10≠r)
  (hc0:Hid ((i+1<s.size∧c0=(bat s (i+1)).toNat)∨(s.size≤i+1∧c0=0))) (hnum:¬ (49≤c0∧c0≤57))
  (hkind:Hid (kind=if c0=35 then 21 else if c0=34 then 22 else 20)) (hpre:Hid (pre=if c0=35∨c0=34 then 1 else 0)) (x:List UInt8) (hx:Hid (x=jV (s.data.toList.drop (i+1+pre)))) (hpb:Hid (i+1+pre≤s.size)) (R:Ending→World→Prop)
  (hgood:Hid ((x=[42]∨bI x=true)→∀ w',Rdr w' r q s (i+1+pre+x.length)→aB (At r) w w'→R (.returned (.tuple #[.agg #[.int .i64 kind,.int .i64 p,.int .i64 0,.string (bs x),.bool false],.nilIface])) w'))
  (hbad:Hid (¬ (x=[42]∨bI x=true)→∀ b w',Blk w' b [.int .i64 p,.iface te (.pointer (some ev))]→aB (At r) w w'→R (.returned (.tuple #[.agg #[.int .i64 0,.int .i64 0,.int .i64 0,.string ⟨#[]⟩,.bool false],.iface 61 (.pointer (some ⟨b,0,none⟩))])) w')) :
  Calls Tryz.prog 99 #[.pointer (some ⟨r,0,none⟩),.agg #[.int .i64 0,.int .i64 p,.int .i64 0,.string ⟨#[]⟩,.bool false]] w R:=by
 have hr:=hR.here.lt;have hq:=hR.src.lt;have hgl:=block_lt_of_cell hev;go_enter Tryz.func99,Tryz.ntmps99
 have c0:=hR.c0;have c1:=hR.c1;have cs:=hR.cs;have f1:=hR.f1;go_wp2_with fail
 refine eJ (fun w1=>Rdr w1 r q s (i+1)∧Blk w1 w.heap.size [.int .i64 20,.int .i64 p,.int .i64 0,.string ⟨#[]⟩,.bool false]∧Blk w1 (w.heap.size+1) [.int .i64 0,.int .i64 0,.int .i64 0,.string ⟨#[]⟩,.bool false]∧aB (At r) w w1)
  ⟨((hR.move (i+1)).alloc _).alloc _,(Blk.newAt _ _ (by simp)).alloc _,Blk.newAt _ _ (by simp),(((aB.refl (At r) w).setCell (p:=⟨r,1,none⟩) (fun _=>rfl) _).alloc _).alloc _⟩ ?_
 intro w1 ⟨hR1,hB3,hB4,hK1⟩;clear c0 c1 cs f1;go_upto_block 0 with fail
 go_cut [6,7] (fun s6 s7 w2=>s6 = .int .u8 c0∧Rdr w2 r q s (i+1)∧Blk w2 w.heap.size [.int .i64 20,.int .i64 p,.int .i64 0,.string ⟨#[]⟩,.bool false]∧Blk w2 (w.heap.size+1) [.int .i64 0,.int .i64 0,.int .i64 0,.string ⟨#[]⟩,.bool false]∧aB (At r) w w2)
 case first =>
  have g0:=cell_regrown hR1.c0;have g1:=cell_regrown hR1.c1;have g2:=cell_regrown hR1.cs
  rcases hc0.out with ⟨hlt,hce⟩ | ⟨hge,hce⟩
  ·have HC:=Ng hce;clear hce;refine wp_region_quiet_below (by kernel_rfl) (by kernel_rfl) ?_
   repeat (go_big_quiet_step ((go_at_call 94;exact Calls.regrown_of (kF s (i+1) _ hs hlt))))
   refine wpQuiet_nil ?_;intro w2 hw';have hb:Below w1.heap.size w1 w2:=b8 hw';clear hw';clear g0 g1 g2;go_wp2_with fail
   go_meet
   case rel=>exact⟨by rw[HC.out],hR1.below hb,hB3.below hb,hB4.below hb,hK1.andBelow hb⟩
  ·have HC:=Ng hce;clear hce;refine wp_region_quiet_below (by kernel_rfl) (by kernel_rfl) ?_
   repeat (go_big_quiet_step ((go_at_call 94;exact Calls.regrown_of (nP s (i+1) _ hs (by omega)))))
   refine wpQuiet_nil ?_;intro w2 hw';have hb:Below w1.heap.size w1 w2:=b8 hw';clear hw';clear g0 g1 g2;go_wp2_with fail
   go_meet
   case rel=>exact⟨by rw[HC.out];rfl,hR1.below hb,hB3.below hb,hB4.below hb,hK1.andBelow hb⟩
 case rest =>
  obtain⟨rfl,hR2,hB32,hB42,hK2⟩:=hcut;clear hR1 hB3 hB4 hK1;have c1:=hR2.c1;have f1:=hR2.f1;have n1:¬ r=w.heap.size:=by omega
  have tc0:=hB32.cell 0 rfl;have tc1:=hB32.cell 1 rfl;have tc2:=hB32.cell 2 rfl;have tc3:=hB32.cell 3 rfl;have tc4:=hB32.cell 4 rfl;have tf0:=hB32.free 0;have tf1:=hB32.free 1;have tf2:=hB32.free 2;have tf3:=hB32.free 3;have tf4:=hB32.free 4;go_upto_block 0 with fail
  go_cut [] (fun w3=>Rdr w3 r q s (i+1+pre)∧Blk w3 w.heap.size [.int .i64 kind,.int .i64 p,.int .i64 0,.string ⟨#[]⟩,.bool false]∧Blk w3 (w.heap.size+1) [.int .i64 0,.int .i64 0,.int .i64 0,.string ⟨#[]⟩,.bool false]∧aB (At r) w w3)
  case first =>
   by_cases h35:c0=35
   ·have HK:Hid (kind=21):=Ng (by rw[hkind.out,if_pos h35])
    have HP:Hid (pre=1):=Ng (by rw[hpre.out,if_pos (Or.inl h35)])
    subst h35;clear hc0 hnum hkind hpre;go_wp2_with fail
    go_meet
    case rel =>
     rw[HK.out,HP.out];refine ⟨?_,?_,?_,?_⟩
     ·repeat first | with_reducible assumption | ((with_reducible refine Rdr.moveTo ?_ ?_);rotate_left;focus go_num) | with_reducible exact aV.of (by assumption) | ((with_reducible first | refine aV.other ?_ ?_ ?_ _ | refine Rdr.other ?_ ?_ ?_ _);rotate_left;(focus first | omega | (simp;omega) | simp);focus first | omega | (simp;omega) | simp) | with_reducible first | refine aV.move ?_ _ | refine aV.alloc ?_ _ | refine Rdr.alloc ?_ _ | refine Rdr.drewN ?_ _ | refine Rdr.drew ?_
     ·apply Blk.as
      with_reducible repeat first | assumption | (apply Blk.newAt;focus (simp;done)) | apply Blk.set | (apply Blk.other;case hp=>first | omega | (simp;omega) | simp) | apply Blk.alloc | apply Blk.drewN | apply Blk.drew
      rfl
     ·apply Blk.as
      with_reducible repeat first | assumption | (apply Blk.newAt;focus (simp;done)) | apply Blk.set | (apply Blk.other;case hp=>first | omega | (simp;omega) | simp) | apply Blk.alloc | apply Blk.drewN | apply Blk.drew
      rfl
     ·repeat first | with_reducible assumption | with_reducible exact aB.refl _ _ | ((with_reducible refine aB.setCell ?_ ?_ _);rotate_left;focus first | exact fun _=>rfl | exact fun h=>absurd h (by first | omega | (simp;omega) | simp)) | with_reducible first | refine aB.alloc ?_ _ | refine aB.drewN ?_ _ | refine aB.drew ?_
   ·by_cases h34:c0=34
    ·have HK:Hid (kind=22):=Ng (by rw[hkind.out,if_neg h35,if_pos h34])
     have HP:Hid (pre=1):=Ng (by rw[hpre.out,if_pos (Or.inr h34)])
     subst h34;clear hc0 hnum hkind hpre h35;go_wp2_with fail
     go_meet
     case rel =>
      rw[HK.out,HP.out];refine ⟨?_,?_,?_,?_⟩
      ·repeat first | with_reducible assumption | ((with_reducible refine Rdr.moveTo ?_ ?_);rotate_left;focus go_num) | with_reducible exact aV.of (by assumption) | ((with_reducible first | refine aV.other ?_ ?_ ?_ _ | refine Rdr.other ?_ ?_ ?_ _);rotate_left;(focus first | omega | (simp;omega) | simp);focus first | omega | (simp;omega) | simp) | with_reducible first | refine aV.move ?_ _ | refine aV.alloc ?_ _ | refine Rdr.alloc ?_ _ | refine Rdr.drewN ?_ _ | refine Rdr.drew ?_
      ·apply Blk.as
       with_reducible repeat first | assumption | (apply Blk.newAt;focus (simp;done)) | apply Blk.set | (apply Blk.other;case hp=>first | omega | (simp;omega) | simp) | apply Blk.alloc | apply Blk.drewN | apply Blk.drew
       rfl
      ·apply Blk.as
       with_reducible repeat first | assumption | (apply Blk.newAt;focus (simp;done)) | apply Blk.set | (apply Blk.other;case hp=>first | omega | (simp;omega) | simp) | apply Blk.alloc | apply Blk.drewN | apply Blk.drew
       rfl
      ·repeat first | with_reducible assumption | with_reducible exact aB.refl _ _ | ((with_reducible refine aB.setCell ?_ ?_ _);rotate_left;focus first | exact fun _=>rfl | exact fun h=>absurd h (by first | omega | (simp;omega) | simp)) | with_reducible first | refine aB.alloc ?_ _ | refine aB.drewN ?_ _ | refine aB.drew ?_
    ·have HK:Hid (kind=20):=Ng (by rw[hkind.out,if_neg h35,if_neg h34])
     have HP:Hid (pre=0):=Ng (by rw[hpre.out,if_neg (by omega)])
     have d1:((c0:Int)==35)=false:=by rw[beq_eq_false_iff_ne];omega
     have d2:((c0:Int)==34)=false:=by rw[beq_eq_false_iff_ne];omega
     clear hc0 hkind hpre h35 h34
     by_cases hlow:(49:Int)≤c0
     ·have hh:(57:Int)<c0:=by omega
      clear hnum;go_wp2_with fail
      go_meet
      case rel =>
       rw[HK.out,HP.out];exact⟨hR2,hB32,hB42,hK2⟩
     ·have hh:(c0:Int)<49:=by omega
      clear hnum hlow;go_wp2_with fail
      go_meet
      case rel =>
       rw[HK.out,HP.out];exact⟨hR2,hB32,hB42,hK2⟩
  case rest =>
   obtain⟨hR3,hB33,hB43,hK3⟩:=hcut;have hp1:pre≤1:=by rw[hpre.out];split <;> omega
   clear hR2 hB32 hB42 hK2 c1 f1 hc0 hnum hkind hpre tc0 tc1 tc2 tc3 tc4 tf0 tf1 tf2 tf3 tf4;have hw0:=hB33.lt;go_upto_region 14 with fail
   go_cut [] (fun w4=>Rdr w4 r q s (i+1+pre)∧Blk w4 w.heap.size [.int .i64 kind,.int .i64 p,.int .i64 0,.string (bs (eG (s.data.toList.drop (i+1+pre)))),.bool false]∧Blk w4 (w.heap.size+1) [.int .i64 0,.int .i64 0,.int .i64 0,.string ⟨#[]⟩,.bool false]∧aB (At r) w w4)
   case first =>
    have c0:=hR3.c0;have c1:=hR3.c1;have cs:=hR3.cs;have t3:=hB33.cell 3 rfl;have t3f:=hB33.free 3
    go_region_held3 (fun w'=>w'.cell? ⟨r,0,none⟩=some (.pointer (some ⟨q,0,none⟩))∧w'.cell? ⟨r,1,none⟩=some (.int .i64 ((i+1+pre:Nat):Int))∧w'.cell? ⟨q,0,none⟩=some (.string s)) (first | (refine ⟨aF hb4 ?_,aF hb4 ?_,aF hb4 ?_⟩ <;> simp [*]) | (refine ⟨(World.cell?_setCell_other _ _ _ _ (by simp)).trans ?_,(World.cell?_setCell_other _ _ _ _ (by simp)).trans ?_,(World.cell?_setCell_other _ _ _ _ (by simp)).trans ?_⟩ <;> simp [*]) | go_keep)
     (first
      | (go_at_call 147;refine (Ch ⟨q,0,none⟩ s (i+1+pre) _ hs (by omega) ?_).mono ?_;(simp [*]);rintro e w4 ⟨rfl,hb4⟩;have T3:=aF hb4 (p:=⟨w.heap.size,3,none⟩) (v:=.string ⟨#[]⟩) (by simp [*]);have T3f:=kT hb4 (p:=⟨w.heap.size,3,none⟩) (v:=.string ⟨#[]⟩) (by simp [*]) (by simp [*])))
    have hR4:=hR3.drew.below hb4;have hB34:=hB33.drew.below hb4;have hB44:=hB43.drew.below hb4;have hK4:=hK3.drew.andBelow hb4;go_wp2_with fail
    go_meet
    case rel =>
     refine ⟨?_,?_,?_,?_⟩
     ·repeat first | with_reducible assumption | ((with_reducible refine Rdr.moveTo ?_ ?_);rotate_left;focus go_num) | with_reducible exact aV.of (by assumption) | ((with_reducible first | refine aV.other ?_ ?_ ?_ _ | refine Rdr.other ?_ ?_ ?_ _);rotate_left;(focus first | omega | (simp;omega) | simp);focus first | omega | (simp;omega) | simp) | with_reducible first | refine aV.move ?_ _ | refine aV.alloc ?_ _ | refine Rdr.alloc ?_ _ | refine Rdr.drewN ?_ _ | refine Rdr.drew ?_
     ·apply Blk.as
      with_reducible repeat first | assumption | (apply Blk.newAt;focus (simp;done)) | apply Blk.set | (apply Blk.other;case hp=>first | omega | (simp;omega) | simp) | apply Blk.alloc | apply Blk.drewN | apply Blk.drew
      rfl
     ·apply Blk.as
      with_reducible repeat first | assumption | (apply Blk.newAt;focus (simp;done)) | apply Blk.set | (apply Blk.other;case hp=>first | omega | (simp;omega) | simp) | apply Blk.alloc | apply Blk.drewN | apply Blk.drew
      rfl
     ·repeat first | with_reducible assumption | with_reducible exact aB.refl _ _ | ((with_reducible refine aB.setCell ?_ ?_ _);rotate_left;focus first | exact fun _=>rfl | exact fun h=>absurd h (by first | omega | (simp;omega) | simp)) | with_reducible first | refine aB.alloc ?_ _ | refine aB.drewN ?_ _ | refine aB.drew ?_
   case rest =>
    obtain⟨hR4,hB34,hB44,hK4⟩:=hcut;clear hR3 hB33 hB43 hK3;go_upto_region 15 with fail
    have g0:=cell_regrown hR4.c0;have g1:=cell_regrown hR4.c1;have g2:=cell_regrown hR4.cs;have hbd:i+1+pre≤s.size:=hpb.out
    by_cases hst:Lib.hasPrefix (s.data.toList.drop (i+1+pre)) [42]=true
    ·have hst':Lib.hasPrefix (List.drop (i+1+pre) s.data.toList) (ByteArray.mk #[42]).data.toList=true:=hst;have HX:Hid (x=[42]):=Ng (by rw[hx.out,jV,if_pos hst])
     have HB:=Ng (qY s ⟨#[42]⟩ (i+1+pre));rw[hst'] at HB;clear hst hst' hx hbad;refine wp_region_quiet_below (by kernel_rfl) (by kernel_rfl) ?_
     repeat (go_big_quiet_step ((go_at_call 96;exact Calls.regrown_of (HB.out _ hs hbd))))
     refine wpQuiet_nil ?_;intro w5 hw';have hb:Below wc.heap.size wc w5:=b8 hw';clear hw';clear g0 g1 g2 HB;have hR5:=hR4.below hb;have hB35:=hB34.below hb;have hB45:=hB44.below hb;have hK5:=hK4.andBelow hb;clear hR4 hB34 hB44 hK4 hb;have c1:=hR5.c1;have f1:=hR5.f1;have n1:¬ r=w.heap.size:=by omega
     have tc0:=hB35.cell 0 rfl;have tc1:=hB35.cell 1 rfl;have tc2:=hB35.cell 2 rfl;have tc3:=hB35.cell 3 rfl;have tc4:=hB35.cell 4 rfl;have tf0:=hB35.free 0;have tf1:=hB35.free 1;have tf2:=hB35.free 2;have tf3:=hB35.free 3;have tf4:=hB35.free 4;have uc0:=hB45.cell 0 rfl;have uc1:=hB45.cell 1 rfl;have uc2:=hB45.cell 2 rfl;have uc3:=hB45.cell 3 rfl;have uc4:=hB45.cell 4 rfl;have uf0:=hB45.free 0;have uf1:=hB45.free 1;have uf2:=hB45.free 2;have uf3:=hB45.free 3;have uf4:=hB45.free 4;go_wp2_with fail
     go_region
     all_goals go_wp2_with fail
     (try simp only[Exit.inBlock,Exit.then])
     refine bodyPost_ret (eY (p:=4) (u:=5) (g:=w.heap.size+1) (cs:=[.int .i64 kind,.int .i64 p,.int .i64 0,.string (bs x),.bool false]) rfl _ _ _ rfl ?_ Tryz.underlying87 rfl (by kernel_rfl)) rfl (hgood.out (.inl HX.out) _ ?_ ?_)
     ·rw[HX.out];apply Blk.as
      with_reducible repeat first | assumption | (apply Blk.newAt;focus (simp;done)) | apply Blk.set | (apply Blk.other;case hp=>first | omega | (simp;omega) | simp) | apply Blk.alloc | apply Blk.drewN | apply Blk.drew
      rfl
     ·rw[HX.out]
      repeat first | with_reducible assumption | ((with_reducible refine Rdr.moveTo ?_ ?_);rotate_left;focus go_num) | with_reducible exact aV.of (by assumption) | ((with_reducible first | refine aV.other ?_ ?_ ?_ _ | refine Rdr.other ?_ ?_ ?_ _);rotate_left;(focus first | omega | (simp;omega) | simp);focus first | omega | (simp;omega) | simp) | with_reducible first | refine aV.move ?_ _ | refine aV.alloc ?_ _ | refine Rdr.alloc ?_ _ | refine Rdr.drewN ?_ _ | refine Rdr.drew ?_
     ·repeat first | with_reducible assumption | with_reducible exact aB.refl _ _ | ((with_reducible refine aB.setCell ?_ ?_ _);rotate_left;focus first | exact fun _=>rfl | exact fun h=>absurd h (by first | omega | (simp;omega) | simp)) | with_reducible first | refine aB.alloc ?_ _ | refine aB.drewN ?_ _ | refine aB.drew ?_
    ·have hst':Lib.hasPrefix (List.drop (i+1+pre) s.data.toList) (ByteArray.mk #[42]).data.toList=false:=by simpa using hst
     have HX:Hid (x=eG (s.data.toList.drop (i+1+pre))):=Ng (by rw[hx.out,jV,if_neg hst])
     have HB:=Ng (qY s ⟨#[42]⟩ (i+1+pre));rw[hst'] at HB;have hst0:Hid (Lib.hasPrefix (List.drop (i+1+pre) s.data.toList) [42]=false):=Ng (by simpa using hst)
     clear hst hst' hx;refine wp_region_quiet_below (by kernel_rfl) (by kernel_rfl) ?_
     repeat (go_big_quiet_step ((go_at_call 96;exact Calls.regrown_of (HB.out _ hs hbd))))
     refine wpQuiet_nil ?_;intro w5 hw';have hb:Below wc.heap.size wc w5:=b8 hw';clear hw';clear g0 g1 g2 HB;have hR5:=hR4.below hb;have hB35:=hB34.below hb;have hB45:=hB44.below hb;have hK5:=hK4.andBelow hb;clear hR4 hB34 hB44 hK4 hb;have c1:=hR5.c1;have f1:=hR5.f1;have n1:¬ r=w.heap.size:=by omega
     rw[← HX.out] at hB35;have tc0:=hB35.cell 0 rfl;have tc1:=hB35.cell 1 rfl;have tc2:=hB35.cell 2 rfl;have tc3:=hB35.cell 3 rfl;have tc4:=hB35.cell 4 rfl;have tf0:=hB35.free 0;have tf1:=hB35.free 1;have tf2:=hB35.free 2;have tf3:=hB35.free 3;have tf4:=hB35.free 4;have uc0:=hB45.cell 0 rfl;have uc1:=hB45.cell 1 rfl;have uc2:=hB45.cell 2 rfl;have uc3:=hB45.cell 3 rfl;have uc4:=hB45.cell 4 rfl;have uf0:=hB45.free 0;have uf1:=hB45.free 1;have uf2:=hB45.free 2;have uf3:=hB45.free 3;have uf4:=hB45.free 4;have hne:¬ x=[42]:=fun e=>Jl (s.data.toList.drop (i+1+pre)) (HX.out.symm.trans e)
     have hne2:¬ (bs x).toList=[42]:=fun e=>hne (by rw[← bK x,← Lib.toList_data];exact e)
     have hxl:x.length≤1000000:=by
      have h1:=wQ (s.data.toList.drop (i+1+pre));rw[jV,if_neg (by rw[hst0.out];decide),← HX.out,List.length_drop,size_eq] at h1
      omega
     have hxs:=aY x
     by_cases hnm:bI x=true
     ·have hnx:Hid (bI (bs x).data.toList=true):=Ng (by rw[bK];exact hnm)
      have HG:=Ng (hgood.out (.inr hnm));clear hne hbad hnm hgood;go_wp2_with (go_at_call 120;refine (mV _ _ (by omega)).mono ?_;rintro e w' ⟨rfl,rfl⟩;rw[hnx.out])
      go_region
      all_goals go_wp2_with fail
      (try simp only[Exit.inBlock,Exit.then])
      refine bodyPost_ret (eY (p:=4) (u:=5) (g:=w.heap.size+1) (cs:=[.int .i64 kind,.int .i64 p,.int .i64 0,.string (bs x),.bool false]) rfl _ _ _ rfl ?_ Tryz.underlying87 rfl (by kernel_rfl)) rfl (HG.out _ ?_ ?_)
      ·apply Blk.as
       with_reducible repeat first | assumption | (apply Blk.newAt;focus (simp;done)) | apply Blk.set | (apply Blk.other;case hp=>first | omega | (simp;omega) | simp) | apply Blk.alloc | apply Blk.drewN | apply Blk.drew
       rfl
      ·repeat first | with_reducible assumption | ((with_reducible refine Rdr.moveTo ?_ ?_);rotate_left;focus go_num) | with_reducible exact aV.of (by assumption) | ((with_reducible first | refine aV.other ?_ ?_ ?_ _ | refine Rdr.other ?_ ?_ ?_ _);rotate_left;(focus first | omega | (simp;omega) | simp);focus first | omega | (simp;omega) | simp) | with_reducible first | refine aV.move ?_ _ | refine aV.alloc ?_ _ | refine Rdr.alloc ?_ _ | refine Rdr.drewN ?_ _ | refine Rdr.drew ?_
      ·repeat first | with_reducible assumption | with_reducible exact aB.refl _ _ | ((with_reducible refine aB.setCell ?_ ?_ _);rotate_left;focus first | exact fun _=>rfl | exact fun h=>absurd h (by first | omega | (simp;omega) | simp)) | with_reducible first | refine aB.alloc ?_ _ | refine aB.drewN ?_ _ | refine aB.drew ?_
     ·have hnx:Hid (bI (bs x).data.toList=false):=Ng (by rw[bK];simpa using hnm)
      have HG:=Ng (hbad.out (fun h=>h.elim hne hnm))
      clear hne hbad hnm hgood;have hne3:((bs x).toList==[42])=false:=by simpa using hne2
      have hge:=hK5.cell hev (fun e=>hgr e)
      have l1:=hB45.lt;have l2:=hB35.lt;have l3:=hR5.here.lt;go_wp2_with (first | (go_at_call 120;refine (mV _ _ (by omega)).mono ?_;rintro e w' ⟨rfl,rfl⟩;rw[hnx.out]) | (go_at_call 97;refine (uD _ _ _ _).mono ?_;rintro e w6 ⟨rfl,rfl⟩))
      (try simp only[Exit.inBlock,Exit.then])
      refine bodyPost_ret (eY (p:=4) (u:=5) (g:=w.heap.size+1) (cs:=[.int .i64 0,.int .i64 0,.int .i64 0,.string ⟨#[]⟩,.bool false]) rfl _ _ _ rfl ?_ Tryz.underlying87 rfl (by kernel_rfl)) rfl (HG.out w5.heap.size _ ?_ ?_)
      ·apply Blk.as
       with_reducible repeat first | assumption | (apply Blk.newAt;focus (simp;done)) | apply Blk.set | (apply Blk.other;case hp=>first | omega | (simp;omega) | simp) | apply Blk.alloc | apply Blk.drewN | apply Blk.drew
       rfl
      ·apply Blk.as
       with_reducible repeat first | assumption | (apply Blk.newAt;focus (simp;done)) | apply Blk.set | (apply Blk.other;case hp=>first | omega | (simp;omega) | simp) | apply Blk.alloc | apply Blk.drewN | apply Blk.drew
       rfl
      ·repeat first | with_reducible assumption | with_reducible exact aB.refl _ _ | ((with_reducible refine aB.setCell ?_ ?_ _);rotate_left;focus first | exact fun _=>rfl | exact fun h=>absurd h (by first | omega | (simp;omega) | simp)) | with_reducible first | refine aB.alloc ?_ _ | refine aB.drewN ?_ _ | refine aB.drew ?_
set_option maxHeartbeats 4000000
def Bld (w:World) (b:Nat) (l:List UInt8):Prop:=Lib.IsBuilder 149 5 b b (Lib.byteCells l) w
theorem BA {B b:Nat}{p:Value}{l:List Value}{w w':World}(h:Lib.BuilderAt 149 5 B b p l w)(hk:∀ k,B≤k→k<w.heap.size→w'.heap[k]?=w.heap[k]?):Lib.BuilderAt 149 5 B b p l w':=by
 obtain⟨hB,v,hb,hown,hne⟩:=h;refine ⟨hB,v,(hk b hB (lt_of_block hb)).trans hb,⟨hown.1,?_⟩,hne⟩
 rcases hown.2 with h2 | ⟨g,cap,cur,hv,hg,hh,r⟩
 ·exact .inl h2
 ·exact .inr ⟨g,cap,cur,hv,hg,(hk g hg (lt_of_block hh)).trans hh,r⟩
theorem Bld.of_heap {w w':World}{b:Nat}{l:List UInt8}(h:Bld w b l)(hk:∀ k,b≤k→k<w.heap.size→w'.heap[k]?=w.heap[k]?):Bld w' b l :=
 h.imp (fun h=>BA h hk) (fun h=>BA h hk)
theorem Bld.below {w w':World}{b:Nat}{l:List UInt8}(h:Bld w b l)(hb:Below w.heap.size w w'):Bld w' b l:=h.of_heap fun k _ hk=>hb.block k hk
theorem Bld.other {w:World}{b:Nat}{l:List UInt8}(h:Bld w b l){p:Addr}(hp:p.block<b)(u:Value):Bld (w.setCell p u) b l:=h.of_heap fun k h1 _=>Below.heap_setCell _ _ _ _ (by omega)
theorem Bld.drew {w:World}{b:Nat}{l:List UInt8}(h:Bld w b l):Bld w.drew b l:=h.of_heap fun _ _ _=>rfl
theorem Bld.new (w:World):Bld (w.alloc (.cells #[.pointer none,.slice none 0 0] 149)) w.heap.size []:=Lib.fresh_isBuilder _ _ w
theorem Bld.newAt {w:World}{b:Nat}(hb:b=w.heap.size):Bld (w.alloc (.cells #[.pointer none,.slice none 0 0] 149)) b []:=hb ▸ Bld.new w
theorem Bld.lt {w:World}{b:Nat}{l:List UInt8}(h:Bld w b l):b<w.heap.size:=h.elim (fun h=>h.lt) (fun h=>h.lt)
theorem E9 (l:List UInt8)(c:UInt8):Lib.byteCells l++[.int .u8 (c.toNat:Int)]=Lib.byteCells (l++[c]):=by simp [Lib.byteCells]
theorem Bld.writeByte (b:Nat)(l:List UInt8)(c:UInt8)(w:World)(h:Bld w b l)(hlen:l.length≤100000000) :
  Calls Tryz.prog 146 #[.pointer (some ⟨b,0,none⟩),.int .u8 c.toNat] w fun e w'=>e = .returned .nilIface∧Bld w' b (l++[c])∧Below b w w':=by
 refine (EV b b (Lib.byteCells l) _ w h (by rw[Lib.byteCells_length];omega) (Nat.le_of_lt h.lt)).mono ?_
 rintro e w' ⟨rfl,h1,h2⟩;rw[E9] at h1;exact⟨rfl,.inr h1,h2⟩
theorem Bld.string (b:Nat)(l:List UInt8)(w:World)(h:Bld w b l) :
  Calls Tryz.prog 127 #[.pointer (some ⟨b,0,none⟩)] w fun e w'=>e = .returned (.string (bs l))∧Below b w w' :=
 Tryz.Builder_String_any b b l w h (Nat.le_of_lt h.lt)
theorem Rdr.belowB {w w':World}{r q:Nat}{s:ByteArray}{i B:Nat}(h:Rdr w r q s i)(hb:Below B w w')(h1:r<B)(h2:q<B):Rdr w' r q s i :=
 ⟨h.here.of_heap (hb.block r h1),h.src.of_heap (hb.block q h2),h.ne⟩
theorem Blk.belowB {w w':World}{b B:Nat}{cs:List Value}(h:Blk w b cs)(hb:Below B w w')(h1:b<B):Blk w' b cs:=h.of_heap (hb.block b h1)
theorem aB.belowB {S:Nat→Prop}{a b c:World}{B:Nat}(h:aB S a b)(k:Below B b c)(hB:a.heap.size≤B):aB S a c :=
 ⟨k.os.trans h.os,k.tape.trans h.tape,k.output.trans h.output,Nat.le_trans h.size k.size,fun i hi hn=>(k.block i (by omega)).trans (h.block i hi hn)⟩
def iU (l:List UInt8) (k:Nat) (acc:List UInt8):Option (List UInt8×Nat):=(dU (l.drop k)).map fun x=>(acc++x.1,k+x.2)
theorem Jf (s:ByteArray)(k:Nat)(acc:List UInt8)(h:s.size≤k):iU s.data.toList k acc=none:=by
 rw[iU,List.drop_eq_nil_of_le (by rw[size_eq];omega)];rfl
theorem BW (s:ByteArray)(k:Nat)(acc:List UInt8)(h:k<s.size)(hc:(bat s k).toNat=39)(h2:Lib.hasPrefix (s.data.toList.drop k) [39,39]=true) :
  k+1<s.size∧iU s.data.toList k acc=iU s.data.toList (k+2) (acc++[bat s k]):=by
 rw[dN s k h] at h2
 by_cases h3:k+1<s.size
 ·rw[dN s (k+1) h3] at h2;refine ⟨h3,?_⟩
  have hd:(bat s (k+1)).toNat=39:=by
   simp only[Lib.hasPrefix,List.isPrefixOf,Bool.and_eq_true,beq_iff_eq] at h2;rw[← h2.2.1];rfl
  have hc':bat s k=39:=by apply UInt8.toNat_inj.1;rw[hc];rfl
  rw[iU,iU,dN s k h,dN s (k+1) h3,dU,if_pos hc,if_pos hd,hc',Option.map_map];congr 1
  funext x
  simp [Nat.add_assoc,Nat.add_comm 2]
 ·rw[List.drop_eq_nil_of_le (by rw[size_eq];omega)] at h2
  simp [Lib.hasPrefix,List.isPrefixOf] at h2
theorem G3 (s:ByteArray)(k:Nat)(acc:List UInt8)(h:k<s.size)(hc:(bat s k).toNat=39)(h2:Lib.hasPrefix (s.data.toList.drop k) [39,39]=false) :
  iU s.data.toList k acc=some (acc,k+1):=by
 have hc':bat s k=39:=by apply UInt8.toNat_inj.1;rw[hc];rfl
 rw[dN s k h,hc'] at h2;rw[iU,dN s k h]
 by_cases h3:k+1<s.size
 ·rw[dN s (k+1) h3] at h2 ⊢
  have hd:¬ (bat s (k+1)).toNat=39:=by
   intro e;have:bat s (k+1)=39:=by apply UInt8.toNat_inj.1;rw[e];rfl
   rw[this] at h2;revert h2
   simp [Lib.hasPrefix,List.isPrefixOf]
  rw[dU,if_pos hc,if_neg hd];simp
 ·rw[List.drop_eq_nil_of_le (by rw[size_eq];omega),dU,if_pos hc]
  simp
theorem KB (s:ByteArray)(k:Nat)(acc:List UInt8)(h:k<s.size)(hc:¬ (bat s k).toNat=39) :
  iU s.data.toList k acc=iU s.data.toList (k+1) (acc++[bat s k]):=by
 rw[iU,iU,dN s k h]
 by_cases h3:k+1<s.size
 ·rw[dN s (k+1) h3,dU,if_neg hc,Option.map_map];congr 1
  funext x
  simp [Nat.add_assoc,Nat.add_comm 1]
 ·rw[List.drop_eq_nil_of_le (by rw[size_eq];omega)]
  simp [dU,hc]
theorem Kl (r q:Nat)(s:ByteArray)(i p:Nat)(w:World)(hs:s.size≤1000000)(hi:i<s.size)(hR:Rdr w r q s i)(ev:Addr)(te:TypeId)(hev:w.cell? ⟨9,0,none⟩=some (.iface te (.pointer (some ev))))(hgr:9≠r)
  (R:Ending→World→Prop) (tg:Option (List UInt8×Nat)) (htg:Hid (iU s.data.toList (i+1) []=tg))
  (hgood:Hid (∀ x n w',tg=some (x,n)→Rdr w' r q s n→aB (At r) w w'→R (.returned (.tuple #[.agg #[.int .i64 19,.int .i64 p,.int .i64 0,.string (bs x),.bool false],.nilIface])) w'))
  (hbad:Hid (tg=none→∀ b w',Blk w' b [.int .i64 p,.iface te (.pointer (some ev))]→aB (At r) w w'→R (.returned (.tuple #[.agg #[.int .i64 0,.int .i64 0,.int .i64 0,.string ⟨#[]⟩,.bool false],.iface 61 (.pointer (some ⟨b,0,none⟩))])) w')) :
  Calls Tryz.prog 98 #[.pointer (some ⟨r,0,none⟩),.agg #[.int .i64 0,.int .i64 p,.int .i64 0,.string ⟨#[]⟩,.bool false]] w R:=by
 have hr:=hR.here.lt;have hq:=hR.src.lt;have hgl:=block_lt_of_cell hev;go_enter Tryz.func98,Tryz.ntmps98
 go_upto_region 2 with fail
 refine eJ (fun w1=>Rdr w1 r q s i∧Blk w1 w.heap.size [.int .i64 0,.int .i64 p,.int .i64 0,.string ⟨#[]⟩,.bool false] ∧
   Blk w1 (w.heap.size+1) [.int .i64 0,.int .i64 0,.int .i64 0,.string ⟨#[]⟩,.bool false]∧Bld w1 (w.heap.size+1+1) []∧aB (At r) w w1)
  ⟨((hR.alloc _).alloc _).alloc _,((Blk.newAt _ _ (by simp)).alloc _).alloc _,(Blk.newAt _ _ (by simp)).alloc _,Bld.newAt (by simp),(((aB.refl (At r) w).alloc _).alloc _).alloc _⟩ ?_
 intro w1 ⟨hR1,hB1,hB2,hL1,hK1⟩;have c1:=hR1.c1;have f1:=hR1.f1;go_wp2_with fail
 clear c1 f1
 go_loopg [] (s.size - (i+1)) (fun n wr=>∃ (k:Nat) (acc:List UInt8),n=s.size - k∧k≤s.size∧acc.length≤k∧Rdr wr r q s k∧Blk wr w.heap.size [.int .i64 0,.int .i64 p,.int .i64 0,.string ⟨#[]⟩,.bool false] ∧
   Blk wr (w.heap.size+1) [.int .i64 0,.int .i64 0,.int .i64 0,.string ⟨#[]⟩,.bool false]∧Bld wr (w.heap.size+1+1) acc∧aB (At r) w wr∧Hid (iU s.data.toList k acc=tg))
 case atStart =>
  refine ⟨i+1,[],rfl,by omega,by simp,?_,?_,?_,?_,?_,htg⟩
  ·repeat first | with_reducible assumption | ((with_reducible refine Rdr.moveTo ?_ ?_);rotate_left;focus go_num) | with_reducible exact aV.of (by assumption) | ((with_reducible first | refine aV.other ?_ ?_ ?_ _ | refine Rdr.other ?_ ?_ ?_ _);rotate_left;(focus first | omega | (simp;omega) | simp);focus first | omega | (simp;omega) | simp) | with_reducible first | refine aV.move ?_ _ | refine aV.alloc ?_ _ | refine Rdr.alloc ?_ _ | refine Rdr.drewN ?_ _ | refine Rdr.drew ?_
  ·apply Blk.as
   with_reducible repeat first | assumption | (apply Blk.newAt;focus (simp;done)) | apply Blk.set | (apply Blk.other;case hp=>first | omega | (simp;omega) | simp) | apply Blk.alloc | apply Blk.drewN | apply Blk.drew
   rfl
  ·apply Blk.as
   with_reducible repeat first | assumption | (apply Blk.newAt;focus (simp;done)) | apply Blk.set | (apply Blk.other;case hp=>first | omega | (simp;omega) | simp) | apply Blk.alloc | apply Blk.drewN | apply Blk.drew
   rfl
  ·repeat (first | (with_reducible assumption) | ((with_reducible refine Bld.other ?_ ?_ _);rotate_left;(focus (first | omega | (simp;omega) | simp))) | (with_reducible refine Bld.drew ?_))
  ·repeat first | with_reducible assumption | with_reducible exact aB.refl _ _ | ((with_reducible refine aB.setCell ?_ ?_ _);rotate_left;focus first | exact fun _=>rfl | exact fun h=>absurd h (by first | omega | (simp;omega) | simp)) | with_reducible first | refine aB.alloc ?_ _ | refine aB.drewN ?_ _ | refine aB.drew ?_
 case round =>
  obtain⟨k,acc,rfl,hk,hacc,hR,hB1,hB2,hL,hK,htg⟩:=hrel;clear hR1;have g0:=cell_regrown hR.c0;have g1:=cell_regrown hR.c1;have g2:=cell_regrown hR.cs;go_wp2_with fail
  by_cases hlt:k<s.size
  ·refine wp_region_quiet_below (by kernel_rfl) (by kernel_rfl) ?_
   repeat (go_big_quiet_step ((go_at_call 94;exact Calls.regrown_of (kF s k _ hs hlt))))
   refine wpQuiet_nil ?_;intro w2 hw';have hb:Below wr.heap.size wr w2:=b8 hw';clear hw';have hR2:=hR.below hb;have hB12:=hB1.below hb;have hB22:=hB2.below hb;have hL2:=hL.below hb;have hK2:=hK.andBelow hb;clear hR hB1 hB2 hL hK hb g0 g1 g2
   by_cases h39:(bat s k).toNat=39
   ·have d1:(((bat s k).toNat:Int)==39)=true:=by rw[beq_iff_eq];omega
    have g0:=cell_regrown hR2.c0;have g1:=cell_regrown hR2.c1;have g2:=cell_regrown hR2.cs;have HB:=Ng (qY s ⟨#[39,39]⟩ k)
    by_cases hq2:Lib.hasPrefix (s.data.toList.drop k) [39,39]=true
    ·have hq':Lib.hasPrefix (List.drop k s.data.toList) (ByteArray.mk #[39,39]).data.toList=true:=hq2;rw[hq'] at HB;have HT:=Ng ((BW s k acc hlt h39 hq2).2.symm.trans htg.out);have hlt2:=(BW s k acc hlt h39 hq2).1;clear hq' hq2 h39;go_wp2_with fail
     refine wp_region_quiet_below (by kernel_rfl) (by kernel_rfl) ?_
     repeat (go_big_quiet_step ((go_at_call 96;exact Calls.regrown_of (HB.out _ hs hk))))
     refine wpQuiet_nil ?_;intro w3 hw';have hb:Below w2.heap.size w2 w3:=b8 hw';clear hw';have hR3:=hR2.below hb;have hB13:=hB12.below hb;have hB23:=hB22.below hb;have hL3:=hL2.below hb;have hK3:=hK2.andBelow hb;have l1:=hL3.lt;clear hR2 hB12 hB22 hL2 hK2 hb g0 g1 g2 HB;have c1:=hR3.c1;have f1:=hR3.f1;go_wp2_with fail
     generalize hw4:w3.setCell ⟨r,1,none⟩ (.int .i64 (↑k+1))=w4;have hR4:=hR3.move (k+1);have hB14:=hB13.other (p:=⟨r,1,none⟩) (by simp;omega) (.int .i64 (↑k+1))
     have hB24:=hB23.other (p:=⟨r,1,none⟩) (by simp;omega) (.int .i64 (↑k+1))
     have hL4:=hL3.other (p:=⟨r,1,none⟩) (by simp;omega) (.int .i64 (↑k+1))
     have hK4:=hK3.setCell (p:=⟨r,1,none⟩) (fun _=>rfl) (.int .i64 (↑k+1))
     rw[show ((k+1:Nat):Int)=(k:Int)+1 from rfl] at hR4
     rw[hw4] at hR4 hB14 hB24 hL4 hK4;clear hw4 hR3 hB13 hB23 hL3 hK3 c1 f1 l1;refine (Bld.writeByte _ acc (bat s k) w4 hL4 (by omega)).mono ?_
     rintro e w5 ⟨rfl,hL5,hb5⟩;have hR5:=hR4.belowB hb5 (by omega) (by omega)
     have hB15:=hB14.belowB hb5 (by omega)
     have hB25:=hB24.belowB hb5 (by omega)
     have hK5:=hK4.belowB hb5 (by omega)
     clear hR4 hB14 hB24 hL4 hK4 hb5;have c1:=hR5.c1;have f1:=hR5.f1;go_wp2_with fail
     go_roundg (s.size - (k+2))
     case measure=>omega
     case rel =>
      refine ⟨k+2,acc++[bat s k],rfl,by omega,by simp;omega,?_,?_,?_,?_,?_,HT⟩
      ·repeat first | with_reducible assumption | ((with_reducible refine Rdr.moveTo ?_ ?_);rotate_left;focus go_num) | with_reducible exact aV.of (by assumption) | ((with_reducible first | refine aV.other ?_ ?_ ?_ _ | refine Rdr.other ?_ ?_ ?_ _);rotate_left;(focus first | omega | (simp;omega) | simp);focus first | omega | (simp;omega) | simp) | with_reducible first | refine aV.move ?_ _ | refine aV.alloc ?_ _ | refine Rdr.alloc ?_ _ | refine Rdr.drewN ?_ _ | refine Rdr.drew ?_
      ·apply Blk.as
       with_reducible repeat first | assumption | (apply Blk.newAt;focus (simp;done)) | apply Blk.set | (apply Blk.other;case hp=>first | omega | (simp;omega) | simp) | apply Blk.alloc | apply Blk.drewN | apply Blk.drew
       rfl
      ·apply Blk.as
       with_reducible repeat first | assumption | (apply Blk.newAt;focus (simp;done)) | apply Blk.set | (apply Blk.other;case hp=>first | omega | (simp;omega) | simp) | apply Blk.alloc | apply Blk.drewN | apply Blk.drew
       rfl
      ·repeat (first | (with_reducible assumption) | ((with_reducible refine Bld.other ?_ ?_ _);rotate_left;(focus (first | omega | (simp;omega) | simp))) | (with_reducible refine Bld.drew ?_))
      ·repeat first | with_reducible assumption | with_reducible exact aB.refl _ _ | ((with_reducible refine aB.setCell ?_ ?_ _);rotate_left;focus first | exact fun _=>rfl | exact fun h=>absurd h (by first | omega | (simp;omega) | simp)) | with_reducible first | refine aB.alloc ?_ _ | refine aB.drewN ?_ _ | refine aB.drew ?_
    ·have hq':Lib.hasPrefix (List.drop k s.data.toList) (ByteArray.mk #[39,39]).data.toList=false:=by simpa using hq2
     rw[hq'] at HB;have HT:=Ng ((G3 s k acc hlt h39 hq').symm.trans htg.out);clear hq' hq2 h39;go_wp2_with fail
     refine wp_region_quiet_below (by kernel_rfl) (by kernel_rfl) ?_
     repeat (go_big_quiet_step ((go_at_call 96;exact Calls.regrown_of (HB.out _ hs hk))))
     refine wpQuiet_nil ?_;intro w3 hw';have hb:Below w2.heap.size w2 w3:=b8 hw';clear hw';have hR3:=hR2.below hb;have hB13:=hB12.below hb;have hB23:=hB22.below hb;have hL3:=hL2.below hb;have hK3:=hK2.andBelow hb;have l1:=hL3.lt;clear hR2 hB12 hB22 hL2 hK2 hb g0 g1 g2 HB;have c1:=hR3.c1;have f1:=hR3.f1;go_wp2_with fail
     generalize hw4:w3.setCell ⟨r,1,none⟩ (.int .i64 (↑k+1))=w4;have hR4:=hR3.move (k+1);have hB14:=hB13.other (p:=⟨r,1,none⟩) (by simp;omega) (.int .i64 (↑k+1))
     have hB24:=hB23.other (p:=⟨r,1,none⟩) (by simp;omega) (.int .i64 (↑k+1))
     have hL4:=hL3.other (p:=⟨r,1,none⟩) (by simp;omega) (.int .i64 (↑k+1))
     have hK4:=hK3.setCell (p:=⟨r,1,none⟩) (fun _=>rfl) (.int .i64 (↑k+1))
     rw[show ((k+1:Nat):Int)=(k:Int)+1 from rfl] at hR4
     rw[hw4] at hR4 hB14 hB24 hL4 hK4;clear hw4 hR3 hB13 hB23 hL3 hK3 c1 f1 l1;refine (Bld.string _ acc w4 hL4).mono ?_;rintro e w5 ⟨rfl,hb5⟩;have l2:=hL4.lt;have hR5:=hR4.belowB hb5 (by omega) (by omega)
     have hB15:=hB14.belowB hb5 (by omega)
     have hB25:=hB24.belowB hb5 (by omega)
     have hK5:=hK4.belowB hb5 (by omega)
     clear hR4 hB14 hB24 hL4 hK4 hb5 l2;have tc0:=hB15.cell 0 rfl;have tc1:=hB15.cell 1 rfl;have tc2:=hB15.cell 2 rfl;have tc3:=hB15.cell 3 rfl;have tc4:=hB15.cell 4 rfl;have tf0:=hB15.free 0;have tf1:=hB15.free 1;have tf2:=hB15.free 2;have tf3:=hB15.free 3;have tf4:=hB15.free 4;have uc0:=hB25.cell 0 rfl;have uc1:=hB25.cell 1 rfl;have uc2:=hB25.cell 2 rfl;have uc3:=hB25.cell 3 rfl;have uc4:=hB25.cell 4 rfl;have uf0:=hB25.free 0;have uf1:=hB25.free 1;have uf2:=hB25.free 2;have uf3:=hB25.free 3;have uf4:=hB25.free 4;go_wp2_with fail
     (try simp only[Exit.inBlock,Exit.then])
     refine bodyPost_ret (eY (p:=4) (u:=5) (g:=w.heap.size+1) (cs:=[.int .i64 19,.int .i64 p,.int .i64 0,.string (bs acc),.bool false]) rfl _ _ _ rfl ?_ Tryz.underlying87 rfl (by kernel_rfl)) rfl (hgood.out acc (k+1) _ HT.out.symm ?_ ?_)
     ·apply Blk.as
      with_reducible repeat first | assumption | (apply Blk.newAt;focus (simp;done)) | apply Blk.set | (apply Blk.other;case hp=>first | omega | (simp;omega) | simp) | apply Blk.alloc | apply Blk.drewN | apply Blk.drew
      rfl
     ·repeat first | with_reducible assumption | ((with_reducible refine Rdr.moveTo ?_ ?_);rotate_left;focus go_num) | with_reducible exact aV.of (by assumption) | ((with_reducible first | refine aV.other ?_ ?_ ?_ _ | refine Rdr.other ?_ ?_ ?_ _);rotate_left;(focus first | omega | (simp;omega) | simp);focus first | omega | (simp;omega) | simp) | with_reducible first | refine aV.move ?_ _ | refine aV.alloc ?_ _ | refine Rdr.alloc ?_ _ | refine Rdr.drewN ?_ _ | refine Rdr.drew ?_
     ·repeat first | with_reducible assumption | with_reducible exact aB.refl _ _ | ((with_reducible refine aB.setCell ?_ ?_ _);rotate_left;focus first | exact fun _=>rfl | exact fun h=>absurd h (by first | omega | (simp;omega) | simp)) | with_reducible first | refine aB.alloc ?_ _ | refine aB.drewN ?_ _ | refine aB.drew ?_
   ·have d1:(((bat s k).toNat:Int)==39)=false:=by rw[beq_eq_false_iff_ne];omega
    have HT:=Ng ((KB s k acc hlt h39).symm.trans htg.out);clear h39;go_wp2_with fail
    refine wp_region_quiet_below (by kernel_rfl) (by kernel_rfl) ?_
    repeat (go_big_quiet_step (fail))
    refine wpQuiet_nil ?_;intro w3 hw';have hb:Below w2.heap.size w2 w3:=b8 hw';clear hw';have hR3:=hR2.below hb;have hB13:=hB12.below hb;have hB23:=hB22.below hb;have hL3:=hL2.below hb;have hK3:=hK2.andBelow hb;clear hR2 hB12 hB22 hL2 hK2 hb;go_wp2_with fail
    refine (Bld.writeByte _ acc (bat s k) w3 hL3 (by omega)).mono ?_
    rintro e w5 ⟨rfl,hL5,hb5⟩;have l2:=hL3.lt;have hR5:=hR3.belowB hb5 (by omega) (by omega)
    have hB15:=hB13.belowB hb5 (by omega)
    have hB25:=hB23.belowB hb5 (by omega)
    have hK5:=hK3.belowB hb5 (by omega)
    clear hR3 hB13 hB23 hL3 hK3 hb5 l2;have c1:=hR5.c1;have f1:=hR5.f1;go_wp2_with fail
    go_roundg (s.size - (k+1))
    case measure=>omega
    case rel =>
     refine ⟨k+1,acc++[bat s k],rfl,by omega,by simp;omega,?_,?_,?_,?_,?_,HT⟩
     ·repeat first | with_reducible assumption | ((with_reducible refine Rdr.moveTo ?_ ?_);rotate_left;focus go_num) | with_reducible exact aV.of (by assumption) | ((with_reducible first | refine aV.other ?_ ?_ ?_ _ | refine Rdr.other ?_ ?_ ?_ _);rotate_left;(focus first | omega | (simp;omega) | simp);focus first | omega | (simp;omega) | simp) | with_reducible first | refine aV.move ?_ _ | refine aV.alloc ?_ _ | refine Rdr.alloc ?_ _ | refine Rdr.drewN ?_ _ | refine Rdr.drew ?_
     ·apply Blk.as
      with_reducible repeat first | assumption | (apply Blk.newAt;focus (simp;done)) | apply Blk.set | (apply Blk.other;case hp=>first | omega | (simp;omega) | simp) | apply Blk.alloc | apply Blk.drewN | apply Blk.drew
      rfl
     ·apply Blk.as
      with_reducible repeat first | assumption | (apply Blk.newAt;focus (simp;done)) | apply Blk.set | (apply Blk.other;case hp=>first | omega | (simp;omega) | simp) | apply Blk.alloc | apply Blk.drewN | apply Blk.drew
      rfl
     ·repeat (first | (with_reducible assumption) | ((with_reducible refine Bld.other ?_ ?_ _);rotate_left;(focus (first | omega | (simp;omega) | simp))) | (with_reducible refine Bld.drew ?_))
     ·repeat first | with_reducible assumption | with_reducible exact aB.refl _ _ | ((with_reducible refine aB.setCell ?_ ?_ _);rotate_left;focus first | exact fun _=>rfl | exact fun h=>absurd h (by first | omega | (simp;omega) | simp)) | with_reducible first | refine aB.alloc ?_ _ | refine aB.drewN ?_ _ | refine aB.drew ?_
  ·have HT:=Ng ((Jf s k acc (by omega)).symm.trans htg.out)
   refine wp_region_quiet_below (by kernel_rfl) (by kernel_rfl) ?_
   repeat (go_big_quiet_step ((go_at_call 94;exact Calls.regrown_of (nP s k _ hs (by omega)))))
   refine wpQuiet_nil ?_;intro w2 hw';have hb:Below wr.heap.size wr w2:=b8 hw';clear hw';have hR2:=hR.below hb;have hB12:=hB1.below hb;have hB22:=hB2.below hb;have hK2:=hK.andBelow hb;clear hR hB1 hB2 hL hK hb g0 g1 g2;have l1:=hB22.lt;have l2:=hB12.lt;have l3:=hR2.here.lt;have hge:=hK2.cell hev (fun e=>hgr e)
   have tc0:=hB12.cell 0 rfl;have tc1:=hB12.cell 1 rfl;have tc2:=hB12.cell 2 rfl;have tc3:=hB12.cell 3 rfl;have tc4:=hB12.cell 4 rfl;have tf0:=hB12.free 0;have tf1:=hB12.free 1;have tf2:=hB12.free 2;have tf3:=hB12.free 3;have tf4:=hB12.free 4;have uc0:=hB22.cell 0 rfl;have uc1:=hB22.cell 1 rfl;have uc2:=hB22.cell 2 rfl;have uc3:=hB22.cell 3 rfl;have uc4:=hB22.cell 4 rfl;have uf0:=hB22.free 0;have uf1:=hB22.free 1;have uf2:=hB22.free 2;have uf3:=hB22.free 3;have uf4:=hB22.free 4;go_wp2_with (go_at_call 97;refine (uD _ _ _ _).mono ?_;rintro e w6 ⟨rfl,rfl⟩)
   (try simp only[Exit.inBlock,Exit.then])
   refine bodyPost_ret (eY (p:=4) (u:=5) (g:=w.heap.size+1) (cs:=[.int .i64 0,.int .i64 0,.int .i64 0,.string ⟨#[]⟩,.bool false]) rfl _ _ _ rfl ?_ Tryz.underlying87 rfl (by kernel_rfl)) rfl (hbad.out HT.out.symm w2.heap.size _ ?_ ?_)
   ·apply Blk.as
    with_reducible repeat first | assumption | (apply Blk.newAt;focus (simp;done)) | apply Blk.set | (apply Blk.other;case hp=>first | omega | (simp;omega) | simp) | apply Blk.alloc | apply Blk.drewN | apply Blk.drew
    rfl
   ·apply Blk.as
    with_reducible repeat first | assumption | (apply Blk.newAt;focus (simp;done)) | apply Blk.set | (apply Blk.other;case hp=>first | omega | (simp;omega) | simp) | apply Blk.alloc | apply Blk.drewN | apply Blk.drew
    rfl
   ·repeat first | with_reducible assumption | with_reducible exact aB.refl _ _ | ((with_reducible refine aB.setCell ?_ ?_ _);rotate_left;focus first | exact fun _=>rfl | exact fun h=>absurd h (by first | omega | (simp;omega) | simp)) | with_reducible first | refine aB.alloc ?_ _ | refine aB.drewN ?_ _ | refine aB.drew ?_
def cH:List (Nat×Nat):=[(101,3)
 ,(102,1)
 ,(103,9)
 ,(104,11)
 ,(106,10)
 ,(107,7)
 ,(108,5)
 ,(109,4)
 ,(110,6)
 ,(111,2)
 ,(115,0)
 ]
def Env (w:World) (sent:Nat→Addr):Prop:=∀ c g,(c,g)∈cH→w.cell? ⟨g,0,none⟩=some (.iface 286 (.pointer (some (sent c))))
theorem Env.below {w w':World}{sent:Nat→Addr}(h:Env w sent)(hb:Below w.heap.size w w'):Env w' sent:=fun c g hg=>aF hb (h c g hg)
theorem Env.lt {w:World}{sent:Nat→Addr}(h:Env w sent){c g:Nat}(hg:(c,g)∈cH):g<w.heap.size:=block_lt_of_cell (h c g hg)
def bJ (w:World) (b:Nat) (sent:Nat→Addr) (code:Nat) (p:Int):Prop:=Blk w b [.int .i64 p,.iface 286 (.pointer (some (sent code)))]
theorem Hj (l:List UInt8)(j:Nat)(b:List UInt8)(kd:Nat)(o:List UInt8)(ho:cN[j]?=some o) :
  bB l (cN.drop j) j b kd=if b.length<o.length∧Lib.hasPrefix l o=true then bB l (cN.drop (j+1)) (j+1) o j else bB l (cN.drop (j+1)) (j+1) b kd:=by
 obtain⟨h,rfl⟩:=List.getElem?_eq_some_iff.1 ho;rw[List.drop_eq_getElem_cons h,bB]
theorem Ip (l:List UInt8)(b:List UInt8)(kd:Nat):bB l (cN.drop 18) 18 b kd=(b,kd):=rfl
theorem Du (s:ByteArray)(i k:Nat)(hik:i≤k)(hk:k≤s.size)(hall:((s.data.toList.drop i).take (k - i)).all (fun c=>!gY c)=true)(hend:k<s.size→gY (bat s k)=true) :
  (s.data.toList.drop i).takeWhile (fun c=>!gY c)=aZ s.data.toList i k:=by
 have e:aZ s.data.toList i k=(s.data.toList.drop i).take (k - i):=by
  unfold aZ;rw[show ((i:Nat):Int).toNat=i from rfl,show ((k:Nat):Int).toNat=k from rfl,List.drop_take]
 rw[e];apply AV _ _ _ hall
 intro c m hcm;rw[List.drop_drop,show i+(k - i)=k from by omega] at hcm
 by_cases hlt:k<s.size
 ·rw[dN s k hlt] at hcm;injection hcm with h1 _
  rw[← h1,hend hlt];rfl
 ·rw[List.drop_eq_nil_of_le (by rw[size_eq];omega)] at hcm
  cases hcm
theorem Ka (s:ByteArray)(i k:Nat)(hik:i≤k)(hk:k<s.size)(hall:((s.data.toList.drop i).take (k - i)).all (fun c=>!gY c)=true)(hg:gY (bat s k)=false):((s.data.toList.drop i).take (k+1 - i)).all (fun c=>!gY c)=true:=by
 rw[show k+1 - i=(k - i)+1 from by omega]
 have h1:k - i<(s.data.toList.drop i).length:=by rw[List.length_drop,size_eq];omega
 rw[List.take_succ_eq_append_getElem h1,List.all_append,hall,Bool.true_and,List.all_cons,List.all_nil,Bool.and_true];have h2:k<s.data.size:=hk
 have e:(s.data.toList.drop i)[k - i]=bat s k:=by
  simp [bat,List.getD,Array.getElem?_eq_getElem h2,show i+(k - i)=k from by omega]
 rw[e,hg];rfl
theorem Bl (s:ByteArray)(i k:Nat)(hik:i≤k)(hk:k≤s.size):(aZ s.data.toList i k).length=k - i:=by
 unfold aZ;rw[show ((i:Nat):Int).toNat=i from rfl,show ((k:Nat):Int).toNat=k from rfl,List.length_drop,List.length_take,size_eq]
 omega
theorem Hw (s:ByteArray)(i p:Nat)(h:i<s.size)(b:List UInt8)(kd:Nat)(hb:bB (s.data.toList.drop i) cN 0 [] 0=(b,kd)) :
  cY (s.data.toList.drop i) p =
   if b≠[] then .ok (⟨kd,p,0,[],false⟩,b.length)
   else if (bat s i).toNat=38∨(bat s i).toNat=96 then .error (107,p)
   else if (bat s i).toNat=39 then match dU (s.data.toList.drop (i+1)) with
    | some (x,n)=>.ok (⟨19,p,0,x,false⟩,n+1)
    | none=>.error (103,p)
   else if (bat s i).toNat=36 then match mG (s.data.toList.drop (i+1)) with
    | some (k,n,x,z)=>.ok (⟨k,p,n,x,false⟩,z+1)
    | none=>.error (106,p)
   else .ok (⟨18,p,0,(s.data.toList.drop i).takeWhile (fun c=>!gY c),false⟩,((s.data.toList.drop i).takeWhile (fun c=>!gY c)).length):=by
 have hd:=dN s i h;rw[hd] at hb ⊢;simp only[cY,hb]
 try rfl
theorem Iz (s:ByteArray)(i p:Nat)(h:s.size≤i):cY (s.data.toList.drop i) p = .ok (⟨0,p,0,[],false⟩,0):=by
 rw[List.drop_eq_nil_of_le (by rw[size_eq];omega)];rfl
theorem Hf {l:List UInt8}{i n:Nat}{x:List UInt8}(h:iU l (i+1) []=some (x,n)):∃ m,dU (l.drop (i+1))=some (x,m)∧n=i+(m+1):=by
 unfold iU at h
 cases hd:dU (l.drop (i+1)) with
 | none=>rw[hd] at h;cases h
 | some y =>
  rw[hd] at h;simp only[Option.map_some,List.nil_append,Option.some.injEq,Prod.mk.injEq] at h;refine ⟨y.2,?_,by omega⟩
  rw[← h.1]
theorem Hv {l:List UInt8}{i:Nat}(h:iU l (i+1) []=none):dU (l.drop (i+1))=none:=by
 unfold iU at h
 cases hd:dU (l.drop (i+1)) with
 | none=>rfl
 | some y=>rw[hd] at h;cases h
theorem Ik (s:ByteArray)(i:Nat)(h:i+1<s.size)(h1:49≤(bat s (i+1)).toNat)(h2:(bat s (i+1)).toNat≤57):mG (s.data.toList.drop (i+1))=some (23,(bat s (i+1)).toNat - 48,[],1):=by
 rw[dN s (i+1) h];unfold mG;rw[List.headD_cons];exact if_pos ⟨h1,h2⟩
theorem GV (s:ByteArray)(i c0 kind pre:Nat)(hc0:(i+1<s.size∧c0=(bat s (i+1)).toNat)∨(s.size≤i+1∧c0=0))(hn:¬ (49≤c0∧c0≤57))
  (hkind:kind=if c0=35 then 21 else if c0=34 then 22 else 20) (hpre:pre=if c0=35∨c0=34 then 1 else 0) (x:List UInt8) (hx:x=jV (s.data.toList.drop (i+1+pre))) :
  mG (s.data.toList.drop (i+1))=if x=[42]∨bI x=true then some (kind,0,x,pre+x.length) else none:=by
 have hd:((s.data.toList.drop (i+1)).headD 0).toNat=c0:=by
  rcases hc0 with ⟨h,rfl⟩ | ⟨h,rfl⟩
  ·rw[dN s (i+1) h];rfl
  ·rw[List.drop_eq_nil_of_le (by rw[size_eq];omega)];rfl
 unfold mG;rw[hd,if_neg hn,show tG c0=kind from hkind.symm,show lX c0=pre from hpre.symm,List.drop_drop,hx]
theorem Im (r q:Nat)(s:ByteArray)(i:Nat)(w:World)(hs:s.size≤1000000)(hi:i≤s.size)(hR:Rdr w r q s i)(sent:Nat→Addr)(hE:Env w sent)(hgr:∀ c g,(c,g)∈cH→g≠r)
  (R:Ending→World→Prop) (T:Except (Nat×Nat) (aH×Nat)) (hT:Hid (cY (s.data.toList.drop i) i=T))
  (hgood:Hid (∀ t n w',T = .ok (t,n)→Rdr w' r q s (i+n)→aB (At r) w w'→R (.returned (.tuple #[.agg t.cells.toArray,.nilIface])) w'))
  (hbad:Hid (∀ c p b w',T = .error (c,p)→bJ w' b sent c p→aB (At r) w w'→R (.returned (.tuple #[.agg #[.int .i64 0,.int .i64 0,.int .i64 0,.string ⟨#[]⟩,.bool false],.iface 61 (.pointer (some ⟨b,0,none⟩))])) w')) :
  Calls Tryz.prog 47 #[.pointer (some ⟨r,0,none⟩)] w R:=by
 have hr:=hR.here.lt;have hq:=hR.src.lt;go_enter Tryz.func47,Tryz.ntmps47
 have c1:=hR.c1;go_upto_region 2 with fail
 refine eJ (fun w1=>Rdr w1 r q s i∧Blk w1 w.heap.size [.int .i64 0,.int .i64 0,.int .i64 0,.string ⟨#[]⟩,.bool false] ∧
   Blk w1 (w.heap.size+1) [.int .i64 0,.int .i64 i,.int .i64 0,.string ⟨#[]⟩,.bool false]∧aB (At r) w w1)
  ⟨(hR.alloc _).alloc _,(Blk.newAt _ _ (by simp)).alloc _,Blk.newAt _ _ (by simp),((aB.refl (At r) w).alloc _).alloc _⟩ ?_
 intro w1 ⟨hR1,hB1,hB2,hK1⟩;clear c1;have g0:=cell_regrown hR1.c0;have g1:=cell_regrown hR1.c1;have g2:=cell_regrown hR1.cs
 by_cases hlt:i<s.size
 ·refine wp_region_quiet_below (by kernel_rfl) (by kernel_rfl) ?_
  repeat (go_big_quiet_step ((go_at_call 94;exact Calls.regrown_of (kF s i _ hs hlt))))
  refine wpQuiet_nil ?_;intro w2 hw';have hb:Below w1.heap.size w1 w2:=b8 hw';clear hw';have hR2:=hR1.below hb;have hB12:=hB1.below hb;have hB22:=hB2.below hb;have hK2:=hK1.andBelow hb;clear hR1 hB1 hB2 hK1 hb g0 g1 g2;go_wp2_with (go_at_call 95;refine (LN _).mono ?_;rintro e w3 ⟨rfl,hO,hb3⟩)
  have hR3:=hR2.below hb3;have hB13:=hB12.below hb3;have hB23:=hB22.below hb3;have hK3:=hK2.andBelow hb3;have hO1:w.heap.size+1<w2.heap.size:=hB22.lt;generalize hob:w2.heap.size=ob at *;clear hR2 hB12 hB22 hK2 hb3 hob
  go_loopg [7,35] 18 (fun n sb sj wr=>∃ (j:Nat) (b:List UInt8) (kd:Nat),n=18 - j∧j≤18∧sb = .string (bs b)∧sj = .int .i64 j∧b.length≤3∧Rdr wr r q s i∧Blk wr w.heap.size [.int .i64 0,.int .i64 0,.int .i64 0,.string ⟨#[]⟩,.bool false] ∧
    Blk wr (w.heap.size+1) [.int .i64 kd,.int .i64 i,.int .i64 0,.string ⟨#[]⟩,.bool false]∧Blk wr ob (cN.map fun l=>.string (bs l))∧aB (At r) w wr∧Hid (bB (s.data.toList.drop i) cN 0 [] 0=bB (s.data.toList.drop i) (cN.drop j) j b kd)∧Hid (b=[]→kd=0))
  case atStart=>exact⟨0,[],0,rfl,by omega,rfl,rfl,by simp,hR3,hB13,hB23,hO,hK3,Ng rfl,Ng fun _=>rfl⟩
  case round =>
   obtain⟨j,b,kd,rfl,hj,rfl,rfl,hbl,hR,hB1,hB2,hO,hK,hbest,hkd⟩:=hrel;clear hR3 hB13 hB23 hK3
   by_cases hj18:j<18
   ·obtain⟨o,ho⟩:∃ o,cN[j]?=some o:=⟨cN[j]'(by exact hj18),List.getElem?_eq_getElem (by exact hj18)⟩
    have hoc:wr.cell? ⟨ob,j,none⟩=some (.string (bs o)):=hO.cell j (by rw[List.getElem?_map,ho];rfl)
    have hol:o.length≤3:=by
     have h:∀ o∈cN,o.length≤3:=by decide
     exact h o (List.mem_of_getElem? ho)
    have hst:=Ng (Hj (s.data.toList.drop i) j b kd o ho);have hos:=Ng (aY o);have hbs:=Ng (aY b);clear ho;have g0:=cell_regrown hR.c0;have g1:=cell_regrown hR.c1;have g2:=cell_regrown hR.cs
    by_cases hlen:b.length<o.length
    ·have d1:decide (((bs b).size:Int)<((bs o).size:Int))=true:=by rw[hos.out,hbs.out,decide_eq_true_eq];omega
     have d2:decide ((bs b).size<(bs o).size)=true:=by rw[hos.out,hbs.out,decide_eq_true_eq];omega
     have HB:=Ng (qY s (bs o) i);rw[bK] at HB
     cases hpf:Lib.hasPrefix (s.data.toList.drop i) o with
     | true =>
      rw[hpf] at HB;have HN:=Ng (hbest.out.trans (hst.out.trans (if_pos ⟨hlen,hpf⟩)));have HL:Hid (o=[]→j=0):=Ng fun e=>by rw[e] at hlen;simp at hlen
      clear hpf hst hbest hlen;go_wp2_with fail
      refine wp_region_quiet_below (by kernel_rfl) (by kernel_rfl) ?_
      repeat (go_big_quiet_step ((go_at_call 96;exact Calls.regrown_of (HB.out _ hs (by omega)))))
      refine wpQuiet_nil ?_;intro w4 hw';have hb:Below wr.heap.size wr w4:=b8 hw';clear hw';have hR4:=hR.below hb;have hB14:=hB1.below hb;have hB24:=hB2.below hb;have hO4:=hO.below hb;have hK4:=hK.andBelow hb;clear hR hB1 hB2 hO hK hb g0 g1 g2 HB hoc;have tc0:=hB24.cell 0 rfl;have tf0:=hB24.free 0;go_wp2_with fail
      go_roundg (18 - (j+1))
      case measure=>omega
      case rel =>
       refine ⟨j+1,o,j,rfl,by omega,rfl,by go_num,hol,?_,?_,?_,?_,?_,HN,HL⟩
       ·repeat first | with_reducible assumption | ((with_reducible refine Rdr.moveTo ?_ ?_);rotate_left;focus go_num) | with_reducible exact aV.of (by assumption) | ((with_reducible first | refine aV.other ?_ ?_ ?_ _ | refine Rdr.other ?_ ?_ ?_ _);rotate_left;(focus first | omega | (simp;omega) | simp);focus first | omega | (simp;omega) | simp) | with_reducible first | refine aV.move ?_ _ | refine aV.alloc ?_ _ | refine Rdr.alloc ?_ _ | refine Rdr.drewN ?_ _ | refine Rdr.drew ?_
       ·apply Blk.as
        with_reducible repeat first | assumption | (apply Blk.newAt;focus (simp;done)) | apply Blk.set | (apply Blk.other;case hp=>first | omega | (simp;omega) | simp) | apply Blk.alloc | apply Blk.drewN | apply Blk.drew
        rfl
       ·apply Blk.as
        with_reducible repeat first | assumption | (apply Blk.newAt;focus (simp;done)) | apply Blk.set | (apply Blk.other;case hp=>first | omega | (simp;omega) | simp) | apply Blk.alloc | apply Blk.drewN | apply Blk.drew
        rfl
       ·apply Blk.as
        with_reducible repeat first | assumption | (apply Blk.newAt;focus (simp;done)) | apply Blk.set | (apply Blk.other;case hp=>first | omega | (simp;omega) | simp) | apply Blk.alloc | apply Blk.drewN | apply Blk.drew
        rfl
       ·repeat first | with_reducible assumption | with_reducible exact aB.refl _ _ | ((with_reducible refine aB.setCell ?_ ?_ _);rotate_left;focus first | exact fun _=>rfl | exact fun h=>absurd h (by first | omega | (simp;omega) | simp)) | with_reducible first | refine aB.alloc ?_ _ | refine aB.drewN ?_ _ | refine aB.drew ?_
     | false =>
      rw[hpf] at HB;have HN:=Ng (hbest.out.trans (hst.out.trans (if_neg (fun h=>by rw[hpf] at h;exact absurd h.2 (by decide)))))
      clear hpf hst hbest hlen;go_wp2_with fail
      refine wp_region_quiet_below (by kernel_rfl) (by kernel_rfl) ?_
      repeat (go_big_quiet_step ((go_at_call 96;exact Calls.regrown_of (HB.out _ hs (by omega)))))
      refine wpQuiet_nil ?_;intro w4 hw';have hb:Below wr.heap.size wr w4:=b8 hw';clear hw';have hR4:=hR.below hb;have hB14:=hB1.below hb;have hB24:=hB2.below hb;have hO4:=hO.below hb;have hK4:=hK.andBelow hb;clear hR hB1 hB2 hO hK hb g0 g1 g2 HB hoc;go_wp2_with fail
      go_roundg (18 - (j+1))
      case measure=>omega
      case rel=>exact⟨j+1,b,kd,rfl,by omega,rfl,by go_num,hbl,hR4,hB14,hB24,hO4,hK4,HN,hkd⟩
    ·have d1:decide (((bs b).size:Int)<((bs o).size:Int))=false:=by rw[hos.out,hbs.out,decide_eq_false_iff_not];omega
     have d2:decide ((bs b).size<(bs o).size)=false:=by rw[hos.out,hbs.out,decide_eq_false_iff_not];omega
     have HN:=Ng (hbest.out.trans (hst.out.trans (if_neg (fun h=>hlen h.1))))
     clear hst hbest hlen;go_wp2_with fail
     refine wp_region_quiet_below (by kernel_rfl) (by kernel_rfl) ?_
     repeat (go_big_quiet_step (fail))
     refine wpQuiet_nil ?_;intro w4 hw';have hb:Below wr.heap.size wr w4:=b8 hw';clear hw';have hR4:=hR.below hb;have hB14:=hB1.below hb;have hB24:=hB2.below hb;have hO4:=hO.below hb;have hK4:=hK.andBelow hb;clear hR hB1 hB2 hO hK hb g0 g1 g2 hoc;go_wp2_with fail
     go_roundg (18 - (j+1))
     case measure=>omega
     case rel=>exact⟨j+1,b,kd,rfl,by omega,rfl,by go_num,hbl,hR4,hB14,hB24,hO4,hK4,HN,hkd⟩
   ·obtain rfl:j=18:=by omega
    have HB:=Ng (hbest.out.trans (Ip _ b kd));clear hbest hO hO1;have HT0:=Ng ((Hw s i i hlt b kd HB.out).symm.trans hT.out)
    by_cases hbe:b=[]
    ·have hk0:=hkd.out hbe;subst hbe hk0;have HT1:=Ng ((if_neg (by simp)).symm.trans HT0.out)
     have e1:(bs []).toList=[]:=by rw[Lib.toList_data,bK]
     have e2:(bs []).toList.isEmpty=true:=by rw[e1];rfl
     clear HT0 HB hkd hbl
     by_cases h38:(bat s i).toNat=38∨(bat s i).toNat=96
     ·have HT:=Ng ((if_pos h38).symm.trans HT1.out);have hge:=hK.cell (hE 107 7 (by decide)) (fun e=>hgr 107 7 (by decide) e)
      have hne:=hgr 107 7 (by decide)
      have l1:=hB1.lt;have l2:=hB2.lt;have l3:=hR.here.lt;have l4:=block_lt_of_cell hge;have l5:7<w.heap.size:=block_lt_of_cell (hE 107 7 (by decide))
      have n1:¬ w.heap.size=r:=by omega
      have n2:¬ r=w.heap.size:=by omega
      have n3:¬ w.heap.size=7:=by omega
      have n4:¬ 7=w.heap.size:=by omega
      have c1:=hR.c1;have HB38:=Ng h38;clear HT1;have tc0:=hB1.cell 0 rfl;have tc1:=hB1.cell 1 rfl;have tc2:=hB1.cell 2 rfl;have tc3:=hB1.cell 3 rfl;have tc4:=hB1.cell 4 rfl;have tf0:=hB1.free 0;have tf1:=hB1.free 1;have tf2:=hB1.free 2;have tf3:=hB1.free 3;have tf4:=hB1.free 4
      by_cases h38b:(bat s i).toNat=38
      ·have d1:(((bat s i).toNat:Int)==38)=true:=by rw[beq_iff_eq];omega
       clear h38 h38b;go_wp2_with fail
       go_region_held3 (fun w'=>w'.cell? ⟨r,1,none⟩=some (.int .i64 (i:Int))∧w'.cell? ⟨7,0,none⟩=some (.iface 286 (.pointer (some (sent 107))))) (first | go_keep)
        (first
         | (go_at_call 97;refine (uD _ _ _ _).mono ?_;rintro e w5 ⟨rfl,rfl⟩))
       go_wp2_with fail
       (try simp only[Exit.inBlock,Exit.then])
       refine bodyPost_ret (eY (p:=2) (u:=3) (g:=w.heap.size) (cs:=[.int .i64 0,.int .i64 0,.int .i64 0,.string ⟨#[]⟩,.bool false]) rfl _ _ _ rfl ?_ Tryz.underlying87 rfl (by kernel_rfl)) rfl (hbad.out _ _ wr.heap.size _ HT.out.symm ?_ ?_)
       ·apply Blk.as
        with_reducible repeat first | assumption | (apply Blk.newAt;focus (simp;done)) | apply Blk.set | (apply Blk.other;case hp=>first | omega | (simp;omega) | simp) | apply Blk.alloc | apply Blk.drewN | apply Blk.drew
        rfl
       ·unfold bJ;apply Blk.as
        with_reducible repeat first | assumption | (apply Blk.newAt;focus (simp;done)) | apply Blk.set | (apply Blk.other;case hp=>first | omega | (simp;omega) | simp) | apply Blk.alloc | apply Blk.drewN | apply Blk.drew
        rfl
       ·repeat first | with_reducible assumption | with_reducible exact aB.refl _ _ | ((with_reducible refine aB.setCell ?_ ?_ _);rotate_left;focus first | exact fun _=>rfl | exact fun h=>absurd h (by first | omega | (simp;omega) | simp)) | with_reducible first | refine aB.alloc ?_ _ | refine aB.drewN ?_ _ | refine aB.drew ?_
      ·have d1:(((bat s i).toNat:Int)==38)=false:=by rw[beq_eq_false_iff_ne];omega
       have d2:(((bat s i).toNat:Int)==96)=true:=by rw[beq_iff_eq];omega
       clear h38 h38b;go_wp2_with fail
       go_region_held3 (fun w'=>w'.cell? ⟨r,1,none⟩=some (.int .i64 (i:Int))∧w'.cell? ⟨7,0,none⟩=some (.iface 286 (.pointer (some (sent 107))))) (first | go_keep)
        (first
         | (go_at_call 97;refine (uD _ _ _ _).mono ?_;rintro e w5 ⟨rfl,rfl⟩))
       go_wp2_with fail
       (try simp only[Exit.inBlock,Exit.then])
       refine bodyPost_ret (eY (p:=2) (u:=3) (g:=w.heap.size) (cs:=[.int .i64 0,.int .i64 0,.int .i64 0,.string ⟨#[]⟩,.bool false]) rfl _ _ _ rfl ?_ Tryz.underlying87 rfl (by kernel_rfl)) rfl (hbad.out _ _ wr.heap.size _ HT.out.symm ?_ ?_)
       ·apply Blk.as
        with_reducible repeat first | assumption | (apply Blk.newAt;focus (simp;done)) | apply Blk.set | (apply Blk.other;case hp=>first | omega | (simp;omega) | simp) | apply Blk.alloc | apply Blk.drewN | apply Blk.drew
        rfl
       ·unfold bJ;apply Blk.as
        with_reducible repeat first | assumption | (apply Blk.newAt;focus (simp;done)) | apply Blk.set | (apply Blk.other;case hp=>first | omega | (simp;omega) | simp) | apply Blk.alloc | apply Blk.drewN | apply Blk.drew
        rfl
       ·repeat first | with_reducible assumption | with_reducible exact aB.refl _ _ | ((with_reducible refine aB.setCell ?_ ?_ _);rotate_left;focus first | exact fun _=>rfl | exact fun h=>absurd h (by first | omega | (simp;omega) | simp)) | with_reducible first | refine aB.alloc ?_ _ | refine aB.drewN ?_ _ | refine aB.drew ?_
     ·have HT2:=Ng ((if_neg h38).symm.trans HT1.out);have d1:(((bat s i).toNat:Int)==38)=false:=by rw[beq_eq_false_iff_ne];omega
      have d2:(((bat s i).toNat:Int)==96)=false:=by rw[beq_eq_false_iff_ne];omega
      clear HT1 h38
      by_cases h39:(bat s i).toNat=39
      ·have HT:=Ng ((if_pos h39).symm.trans HT2.out);have d3:(((bat s i).toNat:Int)==39)=true:=by rw[beq_iff_eq];omega
       clear HT2 h39;have l1:=hB1.lt;have l2:=hB2.lt;have l3:=hR.here.lt;have tc0:=hB1.cell 0 rfl;have tc1:=hB1.cell 1 rfl;have tc2:=hB1.cell 2 rfl;have tc3:=hB1.cell 3 rfl;have tc4:=hB1.cell 4 rfl;have tf0:=hB1.free 0;have tf1:=hB1.free 1;have tf2:=hB1.free 2;have tf3:=hB1.free 3;have tf4:=hB1.free 4;have uc0:=hB2.cell 0 rfl;have uc1:=hB2.cell 1 rfl;have uc2:=hB2.cell 2 rfl;have uc3:=hB2.cell 3 rfl;have uc4:=hB2.cell 4 rfl;have uf0:=hB2.free 0;have uf1:=hB2.free 1;have uf2:=hB2.free 2;have uf3:=hB2.free 3;have uf4:=hB2.free 4;go_wp2_with fail
       refine Kl r q s i i wr hs hlt hR _ _ (hK.cell (hE 103 9 (by decide)) (fun e=>hgr 103 9 (by decide) e)) (hgr 103 9 (by decide)) _ _ (Ng rfl) (Ng fun x n w5 hx hR5 hK5=>?_) (Ng fun hx b5 w5 hE5 hK5=>?_)
       ·obtain⟨m,hm,hn⟩:=Hf hx;have HG:=Ng (hgood.out ⟨19,i,0,x,false⟩ (m+1) · (by rw[← HT.out,hm]))
        have HN:=Ng hn;clear hx hm hn;have hB5:=hB1.kept hK5 (fun e=>Nat.ne_of_gt hr e)
        have hK6:=hK.same hK5;clear tc0 tc1 tc2 tc3 tc4 tf0 tf1 tf2 tf3 tf4 uc0 uc1 uc2 uc3 uc4 uf0 uf1 uf2 uf3 uf4;have tc0:=hB5.cell 0 rfl;have tc1:=hB5.cell 1 rfl;have tc2:=hB5.cell 2 rfl;have tc3:=hB5.cell 3 rfl;have tc4:=hB5.cell 4 rfl;have tf0:=hB5.free 0;have tf1:=hB5.free 1;have tf2:=hB5.free 2;have tf3:=hB5.free 3;have tf4:=hB5.free 4
        try simp only[]
        go_wp2_with fail
        (try simp only[Exit.inBlock,Exit.then])
        refine bodyPost_ret (eY (p:=2) (u:=3) (g:=w.heap.size) (cs:=[.int .i64 19,.int .i64 i,.int .i64 0,.string (bs x),.bool false]) rfl _ _ _ rfl ?_ Tryz.underlying87 rfl (by kernel_rfl)) rfl (HG.out _ ?_ ?_)
        ·apply Blk.as
         with_reducible repeat first | assumption | (apply Blk.newAt;focus (simp;done)) | apply Blk.set | (apply Blk.other;case hp=>first | omega | (simp;omega) | simp) | apply Blk.alloc | apply Blk.drewN | apply Blk.drew
         rfl
        ·rw[← HN.out]
         repeat first | with_reducible assumption | ((with_reducible refine Rdr.moveTo ?_ ?_);rotate_left;focus go_num) | with_reducible exact aV.of (by assumption) | ((with_reducible first | refine aV.other ?_ ?_ ?_ _ | refine Rdr.other ?_ ?_ ?_ _);rotate_left;(focus first | omega | (simp;omega) | simp);focus first | omega | (simp;omega) | simp) | with_reducible first | refine aV.move ?_ _ | refine aV.alloc ?_ _ | refine Rdr.alloc ?_ _ | refine Rdr.drewN ?_ _ | refine Rdr.drew ?_
        ·repeat first | with_reducible assumption | with_reducible exact aB.refl _ _ | ((with_reducible refine aB.setCell ?_ ?_ _);rotate_left;focus first | exact fun _=>rfl | exact fun h=>absurd h (by first | omega | (simp;omega) | simp)) | with_reducible first | refine aB.alloc ?_ _ | refine aB.drewN ?_ _ | refine aB.drew ?_
       ·have hm:=Hv hx;have HG:=Ng (hbad.out 103 i b5 · (by rw[← HT.out,hm]))
        clear hx hm;have hB5:=hB1.kept hK5 (fun e=>Nat.ne_of_gt hr e)
        have hK6:=hK.same hK5;clear tc0 tc1 tc2 tc3 tc4 tf0 tf1 tf2 tf3 tf4 uc0 uc1 uc2 uc3 uc4 uf0 uf1 uf2 uf3 uf4;have tc0:=hB5.cell 0 rfl;have tc1:=hB5.cell 1 rfl;have tc2:=hB5.cell 2 rfl;have tc3:=hB5.cell 3 rfl;have tc4:=hB5.cell 4 rfl;have tf0:=hB5.free 0;have tf1:=hB5.free 1;have tf2:=hB5.free 2;have tf3:=hB5.free 3;have tf4:=hB5.free 4
        try simp only[]
        go_wp2_with fail
        (try simp only[Exit.inBlock,Exit.then])
        have nb:=Blk.apart hE5 hB5 (by simp)
        refine bodyPost_ret (eY (p:=2) (u:=3) (g:=w.heap.size) (cs:=[.int .i64 0,.int .i64 0,.int .i64 0,.string ⟨#[]⟩,.bool false]) rfl _ _ _ rfl ?_ Tryz.underlying87 rfl (by kernel_rfl)) rfl (HG.out _ ?_ ?_)
        ·apply Blk.as
         with_reducible repeat first | assumption | (apply Blk.newAt;focus (simp;done)) | apply Blk.set | (apply Blk.other;case hp=>first | omega | (simp;omega) | simp) | apply Blk.alloc | apply Blk.drewN | apply Blk.drew
         rfl
        ·unfold bJ;apply Blk.as
         with_reducible repeat first | assumption | (apply Blk.newAt;focus (simp;done)) | apply Blk.set | (apply Blk.other;case hp=>first | omega | (simp;omega) | simp) | apply Blk.alloc | apply Blk.drewN | apply Blk.drew
         rfl
        ·repeat first | with_reducible assumption | with_reducible exact aB.refl _ _ | ((with_reducible refine aB.setCell ?_ ?_ _);rotate_left;focus first | exact fun _=>rfl | exact fun h=>absurd h (by first | omega | (simp;omega) | simp)) | with_reducible first | refine aB.alloc ?_ _ | refine aB.drewN ?_ _ | refine aB.drew ?_
      ·have HT3:=Ng ((if_neg h39).symm.trans HT2.out);have d3:(((bat s i).toNat:Int)==39)=false:=by rw[beq_eq_false_iff_ne];omega
       clear HT2 h39
       by_cases h36:(bat s i).toNat=36
       ·have HT:=Ng ((if_pos h36).symm.trans HT3.out);have d4:(((bat s i).toNat:Int)==36)=true:=by rw[beq_iff_eq];omega
        clear HT3 h36;have l1:=hB1.lt;have l2:=hB2.lt;have l3:=hR.here.lt;have tc0:=hB1.cell 0 rfl;have tc1:=hB1.cell 1 rfl;have tc2:=hB1.cell 2 rfl;have tc3:=hB1.cell 3 rfl;have tc4:=hB1.cell 4 rfl;have tf0:=hB1.free 0;have tf1:=hB1.free 1;have tf2:=hB1.free 2;have tf3:=hB1.free 3;have tf4:=hB1.free 4;have uc0:=hB2.cell 0 rfl;have uc1:=hB2.cell 1 rfl;have uc2:=hB2.cell 2 rfl;have uc3:=hB2.cell 3 rfl;have uc4:=hB2.cell 4 rfl;have uf0:=hB2.free 0;have uf1:=hB2.free 1;have uf2:=hB2.free 2;have uf3:=hB2.free 3;have uf4:=hB2.free 4
        by_cases hnum:i+1<s.size∧49≤(bat s (i+1)).toNat∧(bat s (i+1)).toNat≤57
        ·obtain⟨hn0,hn1,hn2⟩:=hnum;have HG:=Ng (hgood.out ⟨23,i,(bat s (i+1)).toNat - 48,[],false⟩ 2 · (by rw[← HT.out,Ik s i hn0 hn1 hn2]))
         go_wp2_with fail
         refine (Hr r q s i i wr hs hn0 hR hn1 hn2).mono ?_;rintro e w5 ⟨rfl,hR5,hK5⟩;clear hn1 hn2;have hB5:=hB1.kept hK5 (fun e=>Nat.ne_of_gt hr e)
         have hK6:=hK.same hK5;clear tc0 tc1 tc2 tc3 tc4 tf0 tf1 tf2 tf3 tf4 uc0 uc1 uc2 uc3 uc4 uf0 uf1 uf2 uf3 uf4;have tc0:=hB5.cell 0 rfl;have tc1:=hB5.cell 1 rfl;have tc2:=hB5.cell 2 rfl;have tc3:=hB5.cell 3 rfl;have tc4:=hB5.cell 4 rfl;have tf0:=hB5.free 0;have tf1:=hB5.free 1;have tf2:=hB5.free 2;have tf3:=hB5.free 3;have tf4:=hB5.free 4
         try simp only[]
         go_wp2_with fail
         (try simp only[Exit.inBlock,Exit.then])
         refine bodyPost_ret (eY (p:=2) (u:=3) (g:=w.heap.size) (cs:=[.int .i64 23,.int .i64 i,.int .i64 (((bat s (i+1)).toNat - 48:Nat):Int),.string ⟨#[]⟩,.bool false]) rfl _ _ _ rfl ?_ Tryz.underlying87 rfl (by kernel_rfl)) rfl (HG.out _ ?_ ?_)
         ·apply Blk.as
          with_reducible repeat first | assumption | (apply Blk.newAt;focus (simp;done)) | apply Blk.set | (apply Blk.other;case hp=>first | omega | (simp;omega) | simp) | apply Blk.alloc | apply Blk.drewN | apply Blk.drew
          rfl
         ·repeat first | with_reducible assumption | ((with_reducible refine Rdr.moveTo ?_ ?_);rotate_left;focus go_num) | with_reducible exact aV.of (by assumption) | ((with_reducible first | refine aV.other ?_ ?_ ?_ _ | refine Rdr.other ?_ ?_ ?_ _);rotate_left;(focus first | omega | (simp;omega) | simp);focus first | omega | (simp;omega) | simp) | with_reducible first | refine aV.move ?_ _ | refine aV.alloc ?_ _ | refine Rdr.alloc ?_ _ | refine Rdr.drewN ?_ _ | refine Rdr.drew ?_
         ·repeat first | with_reducible assumption | with_reducible exact aB.refl _ _ | ((with_reducible refine aB.setCell ?_ ?_ _);rotate_left;focus first | exact fun _=>rfl | exact fun h=>absurd h (by first | omega | (simp;omega) | simp)) | with_reducible first | refine aB.alloc ?_ _ | refine aB.drewN ?_ _ | refine aB.drew ?_
        ·obtain⟨c0,hc0⟩:∃ c0,(i+1<s.size∧c0=(bat s (i+1)).toNat)∨(s.size≤i+1∧c0=0):=by
          by_cases h:i+1<s.size
          ·exact⟨_,.inl ⟨h,rfl⟩⟩
          ·exact⟨_,.inr ⟨by omega,rfl⟩⟩
         have hn:¬ (49≤c0∧c0≤57):=by
          rcases hc0 with ⟨h,rfl⟩ | ⟨h,rfl⟩
          ·exact fun e=>hnum ⟨h,e⟩
          ·omega
         have hpb:i+1+(if c0=35∨c0=34 then 1 else 0)≤s.size:=by
          rcases hc0 with ⟨h,_⟩ | ⟨h,h0⟩
          ·split <;> omega
          ·rw[if_neg (by omega)];omega
         have hdn:=GV s i c0 _ _ hc0 hn rfl rfl _ rfl;clear hnum;have HDN:=Ng hdn;have HC0:=Ng hc0;have HPB:=Ng hpb;clear hdn hc0 hpb;go_wp2_with fail
         refine Ge r q s i i _ _ c0 wr hs hlt hR _ _ (hK.cell (hE 106 10 (by decide)) (fun e=>hgr 106 10 (by decide) e)) (hgr 106 10 (by decide)) HC0 hn (Ng rfl) (Ng rfl) _ (Ng rfl) HPB _ (Ng fun hx w5 hR5 hK5=>?_) (Ng fun hx b5 w5 hE5 hK5=>?_)
         ·have HG:=Ng (hgood.out ⟨_,i,0,_,false⟩ _ · (by rw[← HT.out,HDN.out,if_pos hx]))
          clear hx HDN HC0 HPB hn;generalize (if c0=35 then 21 else if c0=34 then 22 else 20)=kind at *
          generalize (if c0=35∨c0=34 then 1 else 0)=pre at *
          generalize jV (s.data.toList.drop (i+1+pre))=x at *;have hB5:=hB1.kept hK5 (fun e=>Nat.ne_of_gt hr e)
          have hK6:=hK.same hK5;clear tc0 tc1 tc2 tc3 tc4 tf0 tf1 tf2 tf3 tf4 uc0 uc1 uc2 uc3 uc4 uf0 uf1 uf2 uf3 uf4;have tc0:=hB5.cell 0 rfl;have tc1:=hB5.cell 1 rfl;have tc2:=hB5.cell 2 rfl;have tc3:=hB5.cell 3 rfl;have tc4:=hB5.cell 4 rfl;have tf0:=hB5.free 0;have tf1:=hB5.free 1;have tf2:=hB5.free 2;have tf3:=hB5.free 3;have tf4:=hB5.free 4
          try simp only[]
          go_wp2_with fail
          (try simp only[Exit.inBlock,Exit.then])
          refine bodyPost_ret (eY (p:=2) (u:=3) (g:=w.heap.size) (cs:=[.int .i64 kind,.int .i64 i,.int .i64 0,.string (bs x),.bool false]) rfl _ _ _ rfl ?_ Tryz.underlying87 rfl (by kernel_rfl)) rfl (HG.out _ ?_ ?_)
          ·apply Blk.as
           with_reducible repeat first | assumption | (apply Blk.newAt;focus (simp;done)) | apply Blk.set | (apply Blk.other;case hp=>first | omega | (simp;omega) | simp) | apply Blk.alloc | apply Blk.drewN | apply Blk.drew
           rfl
          ·rw[show i+(pre+x.length+1)=i+1+pre+x.length from by omega]
           repeat first | with_reducible assumption | ((with_reducible refine Rdr.moveTo ?_ ?_);rotate_left;focus go_num) | with_reducible exact aV.of (by assumption) | ((with_reducible first | refine aV.other ?_ ?_ ?_ _ | refine Rdr.other ?_ ?_ ?_ _);rotate_left;(focus first | omega | (simp;omega) | simp);focus first | omega | (simp;omega) | simp) | with_reducible first | refine aV.move ?_ _ | refine aV.alloc ?_ _ | refine Rdr.alloc ?_ _ | refine Rdr.drewN ?_ _ | refine Rdr.drew ?_
          ·repeat first | with_reducible assumption | with_reducible exact aB.refl _ _ | ((with_reducible refine aB.setCell ?_ ?_ _);rotate_left;focus first | exact fun _=>rfl | exact fun h=>absurd h (by first | omega | (simp;omega) | simp)) | with_reducible first | refine aB.alloc ?_ _ | refine aB.drewN ?_ _ | refine aB.drew ?_
         ·have HG:=Ng (hbad.out 106 i b5 · (by rw[← HT.out,HDN.out,if_neg hx]))
          clear hx HDN HC0 HPB hn;have hB5:=hB1.kept hK5 (fun e=>Nat.ne_of_gt hr e)
          have hK6:=hK.same hK5;clear tc0 tc1 tc2 tc3 tc4 tf0 tf1 tf2 tf3 tf4 uc0 uc1 uc2 uc3 uc4 uf0 uf1 uf2 uf3 uf4;have tc0:=hB5.cell 0 rfl;have tc1:=hB5.cell 1 rfl;have tc2:=hB5.cell 2 rfl;have tc3:=hB5.cell 3 rfl;have tc4:=hB5.cell 4 rfl;have tf0:=hB5.free 0;have tf1:=hB5.free 1;have tf2:=hB5.free 2;have tf3:=hB5.free 3;have tf4:=hB5.free 4
          try simp only[]
          go_wp2_with fail
          (try simp only[Exit.inBlock,Exit.then])
          have nb:=Blk.apart hE5 hB5 (by simp)
          refine bodyPost_ret (eY (p:=2) (u:=3) (g:=w.heap.size) (cs:=[.int .i64 0,.int .i64 0,.int .i64 0,.string ⟨#[]⟩,.bool false]) rfl _ _ _ rfl ?_ Tryz.underlying87 rfl (by kernel_rfl)) rfl (HG.out _ ?_ ?_)
          ·apply Blk.as
           with_reducible repeat first | assumption | (apply Blk.newAt;focus (simp;done)) | apply Blk.set | (apply Blk.other;case hp=>first | omega | (simp;omega) | simp) | apply Blk.alloc | apply Blk.drewN | apply Blk.drew
           rfl
          ·unfold bJ;apply Blk.as
           with_reducible repeat first | assumption | (apply Blk.newAt;focus (simp;done)) | apply Blk.set | (apply Blk.other;case hp=>first | omega | (simp;omega) | simp) | apply Blk.alloc | apply Blk.drewN | apply Blk.drew
           rfl
          ·repeat first | with_reducible assumption | with_reducible exact aB.refl _ _ | ((with_reducible refine aB.setCell ?_ ?_ _);rotate_left;focus first | exact fun _=>rfl | exact fun h=>absurd h (by first | omega | (simp;omega) | simp)) | with_reducible first | refine aB.alloc ?_ _ | refine aB.drewN ?_ _ | refine aB.drew ?_
       ·have HT:=Ng ((if_neg h36).symm.trans HT3.out);have d4:(((bat s i).toNat:Int)==36)=false:=by rw[beq_eq_false_iff_ne];omega
        clear HT3 h36;go_wp2_with fail
        go_loopg [5,6] (s.size - i) (fun n c x wr=>∃ k:Nat,n=s.size - k∧i≤k∧k≤s.size∧Rdr wr r q s k∧Blk wr w.heap.size [.int .i64 0,.int .i64 0,.int .i64 0,.string ⟨#[]⟩,.bool false] ∧
         Blk wr (w.heap.size+1) [.int .i64 0,.int .i64 i,.int .i64 0,.string ⟨#[]⟩,.bool false]∧aB (At r) w wr∧Hid (((s.data.toList.drop i).take (k - i)).all (fun c=>!gY c)=true) ∧
         ((k<s.size∧c = .int .u8 (bat s k).toNat∧x = .bool true)∨(s.size≤k∧c = .int .u8 0∧x = .bool false)))
        case atStart=>exact⟨i,rfl,Nat.le_refl _,hi,hR,hB1,hB2,hK,Ng (by rw[Nat.sub_self];rfl),.inl ⟨hlt,rfl,rfl⟩⟩
        case round =>
         clear hR hB1 hB2 hK d1 d2 d3 d4;obtain⟨k,rfl,hik,hk,hR,hB1,hB2,hK,hall,hcase⟩:=hrel
         rcases hcase with ⟨hlt,rfl,rfl⟩ | ⟨hge,rfl,rfl⟩
         ·cases hen:gY (bat s k) with
          | false =>
           have HEn:=Ng hen;have hn:=Ng (Ka s i k hik hlt hall.out hen);clear hen;have c1:=hR.c1;have f1:=hR.f1;go_wp2_with (go_at_call 100;refine (yD _ _).mono ?_;rintro e w' ⟨rfl,rfl⟩;rw[HEn.out])
           generalize hw2:wr.setCell ⟨r,1,none⟩ (.int .i64 (↑k+1))=w2;have l1:=hB1.lt;have hR2:=hR.move (k+1);have hB12:=hB1.other (p:=⟨r,1,none⟩) (by simp;omega) (.int .i64 (↑k+1))
           have hB22:=hB2.other (p:=⟨r,1,none⟩) (by simp;omega) (.int .i64 (↑k+1))
           have hK2:=hK.setCell (p:=⟨r,1,none⟩) (fun _=>rfl) (.int .i64 (↑k+1))
           rw[show ((k+1:Nat):Int)=(k:Int)+1 from rfl] at hR2
           rw[hw2] at hR2 hB12 hB22 hK2;clear hw2 hR hB1 hB2 hK c1 f1 l1;have g0:=cell_regrown hR2.c0;have g1:=cell_regrown hR2.c1;have g2:=cell_regrown hR2.cs
           by_cases hlt2:k+1<s.size
           ·refine wp_region_quiet_below (by kernel_rfl) (by kernel_rfl) ?_
            repeat (go_big_quiet_step ((go_at_call 94;exact Calls.regrown_of (kF s (k+1) _ hs hlt2))))
            refine wpQuiet_nil ?_;intro w3 hw';have hb:Below w2.heap.size w2 w3:=b8 hw';clear hw';clear g0 g1 g2;go_wp2_with fail
            go_roundg (s.size - (k+1))
            case measure=>omega
            case rel=>exact⟨k+1,rfl,by omega,by omega,hR2.below hb,hB12.below hb,hB22.below hb,hK2.andBelow hb,hn,.inl ⟨hlt2,rfl,rfl⟩⟩
           ·refine wp_region_quiet_below (by kernel_rfl) (by kernel_rfl) ?_
            repeat (go_big_quiet_step ((go_at_call 94;exact Calls.regrown_of (nP s (k+1) _ hs (by omega)))))
            refine wpQuiet_nil ?_;intro w3 hw';have hb:Below w2.heap.size w2 w3:=b8 hw';clear hw';clear g0 g1 g2;go_wp2_with fail
            go_roundg (s.size - (k+1))
            case measure=>omega
            case rel=>exact⟨k+1,rfl,by omega,by omega,hR2.below hb,hB12.below hb,hB22.below hb,hK2.andBelow hb,hn,.inr ⟨by omega,rfl,rfl⟩⟩
          | true =>
           have HEn:=Ng hen;have HX:=Ng (Du s i k hik hk hall.out (fun _=>hen))
           clear hen;go_wp2_with (go_at_call 100;refine (yD _ _).mono ?_;rintro e w' ⟨rfl,rfl⟩;rw[HEn.out])
           have c0:=hR.c0;have c1:=hR.c1;have cs:=hR.cs;have l1:=hB1.lt;have l2:=hB2.lt;have l3:=hR.here.lt;have l4:=hR.src.lt;have uc0:=hB2.cell 0 rfl;have uc1:=hB2.cell 1 rfl;have uc2:=hB2.cell 2 rfl;have uc3:=hB2.cell 3 rfl;have uc4:=hB2.cell 4 rfl;have uf0:=hB2.free 0;have uf1:=hB2.free 1;have uf2:=hB2.free 2;have uf3:=hB2.free 3;have uf4:=hB2.free 4;have n1:¬ r=w.heap.size+1:=by omega
           have n2:¬ q=w.heap.size+1:=by omega
           have n3:¬ w.heap.size+1=r:=by omega
           have n4:¬ w.heap.size+1=q:=by omega
           go_region_held3 (fun w'=>w'.cell? ⟨r,0,none⟩=some (.pointer (some ⟨q,0,none⟩))∧w'.cell? ⟨r,1,none⟩=some (.int .i64 (k:Int))∧w'.cell? ⟨q,0,none⟩=some (.string s)∧w'.cell? ⟨w.heap.size+1,1,none⟩=some (.int .i64 (i:Int))) (first | (refine ⟨aF hb5 ?_,aF hb5 ?_,aF hb5 ?_,aF hb5 ?_⟩ <;> simp [*]) | (refine ⟨(World.cell?_setCell_other _ _ _ _ (by simp [*])).trans ?_,(World.cell?_setCell_other _ _ _ _ (by simp [*])).trans ?_,(World.cell?_setCell_other _ _ _ _ (by simp [*])).trans ?_,(World.cell?_setCell_other _ _ _ _ (by simp)).trans ?_⟩ <;> simp [*]) | go_keep)
            (first
             | (go_at_call 101;refine (gQ s _ _ _ hs).mono ?_;rintro e w5 ⟨rfl,hb5⟩;have T0:=aF hb5 (p:=⟨w.heap.size+1,0,none⟩) (v:=.int .i64 0) (by simp [*]);have T0f:=kT hb5 (p:=⟨w.heap.size+1,0,none⟩) (v:=.int .i64 0) (by simp [*]) (by simp [*]);have T3:=aF hb5 (p:=⟨w.heap.size+1,3,none⟩) (v:=.string ⟨#[]⟩) (by simp [*]);have T3f:=kT hb5 (p:=⟨w.heap.size+1,3,none⟩) (v:=.string ⟨#[]⟩) (by simp [*]) (by simp [*])))
           have HG:=Ng (hgood.out ⟨18,i,0,aZ s.data.toList i k,false⟩ (k - i) · (by rw[← HT.out,HX.out,Bl s i k hik hk]))
           have hR5:=hR.drew.below hb5;have hB15:=hB1.drew.below hb5;have hB25:=hB2.drew.below hb5;have hK5:=hK.drew.andBelow hb5;clear c0 c1 cs T0 T0f T3 T3f uc0 uc1 uc2 uc3 uc4 uf0 uf1 uf2 uf3 uf4 hR hB1 hB2 hK hall;have tc0:=hB15.cell 0 rfl;have tc1:=hB15.cell 1 rfl;have tc2:=hB15.cell 2 rfl;have tc3:=hB15.cell 3 rfl;have tc4:=hB15.cell 4 rfl;have tf0:=hB15.free 0;have tf1:=hB15.free 1;have tf2:=hB15.free 2;have tf3:=hB15.free 3;have tf4:=hB15.free 4;have uc0:=hB25.cell 0 rfl;have uc1:=hB25.cell 1 rfl;have uc2:=hB25.cell 2 rfl;have uc3:=hB25.cell 3 rfl;have uc4:=hB25.cell 4 rfl;have uf0:=hB25.free 0;have uf1:=hB25.free 1;have uf2:=hB25.free 2;have uf3:=hB25.free 3;have uf4:=hB25.free 4;go_wp2_with fail
           (try simp only[Exit.inBlock,Exit.then])
           refine bodyPost_ret (eY (p:=2) (u:=3) (g:=w.heap.size) (cs:=[.int .i64 18,.int .i64 i,.int .i64 0,.string (bs (aZ s.data.toList i k)),.bool false]) rfl _ _ _ rfl ?_ Tryz.underlying87 rfl (by kernel_rfl)) rfl (HG.out _ ?_ ?_)
           ·apply Blk.as
            with_reducible repeat first | assumption | (apply Blk.newAt;focus (simp;done)) | apply Blk.set | (apply Blk.other;case hp=>first | omega | (simp;omega) | simp) | apply Blk.alloc | apply Blk.drewN | apply Blk.drew
            rfl
           ·rw[show i+(k - i)=k from by omega]
            repeat first | with_reducible assumption | ((with_reducible refine Rdr.moveTo ?_ ?_);rotate_left;focus go_num) | with_reducible exact aV.of (by assumption) | ((with_reducible first | refine aV.other ?_ ?_ ?_ _ | refine Rdr.other ?_ ?_ ?_ _);rotate_left;(focus first | omega | (simp;omega) | simp);focus first | omega | (simp;omega) | simp) | with_reducible first | refine aV.move ?_ _ | refine aV.alloc ?_ _ | refine Rdr.alloc ?_ _ | refine Rdr.drewN ?_ _ | refine Rdr.drew ?_
           ·repeat first | with_reducible assumption | with_reducible exact aB.refl _ _ | ((with_reducible refine aB.setCell ?_ ?_ _);rotate_left;focus first | exact fun _=>rfl | exact fun h=>absurd h (by first | omega | (simp;omega) | simp)) | with_reducible first | refine aB.alloc ?_ _ | refine aB.drewN ?_ _ | refine aB.drew ?_
         ·have HEn:Hid (gY 0=gY 0):=Ng rfl;have HX:=Ng (Du s i k hik hk hall.out (fun h=>absurd h (by omega)))
          go_wp2_with (go_at_call 100;refine (yD _ _).mono ?_;rintro e w' ⟨rfl,rfl⟩;rw[HEn.out])
          have c0:=hR.c0;have c1:=hR.c1;have cs:=hR.cs;have l1:=hB1.lt;have l2:=hB2.lt;have l3:=hR.here.lt;have l4:=hR.src.lt;have uc0:=hB2.cell 0 rfl;have uc1:=hB2.cell 1 rfl;have uc2:=hB2.cell 2 rfl;have uc3:=hB2.cell 3 rfl;have uc4:=hB2.cell 4 rfl;have uf0:=hB2.free 0;have uf1:=hB2.free 1;have uf2:=hB2.free 2;have uf3:=hB2.free 3;have uf4:=hB2.free 4;have n1:¬ r=w.heap.size+1:=by omega
          have n2:¬ q=w.heap.size+1:=by omega
          have n3:¬ w.heap.size+1=r:=by omega
          have n4:¬ w.heap.size+1=q:=by omega
          go_region_held3 (fun w'=>w'.cell? ⟨r,0,none⟩=some (.pointer (some ⟨q,0,none⟩))∧w'.cell? ⟨r,1,none⟩=some (.int .i64 (k:Int))∧w'.cell? ⟨q,0,none⟩=some (.string s)∧w'.cell? ⟨w.heap.size+1,1,none⟩=some (.int .i64 (i:Int))) (first | (refine ⟨aF hb5 ?_,aF hb5 ?_,aF hb5 ?_,aF hb5 ?_⟩ <;> simp [*]) | (refine ⟨(World.cell?_setCell_other _ _ _ _ (by simp [*])).trans ?_,(World.cell?_setCell_other _ _ _ _ (by simp [*])).trans ?_,(World.cell?_setCell_other _ _ _ _ (by simp [*])).trans ?_,(World.cell?_setCell_other _ _ _ _ (by simp)).trans ?_⟩ <;> simp [*]) | go_keep)
           (first
            | (go_at_call 101;refine (gQ s _ _ _ hs).mono ?_;rintro e w5 ⟨rfl,hb5⟩;have T0:=aF hb5 (p:=⟨w.heap.size+1,0,none⟩) (v:=.int .i64 0) (by simp [*]);have T0f:=kT hb5 (p:=⟨w.heap.size+1,0,none⟩) (v:=.int .i64 0) (by simp [*]) (by simp [*]);have T3:=aF hb5 (p:=⟨w.heap.size+1,3,none⟩) (v:=.string ⟨#[]⟩) (by simp [*]);have T3f:=kT hb5 (p:=⟨w.heap.size+1,3,none⟩) (v:=.string ⟨#[]⟩) (by simp [*]) (by simp [*])))
          have HG:=Ng (hgood.out ⟨18,i,0,aZ s.data.toList i k,false⟩ (k - i) · (by rw[← HT.out,HX.out,Bl s i k hik hk]))
          have hR5:=hR.drew.below hb5;have hB15:=hB1.drew.below hb5;have hB25:=hB2.drew.below hb5;have hK5:=hK.drew.andBelow hb5;clear c0 c1 cs T0 T0f T3 T3f uc0 uc1 uc2 uc3 uc4 uf0 uf1 uf2 uf3 uf4 hR hB1 hB2 hK hall;have tc0:=hB15.cell 0 rfl;have tc1:=hB15.cell 1 rfl;have tc2:=hB15.cell 2 rfl;have tc3:=hB15.cell 3 rfl;have tc4:=hB15.cell 4 rfl;have tf0:=hB15.free 0;have tf1:=hB15.free 1;have tf2:=hB15.free 2;have tf3:=hB15.free 3;have tf4:=hB15.free 4;have uc0:=hB25.cell 0 rfl;have uc1:=hB25.cell 1 rfl;have uc2:=hB25.cell 2 rfl;have uc3:=hB25.cell 3 rfl;have uc4:=hB25.cell 4 rfl;have uf0:=hB25.free 0;have uf1:=hB25.free 1;have uf2:=hB25.free 2;have uf3:=hB25.free 3;have uf4:=hB25.free 4;go_wp2_with fail
          (try simp only[Exit.inBlock,Exit.then])
          refine bodyPost_ret (eY (p:=2) (u:=3) (g:=w.heap.size) (cs:=[.int .i64 18,.int .i64 i,.int .i64 0,.string (bs (aZ s.data.toList i k)),.bool false]) rfl _ _ _ rfl ?_ Tryz.underlying87 rfl (by kernel_rfl)) rfl (HG.out _ ?_ ?_)
          ·apply Blk.as
           with_reducible repeat first | assumption | (apply Blk.newAt;focus (simp;done)) | apply Blk.set | (apply Blk.other;case hp=>first | omega | (simp;omega) | simp) | apply Blk.alloc | apply Blk.drewN | apply Blk.drew
           rfl
          ·rw[show i+(k - i)=k from by omega]
           repeat first | with_reducible assumption | ((with_reducible refine Rdr.moveTo ?_ ?_);rotate_left;focus go_num) | with_reducible exact aV.of (by assumption) | ((with_reducible first | refine aV.other ?_ ?_ ?_ _ | refine Rdr.other ?_ ?_ ?_ _);rotate_left;(focus first | omega | (simp;omega) | simp);focus first | omega | (simp;omega) | simp) | with_reducible first | refine aV.move ?_ _ | refine aV.alloc ?_ _ | refine Rdr.alloc ?_ _ | refine Rdr.drewN ?_ _ | refine Rdr.drew ?_
          ·repeat first | with_reducible assumption | with_reducible exact aB.refl _ _ | ((with_reducible refine aB.setCell ?_ ?_ _);rotate_left;focus first | exact fun _=>rfl | exact fun h=>absurd h (by first | omega | (simp;omega) | simp)) | with_reducible first | refine aB.alloc ?_ _ | refine aB.drewN ?_ _ | refine aB.drew ?_
    ·have HT:=Ng ((if_pos hbe).symm.trans HT0.out)
     have hbz:0<(bs b).size:=by
      rw[aY]
      cases b with
      | nil=>exact absurd rfl hbe
      | cons _ _=>simp
     obtain⟨e1,e2⟩:=pL _ hbz;have hbs3:(bs b).size≤3:=by rw[aY];exact hbl
     have HZ:=Ng (aY b);clear HT0 HB hkd hbl hbe hbz;have c1:=hR.c1;have f1:=hR.f1;have n1:¬ r=w.heap.size:=by omega
     have n2:¬ r=w.heap.size+1:=by omega
     have tc0:=hB1.cell 0 rfl;have tc1:=hB1.cell 1 rfl;have tc2:=hB1.cell 2 rfl;have tc3:=hB1.cell 3 rfl;have tc4:=hB1.cell 4 rfl;have tf0:=hB1.free 0;have tf1:=hB1.free 1;have tf2:=hB1.free 2;have tf3:=hB1.free 3;have tf4:=hB1.free 4;have uc0:=hB2.cell 0 rfl;have uc1:=hB2.cell 1 rfl;have uc2:=hB2.cell 2 rfl;have uc3:=hB2.cell 3 rfl;have uc4:=hB2.cell 4 rfl;have uf0:=hB2.free 0;have uf1:=hB2.free 1;have uf2:=hB2.free 2;have uf3:=hB2.free 3;have uf4:=hB2.free 4;go_wp2_with fail
     (try simp only[Exit.inBlock,Exit.then])
     refine bodyPost_ret (eY (p:=2) (u:=3) (g:=w.heap.size) (cs:=[.int .i64 kd,.int .i64 i,.int .i64 0,.string ⟨#[]⟩,.bool false]) rfl _ _ _ rfl ?_ Tryz.underlying87 rfl (by kernel_rfl)) rfl (hgood.out _ _ _ HT.out.symm ?_ ?_)
     ·apply Blk.as
      with_reducible repeat first | assumption | (apply Blk.newAt;focus (simp;done)) | apply Blk.set | (apply Blk.other;case hp=>first | omega | (simp;omega) | simp) | apply Blk.alloc | apply Blk.drewN | apply Blk.drew
      rfl
     ·rw[← HZ.out]
      repeat first | with_reducible assumption | ((with_reducible refine Rdr.moveTo ?_ ?_);rotate_left;focus go_num) | with_reducible exact aV.of (by assumption) | ((with_reducible first | refine aV.other ?_ ?_ ?_ _ | refine Rdr.other ?_ ?_ ?_ _);rotate_left;(focus first | omega | (simp;omega) | simp);focus first | omega | (simp;omega) | simp) | with_reducible first | refine aV.move ?_ _ | refine aV.alloc ?_ _ | refine Rdr.alloc ?_ _ | refine Rdr.drewN ?_ _ | refine Rdr.drew ?_
     ·repeat first | with_reducible assumption | with_reducible exact aB.refl _ _ | ((with_reducible refine aB.setCell ?_ ?_ _);rotate_left;focus first | exact fun _=>rfl | exact fun h=>absurd h (by first | omega | (simp;omega) | simp)) | with_reducible first | refine aB.alloc ?_ _ | refine aB.drewN ?_ _ | refine aB.drew ?_
 ·refine wp_region_quiet_below (by kernel_rfl) (by kernel_rfl) ?_
  repeat (go_big_quiet_step ((go_at_call 94;exact Calls.regrown_of (nP s i _ hs (by omega)))))
  refine wpQuiet_nil ?_;intro w2 hw';have hb:Below w1.heap.size w1 w2:=b8 hw';clear hw';have hR2:=hR1.below hb;have hB12:=hB1.below hb;have hB22:=hB2.below hb;have hK2:=hK1.andBelow hb;clear hR1 hB1 hB2 hK1 hb g0 g1 g2;have HT:=Ng ((Iz s i i (by omega)).symm.trans hT.out)
  have tc0:=hB12.cell 0 rfl;have tc1:=hB12.cell 1 rfl;have tc2:=hB12.cell 2 rfl;have tc3:=hB12.cell 3 rfl;have tc4:=hB12.cell 4 rfl;have tf0:=hB12.free 0;have tf1:=hB12.free 1;have tf2:=hB12.free 2;have tf3:=hB12.free 3;have tf4:=hB12.free 4;have uc0:=hB22.cell 0 rfl;have uc1:=hB22.cell 1 rfl;have uc2:=hB22.cell 2 rfl;have uc3:=hB22.cell 3 rfl;have uc4:=hB22.cell 4 rfl;have uf0:=hB22.free 0;have uf1:=hB22.free 1;have uf2:=hB22.free 2;have uf3:=hB22.free 3;have uf4:=hB22.free 4;go_wp2_with fail
  (try simp only[Exit.inBlock,Exit.then])
  refine bodyPost_ret (eY (p:=2) (u:=3) (g:=w.heap.size) (cs:=[.int .i64 0,.int .i64 i,.int .i64 0,.string ⟨#[]⟩,.bool false]) rfl _ _ _ rfl ?_ Tryz.underlying87 rfl (by kernel_rfl)) rfl (hgood.out _ _ _ HT.out.symm ?_ ?_)
  ·apply Blk.as
   with_reducible repeat first | assumption | (apply Blk.newAt;focus (simp;done)) | apply Blk.set | (apply Blk.other;case hp=>first | omega | (simp;omega) | simp) | apply Blk.alloc | apply Blk.drewN | apply Blk.drew
   rfl
  ·rw[Nat.add_zero]
   repeat first | with_reducible assumption | ((with_reducible refine Rdr.moveTo ?_ ?_);rotate_left;focus go_num) | with_reducible exact aV.of (by assumption) | ((with_reducible first | refine aV.other ?_ ?_ ?_ _ | refine Rdr.other ?_ ?_ ?_ _);rotate_left;(focus first | omega | (simp;omega) | simp);focus first | omega | (simp;omega) | simp) | with_reducible first | refine aV.move ?_ _ | refine aV.alloc ?_ _ | refine Rdr.alloc ?_ _ | refine Rdr.drewN ?_ _ | refine Rdr.drew ?_
  ·repeat first | with_reducible assumption | with_reducible exact aB.refl _ _ | ((with_reducible refine aB.setCell ?_ ?_ _);rotate_left;focus first | exact fun _=>rfl | exact fun h=>absurd h (by first | omega | (simp;omega) | simp)) | with_reducible first | refine aB.alloc ?_ _ | refine aB.drewN ?_ _ | refine aB.drew ?_
theorem Lq:(Tryz.prog.info? 87).map (fun i=>(i.zero,i.size,i.bytes))=some (some (.agg #[.int .i64 0,.int .i64 0,.int .i64 0,.string ⟨#[]⟩,.bool false]),5,48):=by kernel_rfl
def gE (w:World) (B:Nat) (v:Value) (ts:List aH):Prop:=w.ownsRow B 87 5 v ts.length (ts.flatMap aH.cells)
theorem gE.below {w w':World}{B:Nat}{v:Value}{ts:List aH}(h:gE w B v ts)(hb:Below w.heap.size w w'):gE w' B v ts:=by
 refine ⟨h.1,?_⟩
 rcases h.2 with h2 | ⟨g,cap,cur,hv,hg,hh,r⟩
 ·exact .inl h2
 ·exact .inr ⟨g,cap,cur,hv,hg,(hb.block g (lt_of_block hh)).trans hh,r⟩
theorem gE.kept {w w':World}{B:Nat}{v:Value}{ts:List aH}{S:Nat→Prop}(h:gE w B v ts)(hk:aB S w w')(hS:∀ k,B≤k→k<w.heap.size→¬ S k):gE w' B v ts:=by
 refine ⟨h.1,?_⟩
 rcases h.2 with h2 | ⟨g,cap,cur,hv,hg,hh,r⟩
 ·exact .inl h2
 ·exact .inr ⟨g,cap,cur,hv,hg,(hk.block g (lt_of_block hh) (hS g hg (lt_of_block hh))).trans hh,r⟩
def rB (f:Nat) (l:List UInt8) (k:Nat) (ts:List aH):Except (Nat×Nat) (List aH) :=
 match dZ f ts.isEmpty (l.drop k) k with
 | .ok us=>.ok (ts++us)
 | .error e=>.error e
theorem F9 (f:Nat)(l:List UInt8)(k j:Nat)(ts:List aH)(hj:k+aU false (l.drop k)=j) :
  rB (f+1) l k ts=match cY (l.drop j) j with
   | .error e=>.error e
   | .ok (t,n)=>if t.kind=0 then .ok (ts++[{ t with glue:=!ts.isEmpty&&k==j }]) else rB f l (j+n) (ts++[{ t with glue:=!ts.isEmpty&&k==j }]):=by
 have hd:(l.drop k).drop (aU false (l.drop k))=l.drop j:=by rw[List.drop_drop,hj]
 have hz:(aU false (l.drop k)==0)=(k==j):=by
  rw[Bool.eq_iff_iff];simp only[beq_iff_eq];omega
 rw[rB,dZ,hd,hj,hz]
 cases ht:cY (l.drop j) j with
 | error e=>rfl
 | ok x =>
  obtain⟨t,n⟩:=x;have h1:(l.drop k).drop (aU false (l.drop k)+n)=l.drop (j+n):=by rw[List.drop_drop];congr 1;omega
  have h2:(ts++[({ t with glue:=!ts.isEmpty&&k==j }:aH)]).isEmpty=false:=by simp
  by_cases hk:t.kind=0
  ·simp only[hk,if_true]
  ·simp only[hk,if_false,h1,rB,h2]
   cases dZ f false (l.drop (j+n)) (j+n) with
   | error e=>rfl
   | ok us=>simp
theorem gE.form {w:World}{B:Nat}{v:Value}{ts:List aH}(h:gE w B v ts):∃ ao cap,v = .slice ao ts.length cap:=by
 rcases h.2 with ⟨hv,h0⟩ | ⟨g,cap,cur,hv,_⟩
 ·exact⟨none,0,by rw[hv,h0]⟩
 ·exact⟨_,_,hv⟩
theorem cL {w:World}{cs:List Value}{t:TypeId}{b:Nat}(hb:b=w.heap.size):∀ j u,cs[j]?=some u→(w.alloc (.cells cs.toArray t)).cell? ((⟨b,0,none⟩:Addr).add j)=some u:=by
 intro j u h;have:=(Blk.newAt cs t hb).cell j h
 cases j <;> simpa [Addr.add] using this
theorem gE.mono {w:World}{B B':Nat}{v:Value}{ts:List aH}(h:gE w B v ts)(hB:B'≤B):gE w B' v ts:=by
 refine ⟨h.1,?_⟩
 rcases h.2 with h2 | ⟨g,cap,cur,hv,hg,r⟩
 ·exact .inl h2
 ·exact .inr ⟨g,cap,cur,hv,Nat.le_trans hB hg,r⟩
theorem C9 (s:ByteArray)(w:World)(hs:s.size≤8192)(sent:Nat→Addr)(hE:Env w sent)
  (R:Ending→World→Prop) (T:Except (Nat×Nat) (List aH)) (hT:Hid (dZ (s.size+1) true s.data.toList 0=T))
  (hgood:Hid (∀ ts v w',T = .ok ts→gE w' w.heap.size v ts→Below w.heap.size w w'→R (.returned (.tuple #[v,.nilIface])) w'))
  (hbad:Hid (∀ c p b w',T = .error (c,p)→bJ w' b sent c p→Below w.heap.size w w'→R (.returned (.tuple #[.slice none 0 0,.iface 61 (.pointer (some ⟨b,0,none⟩))])) w')) :
  Calls Tryz.prog 22 #[.string s] w R:=by
 obtain⟨i0,hi0,hz0,hz1,hz2⟩:=info_parts Lq;go_enter Tryz.func22,Tryz.ntmps22
 go_wp2_with (go_at_call 45;refine (D6 s _ hs).mono ?_;rintro e w1 ⟨rfl,hS1,hb1⟩)
 have l1:w.heap.size<w1.heap.size:=hS1.lt
 refine eJ (fun w2=>Rdr w2 w1.heap.size w.heap.size s 0∧Below w.heap.size w w2∧w1.heap.size<w2.heap.size)
  ⟨⟨Blk.new w1 _ _,hS1.alloc _,by omega⟩,hb1.alloc (by omega) _,by simp⟩ ?_
 generalize w1.heap.size=rb at *;intro w2 ⟨hR2,hb2,l2⟩;clear hS1 hb1;go_loopg [7] (s.size+1) (fun n v wr=>∃ (k f:Nat) (ts:List aH),n=s.size+1 - k∧k≤s.size∧s.size - k<f∧ts.length≤k∧Rdr wr rb w.heap.size s k∧gE wr (rb+1) v ts∧Below w.heap.size w wr∧rb<wr.heap.size∧Hid (rB f s.data.toList k ts=T))
 case atStart =>
  refine ⟨0,s.size+1,[],rfl,by omega,by omega,by simp,hR2,World.ownsRow_nil _ _ _ _,hb2,l2,Ng ?_⟩
  rw[← hT.out,rB];simp only[List.isEmpty_nil,List.drop_zero,List.nil_append]
  cases dZ (s.size+1) true s.data.toList 0 <;> rfl
 case round =>
  clear hR2 hb2 l2;obtain⟨k,f,ts,rfl,hk,hf,htl,hR,hO,hb,hl,hrest⟩:=hrel;obtain⟨ao,cap,rfl⟩:=hO.form;have c1:=hR.c1;obtain⟨j,hj⟩:∃ j,k+aU false (s.data.toList.drop k)=j:=⟨_,rfl⟩
  have hjs:j≤s.size:=by
   have:=pQ false (s.data.toList.drop k)
   rw[List.length_drop,size_eq] at this;omega
  have hkj:k≤j:=by omega
  have hfront:=Ng (nM false (s.data.toList.drop k));rw[List.drop_drop,hj] at hfront;obtain⟨f,rfl⟩:∃ f',f=f'+1:=⟨f - 1,by omega⟩
  have HS:=Ng ((F9 f s.data.toList k j ts hj).symm.trans hrest.out);have HJ:=Ng hj;clear hj hrest;go_wp2_with (go_at_call 46;refine (JV rb w.heap.size s k j _ (by omega) hk hR HJ).mono ?_;rintro e w3 ⟨rfl,hR3,hK3⟩)
  have hb3:Below w.heap.size w w3:=hb.trans (hK3.below hb.size (fun i hi e=>by unfold At at e;omega))
  have hE3:=hE.below hb3;have hO3:=hO.kept hK3 (fun i hi _ e=>by unfold At at e;omega)
  have hl3:rb<w3.heap.size:=Nat.lt_of_lt_of_le hl hK3.size;clear hR hO hb hl c1 hK3;refine Im rb w.heap.size s j w3 (by omega) hjs hR3 sent hE3 (fun c g hg e=>by have:=hE.lt hg;omega) _ _ (Ng rfl) (Ng fun t n w4 ht hR4 hK4=>?_) (Ng fun c p b w4 ht hE4 hK4=>?_)
  ·have hb4:Below w.heap.size w w4:=hb3.trans (hK4.below hb3.size (fun i hi e=>by unfold At at e;omega))
   have hO4:=hO3.kept hK4 (fun i hi _ e=>by unfold At at e;omega)
   have hl4:rb<w4.heap.size:=Nat.lt_of_lt_of_le hl3 hK4.size;obtain⟨hn1,hn2,hn3,hn4,hn5⟩:=tQ _ _ _ _ ht;rw[List.length_drop,size_eq] at hn1;have HS2:=Ng HS.out;rw[ht] at HS2;clear hR3 hK4 hO3 hb3 hl3 HS ht HJ hE3;obtain⟨tk,tp,tn,tx,tg⟩:=t;dsimp only at hn2 hn3 hn4 HS2;subst hn2 hn3;have HN4:=Ng hn4;have HN5:=Ng hn5;clear hn4 hn5;have hOA:∀ o1 o2,gE ((w4.alloc o1).alloc o2) (rb+1) (.slice ao ts.length cap) ts:=fun o1 o2=>hO4.below (((Below.refl _ _).alloc (Nat.le_refl _) _).alloc (by simp) _)
   have hown4:∀ k',(Value.slice ao ts.length cap).ownBlock=some k'→rb+1≤k'∧k'<w4.heap.size:=hO4.lt;simp only[aH.cells]
   by_cases hts:0<ts.length
   ·have hne:ts.isEmpty=false:=by cases ts with
     | nil=>simp at hts
     | cons a l=>rfl
    by_cases hkj2:k=tp
    ·have d1:(((tp:Nat):Int)==(k:Int))=true:=by rw[beq_iff_eq];omega
     have HG:(!ts.isEmpty&&k==tp)=true:=by rw[hne,beq_iff_eq.2 hkj2];rfl
     go_wp2_with (at_builtin;refine wpList_append_own _ rfl _ _ 49 rfl (rb+1) 87 i0 _ 5 48 Tryz.underlying49 hi0 hz0 hz1 hz2 rfl (by decide) _ _ _ rfl (hOA _ _) ⟨w4.heap.size+1,0,none⟩ 1 1 [.int .i64 (tk:Int),.int .i64 (tp:Int),.int .i64 (tn:Int),.string (bs tx),.bool true] rfl rfl ?c1 ?c2 ?c3 ?c4 ?c5 ?_)
     case c1=>exact cL (by simp)
     case c2 =>
      intro u hu;simp at hu
      rcases hu with rfl | rfl | rfl | rfl | rfl <;> rfl
     case c3=>unfold maxLen;omega
     case c4=>omega
     case c5=>simp;omega
     intro v' w5 hown' hgrow _;have hK5:aB (fun k'=>some k'=(Value.slice ao ts.length cap).ownBlock) w4 w5:=(((aB.refl _ _).alloc _).alloc _).grown hgrow (fun k' h _=>h.symm)
     have hR5:Rdr w5 rb w.heap.size s (tp+n):=hR4.kept hK5 (fun e=>by have:=hown4 _ e.symm;omega) (fun e=>by have:=hown4 _ e.symm;omega)
     have hb5:Below w.heap.size w w5:=hb4.trans (hK5.below hb4.size (fun i hi e=>by have:=hown4 _ e.symm;omega))
     have hO5:gE w5 (rb+1) v' (ts++[⟨tk,tp,tn,tx,true⟩]):=by
      unfold gE;rw[List.length_append,List.flatMap_append];exact hown'
     have hc5:w5.cell? ⟨w4.heap.size,0,none⟩=some (.int .i64 (tk:Int)):=hgrow.cell (((Blk.newAt _ _ rfl).alloc _).cell 0 rfl) (fun e=>by have:=hown4 _ e.symm;exact absurd this.2 (by simp))
     have hl5:rb<w5.heap.size:=Nat.lt_of_lt_of_le hl4 hK5.size;have HT2:=Ng HS2.out;simp only[HG] at HT2;clear HS2 hOA hown4 hown' hgrow hK5 hR4 hO4 hb4 hl4
     by_cases hk0:tk=0
     ·subst hk0;have HR:=Ng (hgood.out _ v' w5 HT2.out.symm (hO5.mono (by omega)) hb5)
      go_wp2_with fail
      exact HR.out
     ·have hk1:((tk:Int)==0)=false:=by rw[beq_eq_false_iff_ne];omega
      rw[if_neg hk0] at HT2;have hn1':1≤n:=HN5.out (fun c m h=>hfront.out c m h) (fun h=>hk0 (HN4.out.2 h))
      go_wp2_with fail
      go_roundg (s.size+1 - (tp+n))
      case measure=>omega
      case rel=>exact⟨tp+n,f,_,rfl,by omega,by omega,by simp;omega,hR5,hO5,hb5,hl5,Ng HT2.out⟩
    ·have d1:(((tp:Nat):Int)==(k:Int))=false:=by rw[beq_eq_false_iff_ne];omega
     have HG:(!ts.isEmpty&&k==tp)=false:=by rw[beq_false_of_ne hkj2,Bool.and_false]
     go_wp2_with (at_builtin;refine wpList_append_own _ rfl _ _ 49 rfl (rb+1) 87 i0 _ 5 48 Tryz.underlying49 hi0 hz0 hz1 hz2 rfl (by decide) _ _ _ rfl (hOA _ _) ⟨w4.heap.size+1,0,none⟩ 1 1 [.int .i64 (tk:Int),.int .i64 (tp:Int),.int .i64 (tn:Int),.string (bs tx),.bool false] rfl rfl ?c1 ?c2 ?c3 ?c4 ?c5 ?_)
     case c1=>exact cL (by simp)
     case c2 =>
      intro u hu;simp at hu
      rcases hu with rfl | rfl | rfl | rfl | rfl <;> rfl
     case c3=>unfold maxLen;omega
     case c4=>omega
     case c5=>simp;omega
     intro v' w5 hown' hgrow _;have hK5:aB (fun k'=>some k'=(Value.slice ao ts.length cap).ownBlock) w4 w5:=(((aB.refl _ _).alloc _).alloc _).grown hgrow (fun k' h _=>h.symm)
     have hR5:Rdr w5 rb w.heap.size s (tp+n):=hR4.kept hK5 (fun e=>by have:=hown4 _ e.symm;omega) (fun e=>by have:=hown4 _ e.symm;omega)
     have hb5:Below w.heap.size w w5:=hb4.trans (hK5.below hb4.size (fun i hi e=>by have:=hown4 _ e.symm;omega))
     have hO5:gE w5 (rb+1) v' (ts++[⟨tk,tp,tn,tx,false⟩]):=by
      unfold gE;rw[List.length_append,List.flatMap_append];exact hown'
     have hc5:w5.cell? ⟨w4.heap.size,0,none⟩=some (.int .i64 (tk:Int)):=hgrow.cell (((Blk.newAt _ _ rfl).alloc _).cell 0 rfl) (fun e=>by have:=hown4 _ e.symm;exact absurd this.2 (by simp))
     have hl5:rb<w5.heap.size:=Nat.lt_of_lt_of_le hl4 hK5.size;have HT2:=Ng HS2.out;simp only[HG] at HT2;clear HS2 hOA hown4 hown' hgrow hK5 hR4 hO4 hb4 hl4
     by_cases hk0:tk=0
     ·subst hk0;have HR:=Ng (hgood.out _ v' w5 HT2.out.symm (hO5.mono (by omega)) hb5)
      go_wp2_with fail
      exact HR.out
     ·have hk1:((tk:Int)==0)=false:=by rw[beq_eq_false_iff_ne];omega
      rw[if_neg hk0] at HT2;have hn1':1≤n:=HN5.out (fun c m h=>hfront.out c m h) (fun h=>hk0 (HN4.out.2 h))
      go_wp2_with fail
      go_roundg (s.size+1 - (tp+n))
      case measure=>omega
      case rel=>exact⟨tp+n,f,_,rfl,by omega,by omega,by simp;omega,hR5,hO5,hb5,hl5,Ng HT2.out⟩
   ·have HG:(!ts.isEmpty&&k==tp)=false:=by
     cases ts with
     | nil=>rfl
     | cons a l=>simp at hts
    go_wp2_with (at_builtin;refine wpList_append_own _ rfl _ _ 49 rfl (rb+1) 87 i0 _ 5 48 Tryz.underlying49 hi0 hz0 hz1 hz2 rfl (by decide) _ _ _ rfl (hOA _ _) ⟨w4.heap.size+1,0,none⟩ 1 1 [.int .i64 (tk:Int),.int .i64 (tp:Int),.int .i64 (tn:Int),.string (bs tx),.bool false] rfl rfl ?c1 ?c2 ?c3 ?c4 ?c5 ?_)
    case c1=>exact cL (by simp)
    case c2 =>
     intro u hu;simp at hu
     rcases hu with rfl | rfl | rfl | rfl | rfl <;> rfl
    case c3=>unfold maxLen;omega
    case c4=>omega
    case c5=>simp;omega
    intro v' w5 hown' hgrow _;have hK5:aB (fun k'=>some k'=(Value.slice ao ts.length cap).ownBlock) w4 w5:=(((aB.refl _ _).alloc _).alloc _).grown hgrow (fun k' h _=>h.symm)
    have hR5:Rdr w5 rb w.heap.size s (tp+n):=hR4.kept hK5 (fun e=>by have:=hown4 _ e.symm;omega) (fun e=>by have:=hown4 _ e.symm;omega)
    have hb5:Below w.heap.size w w5:=hb4.trans (hK5.below hb4.size (fun i hi e=>by have:=hown4 _ e.symm;omega))
    have hO5:gE w5 (rb+1) v' (ts++[⟨tk,tp,tn,tx,false⟩]):=by
     unfold gE;rw[List.length_append,List.flatMap_append];exact hown'
    have hc5:w5.cell? ⟨w4.heap.size,0,none⟩=some (.int .i64 (tk:Int)):=hgrow.cell (((Blk.newAt _ _ rfl).alloc _).cell 0 rfl) (fun e=>by have:=hown4 _ e.symm;exact absurd this.2 (by simp))
    have hl5:rb<w5.heap.size:=Nat.lt_of_lt_of_le hl4 hK5.size;have HT2:=Ng HS2.out;simp only[HG] at HT2;clear HS2 hOA hown4 hown' hgrow hK5 hR4 hO4 hb4 hl4
    by_cases hk0:tk=0
    ·subst hk0;have HR:=Ng (hgood.out _ v' w5 HT2.out.symm (hO5.mono (by omega)) hb5)
     go_wp2_with fail
     exact HR.out
    ·have hk1:((tk:Int)==0)=false:=by rw[beq_eq_false_iff_ne];omega
     rw[if_neg hk0] at HT2;have hn1':1≤n:=HN5.out (fun c m h=>hfront.out c m h) (fun h=>hk0 (HN4.out.2 h))
     go_wp2_with fail
     go_roundg (s.size+1 - (tp+n))
     case measure=>omega
     case rel=>exact⟨tp+n,f,_,rfl,by omega,by omega,by simp;omega,hR5,hO5,hb5,hl5,Ng HT2.out⟩
  ·have hb4:Below w.heap.size w w4:=hb3.trans (hK4.below hb3.size (fun i hi e=>by unfold At at e;omega))
   have HG:=Ng fun o=>hbad.out c p b (w4.alloc o) (by rw[← HS.out,ht]) (by unfold bJ at hE4 ⊢;exact hE4.alloc _) (hb4.alloc hb4.size _)
   go_wp2_with fail
   exact HG.out _
end Go.Proofs.YtbpjobmpacjgcaaGreatDoor
