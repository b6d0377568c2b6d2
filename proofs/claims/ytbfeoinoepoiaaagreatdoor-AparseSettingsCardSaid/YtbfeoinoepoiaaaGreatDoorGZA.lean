/- Small lemmas on memory that every text of this seat uses: blocks known whole ('Blk'), frames ('Kept'), and the last step of a row. No program stands in it. -/
import Derived.WalkKit
import Derived.WalkSpells
import Derived.WalkLawsBesides
import Derived.Deep.QuietTactic
import Derived.BigQuiet
import Derived.Lib.QuietBelow
import Derived.Lib.Hide
import Derived.Deep.DeepFit
import Derived.Lib.Strings
import Derived.Laws.Bits
import Derived.Test.YtbfeoinoepoiaaaGreatDoorProg
import Derived.Test.YtbfeoinoepoiaaaGreatDoorGShelf
import Derived.Lib.Builder
import Derived.Lib.AppendStr
import Derived.Deep.LoopGhost
import Derived.Deep.RegionHeld3
import Derived.Deep.CutBlock
import Derived.Deep.DeepCutAuto
namespace Go.Proofs.YtbfeoinoepoiaaaGreatDoor
open Go Go.RowKit
structure Kept (S:Nat→Prop) (w w':World):Prop where
 os:w'.os=w.os
 tape:w'.tape=w.tape
 output:w'.output=w.output
 size:w.heap.size≤w'.heap.size
 block:∀ k,k<w.heap.size→¬ S k→w'.heap[k]?=w.heap[k]?
def Nowhere (_:Nat):Prop:=False
def At (b:Nat) (k:Nat):Prop:=k=b
theorem Kept.refl (S:Nat→Prop) (w:World):Kept S w w:=⟨rfl,rfl,rfl,Nat.le_refl _,fun _ _ _=>rfl⟩
theorem Kept.trans {S T:Nat→Prop} {a b c:World} (h:Kept S a b) (k:Kept T b c) (hT:∀ i,i<a.heap.size→T i→S i):Kept S a c :=
 ⟨k.os.trans h.os,k.tape.trans h.tape,k.output.trans h.output,Nat.le_trans h.size k.size,
  fun i hi hn=>(k.block i (Nat.lt_of_lt_of_le hi h.size) (fun e=>hn (hT i hi e))).trans (h.block i hi hn)⟩
theorem Kept.mono {S T:Nat→Prop} {w w':World} (h:Kept S w w') (hS:∀ i,i<w.heap.size→S i→T i):Kept T w w' :=
 ⟨h.os,h.tape,h.output,h.size,fun k hk hn=>h.block k hk (fun e=>hn (hS k hk e))⟩
theorem Kept.same {S:Nat→Prop} {a b c:World} (h:Kept S a b) (k:Kept S b c):Kept S a c:=h.trans k fun _ _ e=>e
theorem Kept.ofBelow {S:Nat→Prop} {w w':World} (h:Below w.heap.size w w'):Kept S w w':=⟨h.os,h.tape,h.output,h.size,fun k hk _=>h.block k hk⟩
theorem Kept.andBelow {S:Nat→Prop} {a b c:World} (h:Kept S a b) (k:Below b.heap.size b c):Kept S a c:=h.same (.ofBelow k)
theorem Kept.toBelow {w w':World} (h:Kept Nowhere w w'):Below w.heap.size w w':=⟨h.os,h.tape,h.output,h.size,fun k hk=>h.block k hk (fun e=>e)⟩
theorem Kept.below {S:Nat→Prop} {B:Nat} {w w':World} (h:Kept S w w') (hB:B≤w.heap.size) (hS:∀ k,k<B→¬ S k):Below B w w' :=
 ⟨h.os,h.tape,h.output,h.size,fun k hk=>h.block k (Nat.lt_of_lt_of_le hk hB) (hS k hk)⟩
theorem Kept.fresh {S:Nat→Prop} {a b c:World} (h:Below a.heap.size a b) (k:Kept S b c) (hS:∀ i,i<a.heap.size→¬ S i):Below a.heap.size a c :=
 h.trans (k.below h.size hS)
theorem Kept.alloc {S:Nat→Prop} {a w:World} (h:Kept S a w) (o:Obj):Kept S a (w.alloc o) :=
 h.andBelow ((Below.refl _ _).alloc (Nat.le_refl _) _)
theorem Kept.drew {S:Nat→Prop} {a w:World} (h:Kept S a w):Kept S a w.drew:=⟨h.os,h.tape,h.output,h.size,h.block⟩
theorem Kept.drewN {S:Nat→Prop} {a w:World} (h:Kept S a w) (n:Nat):Kept S a (w.drewN n):=⟨h.os,h.tape,h.output,h.size,h.block⟩
theorem Kept.setCell {S:Nat→Prop} {a w:World} (h:Kept S a w) {p:Addr} (hp:p.block<a.heap.size→S p.block) (u:Value):Kept S a (w.setCell p u) :=
 ⟨h.os,h.tape,h.output,by simpa [World.setCell] using h.size,fun k hk hn=>by
  rw [Below.heap_setCell _ _ _ _ (fun e=>hn (by subst e; exact hp hk))]
  exact h.block k hk hn⟩
theorem Kept.grown {S:Nat→Prop} {a w w':World} {row:Option Nat} (h:Kept S a w) (hg:w.grownBy w' row) (hr:∀ k,row=some k→k<a.heap.size→S k):Kept S a w' :=
 ⟨hg.os.trans h.os,hg.tape.trans h.tape,hg.output.trans h.output,Nat.le_trans h.size hg.size,
  fun k hk hn=>(hg.block k (Nat.lt_of_lt_of_le hk h.size) (fun e=>hn (hr k e.symm hk))).trans (h.block k hk hn)⟩
theorem Kept.cell {S:Nat→Prop} {w w':World} (h:Kept S w w') {p:Addr} {v:Value} (hc:w.cell? p=some v) (hn:¬ S p.block):w'.cell? p=some v :=
 (World.cell?_of_block (w:=w) (h.block p.block (block_lt_of_cell hc) hn)).trans hc
theorem bDrewN {B:Nat} {a w:World} (h:Below B a w) (n:Nat):Below B a (w.drewN n):=⟨h.os,h.tape,h.output,h.size,h.block⟩
theorem bSome {w w':World} (h:Below w.heap.size w w') {p:Addr} {v:Value} (hc:w.cell? p=some v):w'.cell? p=some v :=
 (h.cell (block_lt_of_cell hc)).trans hc
theorem bFree {w w':World} (h:Below w.heap.size w w') {p:Addr} {v:Value} (hc:w.cell? p=some v) (hf:w.frozen? p=false):w'.frozen? p=false :=
 (h.frozen (block_lt_of_cell hc)).trans hf
theorem bNext {a b c:World} (h:Below a.heap.size a b) (k:Below b.heap.size b c):Below a.heap.size a c :=
 h.trans (k.mono h.size)
def Blk (w:World) (b:Nat) (cs:List Value):Prop:=∃ t,w.heap[b]?=some (.cells cs.toArray t (0,0))
section
variable {w w':World} {b:Nat} {cs:List Value}
theorem Blk.lt (h:Blk w b cs):b<w.heap.size:=by
 obtain ⟨t,h⟩:=h
 exact lt_of_block h
theorem Blk.cell (h:Blk w b cs) (i:Nat) {v:Value} (hv:cs[i]?=some v):w.cell? ⟨b,i,none⟩=some v:=by
 obtain ⟨t,h⟩:=h
 simp [World.cell?,h,hv]
theorem Blk.free (h:Blk w b cs) (i:Nat):w.frozen? ⟨b,i,none⟩=false:=by
 obtain ⟨t,h⟩:=h
 simp [World.frozen?,h]
theorem Blk.of_heap (h:Blk w b cs) (he:w'.heap[b]?=w.heap[b]?):Blk w' b cs:=by
 obtain ⟨t,h⟩:=h
 exact ⟨t,he.trans h⟩
theorem Blk.kept {S:Nat→Prop} (h:Blk w b cs) (hk:Kept S w w') (hn:¬ S b):Blk w' b cs:=h.of_heap (hk.block b h.lt hn)
theorem Blk.below (h:Blk w b cs) (hk:Below w.heap.size w w'):Blk w' b cs:=h.of_heap (hk.block b h.lt)
theorem Blk.apart {a:Nat} {ds:List Value} (h:Blk w b cs) (k:Blk w a ds) (hl:cs.length≠ds.length):b≠a:=by
 obtain ⟨t,h⟩:=h
 obtain ⟨u,k⟩:=k
 intro e
 subst e
 rw [h] at k
 simp only [Option.some.injEq,Obj.cells.injEq] at k
 have:=congrArg Array.size k.1
 simp at this
 exact hl this
theorem Blk.alloc (h:Blk w b cs) (o:Obj):Blk (w.alloc o) b cs:=h.of_heap (Below.heap_alloc _ _ _ h.lt)
theorem Blk.drew (h:Blk w b cs):Blk w.drew b cs:=h
theorem Blk.drewN (h:Blk w b cs) (n:Nat):Blk (w.drewN n) b cs:=h
theorem Blk.other (h:Blk w b cs) {p:Addr} (hp:p.block≠b) (u:Value):Blk (w.setCell p u) b cs:=h.of_heap (Below.heap_setCell _ _ _ _ (Ne.symm hp))
theorem Blk.new (w:World) (cs:List Value) (t:TypeId):Blk (w.alloc (.cells cs.toArray t)) w.heap.size cs :=
 ⟨t,by show (w.heap.push _)[w.heap.size]?=_; rw [Array.getElem?_push,if_pos rfl]⟩
theorem Blk.newAt {w:World} {b:Nat} (cs:List Value) (t:TypeId) (hb:b=w.heap.size):Blk (w.alloc (.cells cs.toArray t)) b cs:=by
 subst hb
 exact Blk.new w cs t
theorem Blk.as {cs':List Value} (h:Blk w b cs) (he:cs=cs'):Blk w b cs':=he ▸ h
theorem Blk.set (h:Blk w b cs) (i:Nat) (u:Value):Blk (w.setCell ⟨b,i,none⟩ u) b (cs.set i u):=by
 obtain ⟨t,h⟩:=h
 refine ⟨t,?_⟩
 have hlt:=lt_of_block h
 have h':w.heap[b] = .cells cs.toArray t (0,0):=by simpa [Array.getElem?_eq_getElem hlt] using h
 show (w.heap.modify b _)[b]?=_
 rw [Array.getElem?_eq_getElem (by simpa using hlt),Array.getElem_modify_self,h']
 simp
end
theorem results_blk {P:Program} {fn:Func} {p u:Tmp} {ty:TypeId} (h:fn.results=#[.cell p ty,.tmp u]) (tmps:Array Value) (w:World) (g:Nat) (cs:List Value) (d:TypeDesc)
  (hp:tmps.getD p undef = .pointer (some ⟨g,0,none⟩)) (hg:Blk w g cs) (hu:P.underlying ty=some d) (hd:(match d with | .struct _ | .array _ _=>true | _=>false)=true) (hi:(P.info? ty).map (·.size)=some cs.length) :
  (results fn tmps).run P w = .ok (.tuple #[.agg cs.toArray,tmps.getD u undef]) w:=by
 obtain ⟨t,hg⟩:=hg
 rw [results_cell_tmp h,hp]
 simp only [asAddr,Sem.run_pure,Result.andThen_ok]
 rw [run_loadVar_row w g t ty cs.toArray (0,0) d hg hu hd (by simpa using hi)]
 rfl
theorem wp_world {P:Program} {c:Code} {Q:Exit→Act→World→Prop} {a:Act} {w:World} (F:World→Prop) (hF:F w) (h:∀ w1,F w1→c.wp P Q a w1):c.wp P Q a w:=h w hF
theorem below_of_regrown {w w':World} (h:∃ p:Regrown,w'=Go.Sort.grow (redrawn w p.d) p.os):Below w.heap.size w w':=by
 obtain ⟨⟨dq,osq⟩,h⟩:=h
 subst h
 exact below_regrown w dq osq
def bat (s:ByteArray) (i:Nat):UInt8:=s.data.toList.getD i 0
theorem bat_lt (s:ByteArray) (i:Nat):(bat s i).toNat<256:=(bat s i).toNat_lt
theorem getElem_bat (s:ByteArray) (i:Nat) (h:i<s.size):s[i]=bat s i:=by
 have h1:i<s.data.size:=h
 show s.data[i]=_
 simp [bat,List.getD,Array.getElem?_eq_getElem h1]
theorem drop_bat (s:ByteArray) (i:Nat) (h:i<s.size):s.data.toList.drop i=bat s i :: s.data.toList.drop (i+1):=by
 have h1:i<s.data.toList.length:=by simpa using h
 have h2:i<s.data.size:=h
 rw [List.drop_eq_getElem_cons h1]
 simp [bat,List.getD,Array.getElem?_eq_getElem h2]
theorem size_eq (s:ByteArray):s.data.toList.length=s.size:=by simp
def bs (l:List UInt8):ByteArray:=⟨l.toArray⟩
theorem bs_size (l:List UInt8):(bs l).size=l.length:=by
 show l.toArray.size=_
 simp
theorem bs_list (l:List UInt8):(bs l).data.toList=l:=by simp [bs]
theorem bs_of (s:ByteArray):bs s.data.toList=s:=by
 obtain ⟨⟨l⟩⟩:=s
 rfl
theorem bs_inj {l m:List UInt8} (h:bs l=bs m):l=m:=by rw [← bs_list l,h,bs_list]
theorem extract_bs (s:ByteArray) (i j:Nat):s.extract i j=bs ((s.data.toList.take j).drop i):=by
 rw [← bs_of (s.extract i j),Lib.extract_data,List.drop_take]
def subs (l:List UInt8) (i j:Int):List UInt8:=(l.take j.toNat).drop i.toNat
end Go.Proofs.YtbfeoinoepoiaaaGreatDoor

namespace Go.Proofs.YtbfeoinoepoiaaaGreatDoor
open Go Go.RowKit
def isLetter (c:UInt8):Bool:=(decide (65≤c.toNat) && decide (c.toNat≤90)) || (decide (97≤c.toNat) && decide (c.toNat≤122))
def isDigit (c:UInt8):Bool:=decide (48≤c.toNat) && decide (c.toNat≤57)
def isBegin (c:UInt8):Bool:=isLetter c || c.toNat == 95
def isGo (c:UInt8):Bool:=isBegin c || isDigit c
def runName:List UInt8→List UInt8
 | []=>[]
 | c :: l=>if isBegin c then (c :: l).takeWhile isGo else []
def nameB:List UInt8→Bool
 | []=>false
 | c :: l=>decide (l.length<20) && isBegin c && (c :: l).all isGo
theorem or32 (c:UInt8):(decide ((97:Int)≤bits BinOp.or IntKind.u8 (c.toNat:Int) 32) && decide (bits BinOp.or IntKind.u8 (c.toNat:Int) 32≤122))=isLetter c:=by
 have h:∀ n:Fin 256,(decide ((97:Int)≤bits BinOp.or IntKind.u8 (n.val:Int) 32) && decide (bits BinOp.or IntKind.u8 (n.val:Int) 32≤122))=isLetter (UInt8.ofNat n.val):=by decide +kernel
 have h1:=h ⟨c.toNat,c.toNat_lt⟩
 simpa using h1
end Go.Proofs.YtbfeoinoepoiaaaGreatDoor
namespace Go.Proofs.YtbfeoinoepoiaaaGreatDoor
open Go Go.RowKit
def skipN:Bool→List UInt8→Nat
 | _,[]=>0
 | true,c :: l=>if c.toNat=10 then 0 else skipN true l+1
 | false,c :: l=>if c.toNat=32∨c.toNat=9 then skipN false l+1 else if c.toNat=35 then skipN true l+1 else 0
structure BTok where
 kind:Nat
 place:Nat
 num:Nat
 text:List UInt8
 glue:Bool
def bestOp (l:List UInt8):List (List UInt8)→Nat→List UInt8→Nat→List UInt8 × Nat
 | [],_,b,k=>(b,k)
 | o :: os,i,b,k=>if b.length<o.length∧Lib.hasPrefix l o=true then bestOp l os (i+1) o i else bestOp l os (i+1) b k
theorem runName_le (l:List UInt8):(runName l).length≤l.length:=by
 cases l with
 | nil=>simp [runName]
 | cons c l =>
  rw [show runName (c :: l)=if isBegin c then (c :: l).takeWhile isGo else [] from rfl]
  split
  ·exact (List.takeWhile_sublist _).length_le
  ·simp
theorem skipN_le (b:Bool) (l:List UInt8):skipN b l≤l.length:=by
 induction l generalizing b with
 | nil=>cases b <;> simp [skipN]
 | cons c l ih =>
  have h1:=ih true
  have h2:=ih false
  cases b <;> simp only [skipN,List.length_cons] <;> (repeat' split) <;> omega
end Go.Proofs.YtbfeoinoepoiaaaGreatDoor
namespace Go.Proofs.YtbfeoinoepoiaaaGreatDoor
open Go Go.RowKit
theorem hasPrefix_le {l o:List UInt8} (h:Lib.hasPrefix l o=true):o.length≤l.length :=
 (List.isPrefixOf_iff_prefix.1 h).length_le
theorem bestOp_ge (l:List UInt8) (ops:List (List UInt8)):∀ (i:Nat) (b:List UInt8) (k:Nat),b.length≤(bestOp l ops i b k).1.length∧∀ o∈ops,Lib.hasPrefix l o=true→o.length≤(bestOp l ops i b k).1.length:=by
 induction ops with
 | nil=>exact fun i b k=>⟨Nat.le_refl _,fun o ho=>by cases ho⟩
 | cons o os ih =>
  intro i b k
  rw [bestOp]
  split
  ·rename_i h
   obtain ⟨h1,h2⟩:=ih (i+1) o i
   refine ⟨by omega,fun p hp hpre=>?_⟩
   cases hp with
   | head=>exact h1
   | tail _ hp=>exact h2 p hp hpre
  ·rename_i h
   obtain ⟨h1,h2⟩:=ih (i+1) b k
   refine ⟨h1,fun p hp hpre=>?_⟩
   cases hp with
   | head =>
    have:¬ b.length<o.length:=fun e=>h ⟨e,hpre⟩
    omega
   | tail _ hp=>exact h2 p hp hpre
theorem bestOp_mem (l:List UInt8) (ops:List (List UInt8)):∀ (i:Nat) (b:List UInt8) (k:Nat),(bestOp l ops i b k=(b,k))∨(∃ j,ops[j]?=some (bestOp l ops i b k).1∧(bestOp l ops i b k).2=i+j∧Lib.hasPrefix l (bestOp l ops i b k).1=true∧b.length<(bestOp l ops i b k).1.length):=by
 induction ops with
 | nil=>exact fun i b k=>.inl rfl
 | cons o os ih =>
  intro i b k
  rw [bestOp]
  split
  ·rename_i h
   refine .inr ?_
   rcases ih (i+1) o i with e | ⟨j,h1,h2,h3,h4⟩
   ·rw [e]
    exact ⟨0,rfl,rfl,h.2,h.1⟩
   ·exact ⟨j+1,by simpa using h1,by omega,h3,by omega⟩
  ·rcases ih (i+1) b k with e | ⟨j,h1,h2,h3,h4⟩
   ·exact .inl e
   ·exact .inr ⟨j+1,by simpa using h1,by omega,h3,h4⟩
theorem skip_front:∀ (b:Bool) (l:List UInt8) (c:UInt8) (m:List UInt8),l.drop (skipN b l)=c :: m→¬ (c.toNat=32∨c.toNat=9∨c.toNat=35)
 | b,[],c,m,h=>by simp at h
 | true,a :: l,c,m,h=>by
  simp only [skipN] at h
  split at h
  ·rename_i ha
   simp only [List.drop_zero] at h
   injection h with h1 _
   rw [← h1]; omega
  ·exact skip_front true l c m (by simpa using h)
 | false,a :: l,c,m,h=>by
  simp only [skipN] at h
  split at h
  ·exact skip_front false l c m (by simpa using h)
  ·split at h
   ·exact skip_front true l c m (by simpa using h)
   ·simp only [List.drop_zero] at h
    injection h with h1 _
    rw [← h1]; omega
end Go.Proofs.YtbfeoinoepoiaaaGreatDoor
namespace Go.Proofs.YtbfeoinoepoiaaaGreatDoor
open Go Go.RowKit
end Go.Proofs.YtbfeoinoepoiaaaGreatDoor

namespace Go.Proofs.YtbfeoinoepoiaaaGreatDoor
open Go Go.RowKit
theorem bLen_any (s:ByteArray) (w:World) :
  Calls Tryz.prog 182 #[.agg #[.string s]] w fun e w'=>e = .returned (.int .i64 s.size)∧Below w.heap.size w w':=by
 go_enter Tryz.func182,Tryz.ntmps182
 go_wp2
 go_ret
 exact ⟨rfl,(Below.refl _ _).alloc (Nat.le_refl _) _⟩
theorem bByte_in0 (s:ByteArray) (i:Nat) (w:World) (_hs:s.size≤1000000) (hi:i<s.size) :
  Calls Tryz.prog 82 #[.agg #[.string s],.int .i64 i] w fun e w'=>e = .returned (.tuple #[.int .u8 s[i].toNat,.bool true])∧Below w.heap.size w w':=by
 go_enter Tryz.func82,Tryz.ntmps82
 go_wp2
 go_ret2
 exact ⟨rfl,(Below.refl _ _).alloc (Nat.le_refl _) _⟩
theorem bByte_in (s:ByteArray) (i:Nat) (w:World) (hs:s.size≤1000000) (hi:i<s.size) :
  Calls Tryz.prog 82 #[.agg #[.string s],.int .i64 i] w fun e w'=>e = .returned (.tuple #[.int .u8 (bat s i).toNat,.bool true])∧Below w.heap.size w w':=by
 rw [← getElem_bat s i hi]
 exact bByte_in0 s i w hs hi
theorem bByte_high (s:ByteArray) (i:Int) (w:World) (_hs:s.size≤1000000) (_hi:s.size≤i) :
  Calls Tryz.prog 82 #[.agg #[.string s],.int .i64 i] w fun e w'=>e = .returned (.tuple #[.int .u8 0,.bool false])∧Below w.heap.size w w':=by
 have _h0:0≤i:=by omega
 go_enter Tryz.func82,Tryz.ntmps82
 go_wp2
 go_ret2
 exact ⟨rfl,(Below.refl _ _).alloc (Nat.le_refl _) _⟩
theorem bSlice_core (s:ByteArray) (i j:Int) (a b:Nat) (w:World) (_hs:s.size≤1000000) (_h1:a≤s.size) (_h2:b≤s.size) (r:ByteArray) (hr1:b≤a→r=⟨#[]⟩) (hr2:a<b→r=s.extract a b)
  (E1:Hid (min (max i 0) (s.size:Int)=(a:Int)))
  (E2:Hid (min (max j 0) (s.size:Int)=(b:Int))) :
  Calls Tryz.prog 89 #[.agg #[.string s],.int .i64 i,.int .i64 j] w fun e w'=>e = .returned (.string r)∧Below w.heap.size w w':=by
 by_cases hab:b≤a
 ·obtain rfl:=hr1 hab
  clear hr1 hr2
  go_enter Tryz.func89,Tryz.ntmps89
  go_wp2
  go_quiet (fail)
  rw [E1.out,E2.out]
  go_wp2
  all_goals go_ret
  all_goals exact ⟨rfl,bDrewN ((Below.refl _ _).alloc (Nat.le_refl _) _) _⟩
 ·have hab':a<b:=by omega
  obtain rfl:=hr2 hab'
  clear hr1 hr2
  go_enter Tryz.func89,Tryz.ntmps89
  go_wp2
  go_quiet (fail)
  rw [E1.out,E2.out]
  go_wp2
  all_goals go_ret
  all_goals exact ⟨rfl,bDrewN ((Below.refl _ _).alloc (Nat.le_refl _) _) _⟩
theorem bSlice_any (s:ByteArray) (i j:Int) (w:World) (hs:s.size≤1000000) :
  Calls Tryz.prog 89 #[.agg #[.string s],.int .i64 i,.int .i64 j] w fun e w'=>e = .returned (.string (bs (subs s.data.toList i j)))∧Below w.heap.size w w':=by
 have hsz:=size_eq s
 have E:∀ k:Int,min (max k 0) (s.size:Int)=((min k.toNat s.size:Nat):Int):=fun k=>by omega
 refine bSlice_core s i j (min i.toNat s.size) (min j.toNat s.size) w hs (Nat.min_le_right _ _) (Nat.min_le_right _ _) _ (fun h=>?_) (fun h=>?_) (Lib.hid (E i)) (Lib.hid (E j))
 ·have e:subs s.data.toList i j=[]:=by
   unfold subs
   apply List.drop_eq_nil_of_le
   rw [List.length_take]
   omega
  rw [e]
  rfl
 ·rw [extract_bs]
  congr 1
  unfold subs
  rw [show min i.toNat s.size=i.toNat from by omega]
  congr 1
  by_cases hj:j.toNat≤s.size
  ·rw [Nat.min_eq_left hj]
  ·rw [Nat.min_eq_right (by omega),List.take_of_length_le (by omega),List.take_of_length_le (by omega)]
theorem bHas_core (s t:ByteArray) (i:Nat) (w:World) (_hs:s.size≤1000000) (_hi:i≤s.size) :
  Calls Tryz.prog 84 #[.agg #[.string s],.int .i64 i,.string t] w fun e w'=>e = .returned (.bool (Lib.hasPrefix (List.take (s.size - i) (List.drop i s.data.toList)) t.data.toList))∧Below w.heap.size w w':=by
 go_enter Tryz.func84,Tryz.ntmps84
 go_wp2_with (go_at_call 123; refine (Tryz.strings_HasPrefix _ _ _).mono ?_; rintro e w' ⟨rfl,rfl⟩)
 go_ret
 exact ⟨rfl,(Below.refl _ _).alloc (Nat.le_refl _) _⟩
theorem bHas_in (s t:ByteArray) (i:Nat) (w:World) (hs:s.size≤1000000) (hi:i≤s.size) :
  Calls Tryz.prog 84 #[.agg #[.string s],.int .i64 i,.string t] w fun e w'=>e = .returned (.bool (Lib.hasPrefix (s.data.toList.drop i) t.data.toList))∧Below w.heap.size w w':=by
 have e:List.take (s.size - i) (List.drop i s.data.toList)=s.data.toList.drop i:=by
  apply List.take_of_length_le
  rw [List.length_drop,size_eq]
  exact Nat.le_refl _
 have h:=bHas_core s t i w hs hi
 rw [e] at h
 exact h
theorem ret_bool {a b:Bool} (h:a=b):Ending.returned (.bool a) = .returned (.bool b):=by rw [h]
theorem tBegins_any (c:UInt8) (w:World) :
  Calls Tryz.prog 166 #[.int .u8 c.toNat] w fun e w'=>e = .returned (.bool (isBegin c))∧w=w':=by
 have H:=Lib.hid (or32 c)
 go_enter Tryz.func166,Tryz.ntmps166
 go_wp2
 all_goals go_ret
 ·exact ⟨ret_bool (by rw [isBegin,← H.out,Bool.eq_iff_iff]; simp only [Bool.or_eq_true,Bool.and_eq_true,decide_eq_true_eq,beq_iff_eq]; omega),rfl⟩
 ·exact ⟨ret_bool (by rw [isBegin,← H.out,Bool.eq_iff_iff]; simp only [Bool.or_eq_true,Bool.and_eq_true,decide_eq_true_eq,beq_iff_eq,eq_self,true_iff]; omega),rfl⟩
 ·exact ⟨ret_bool (by rw [isBegin,← H.out,Bool.eq_iff_iff]; simp only [Bool.or_eq_true,Bool.and_eq_true,decide_eq_true_eq,beq_iff_eq]; omega),rfl⟩
theorem tGoesOn_any (c:UInt8) (w:World) :
  Calls Tryz.prog 167 #[.int .u8 c.toNat] w fun e w'=>e = .returned (.bool (isGo c))∧w=w':=by
 by_cases hb:isBegin c=true
 ·have HB:=Lib.hid hb
  go_enter Tryz.func167,Tryz.ntmps167
  go_wp2_with (go_at_call 166; refine (tBegins_any c _).mono ?_; rintro e w' ⟨rfl,rfl⟩; rw [HB.out])
  go_ret
  exact ⟨ret_bool (by simp [isGo,HB.out]),rfl⟩
 ·have hb':isBegin c=false:=by simpa using hb
  clear hb
  have HB:=Lib.hid hb'
  clear hb'
  go_enter Tryz.func167,Tryz.ntmps167
  go_wp2_with (go_at_call 166; refine (tBegins_any c _).mono ?_; rintro e w' ⟨rfl,rfl⟩; rw [HB.out])
  all_goals go_ret
  all_goals exact ⟨ret_bool (by rw [isGo,HB.out,isDigit,Bool.eq_iff_iff]; simp only [Bool.false_or,Bool.and_eq_true,decide_eq_true_eq,Bool.false_eq_true,false_iff]; omega),rfl⟩
theorem nameB_cons (s:ByteArray) (h0:0<s.size) (h20:s.size≤20):nameB s.data.toList=(isBegin (bat s 0) && s.data.toList.all isGo):=by
 have h:=drop_bat s 0 h0
 rw [List.drop_zero] at h
 have hl:=size_eq s
 rw [h] at hl ⊢
 simp only [List.length_cons] at hl
 rw [nameB]
 rw [show decide ((s.data.toList.drop (0+1)).length<20)=true from by simp only [decide_eq_true_eq]; omega,Bool.true_and]
theorem nameB_long (s:ByteArray) (h:20<s.size):nameB s.data.toList=false:=by
 have h0:=drop_bat s 0 (by omega)
 rw [List.drop_zero] at h0
 have hl:=size_eq s
 rw [h0] at hl ⊢
 simp only [List.length_cons] at hl
 rw [nameB]
 rw [show decide ((s.data.toList.drop (0+1)).length<20)=false from by simp only [decide_eq_false_iff_not]; omega,Bool.false_and,Bool.false_and]
theorem all_take_succ (s:ByteArray) (k:Nat) (h:k<s.size):(s.data.toList.take (k+1)).all isGo=((s.data.toList.take k).all isGo && isGo (bat s k)):=by
 have h1:k<s.data.toList.length:=by rw [size_eq]; exact h
 rw [List.take_succ_eq_append_getElem h1,List.all_append,List.all_cons,List.all_nil,Bool.and_true]
 congr 2
 have h2:k<s.data.size:=h
 simp [bat,List.getD,Array.getElem?_eq_getElem h2]
theorem all_false (s:ByteArray) (k:Nat) (h:k<s.size) (hb:isGo (bat s k)=false):s.data.toList.all isGo=false:=by
 rw [← List.take_append_drop k s.data.toList,List.all_append,drop_bat s k h,List.all_cons,hb,Bool.false_and,Bool.and_false]
theorem empty_of_size (s:ByteArray) (h:s.size=0):s=⟨#[]⟩:=by
 rw [← bs_of s,List.eq_nil_of_length_eq_zero ((size_eq s).trans h)]
 rfl
theorem ne_empty (s:ByteArray) (h:0<s.size):(¬ s.toList=[])∧s.toList.isEmpty=false:=by
 have h1:s.toList≠[]:=by
  rw [Lib.toList_data]
  intro e
  have:=size_eq s
  rw [e] at this
  simp at this
  omega
 exact ⟨h1,by simpa using h1⟩
theorem tName_empty (w:World) :
  Calls Tryz.prog 127 #[.string ⟨#[]⟩] w fun e w'=>e = .returned (.bool false)∧w=w':=by
 go_enter Tryz.func127,Tryz.ntmps127
 go_wp2
 go_ret
 exact ⟨rfl,rfl⟩
theorem tName_long (s:ByteArray) (w:World) (h:20<s.size) (hs:s.size≤1000000) :
  Calls Tryz.prog 127 #[.string s] w fun e w'=>e = .returned (.bool false)∧w=w':=by
 obtain ⟨hn,hm⟩:=ne_empty s (by omega)
 go_enter Tryz.func127,Tryz.ntmps127
 go_wp2
 go_ret
 exact ⟨rfl,rfl⟩
theorem tName_first (s:ByteArray) (w:World) (h0:0<s.size) (h20:s.size≤20) (hb:Hid (isBegin (bat s 0)=false)) :
  Calls Tryz.prog 127 #[.string s] w fun e w'=>e = .returned (.bool false)∧w=w':=by
 obtain ⟨hn,hm⟩:=ne_empty s h0
 have HB:Hid (isBegin s[0]=false):=Lib.hid (by rw [getElem_bat]; exact hb.out)
 go_enter Tryz.func127,Tryz.ntmps127
 go_wp2_with (go_at_call 166; refine (tBegins_any _ _).mono ?_; rintro e w' ⟨rfl,rfl⟩; rw [HB.out])
 go_ret
 exact ⟨rfl,rfl⟩
theorem tName_loop (s:ByteArray) (w:World) (h0:0<s.size) (h20:s.size≤20) (hb:Hid (isBegin (bat s 0)=true)) (b:Bool) (hB:Hid (s.data.toList.all isGo=b)) :
  Calls Tryz.prog 127 #[.string s] w fun e w'=>e = .returned (.bool b)∧w=w':=by
 obtain ⟨hn,hm⟩:=ne_empty s h0
 have HB:Hid (isBegin s[0]=true):=Lib.hid (by rw [getElem_bat]; exact hb.out)
 go_enter Tryz.func127,Tryz.ntmps127
 go_wp2_with (go_at_call 166; refine (tBegins_any _ _).mono ?_; rintro e w' ⟨rfl,rfl⟩; rw [HB.out])
 go_loop [19] (fun c=>∃ k:Nat,k≤s.size∧c = .int .i64 k∧Hid ((s.data.toList.take k).all isGo=true)) (fun c=>s.size - (intOf c).toNat)
 case atStart=>exact ⟨0,Nat.zero_le _,rfl,Lib.hid rfl⟩
 case round =>
  obtain ⟨k,hk,rfl,hall⟩:=hrel
  by_cases hlt:k<s.size
  ·by_cases hg:isGo (bat s k)=true
   ·have HG:Hid (isGo s[k]=true):=Lib.hid (by rw [getElem_bat]; exact hg)
    have hnext:=Lib.hid ((all_take_succ s k hlt).trans (by rw [hall.out,hg]))
    clear hg
    go_wp2_with (go_at_call 167; refine (tGoesOn_any _ _).mono ?_; rintro e w' ⟨rfl,rfl⟩; rw [HG.out])
    go_round
    case rel=>exact ⟨k+1,by omega,by go_num,hnext⟩
    case measure=>simp [intOf]; omega
   ·have hg':isGo (bat s k)=false:=by simpa using hg
    have HF:=Lib.hid (all_false s k hlt hg')
    have HG:Hid (isGo s[k]=false):=Lib.hid (by rw [getElem_bat]; exact hg')
    clear hg hg'
    go_wp2_with (go_at_call 167; refine (tGoesOn_any _ _).mono ?_; rintro e w' ⟨rfl,rfl⟩; rw [HG.out])
    go_ret
    exact ⟨ret_bool (HF.out.symm.trans hB.out),rfl⟩
  ·have hall':Hid (s.data.toList.all isGo=true):=Lib.hid (by
    have h:=hall.out
    rwa [List.take_of_length_le (by rw [size_eq]; omega)] at h)
   go_wp2
   go_ret
   exact ⟨ret_bool (hall'.out.symm.trans hB.out),rfl⟩
theorem tName_any (s:ByteArray) (w:World) (hs:s.size≤1000000) :
  Calls Tryz.prog 127 #[.string s] w fun e w'=>e = .returned (.bool (nameB s.data.toList))∧w=w':=by
 by_cases h0:s.size=0
 ·rw [empty_of_size s h0]
  exact tName_empty w
 ·by_cases h20:20<s.size
  ·rw [nameB_long s h20]
   exact tName_long s w h20 hs
  ·rw [nameB_cons s (by omega) (by omega)]
   cases hb:isBegin (bat s 0) with
   | false=>exact tName_first s w (by omega) (by omega) (Lib.hid hb)
   | true=>exact tName_loop s w (by omega) (by omega) (Lib.hid hb) _ (Lib.hid (Bool.true_and _).symm)
end Go.Proofs.YtbfeoinoepoiaaaGreatDoor
namespace Go.Proofs.YtbfeoinoepoiaaaGreatDoor
open Go Go.RowKit
theorem takeWhile_of (p:UInt8→Bool) (l:List UInt8) (n:Nat) (h1:(l.take n).all p=true) (h2:∀ c m,l.drop n=c :: m→p c=false):l.takeWhile p=l.take n:=by
 induction l generalizing n with
 | nil=>simp
 | cons c l ih =>
  cases n with
  | zero =>
   have:=h2 c l rfl
   simp [this]
  | succ n =>
   simp only [List.take_succ_cons,List.all_cons,Bool.and_eq_true] at h1
   rw [List.takeWhile_cons_of_pos h1.1,List.take_succ_cons,ih n h1.2 (fun c m h=>h2 c m (by simpa using h))]
theorem run_end (s:ByteArray) (i k:Nat) (hi:i<s.size) (hik:i≤k) (hk:k≤s.size) (hb:isBegin (bat s i)=true) (hall:((s.data.toList.drop i).take (k - i)).all isGo=true) (hend:k<s.size→isGo (bat s k)=false) :
  runName (s.data.toList.drop i)=subs s.data.toList i k:=by
 have h:=drop_bat s i hi
 have e:subs s.data.toList i k=(s.data.toList.drop i).take (k - i):=by
  unfold subs
  rw [show ((i:Nat):Int).toNat=i from rfl,show ((k:Nat):Int).toNat=k from rfl,List.drop_take]
 rw [e,← takeWhile_of isGo (s.data.toList.drop i) (k - i) hall ?_,h,runName,if_pos hb]
 intro c m hcm
 rw [List.drop_drop,show i+(k - i)=k from by omega] at hcm
 by_cases hlt:k<s.size
 ·rw [drop_bat s k hlt] at hcm
  injection hcm with h1 _
  rw [← h1]
  exact hend hlt
 ·rw [List.drop_eq_nil_of_le (by rw [size_eq]; omega)] at hcm
  cases hcm
theorem run_step (s:ByteArray) (i k:Nat) (hik:i≤k) (hk:k<s.size) (hall:((s.data.toList.drop i).take (k - i)).all isGo=true) (hg:isGo (bat s k)=true):((s.data.toList.drop i).take (k+1 - i)).all isGo=true:=by
 rw [show k+1 - i=(k - i)+1 from by omega]
 have h1:k - i<(s.data.toList.drop i).length:=by rw [List.length_drop,size_eq]; omega
 rw [List.take_succ_eq_append_getElem h1,List.all_append,hall,Bool.true_and,List.all_cons,List.all_nil,Bool.and_true]
 rw [← hg]
 congr 1
 have h2:k<s.data.size:=hk
 simp [bat,List.getD,Array.getElem?_eq_getElem h2,show i+(k - i)=k from by omega]
theorem run_none (s:ByteArray) (i:Nat) (h:s.size≤i):runName (s.data.toList.drop i)=[]:=by
 rw [List.drop_eq_nil_of_le (by rw [size_eq]; omega)]
 rfl
theorem run_not (s:ByteArray) (i:Nat) (h:i<s.size) (hb:isBegin (bat s i)=false):runName (s.data.toList.drop i)=[]:=by
 rw [drop_bat s i h,runName,hb]
 rfl
theorem sName_high (q:Addr) (s:ByteArray) (i:Nat) (w:World) (hs:s.size≤1000000) (hi:s.size≤i) (_hi2:i≤10000000) (hc:w.cell? q=some (.string s)) :
  Calls Tryz.prog 126 #[.pointer (some q),.int .i64 i] w fun e w'=>e = .returned (.string ⟨#[]⟩)∧Below w.heap.size w w':=by
 go_enter Tryz.func126,Tryz.ntmps126
 go_wp2_with (go_at_call 82; refine (bByte_high s _ _ hs (by omega)).mono ?_; rintro e w' ⟨rfl,hb⟩)
 go_ret
 exact ⟨rfl,hb⟩
theorem sName_not (q:Addr) (s:ByteArray) (i:Nat) (w:World) (hs:s.size≤1000000) (hi:i<s.size) (hb:Hid (isBegin (bat s i)=false)) (hc:w.cell? q=some (.string s)) :
  Calls Tryz.prog 126 #[.pointer (some q),.int .i64 i] w fun e w'=>e = .returned (.string ⟨#[]⟩)∧Below w.heap.size w w':=by
 go_enter Tryz.func126,Tryz.ntmps126
 go_wp2_with (first | (go_at_call 82; refine (bByte_in s _ _ hs (by omega)).mono ?_; rintro e w' ⟨rfl,hb1⟩) | (go_at_call 166; refine (tBegins_any _ _).mono ?_; rintro e w' ⟨rfl,rfl⟩; rw [hb.out]))
 go_ret
 exact ⟨rfl,‹_›⟩
theorem sName_run (q:Addr) (s:ByteArray) (i:Nat) (w:World) (hs:s.size≤1000000) (hi:i<s.size) (hb:Hid (isBegin (bat s i)=true)) (hc:w.cell? q=some (.string s)) (r:List UInt8)
  (hr:Hid (∀ k:Nat,i≤k→k≤s.size→((s.data.toList.drop i).take (k - i)).all isGo=true→(k<s.size→isGo (bat s k)=false)→subs s.data.toList i k=r)) :
  Calls Tryz.prog 126 #[.pointer (some q),.int .i64 i] w fun e w'=>e = .returned (.string (bs r))∧Below w.heap.size w w':=by
 go_enter Tryz.func126,Tryz.ntmps126
 go_wp2_with (first | (go_at_call 82; refine (bByte_in s _ _ hs (by omega)).mono ?_; rintro e w1 ⟨rfl,hb1⟩) | (go_at_call 166; refine (tBegins_any _ _).mono ?_; rintro e w' ⟨rfl,rfl⟩; rw [hb.out]))
 go_loopw [5,6,7] (fun c x t wr=>∃ k:Nat,i≤k∧k≤s.size∧t = .int .i64 k∧Below w.heap.size w wr∧Hid (((s.data.toList.drop i).take (k - i)).all isGo=true) ∧
   ((k<s.size∧c = .int .u8 (bat s k).toNat∧x = .bool true)∨(s.size≤k∧c = .int .u8 0∧x = .bool false))) (fun _ _ t _=>s.size - (intOf t).toNat)
 case atStart=>exact ⟨i,Nat.le_refl _,by omega,rfl,‹_›,Lib.hid (by rw [Nat.sub_self]; rfl),.inl ⟨hi,rfl,rfl⟩⟩
 case round =>
  obtain ⟨k,hik,hk,rfl,hbr,hall,hcase⟩:=hrel
  have hcr:=bSome hbr hc
  clear hc
  rcases hcase with ⟨hlt,rfl,rfl⟩ | ⟨hge,rfl,rfl⟩
  ·by_cases hg:isGo (bat s k)=true
   ·have HG:=Lib.hid hg
    have hn:=Lib.hid (run_step s i k hik hlt hall.out hg)
    clear hg
    by_cases hlt2:k+1<s.size
    ·go_wp2_with (first | (go_at_call 167; refine (tGoesOn_any _ _).mono ?_; rintro e w' ⟨rfl,rfl⟩; rw [HG.out]) | (go_at_call 82; refine (bByte_in s (k+1) _ hs (by omega)).mono ?_; rintro e w2 ⟨rfl,hb2⟩))
     go_roundw
     case rel=>exact ⟨k+1,by omega,by omega,by go_num,bNext hbr hb2,hn,.inl ⟨hlt2,rfl,rfl⟩⟩
     case measure=>simp [intOf]; omega
    ·go_wp2_with (first | (go_at_call 167; refine (tGoesOn_any _ _).mono ?_; rintro e w' ⟨rfl,rfl⟩; rw [HG.out]) | (go_at_call 82; refine (bByte_high s _ _ hs (by omega)).mono ?_; rintro e w2 ⟨rfl,hb2⟩))
     go_roundw
     case rel=>exact ⟨k+1,by omega,by omega,by go_num,bNext hbr hb2,hn,.inr ⟨by omega,rfl,rfl⟩⟩
     case measure=>simp [intOf]; omega
   ·have hg':isGo (bat s k)=false:=by simpa using hg
    have HG:=Lib.hid hg'
    have HR:=Lib.hid (hr.out k hik hk hall.out (fun _=>hg'))
    clear hg hg'
    go_wp2_with (first | (go_at_call 167; refine (tGoesOn_any _ _).mono ?_; rintro e w' ⟨rfl,rfl⟩; rw [HG.out]) | (go_at_call 89; refine (bSlice_any s _ _ _ hs).mono ?_; rintro e w2 ⟨rfl,hb2⟩))
    go_ret
    exact ⟨by rw [← HR.out]; rfl,bNext hbr ‹_›⟩
  ·have HR:=Lib.hid (hr.out k hik hk hall.out (fun h=>absurd h (by omega)))
   go_wp2_with (first | (go_at_call 89; refine (bSlice_any s _ _ _ hs).mono ?_; rintro e w2 ⟨rfl,hb2⟩))
   go_ret
   exact ⟨by rw [← HR.out]; rfl,bNext hbr ‹_›⟩
theorem sName_any (q:Addr) (s:ByteArray) (i:Nat) (w:World) (hs:s.size≤1000000) (hi2:i≤10000000) (hc:w.cell? q=some (.string s)) :
  Calls Tryz.prog 126 #[.pointer (some q),.int .i64 i] w fun e w'=>e = .returned (.string (bs (runName (s.data.toList.drop i))))∧Below w.heap.size w w':=by
 by_cases hi:s.size≤i
 ·rw [run_none s i hi]
  exact sName_high q s i w hs hi hi2 hc
 ·cases hb:isBegin (bat s i) with
  | false =>
   rw [run_not s i (by omega) hb]
   exact sName_not q s i w hs (by omega) (Lib.hid hb) hc
  | true =>
   exact sName_run q s i w hs (by omega) (Lib.hid hb) hc _ (Lib.hid fun k h1 h2 h3 h4=>(run_end s i k (by omega) h1 h2 hb h3 h4).symm)
theorem tNew_ok0 (s:ByteArray) (w:World) (hs:s.size≤8192) :
  Calls Tryz.prog 45 #[.string s] w fun e w'=>e = .returned (.tuple #[.pointer (some ⟨w.heap.size,0,none⟩),.nilIface])∧w.alloc (.cells #[.string s] 132)=w':=by
 go_enter Tryz.func45,Tryz.ntmps45
 go_wp2
 go_ret2
 exact ⟨rfl,rfl⟩
theorem tNew_ok (s:ByteArray) (w:World) (hs:s.size≤8192) :
  Calls Tryz.prog 45 #[.string s] w fun e w'=>e = .returned (.tuple #[.pointer (some ⟨w.heap.size,0,none⟩),.nilIface])∧Blk w' w.heap.size [.string s]∧Below w.heap.size w w':=by
 refine (tNew_ok0 s w hs).mono ?_
 rintro e w' ⟨rfl,rfl⟩
 exact ⟨rfl,Blk.new w [.string s] _,(Below.refl _ _).alloc (Nat.le_refl _) _⟩
end Go.Proofs.YtbfeoinoepoiaaaGreatDoor

namespace Go.Proofs.YtbfeoinoepoiaaaGreatDoor
set_option maxHeartbeats 2000000
set_option maxRecDepth 100000
open Go Go.RowKit
theorem infoBld:(Tryz.prog.info? 173).map (fun i=>i.size)=some 2:=by kernel_rfl
theorem infoByte:(Tryz.prog.info? 5).map (fun i=>(i.zero,i.size,i.bytes))=some (some (.int .u8 0),1,1):=by kernel_rfl
theorem liesBld:liesAt Tryz.prog Tryz.prog.depth 173 (2 / Tryz.prog.cellsOf 173) 0 173 1=true:=by kernel_rfl
theorem sbCopyCheck_used (b:Nat) (w:World) (h0:w.cell? ⟨b,0,none⟩=some (.pointer (some ⟨b,0,none⟩))) :
  Calls Tryz.prog 165 #[.pointer (some ⟨b,0,none⟩)] w fun e w'=>e = .returned (.tuple #[])∧w=w':=by
 obtain ⟨j,hj,_⟩:=Option.map_eq_some_iff.1 infoBld
 have hn:=fun w:World=>Lib.run_neq_ptr_same (P:=Tryz.prog) w ⟨b,0,none⟩ Tryz.underlying171 hj
 go_enter Tryz.func165,Tryz.ntmps165
 go_wp2
 go_end0
 exact ⟨rfl,rfl⟩
theorem sbCopyCheck_fresh (b:Nat) (w:World) (h0:w.cell? ⟨b,0,none⟩=some (.pointer none)) (hsh:w.shape? b=some (173,2)) (hfz:w.frozen? ⟨b,0,none⟩=false) :
  Calls Tryz.prog 165 #[.pointer (some ⟨b,0,none⟩)] w fun e w'=>e = .returned (.tuple #[])∧w.setCell ⟨b,0,none⟩ (.pointer (some ⟨b,0,none⟩))=w':=by
 obtain ⟨j,hj,hjs⟩:=Option.map_eq_some_iff.1 infoBld
 have k1:=Lib.run_to_unsafe w ⟨b,0,none⟩ Tryz.underlying171 Tryz.underlying185 hj (by rw [hjs]; decide) hsh (Nat.zero_lt_succ 1)
 have k2:=Lib.run_from_unsafe w ⟨b,0,none⟩ Tryz.underlying185 Tryz.underlying171 hj hsh liesBld
 clear hjs hj
 go_enter Tryz.func165,Tryz.ntmps165
 go_wp2
 rw [run_callFunc_extern Tryz.func194 (by kernel_rfl) (by kernel_rfl) (by kernel_rfl) (e:=Extern.AbiNoEscape.same) (by kernel_rfl)]
 rw [Lib.run_noEscape]
 simp only [Result.andThen]
 rw [Oper.upon_value]
 go_wp2
 go_end0
 exact ⟨rfl,rfl⟩
theorem sbCopyCheck_any (B b:Nat) (l:List Value) (w:World) (h:Lib.IsBuilder 173 5 B b l w) :
  Calls Tryz.prog 165 #[.pointer (some ⟨b,0,none⟩)] w fun e w'=>e = .returned (.tuple #[])∧(Lib.BuilderAt 173 5 B b (.pointer (some ⟨b,0,none⟩)) l w'∧Below B w w'):=by
 rcases h with h | h
 ·refine (sbCopyCheck_fresh b w h.cell0 h.shape h.frozen0).mono ?_
  rintro e w' ⟨rfl,rfl⟩
  exact ⟨rfl,h.used _,(Below.refl B w).setCell (p:=⟨b,0,none⟩) h.1 _⟩
 ·refine (sbCopyCheck_used b w h.cell0).mono ?_
  rintro e w' ⟨rfl,rfl⟩
  exact ⟨rfl,h,Below.refl B _⟩
theorem sbWriteByte_any (B b:Nat) (l:List Value) (c:Int) (w:World) (h:Lib.IsBuilder 173 5 B b l w) (hlen:l.length+1≤140737488355328) (hBw:B≤w.heap.size) :
  Calls Tryz.prog 125 #[.pointer (some ⟨b,0,none⟩),.int .u8 c] w fun e w'=>e = .returned .nilIface∧(Lib.BuilderAt 173 5 B b (.pointer (some ⟨b,0,none⟩)) (l++[.int .u8 c]) w'∧Below B w w'):=by
 obtain ⟨i0,hi,hz0,hz1,hz2⟩:=info_parts infoByte
 go_enter Tryz.func125,Tryz.ntmps125
 go_wp2_with (go_at_call 165; refine (sbCopyCheck_any B b l _ h).mono ?_)
 rintro e w1 ⟨rfl,h1,hb1⟩
 obtain ⟨hB,v,hbk,hown,hne⟩:=h1
 have c0:w1.cell? ⟨b,0,none⟩=some (.pointer (some ⟨b,0,none⟩)):=by rw [Lib.cell_of_heap hbk]; rfl
 have c1:w1.cell? ⟨b,1,none⟩=some v:=by rw [Lib.cell_of_heap hbk]; rfl
 go_wp2_with (at_builtin; refine wpList_append_own _ rfl _ _ 75 rfl B 5 i0 (.int .u8 0) 1 1 Tryz.underlying75 hi hz0 hz1 hz2 rfl (by decide) _ _ _ rfl (hown.alloc _) ⟨w1.heap.size,0,none⟩ 1 1 [.int .u8 c] rfl rfl ?c1 ?c2 ?c3 ?c4 ?c5 ?_)
 case c1 =>
  intro j u hj
  match j,hj with
  | 0,hj=>simp at hj; subst hj; simp [Addr.add]
 case c2=>intro u hu; simp at hu; subst hu; rfl
 case c3=>unfold maxLen; omega
 case c4=>omega
 case c5=>have:=hb1.size; simp; omega
 intro v' w2 hown' hgrow _
 have hlt:b<w1.heap.size:=lt_of_block hbk
 have hb2:w2.heap[b]?=some (.cells #[.pointer (some ⟨b,0,none⟩),v] 173 (0,0)):=by
  rw [hgrow.block b (by simp; omega) (fun e=>hne e.symm),Lib.alloc_old w1 _ b hlt]
  exact hbk
 have d0:w2.cell? ⟨b,0,none⟩=some (.pointer (some ⟨b,0,none⟩)):=by rw [Lib.cell_of_heap hb2]; rfl
 have d1:w2.cell? ⟨b,1,none⟩=some v:=by rw [Lib.cell_of_heap hb2]; rfl
 have f1:w2.frozen? ⟨b,1,none⟩=false:=Lib.frozen_of_heap hb2 1
 obtain ⟨g,cap,rfl⟩:∃ g cap,v' = .slice (some ⟨g,0,none⟩) (l.length+1) cap:=by
  rcases hown'.2 with ⟨_,h0⟩ | ⟨g,cap,cur,hv,_⟩
  ·omega
  ·exact ⟨g,cap,hv⟩
 go_wp2
 go_ret
 refine ⟨rfl,?_,?_⟩
 ·exact Lib.BuilderAt.put (T:=173) (e:=5) hB hb2 (bs':=l++[.int .u8 c]) (by simpa using hown') (by decide)
 ·exact ((hb1.alloc (by have:=hb1.size; omega) _).grown hgrow (by have:=hb1.size; simp; omega) (fun k hk=>(hown.lt k hk).1)).setCell (p:=⟨b,1,none⟩) hB _
end Go.Proofs.YtbfeoinoepoiaaaGreatDoor
namespace Go.Proofs.YtbfeoinoepoiaaaGreatDoor
set_option maxHeartbeats 2000000
set_option maxRecDepth 100000
open Go Go.RowKit
theorem skip_blank (s:ByteArray) (k:Nat) (h:k<s.size) (hb:(bat s k).toNat=32∨(bat s k).toNat=9):k+skipN false (s.data.toList.drop k)=k+1+skipN false (s.data.toList.drop (k+1)):=by
 rw [drop_bat s k h,skipN,if_pos hb]; omega
theorem skip_sharp (s:ByteArray) (k:Nat) (h:k<s.size) (hb:(bat s k).toNat=35):k+skipN false (s.data.toList.drop k)=k+1+skipN true (s.data.toList.drop (k+1)):=by
 rw [drop_bat s k h,skipN,if_neg (by omega),if_pos hb]; omega
theorem skip_else (s:ByteArray) (k:Nat) (h:k<s.size) (hb:¬ ((bat s k).toNat=32∨(bat s k).toNat=9)) (hc:¬ (bat s k).toNat=35):k+skipN false (s.data.toList.drop k)=k:=by
 rw [drop_bat s k h,skipN,if_neg hb,if_neg hc]; rfl
theorem skip_at_end (b:Bool) (s:ByteArray) (k:Nat) (h:s.size≤k):k+skipN b (s.data.toList.drop k)=k:=by
 rw [List.drop_eq_nil_of_le (by rw [size_eq]; omega)]
 cases b <;> rfl
theorem skip_on (s:ByteArray) (k:Nat) (h:k<s.size) (hb:¬ (bat s k).toNat=10):k+skipN true (s.data.toList.drop k)=k+1+skipN true (s.data.toList.drop (k+1)):=by
 rw [drop_bat s k h,skipN,if_neg hb]; omega
theorem skip_line (s:ByteArray) (k:Nat) (h:k<s.size) (hb:(bat s k).toNat=10):k+skipN true (s.data.toList.drop k)=k+skipN false (s.data.toList.drop k):=by
 rw [drop_bat s k h,skipN,if_pos hb,skipN,if_neg (by omega),if_neg (by omega)]
end Go.Proofs.YtbfeoinoepoiaaaGreatDoor
namespace Go.Proofs.YtbfeoinoepoiaaaGreatDoor
set_option maxHeartbeats 2000000
set_option maxRecDepth 100000
open Go Go.RowKit
theorem indexByte_low (l:List UInt8) (c:UInt8) : -1≤Lib.indexByte l c:=by
 induction l with
 | nil=>simp [Lib.indexByte]
 | cons d l ih =>
  simp only [Lib.indexByte]
  split
  ·omega
  ·split <;> omega
theorem indexByte_iff (l:List UInt8) (c:UInt8):(0:Int)≤Lib.indexByte l c ↔ l.contains c=true:=by
 induction l with
 | nil=>simp [Lib.indexByte]
 | cons d l ih =>
  have h0:=indexByte_low l c
  rw [List.contains_cons,Bool.or_eq_true,← ih,beq_iff_eq]
  simp only [Lib.indexByte]
  split
  ·rename_i h
   simp only [beq_iff_eq] at h
   simp [h]
  ·rename_i h
   simp only [beq_iff_eq] at h
   have h2:¬ c=d:=fun e=>h e.symm
   split
   ·rename_i h3
    simp only [beq_iff_eq] at h3
    rw [h3]
    simp [h2]
   ·rename_i h3
    simp only [beq_iff_eq] at h3
    simp only [h2,false_or]
    omega
theorem indexByte_ge (l:List UInt8) (c:UInt8):decide ((0:Int)≤Lib.indexByte l c)=l.contains c:=by
 rw [Bool.eq_iff_iff,decide_eq_true_eq,indexByte_iff]
end Go.Proofs.YtbfeoinoepoiaaaGreatDoor
namespace Go.Proofs.YtbfeoinoepoiaaaGreatDoor
set_option maxHeartbeats 2000000
set_option maxRecDepth 100000
open Go Go.RowKit
end Go.Proofs.YtbfeoinoepoiaaaGreatDoor

namespace Go.Proofs.YtbfeoinoepoiaaaGreatDoor
open Go Go.RowKit
def Bld (w:World) (b:Nat) (l:List UInt8):Prop:=Lib.IsBuilder 173 5 b b (Lib.byteCells l) w
theorem bldAt_heap {B b:Nat} {p:Value} {l:List Value} {w w':World} (h:Lib.BuilderAt 173 5 B b p l w) (hk:∀ k,B≤k→k<w.heap.size→w'.heap[k]?=w.heap[k]?):Lib.BuilderAt 173 5 B b p l w':=by
 obtain ⟨hB,v,hb,hown,hne⟩:=h
 refine ⟨hB,v,(hk b hB (lt_of_block hb)).trans hb,⟨hown.1,?_⟩,hne⟩
 rcases hown.2 with h2 | ⟨g,cap,cur,hv,hg,hh,r⟩
 ·exact .inl h2
 ·exact .inr ⟨g,cap,cur,hv,hg,(hk g hg (lt_of_block hh)).trans hh,r⟩
theorem Bld.of_heap {w w':World} {b:Nat} {l:List UInt8} (h:Bld w b l) (hk:∀ k,b≤k→k<w.heap.size→w'.heap[k]?=w.heap[k]?):Bld w' b l :=
 h.imp (fun h=>bldAt_heap h hk) (fun h=>bldAt_heap h hk)
theorem Bld.below {w w':World} {b:Nat} {l:List UInt8} (h:Bld w b l) (hb:Below w.heap.size w w'):Bld w' b l:=h.of_heap fun k _ hk=>hb.block k hk
theorem Bld.other {w:World} {b:Nat} {l:List UInt8} (h:Bld w b l) {p:Addr} (hp:p.block<b) (u:Value):Bld (w.setCell p u) b l:=h.of_heap fun k h1 _=>Below.heap_setCell _ _ _ _ (by omega)
theorem Bld.drew {w:World} {b:Nat} {l:List UInt8} (h:Bld w b l):Bld w.drew b l:=h.of_heap fun _ _ _=>rfl
theorem Bld.new (w:World):Bld (w.alloc (.cells #[.pointer none,.slice none 0 0] 173)) w.heap.size []:=Lib.fresh_isBuilder _ _ w
theorem Bld.newAt {w:World} {b:Nat} (hb:b=w.heap.size):Bld (w.alloc (.cells #[.pointer none,.slice none 0 0] 173)) b []:=hb ▸ Bld.new w
theorem Bld.lt {w:World} {b:Nat} {l:List UInt8} (h:Bld w b l):b<w.heap.size:=h.elim (fun h=>h.lt) (fun h=>h.lt)
theorem byteCells_snoc (l:List UInt8) (c:UInt8):Lib.byteCells l++[.int .u8 (c.toNat:Int)]=Lib.byteCells (l++[c]):=by simp [Lib.byteCells]
theorem Bld.writeByte (b:Nat) (l:List UInt8) (c:UInt8) (w:World) (h:Bld w b l) (hlen:l.length≤100000000) :
  Calls Tryz.prog 125 #[.pointer (some ⟨b,0,none⟩),.int .u8 c.toNat] w fun e w'=>e = .returned .nilIface∧Bld w' b (l++[c])∧Below b w w':=by
 refine (sbWriteByte_any b b (Lib.byteCells l) _ w h (by rw [Lib.byteCells_length]; omega) (Nat.le_of_lt h.lt)).mono ?_
 rintro e w' ⟨rfl,h1,h2⟩
 rw [byteCells_snoc] at h1
 exact ⟨rfl,.inr h1,h2⟩
theorem Bld.string (b:Nat) (l:List UInt8) (w:World) (h:Bld w b l) :
  Calls Tryz.prog 124 #[.pointer (some ⟨b,0,none⟩)] w fun e w'=>e = .returned (.string (bs l))∧Below b w w' :=
 Tryz.Builder_String_any b b l w h (Nat.le_of_lt h.lt)
theorem Blk.belowB {w w':World} {b B:Nat} {cs:List Value} (h:Blk w b cs) (hb:Below B w w') (h1:b<B):Blk w' b cs:=h.of_heap (hb.block b h1)
theorem Kept.belowB {S:Nat→Prop} {a b c:World} {B:Nat} (h:Kept S a b) (k:Below B b c) (hB:a.heap.size≤B):Kept S a c :=
 ⟨k.os.trans h.os,k.tape.trans h.tape,k.output.trans h.output,Nat.le_trans h.size k.size,fun i hi hn=>(k.block i (by omega)).trans (h.block i hi hn)⟩
end Go.Proofs.YtbfeoinoepoiaaaGreatDoor
namespace Go.Proofs.YtbfeoinoepoiaaaGreatDoor
open Go Go.RowKit
def errVars:List (Nat × Nat):=[(101,4),(102,0),(103,7),(104,11),(105,12),(106,8),(107,5),(108,2),(109,1),(110,6),(111,3),(112,13),(113,14),(114,15),(115,16),(116,17),(117,18)]
def Env (w:World) (sent:Nat→Addr):Prop:=∀ c g,(c,g)∈errVars→w.cell? ⟨g,0,none⟩=some (.iface 289 (.pointer (some (sent c))))
theorem Env.below {w w':World} {sent:Nat→Addr} (h:Env w sent) (hb:Below w.heap.size w w'):Env w' sent:=fun c g hg=>bSome hb (h c g hg)
theorem Env.lt {w:World} {sent:Nat→Addr} (h:Env w sent) {c g:Nat} (hg:(c,g)∈errVars):g<w.heap.size:=block_lt_of_cell (h c g hg)
def ErrAt (w:World) (b:Nat) (sent:Nat→Addr) (code:Nat) (p:Int):Prop:=Blk w b [.int .i64 p,.iface 289 (.pointer (some (sent code)))]
end Go.Proofs.YtbfeoinoepoiaaaGreatDoor
namespace Go.Proofs.YtbfeoinoepoiaaaGreatDoor
open Go Go.RowKit
theorem cells_new {w:World} {cs:List Value} {t:TypeId} {b:Nat} (hb:b=w.heap.size):∀ j u,cs[j]?=some u→(w.alloc (.cells cs.toArray t)).cell? ((⟨b,0,none⟩:Addr).add j)=some u:=by
 intro j u h
 have:=(Blk.newAt cs t hb).cell j h
 cases j <;> simpa [Addr.add] using this
end Go.Proofs.YtbfeoinoepoiaaaGreatDoor
