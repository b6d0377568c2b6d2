/- Small lemmas on memory that every text of this seat uses: blocks known whole ('Blk'), frames ('Kept'), and the last step of a row. No program stands in it. -/
import Derived.WalkKit
import Derived.WalkSpells
import Derived.WalkLawsBesides
import Derived.Deep.QuietTactic
import Derived.BigQuiet
import Derived.Lib.QuietBelow
import Derived.Lib.Hide
import Derived.Deep.DeepFit
import Derived.Lib.Strings
namespace Go.Proofs.YtepebnblbheegaaGreatDoor
open Go Go.RowKit

/-- Of the blocks that were there, all but those of S hold what they held; nothing outside memory has turned. -/
structure Kept (S : Nat → Prop) (w w' : World) : Prop where
  os : w'.os = w.os
  tape : w'.tape = w.tape
  output : w'.output = w.output
  size : w.heap.size ≤ w'.heap.size
  block : ∀ k, k < w.heap.size → ¬ S k → w'.heap[k]? = w.heap[k]?

def Nowhere (_ : Nat) : Prop := False
def At (b : Nat) (k : Nat) : Prop := k = b

theorem Kept.refl (S : Nat → Prop) (w : World) : Kept S w w := ⟨rfl, rfl, rfl, Nat.le_refl _, fun _ _ _ => rfl⟩

theorem Kept.trans {S T : Nat → Prop} {a b c : World} (h : Kept S a b) (k : Kept T b c) (hT : ∀ i, i < a.heap.size → T i → S i) : Kept S a c :=
  ⟨k.os.trans h.os, k.tape.trans h.tape, k.output.trans h.output, Nat.le_trans h.size k.size,
    fun i hi hn => (k.block i (Nat.lt_of_lt_of_le hi h.size) (fun e => hn (hT i hi e))).trans (h.block i hi hn)⟩

theorem Kept.mono {S T : Nat → Prop} {w w' : World} (h : Kept S w w') (hS : ∀ i, i < w.heap.size → S i → T i) : Kept T w w' :=
  ⟨h.os, h.tape, h.output, h.size, fun k hk hn => h.block k hk (fun e => hn (hS k hk e))⟩

theorem Kept.same {S : Nat → Prop} {a b c : World} (h : Kept S a b) (k : Kept S b c) : Kept S a c := h.trans k fun _ _ e => e

theorem Kept.ofBelow {S : Nat → Prop} {w w' : World} (h : Below w.heap.size w w') : Kept S w w' := ⟨h.os, h.tape, h.output, h.size, fun k hk _ => h.block k hk⟩

theorem Kept.andBelow {S : Nat → Prop} {a b c : World} (h : Kept S a b) (k : Below b.heap.size b c) : Kept S a c := h.same (.ofBelow k)

theorem Kept.toBelow {w w' : World} (h : Kept Nowhere w w') : Below w.heap.size w w' := ⟨h.os, h.tape, h.output, h.size, fun k hk => h.block k hk (fun e => e)⟩

theorem Kept.below {S : Nat → Prop} {B : Nat} {w w' : World} (h : Kept S w w') (hB : B ≤ w.heap.size) (hS : ∀ k, k < B → ¬ S k) : Below B w w' :=
  ⟨h.os, h.tape, h.output, h.size, fun k hk => h.block k (Nat.lt_of_lt_of_le hk hB) (hS k hk)⟩

/-- What was written lies in blocks that the call itself has made. -/
theorem Kept.fresh {S : Nat → Prop} {a b c : World} (h : Below a.heap.size a b) (k : Kept S b c) (hS : ∀ i, i < a.heap.size → ¬ S i) : Below a.heap.size a c :=
  h.trans (k.below h.size hS)

theorem Kept.alloc {S : Nat → Prop} {a w : World} (h : Kept S a w) (o : Obj) : Kept S a (w.alloc o) :=
  h.andBelow ((Below.refl _ _).alloc (Nat.le_refl _) _)

theorem Kept.drew {S : Nat → Prop} {a w : World} (h : Kept S a w) : Kept S a w.drew := ⟨h.os, h.tape, h.output, h.size, h.block⟩

theorem Kept.drewN {S : Nat → Prop} {a w : World} (h : Kept S a w) (n : Nat) : Kept S a (w.drewN n) := ⟨h.os, h.tape, h.output, h.size, h.block⟩

theorem Kept.setCell {S : Nat → Prop} {a w : World} (h : Kept S a w) {p : Addr} (hp : p.block < a.heap.size → S p.block) (u : Value) : Kept S a (w.setCell p u) :=
  ⟨h.os, h.tape, h.output, by simpa [World.setCell] using h.size, fun k hk hn => by
    rw [Below.heap_setCell _ _ _ _ (fun e => hn (by subst e; exact hp hk))]
    exact h.block k hk hn⟩

theorem Kept.grown {S : Nat → Prop} {a w w' : World} {row : Option Nat} (h : Kept S a w) (hg : w.grownBy w' row) (hr : ∀ k, row = some k → k < a.heap.size → S k) : Kept S a w' :=
  ⟨hg.os.trans h.os, hg.tape.trans h.tape, hg.output.trans h.output, Nat.le_trans h.size hg.size,
    fun k hk hn => (hg.block k (Nat.lt_of_lt_of_le hk h.size) (fun e => hn (hr k e.symm hk))).trans (h.block k hk hn)⟩

theorem Kept.cell {S : Nat → Prop} {w w' : World} (h : Kept S w w') {p : Addr} {v : Value} (hc : w.cell? p = some v) (hn : ¬ S p.block) : w'.cell? p = some v :=
  (World.cell?_of_block (w := w) (h.block p.block (block_lt_of_cell hc) hn)).trans hc

theorem bDrewN {B : Nat} {a w : World} (h : Below B a w) (n : Nat) : Below B a (w.drewN n) := ⟨h.os, h.tape, h.output, h.size, h.block⟩

theorem bSome {w w' : World} (h : Below w.heap.size w w') {p : Addr} {v : Value} (hc : w.cell? p = some v) : w'.cell? p = some v :=
  (h.cell (block_lt_of_cell hc)).trans hc

theorem bFree {w w' : World} (h : Below w.heap.size w w') {p : Addr} {v : Value} (hc : w.cell? p = some v) (hf : w.frozen? p = false) : w'.frozen? p = false :=
  (h.frozen (block_lt_of_cell hc)).trans hf

/-- Two steps, each of which leaves all that was there. -/
theorem bNext {a b c : World} (h : Below a.heap.size a b) (k : Below b.heap.size b c) : Below a.heap.size a c :=
  h.trans (k.mono h.size)

/-- A block of plain cells, known whole. -/
def Blk (w : World) (b : Nat) (cs : List Value) : Prop := ∃ t, w.heap[b]? = some (.cells cs.toArray t (0, 0))

section
variable {w w' : World} {b : Nat} {cs : List Value}

theorem Blk.lt (h : Blk w b cs) : b < w.heap.size := by
  obtain ⟨t, h⟩ := h
  exact lt_of_block h

theorem Blk.cell (h : Blk w b cs) (i : Nat) {v : Value} (hv : cs[i]? = some v) : w.cell? ⟨b, i, none⟩ = some v := by
  obtain ⟨t, h⟩ := h
  simp [World.cell?, h, hv]

theorem Blk.free (h : Blk w b cs) (i : Nat) : w.frozen? ⟨b, i, none⟩ = false := by
  obtain ⟨t, h⟩ := h
  simp [World.frozen?, h]

theorem Blk.of_heap (h : Blk w b cs) (he : w'.heap[b]? = w.heap[b]?) : Blk w' b cs := by
  obtain ⟨t, h⟩ := h
  exact ⟨t, he.trans h⟩

theorem Blk.kept {S : Nat → Prop} (h : Blk w b cs) (hk : Kept S w w') (hn : ¬ S b) : Blk w' b cs := h.of_heap (hk.block b h.lt hn)

theorem Blk.below (h : Blk w b cs) (hk : Below w.heap.size w w') : Blk w' b cs := h.of_heap (hk.block b h.lt)

theorem Blk.apart {a : Nat} {ds : List Value} (h : Blk w b cs) (k : Blk w a ds) (hl : cs.length ≠ ds.length) : b ≠ a := by
  obtain ⟨t, h⟩ := h
  obtain ⟨u, k⟩ := k
  intro e
  subst e
  rw [h] at k
  simp only [Option.some.injEq, Obj.cells.injEq] at k
  have := congrArg Array.size k.1
  simp at this
  exact hl this

theorem Blk.alloc (h : Blk w b cs) (o : Obj) : Blk (w.alloc o) b cs := h.of_heap (Below.heap_alloc _ _ _ h.lt)

theorem Blk.drew (h : Blk w b cs) : Blk w.drew b cs := h
theorem Blk.drewN (h : Blk w b cs) (n : Nat) : Blk (w.drewN n) b cs := h

theorem Blk.other (h : Blk w b cs) {p : Addr} (hp : p.block ≠ b) (u : Value) : Blk (w.setCell p u) b cs := h.of_heap (Below.heap_setCell _ _ _ _ (Ne.symm hp))

theorem Blk.new (w : World) (cs : List Value) (t : TypeId) : Blk (w.alloc (.cells cs.toArray t)) w.heap.size cs :=
  ⟨t, by show (w.heap.push _)[w.heap.size]? = _; rw [Array.getElem?_push, if_pos rfl]⟩

theorem Blk.newAt {w : World} {b : Nat} (cs : List Value) (t : TypeId) (hb : b = w.heap.size) : Blk (w.alloc (.cells cs.toArray t)) b cs := by
  subst hb
  exact Blk.new w cs t

theorem Blk.as {cs' : List Value} (h : Blk w b cs) (he : cs = cs') : Blk w b cs' := he ▸ h

theorem Blk.set (h : Blk w b cs) (i : Nat) (u : Value) : Blk (w.setCell ⟨b, i, none⟩ u) b (cs.set i u) := by
  obtain ⟨t, h⟩ := h
  refine ⟨t, ?_⟩
  have hlt := lt_of_block h
  have h' : w.heap[b] = .cells cs.toArray t (0, 0) := by simpa [Array.getElem?_eq_getElem hlt] using h
  show (w.heap.modify b _)[b]? = _
  rw [Array.getElem?_eq_getElem (by simpa using hlt), Array.getElem_modify_self, h']
  simp
end

/-- Two results, the first of them a struct that lies in memory. -/
theorem results_blk {P : Program} {fn : Func} {p u : Tmp} {ty : TypeId} (h : fn.results = #[.cell p ty, .tmp u]) (tmps : Array Value) (w : World) (g : Nat) (cs : List Value) (d : TypeDesc)
    (hp : tmps.getD p undef = .pointer (some ⟨g, 0, none⟩)) (hg : Blk w g cs) (hu : P.underlying ty = some d) (hd : (match d with | .struct _ | .array _ _ => true | _ => false) = true) (hi : (P.info? ty).map (·.size) = some cs.length) :
    (results fn tmps).run P w = .ok (.tuple #[.agg cs.toArray, tmps.getD u undef]) w := by
  obtain ⟨t, hg⟩ := hg
  rw [results_cell_tmp h, hp]
  simp only [asAddr, Sem.run_pure, Result.andThen_ok]
  rw [run_loadVar_row w g t ty cs.toArray (0, 0) d hg hu hd (by simpa using hi)]
  rfl

/-- A walk goes on in a world of which only this is known. -/
theorem wp_world {P : Program} {c : Code} {Q : Exit → Act → World → Prop} {a : Act} {w : World} (F : World → Prop) (hF : F w) (h : ∀ w1, F w1 → c.wp P Q a w1) : c.wp P Q a w := h w hF

/-- The world behind a quiet region, as a variable. -/
theorem below_of_regrown {w w' : World} (h : ∃ p : Regrown, w' = Go.Sort.grow (redrawn w p.d) p.os) : Below w.heap.size w w' := by
  obtain ⟨⟨dq, osq⟩, h⟩ := h
  subst h
  exact below_regrown w dq osq

/-- The byte at a place; 0 where there is none. -/
def bat (s : ByteArray) (i : Nat) : UInt8 := s.data.toList.getD i 0
theorem bat_lt (s : ByteArray) (i : Nat) : (bat s i).toNat < 256 := (bat s i).toNat_lt
theorem getElem_bat (s : ByteArray) (i : Nat) (h : i < s.size) : s[i] = bat s i := by
  have h1 : i < s.data.size := h
  show s.data[i] = _
  simp [bat, List.getD, Array.getElem?_eq_getElem h1]
theorem drop_bat (s : ByteArray) (i : Nat) (h : i < s.size) : s.data.toList.drop i = bat s i :: s.data.toList.drop (i + 1) := by
  have h1 : i < s.data.toList.length := by simpa using h
  have h2 : i < s.data.size := h
  rw [List.drop_eq_getElem_cons h1]
  simp [bat, List.getD, Array.getElem?_eq_getElem h2]
theorem size_eq (s : ByteArray) : s.data.toList.length = s.size := by simp

/-- A string's bytes as a list, and back. -/
def bs (l : List UInt8) : ByteArray := ⟨l.toArray⟩
theorem bs_size (l : List UInt8) : (bs l).size = l.length := by
  show l.toArray.size = _
  simp
theorem bs_list (l : List UInt8) : (bs l).data.toList = l := by simp [bs]
theorem bs_of (s : ByteArray) : bs s.data.toList = s := by
  obtain ⟨⟨l⟩⟩ := s
  rfl
theorem bs_inj {l m : List UInt8} (h : bs l = bs m) : l = m := by rw [← bs_list l, h, bs_list]
theorem extract_bs (s : ByteArray) (i j : Nat) : s.extract i j = bs ((s.data.toList.take j).drop i) := by
  rw [← bs_of (s.extract i j), Lib.extract_data, List.drop_take]
/-- The bytes from a place on, up to another one. -/
def subs (l : List UInt8) (i j : Int) : List UInt8 := (l.take j.toNat).drop i.toNat

end Go.Proofs.YtepebnblbheegaaGreatDoor
