/- Dialect A's reader in memory: what its blocks hold. -/
import Derived.Test.YtdadgodjjfgmfaaDoorFirst12
import Derived.Test.YtdadgodjjfgmfaaDoorPureA3
namespace Go.Proofs.YtdadgodjjfgmfaaDoor
open Go Go.RowKit

theorem infoAPart : (Tryd.prog.info? 61).map (fun i => (i.zero, i.size, i.bytes)) = some (some (.agg #[.int .i64 0, .int .i64 0, .int .i64 0, .bool false, .string ⟨#[]⟩]), 5, 48) := by kernel_rfl

/-- A slice value holds these parts, in memory from block B on. -/
def PartsAt (w : World) (B : Nat) (v : Value) (P : List APart) : Prop := w.ownsRow B 61 5 v P.length (P.flatMap APart.cells)

theorem part_cells (t : APart) : t.cells.length = 5 := rfl

theorem PartsAt.nil (w : World) (B : Nat) : PartsAt w B (.slice none 0 0) [] := World.ownsRow_nil _ _ _ _
theorem PartsAt.kept {w w' : World} {B : Nat} {v : Value} {P : List APart} {S : Nat → Prop} (h : PartsAt w B v P) (hk : Kept S w w') (hS : ∀ k, v.ownBlock = some k → ¬ S k) : PartsAt w' B v P := by
  refine ⟨h.1, ?_⟩
  rcases h.2 with h2 | ⟨g, cap, cur, hv, hg, hh, r⟩
  · exact .inl h2
  · exact .inr ⟨g, cap, cur, hv, hg, (hk.block g (lt_of_block hh) (hS g (by rw [hv]; rfl))).trans hh, r⟩
theorem PartsAt.below {w w' : World} {B : Nat} {v : Value} {P : List APart} (h : PartsAt w B v P) (hb : Below w.heap.size w w') : PartsAt w' B v P :=
  h.kept (Kept.ofBelow hb : Kept Nowhere w w') (fun _ _ e => e)
theorem PartsAt.alloc {w : World} {B : Nat} {v : Value} {P : List APart} (h : PartsAt w B v P) (o : Obj) : PartsAt (w.alloc o) B v P := h.below ((Below.refl _ _).alloc (Nat.le_refl _) o)
theorem PartsAt.other {w : World} {B : Nat} {v : Value} {P : List APart} (h : PartsAt w B v P) {p : Addr} (hp : p.block < B) (u : Value) : PartsAt (w.setCell p u) B v P := ownsRow_setCell_below h hp u
theorem PartsAt.form {w : World} {B : Nat} {v : Value} {P : List APart} (h : PartsAt w B v P) : ∃ ao cap, v = .slice ao P.length cap := by
  rcases h.2 with ⟨hv, h0⟩ | ⟨g, cap, cur, hv, _⟩
  · exact ⟨none, 0, by rw [hv, h0]⟩
  · exact ⟨_, _, hv⟩

/-- The text of the last part is written anew, in place. -/
theorem PartsAt.setText {w : World} {B g n cap : Nat} {Q : List APart} {q : APart} (h : PartsAt w B (.slice (some ⟨g, 0, none⟩) n cap) (Q ++ [q])) (u : List UInt8) :
    PartsAt (w.setCell ⟨g, Q.length * 5 + 4, none⟩ (.string (bs u))) B (.slice (some ⟨g, 0, none⟩) n cap) (Q ++ [{ q with text := u }]) := by
  have hlen : ∀ R : List APart, (R.flatMap APart.cells).length = R.length * 5 := by
    intro R
    induction R with
    | nil => rfl
    | cons a R ih => rw [List.flatMap_cons, List.length_append, ih, part_cells, List.length_cons]; omega
  refine ⟨by rw [hlen], ?_⟩
  rcases h.2 with ⟨hv, h0⟩ | ⟨g', cap', cur, hv, hg, hh, hc1, hc2, hsz, ht⟩
  · simp at h0
  · injection hv with e1 e2 e3
    injection e1 with e1
    injection e1 with e1
    subst e1 e2 e3
    have hgl := lt_of_block hh
    have hle : ∀ q' : APart, (Q ++ [q']).length * 5 = (Q ++ [q]).length * 5 := fun q' => by simp
    refine .inr ⟨g, cap, cur.set! (Q.length * 5 + 4) (.string (bs u)), by simp, hg, ?_, by simpa using hc1, hc2, by simpa using hsz, ?_⟩
    · show (w.heap.modify g _)[g]? = _
      have h' : w.heap[g] = .cells cur 61 (0, 0) := by simpa [Array.getElem?_eq_getElem hgl] using hh
      rw [Array.getElem?_eq_getElem (by simpa using hgl), Array.getElem_modify_self, h']
      simp
    · rw [Array.set!_eq_setIfInBounds, Array.toList_setIfInBounds, List.take_set, hle, ht, List.flatMap_append, List.flatMap_append]
      rw [List.set_append_right _ _ (by rw [hlen]; omega), hlen, Nat.add_sub_cancel_left]
      rfl

/-- Which blocks the reader's own functions may write: its own, and those made since the word began. -/
def RB (r B k : Nat) : Prop := k = r ∨ B ≤ k

/-- The reader at block r, over the source at block q, at a place, with a word's parts. -/
structure ARdr (w : World) (r q B : Nat) (s : ByteArray) (i : Nat) (v : Value) (P : List APart) (j : Bool) : Prop where
  here : Blk w r [.pointer (some ⟨q, 0, none⟩), .int .i64 i, v, .bool j]
  src : Blk w q [.string s]
  row : PartsAt w B v P
  ne : r ≠ q
  rlt : r < B
  qlt : q < B

section
variable {w w' : World} {r q B : Nat} {s : ByteArray} {i : Nat} {v : Value} {P : List APart} {j : Bool}
theorem ARdr.c0 (h : ARdr w r q B s i v P j) : w.cell? ⟨r, 0, none⟩ = some (.pointer (some ⟨q, 0, none⟩)) := h.here.cell 0 rfl
theorem ARdr.c1 (h : ARdr w r q B s i v P j) : w.cell? ⟨r, 1, none⟩ = some (.int .i64 i) := h.here.cell 1 rfl
theorem ARdr.c2 (h : ARdr w r q B s i v P j) : w.cell? ⟨r, 2, none⟩ = some v := h.here.cell 2 rfl
theorem ARdr.c3 (h : ARdr w r q B s i v P j) : w.cell? ⟨r, 3, none⟩ = some (.bool j) := h.here.cell 3 rfl
theorem ARdr.cs (h : ARdr w r q B s i v P j) : w.cell? ⟨q, 0, none⟩ = some (.string s) := h.src.cell 0 rfl
theorem ARdr.fr (h : ARdr w r q B s i v P j) (n : Nat) : w.frozen? ⟨r, n, none⟩ = false := h.here.free n
theorem ARdr.below (h : ARdr w r q B s i v P j) (hb : Below w.heap.size w w') : ARdr w' r q B s i v P j := ⟨h.here.below hb, h.src.below hb, h.row.below hb, h.ne, h.rlt, h.qlt⟩
theorem ARdr.alloc (h : ARdr w r q B s i v P j) (o : Obj) : ARdr (w.alloc o) r q B s i v P j := h.below ((Below.refl _ _).alloc (Nat.le_refl _) o)
theorem ARdr.drew (h : ARdr w r q B s i v P j) : ARdr w.drew r q B s i v P j := ⟨h.here, h.src, h.row, h.ne, h.rlt, h.qlt⟩
theorem ARdr.drewN (h : ARdr w r q B s i v P j) (n : Nat) : ARdr (w.drewN n) r q B s i v P j := ⟨h.here, h.src, h.row, h.ne, h.rlt, h.qlt⟩
theorem ARdr.move (h : ARdr w r q B s i v P j) (k : Nat) : ARdr (w.setCell ⟨r, 1, none⟩ (.int .i64 k)) r q B s k v P j :=
  ⟨by have := h.here.set 1 (.int .i64 k); exact this, h.src.other h.ne _, h.row.other h.rlt _, h.ne, h.rlt, h.qlt⟩
theorem ARdr.join (h : ARdr w r q B s i v P j) (k : Bool) : ARdr (w.setCell ⟨r, 3, none⟩ (.bool k)) r q B s i v P k :=
  ⟨by have := h.here.set 3 (.bool k); exact this, h.src.other h.ne _, h.row.other h.rlt _, h.ne, h.rlt, h.qlt⟩
theorem ARdr.other (h : ARdr w r q B s i v P j) {p : Addr} (h1 : p.block ≠ r) (h2 : p.block ≠ q) (h3 : v.ownBlock ≠ some p.block) (u : Value) : ARdr (w.setCell p u) r q B s i v P j :=
  ⟨h.here.other h1 u, h.src.other h2 u, ownsRow_setCell_other h.row h3 u, h.ne, h.rlt, h.qlt⟩
end

end Go.Proofs.YtdadgodjjfgmfaaDoor
