/- What the laws of dialect A's parser have in common. -/
import Derived.Test.YtbfeoinoepoiaaaGreatDoorGQTopG
import Derived.Test.YtbfeoinoepoiaaaGreatDoorGZF
namespace Go.Proofs.YtbfeoinoepoiaaaGreatDoor
open Go Go.RowKit
theorem parse_okA (src:List UInt8) (l:Prog) (h:parseA src = .ok l) (hl:src.length≤8192) (w:World) (sent:Nat→Addr) (hS:Sents w sent) (hmx:∃ m,w.cell? ⟨9,0,none⟩=some (.int .i64 m)) (het:w.cell? ⟨10,0,none⟩=some (.iface 145 (.agg #[.pointer (some ⟨19,25,none⟩)]))) :
  Calls Tryz.prog 17 #[.string (bs src)] w fun e w'=>∃ g cap b,e = .returned (.tuple #[.slice (some ⟨g,0,none⟩) l.length cap,.nilIface])∧NSl w' b (.slice (some ⟨g,0,none⟩) l.length cap) l∧Below w.heap.size w w':=by
 have HP:=qParse_short (bs src) w (by rw [bs_size]; exact hl) sent hS hmx het
 rw [bs_list,h] at HP
 refine HP.mono ?_
 rintro e w' ⟨hb,v,b,rfl,hN⟩
 obtain ⟨g,cap,rfl,-⟩:=id hN
 exact ⟨g,cap,b,rfl,hN,hb⟩
theorem KOwn.new1 {w:World} {B b:Nat} {u:Value} {l:Prog} (hB:B≤w.heap.size) (h:NSl w b u l):KOwn (w.alloc (.cells #[u] 23)) B b (.slice (some ⟨w.heap.size,0,none⟩) 1 1) [l]:=by
 refine ⟨[u],rfl,⟨rfl,.inr ⟨w.heap.size,1,#[u],rfl,hB,World.alloc_heap_new w _,Nat.le_refl _,by unfold maxLen; omega,rfl,rfl⟩⟩,fun i v m hi hm=>?_⟩
 cases i with
 | zero =>
  simp only [List.getElem?_cons_zero,Option.some.injEq] at hi hm
  subst hi hm
  exact h.below ((Below.refl _ w).alloc (Nat.le_refl _) _)
 | succ i=>simp at hi
end Go.Proofs.YtbfeoinoepoiaaaGreatDoor
