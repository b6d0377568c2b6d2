/- Dialect B's parser: all of it at once, by induction on the fuel. -/
import Derived.Test.YtbfeoinoepoiaaaGreatDoorGZD
import Derived.Test.YtbfeoinoepoiaaaGreatDoorGZB
import Derived.LaidEql
import Derived.Stop.Asserts
import Derived.RowKitTokens
import Derived.Test.YtbfeoinoepoiaaaGreatDoorGZK
namespace Go.Proofs.YtbfeoinoepoiaaaGreatDoor
set_option maxHeartbeats 4000000
set_option maxRecDepth 100000
open Go Go.RowKit
end Go.Proofs.YtbfeoinoepoiaaaGreatDoor
namespace Go.Proofs.YtbfeoinoepoiaaaGreatDoor
set_option maxHeartbeats 4000000
set_option maxRecDepth 100000
open Go Go.RowKit Go.Extern.Stop Go.Stop Go.Extern Go.Extern.Rtype
theorem isTypeOf (v:Value) (w:World):(Extern.ReflectliteType.typeOf #[.iface 289 v]).run Tryz.prog w = .ok (.iface 145 (.agg #[.pointer (some ⟨19,289,none⟩)])) w:=by kernel_rfl
theorem isComparable (w : World) : ((Extern.ReflectliteType.method fun t => do noPackHeld "Comparable" t; (fun a => Value.bool a.comparable) <$> typeInfo t) #[.agg #[.pointer (some ⟨19, 289, none⟩)]]).run Tryz.prog w = .ok (.bool true) w := by kernel_rfl
theorem isMethodComparable (v : Value) (w : World) : (Go.method 418 145 v "Comparable").run Tryz.prog w = .ok (307, v) w := by kernel_rfl
theorem isMethodUnwrap (v : Value) (w : World) : (Go.method 418 58 v "Unwrap").run Tryz.prog w = .ok (304, v) w := by kernel_rfl
theorem noIsE (v:Value) (xT:TypeId) (w:World):(Instr.typeAssert (.iface 289 v) xT 147 true).run Tryz.prog w = .ok (.tuple #[.nilIface,.bool false]) w:=run_typeAssert_lacksB Tryz.underlying147 (by kernel_rfl) (by kernel_rfl) v xT w
theorem noUnwrapE (v:Value) (xT:TypeId) (w:World):(Instr.typeAssert (.iface 289 v) xT 150 true).run Tryz.prog w = .ok (.tuple #[.nilIface,.bool false]) w:=run_typeAssert_lacksB Tryz.underlying150 (by kernel_rfl) (by kernel_rfl) v xT w
theorem noUnwrapsE (v:Value) (xT:TypeId) (w:World):(Instr.typeAssert (.iface 289 v) xT 151 true).run Tryz.prog w = .ok (.tuple #[.nilIface,.bool false]) w:=run_typeAssert_lacksB Tryz.underlying151 (by kernel_rfl) (by kernel_rfl) v xT w
theorem noIsAt (v:Value) (xT:TypeId) (w:World):(Instr.typeAssert (.iface 58 v) xT 147 true).run Tryz.prog w = .ok (.tuple #[.nilIface,.bool false]) w:=run_typeAssert_lacksB Tryz.underlying147 (by kernel_rfl) (by kernel_rfl) v xT w
theorem hasUnwrapAt (v:Value) (xT:TypeId) (w:World):(Instr.typeAssert (.iface 58 v) xT 150 true).run Tryz.prog w = .ok (.tuple #[.iface 58 v,.bool true]) w:=run_typeAssert_hasB Tryz.underlying150 (by kernel_rfl) v xT w
theorem errIs_nil (b:Addr) (w:World) :
  Calls Tryz.prog 26 #[.nilIface,.iface 289 (.pointer (some b))] w fun e w'=>e = .returned (.bool false)∧w'=w:=by
 have hn:=run_eql_iface_nil_left (P:=Tryz.prog) w 289 (.pointer (some b)) Tryz.underlying25
 go_enter Tryz.func26,Tryz.ntmps26
 go_wp2
 go_ret
 exact ⟨rfl,rfl⟩
theorem errIs_other (a b:Addr) (ca cb:Array Value) (ta tb:TypeId) (w:World) (hne:a≠b) (ha:w.heap[a.block]?=some (.cells ca ta (0,0))) (hb:w.heap[b.block]?=some (.cells cb tb (0,0))) :
  Calls Tryz.prog 26 #[.iface 289 (.pointer (some a)),.iface 289 (.pointer (some b))] w fun e w'=>e = .returned (.bool false)∧w'=w:=by
 obtain ⟨i,hi,hcmp⟩:=Option.map_eq_some_iff.1 compErr
 obtain ⟨j,hj,hjs⟩:=Option.map_eq_some_iff.1 sizeErr
 have h8:=@run_callFunc_extern Tryz.prog 54 _ Extern.ReflectliteType.typeOf Tryz.func54 (by kernel_rfl) (by kernel_rfl) (by kernel_rfl) (by kernel_rfl)
 have h32 := @run_callFunc_extern Tryz.prog 307 _ (Extern.ReflectliteType.method fun t => do noPackHeld "Comparable" t; pure (.bool (← typeInfo t).comparable)) Tryz.func307 (by kernel_rfl) (by kernel_rfl) (by kernel_rfl) (by kernel_rfl)
 have tT:=isTypeOf
 have cT:=isComparable
 have mR:=isMethodComparable
 have mU:=isMethodUnwrap
 have nE:=noIsE
 have uE:=noUnwrapE
 have vE:=noUnwrapsE
 have nA:=noIsAt
 have uA:=hasUnwrapAt
 have heq:=run_eql_iface_ptr_other (P:=Tryz.prog) w Tryz.underlying25 Tryz.underlying289 hi hcmp hj (by rw [hjs]; decide) hne ha hb
 go_enter Tryz.func26,Tryz.ntmps26
 go_wp2
 refine wp_loop_rounds 1 ?_
 rw [rounds_succ]
 go_wp2
 go_ret
 exact ⟨rfl,rfl⟩
theorem atUnwrap_any (pb:Nat) (v:Value) (w:World) (h:w.cell? ⟨pb,1,none⟩=some v):Calls Tryz.prog 304 #[.pointer (some ⟨pb,0,none⟩)] w fun e w'=>e = .returned v∧w'=w:=by
 go_enter Tryz.func304,Tryz.ntmps304
 go_wp2
 go_ret
 exact ⟨rfl,rfl⟩
theorem errIs_at_same (pb:Nat) (b:Addr) (w:World) (h1:w.cell? ⟨pb,1,none⟩=some (.iface 289 (.pointer (some b)))) :
  Calls Tryz.prog 26 #[.iface 58 (.pointer (some ⟨pb,0,none⟩)),.iface 289 (.pointer (some b))] w fun e w'=>e = .returned (.bool true)∧w'=w:=by
 obtain ⟨i,hi,hcmp⟩:=Option.map_eq_some_iff.1 compErr
 obtain ⟨j,hj,hjs⟩:=Option.map_eq_some_iff.1 sizeErr
 have h8:=@run_callFunc_extern Tryz.prog 54 _ Extern.ReflectliteType.typeOf Tryz.func54 (by kernel_rfl) (by kernel_rfl) (by kernel_rfl) (by kernel_rfl)
 have h32 := @run_callFunc_extern Tryz.prog 307 _ (Extern.ReflectliteType.method fun t => do noPackHeld "Comparable" t; pure (.bool (← typeInfo t).comparable)) Tryz.func307 (by kernel_rfl) (by kernel_rfl) (by kernel_rfl) (by kernel_rfl)
 have tT:=isTypeOf
 have cT:=isComparable
 have mR:=isMethodComparable
 have mU:=isMethodUnwrap
 have nE:=noIsE
 have uE:=noUnwrapE
 have vE:=noUnwrapsE
 have nA:=noIsAt
 have uA:=hasUnwrapAt
 have heq:=run_eql_iface_ptr_same (P:=Tryz.prog) w b Tryz.underlying25 Tryz.underlying289 hi hcmp hj
 have hty:=run_eql_iface_types (P:=Tryz.prog) 58 289 (.pointer (some ⟨pb,0,none⟩)) (.pointer (some b)) Tryz.underlying25 (by decide) w
 go_enter Tryz.func26,Tryz.ntmps26
 go_wp2
 refine wp_loop_rounds 2 ?_
 rw [rounds_succ]
 go_wp2_with (go_at_call 304; refine (atUnwrap_any pb _ w h1).mono ?_; rintro e w' ⟨rfl,rfl⟩)
 rw [rounds_succ]
 go_wp2
 go_ret
 exact ⟨rfl,rfl⟩
end Go.Proofs.YtbfeoinoepoiaaaGreatDoor
namespace Go.Proofs.YtbfeoinoepoiaaaGreatDoor
set_option maxHeartbeats 4000000
set_option maxRecDepth 100000
open Go Go.RowKit
def PaOut (w:World) (sent:Nat→Addr) (r:Except (Nat × Option Nat) Prog) (e:Ending) (w':World):Prop :=
 Below w.heap.size w w'∧match r with
 | .ok l=>∃ v b,e = .returned (.tuple #[v,.nilIface])∧NSl w' b v l
 | .error (c,none)=>e = .returned (.tuple #[.slice none 0 0,.iface 289 (.pointer (some (sent c)))])
 | .error (c,some p)=>∃ eb,e = .returned (.tuple #[.slice none 0 0,.iface 58 (.pointer (some ⟨eb,0,none⟩))])∧ErrAt w' eb sent c p
theorem WFP.nums {K:Int→Bool} {M:Nat} {w:Bool} {D:Nat} {l:Prog} (h:WFP K M w D l):∀ x∈l,0≤x.k∧x.k≤l.length∧0≤x.size∧x.size≤l.length:=by
 induction h with
 | node w D kind n s kids hk hf hc hK ih =>
  have hkl:kids.length≤kids.flatten.length:=by
   have:∀ ks:List Prog,(∀ k∈ks,0<k.length)→ks.length≤ks.flatten.length:=by
    intro ks hks
    induction ks with
    | nil=>simp
    | cons k ks ihk =>
     have h1:=hks k (by simp)
     have h2:=ihk (fun k hk=>hks k (by simp [hk]))
     rw [List.flatten_cons,List.length_append,List.length_cons]
     omega
   exact this kids fun k hk=>by
    obtain ⟨j,hj⟩:=List.getElem?_of_mem hk
    exact (hK j k hj).pos.1
  intro x hx
  rw [len_newP]
  rw [newP] at hx
  rcases List.mem_cons.1 hx with rfl | hx
  ·dsimp only
   omega
  ·obtain ⟨kid,h1,h2⟩:=List.mem_flatten.1 hx
   obtain ⟨j,hj⟩:=List.getElem?_of_mem h1
   have h3:=ih j kid hj x h2
   have h4:kid.length≤kids.flatten.length:=by
    obtain ⟨a,b,rfl⟩:=List.append_of_mem h1
    simp
    omega
   omega
theorem WFP.texts {K:Int→Bool} {M:Nat} {w:Bool} {D:Nat} {l:Prog} (h:WFP K M w D l) (hM:M≤50000):∀ x∈l,x.text.length≤100000:=by
 induction h with
 | node w D kind n s kids hk hf hc hK ih =>
  intro x hx
  rw [newP] at hx
  rcases List.mem_cons.1 hx with rfl | hx
  ·exact fieldsM_len (x:=⟨kind,n,kids.length,0,s⟩) hf hM
  ·obtain ⟨kid,h1,h2⟩:=List.mem_flatten.1 hx
   obtain ⟨j,hj⟩:=List.getElem?_of_mem h1
   exact ih j kid hj x h2
theorem nfix_of {K:Int→Bool} {M:Nat} {w:Bool} {D:Nat} {l:Prog} (h:WFP K M w D l) (hM:M≤50000) (hl:l.length≤400000):NFix l:=by
 have hd:∀ i,ndAt l i∈l∨ndAt l i=⟨0,0,0,0,[]⟩:=fun i=>by
  unfold ndAt
  rw [List.getD_eq_getElem?_getD]
  by_cases hi:i<l.length
  ·rw [List.getElem?_eq_getElem hi]
   exact .inl (List.getElem_mem hi)
  ·rw [List.getElem?_eq_none (by omega)]
   exact .inr rfl
 refine ⟨hl,fun i=>?_,fun i=>?_,fun i=>?_⟩
 ·rcases hd i with h1 | h1
  ·exact h.texts hM _ h1
  ·rw [h1]; simp
 ·rcases hd i with h1 | h1
  ·have:=h.nums _ h1
   omega
  ·rw [h1]; simp
 ·rcases hd i with h1 | h1
  ·have:=h.nums _ h1
   omega
  ·rw [h1]; simp
end Go.Proofs.YtbfeoinoepoiaaaGreatDoor
