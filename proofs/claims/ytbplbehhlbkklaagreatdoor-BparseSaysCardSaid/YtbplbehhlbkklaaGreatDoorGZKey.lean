/- The document's parser of dialect B: which words are keys. -/
import Derived.Test.YtbplbehhlbkklaaGreatDoorGZC
namespace Go.Proofs.YtbplbehhlbkklaaGreatDoor
set_option maxHeartbeats 4000000
set_option maxRecDepth 100000
open Go Go.RowKit
theorem bs_is {s t:List UInt8}(h:s≠t):((bs s).toList==t)=false:=by
 rw[ByteArray.toList_eq,bs_list,beq_eq_false_iff_ne];exact h
theorem bs_self (s:List UInt8):(bs s).toList=s:=by rw[ByteArray.toList_eq,bs_list]
theorem z12Key_any (s:List UInt8)(w:World):Calls Tryz.prog 10 #[.string (bs s)] w fun e w'=>e = .returned (.bool (keyB s))∧w'=w:=by
 by_cases hk:s∈keyL
 ·have HR:=Lib.hid (show keyB s=true from List.contains_iff_mem.2 hk)
  simp only[keyL,List.mem_cons,List.not_mem_nil,or_false] at hk
  rcases hk with rfl | rfl | rfl | rfl | rfl | rfl | rfl | rfl
  all_goals
   rw[HR.out];have he:=bs_self;go_enter Tryz.func10,Tryz.ntmps10
   go_wp2_with fail
   go_ret;exact⟨rfl,rfl⟩
 ·have HR:=Lib.hid (show keyB s=false from by
   cases h:keyB s with
   | false=>rfl
   | true=>exact absurd (List.contains_iff_mem.1 h) hk)
  simp only[keyL,List.mem_cons,List.not_mem_nil,or_false,not_or] at hk;obtain⟨h1,h2,h3,h4,h5,h6,h7,h8⟩:=hk;have e1:=bs_is h1;have e2:=bs_is h2;have e3:=bs_is h3;have e4:=bs_is h4;have e5:=bs_is h5;have e6:=bs_is h6;have e7:=bs_is h7;have e8:=bs_is h8;clear h1 h2 h3 h4 h5 h6 h7 h8;rw[HR.out];go_enter Tryz.func10,Tryz.ntmps10
  go_wp2_with fail
  go_ret;exact⟨rfl,rfl⟩
end Go.Proofs.YtbplbehhlbkklaaGreatDoor
