/- The document's numbers below a hundred, as text. -/
import Derived.Test.YtbfeoinoepoiaaaGreatDoorGZE
import Derived.Lib.ItoaNum
import Derived.Laws.IdiomStrings
import Derived.Deep.RegionHeld
namespace Go.Proofs.YtbfeoinoepoiaaaGreatDoor
set_option maxHeartbeats 4000000
set_option maxRecDepth 100000
open Go Go.RowKit
theorem bDrew6N {B:Nat} {a w:World} (h:Below B a w):Below B a w.drew:=⟨h.os,h.tape,h.output,h.size,h.block⟩
theorem bMore6N {a w:World} (h:Below a.heap.size a w) (o:Obj):Below a.heap.size a (w.alloc o):=h.alloc h.size o
theorem digit_ofN (d:Nat) (h:d<10):(UInt8.ofNat (48+d)).toNat=48+d:=by
 rw [UInt8.toNat_ofNat']
 omega
theorem conv_numN (c:UInt8) (z:Int) (hz:(c.toNat:Int)=z) (w:World) (b:Nat) (h:w.cell? ⟨b,0,none⟩=some (.int .u8 z)):(convert 75 9 (.slice (some ⟨b,0,none⟩) 1 1)).run Tryz.prog w = .ok (.string (bs [c])) w:=by
 refine run_convert_bytes_back _ _ _ 5 ⟨b,0,none⟩ 1 [c] Tryz.underlying75 Tryz.underlying5 Tryz.underlying9 ?_
 intro j hj
 have:j=0:=by simp at hj; omega
 subst this
 show w.cell? ⟨b,0,none⟩=_
 rw [h,← hz]
 rfl
theorem rNumber_smallN (n:Nat) (w:World) (hn:n<10) :
  Calls Tryz.prog 13 #[.int .i64 n] w fun e w'=>e = .returned (.string (bs (Lib.decDigits n)))∧Below w.heap.size w w':=by
 obtain ⟨c,hc⟩:∃ c,UInt8.ofNat (48+n)=c:=⟨_,rfl⟩
 have HD:=Lib.hid (Lib.decDigits_one hn)
 rw [hc] at HD
 have HC:=conv_numN c (48+(n:Int)) (by rw [← hc,digit_ofN n hn]; omega)
 clear hc
 go_enter Tryz.func13,Tryz.ntmps13
 go_wp2_with fail
 go_ret
 exact ⟨by rw [HD.out]; rfl,(Below.refl _ _).alloc (Nat.le_refl _) _⟩
theorem rNumber_bigN (n m d:Nat) (hm:n / 10=m) (hd:n % 10=d) (w:World) (hn:¬ n<10) (hn2:n<100) (HI:Hid (∀ w1:World,Calls Tryz.prog 13 #[.int .i64 m] w1 fun e w'=>e = .returned (.string (bs (Lib.decDigits m)))∧Below w1.heap.size w1 w')) :
  Calls Tryz.prog 13 #[.int .i64 n] w fun e w'=>e = .returned (.string (bs (Lib.decDigits n)))∧Below w.heap.size w w':=by
 have hd10:d<10:=by omega
 have hm10:m<10:=by omega
 obtain ⟨c,hc⟩:∃ c,UInt8.ofNat (48+d)=c:=⟨_,rfl⟩
 obtain ⟨t1,ht1⟩:∃ t1,bs (Lib.decDigits m)=t1:=⟨_,rfl⟩
 obtain ⟨t2,ht2⟩:∃ t2,bs [c]=t2:=⟨_,rfl⟩
 have HD:Hid (t1++t2=bs (Lib.decDigits n)):=Lib.hid (by
  rw [← ht1,← ht2,← hc]
  conv=>rhs; rw [Lib.decDigits,dif_neg hn,hm,hd]
  unfold bs
  apply ByteArray.ext
  simp)
 have hz1:t1.size≤20:=by
  rw [← ht1,bs_size,Lib.decDigits_one hm10]
  simp
 have hz2:t2.size=1:=by rw [← ht2,bs_size]; rfl
 rw [ht1] at HI
 have HC:=conv_numN c (48+(d:Int)) (by rw [← hc,digit_ofN _ hd10]; omega)
 rw [ht2] at HC
 clear hc ht1 ht2
 have e1:(n:Int) / 10=(m:Int):=by omega
 have e2:(n:Int) % 10=(d:Int):=by omega
 have e3:Int.tdiv (n:Int) 10=(m:Int):=by rw [Int.tdiv_eq_ediv_of_nonneg (by omega)]; exact e1
 have e4:Int.tmod (n:Int) 10=(d:Int):=by rw [Int.tmod_eq_emod_of_nonneg (by omega)]; exact e2
 have e5:IntKind.i64.wrap (m:Int)=(m:Int):=by rw [IntKind.wrap_i64]; omega
 have e6:IntKind.i64.wrap (d:Int)=(d:Int):=by rw [IntKind.wrap_i64]; omega
 have e7:IntKind.i64.wrap (48+(d:Int))=48+(d:Int):=by rw [IntKind.wrap_i64]; omega
 have e8:IntKind.u8.wrap (48+(d:Int))=48+(d:Int):=by
  have:d=0∨d=1∨d=2∨d=3∨d=4∨d=5∨d=6∨d=7∨d=8∨d=9:=by omega
  rcases this with h | h | h | h | h | h | h | h | h | h <;> subst h <;> decide
 go_enter Tryz.func13,Tryz.ntmps13
 go_wp2_with fail
 go_region_held (fun w'=>Below w.heap.size w w') (first | exact bDrewN (Below.refl _ _) 1 | assumption | exact ⟨rfl,rfl,rfl,Nat.le_refl _,fun _ _=>rfl⟩ | (repeat (first | assumption | exact Below.refl _ _ | with_reducible refine bDrew6N ?_ | with_reducible refine bMore6N ?_ _ | refine bNext ?_ (by assumption))))
  (first
   | (go_at_call 13; refine (HI.out _).mono ?_; rintro e w5 ⟨rfl,hb5⟩; (try have T1:=bSome hb5 (p:=⟨w.heap.size,0,none⟩) (v:=.int .u8 (48+(d:Int))) (by first | assumption | exact (Blk.newAt [.int .u8 (48+(d:Int))] _ rfl).cell 0 rfl))))
 all_goals
  rename_i hh
  go_wp2_with fail
  go_ret
  exact ⟨by rw [← HD.out]; rfl,hh⟩
theorem rNumber_two (n:Nat) (w:World) (hn:n<100) :
  Calls Tryz.prog 13 #[.int .i64 n] w fun e w'=>e = .returned (.string (bs (Lib.decDigits n)))∧Below w.heap.size w w':=by
 by_cases h:n<10
 ·exact rNumber_smallN n w h
 ·exact rNumber_bigN n (n / 10) (n % 10) rfl rfl w h hn (Lib.hid fun w1=>rNumber_smallN (n / 10) w1 (by omega))
end Go.Proofs.YtbfeoinoepoiaaaGreatDoor
