/- strings.ContainsAny of any bytes, and the three that make a pattern. -/
import Derived.Test.YtbpjobmpacjgcaaGreatDoorGShelf
import Derived.Test.YtbpjobmpacjgcaaGreatDoorGZA
import Derived.Laws.RangeAny
import Derived.Lib.OthersKept
import Derived.WalkMore
import Derived.Deep.DeepCutAuto
import Derived.Deep.RegionHeld3
import Derived.Deep.RegionWith
import Derived.Deep.DrawnRows
import Derived.Test.YtbpjobmpacjgcaaGreatDoorGQWordB
import Derived.Test.YtbpjobmpacjgcaaGreatDoorGBPatG
namespace Go.Proofs.YtbpjobmpacjgcaaGreatDoor
set_option maxHeartbeats 16000000
set_option maxRecDepth 1000000
open Go Go.RowKit
theorem Ic (r:Nat)(h1:128≤r)(h2:r<2048):∃ x y:UInt8,Utf8.encode (r:Int)=⟨#[x,y]⟩∧128≤y.toNat:=by
 have hv:Utf8.valid (r:Int)=true:=by simp [Utf8.valid];omega
 refine ⟨UInt8.ofNat (0xC0+r / 64),UInt8.ofNat (0x80+r % 64),?_,?_⟩
 ·unfold Utf8.encode;simp only[hv,if_true,Int.toNat_natCast];rw[if_neg (by omega),if_pos (by omega)]
 ·rw[UInt8.toNat_ofNat'];omega
theorem FX (r:Nat)(h1:2048≤r)(h2:r<65536)(hv:Utf8.valid (r:Int)=true):∃ x y z:UInt8,Utf8.encode (r:Int)=⟨#[x,y,z]⟩∧128≤z.toNat:=by
 refine ⟨UInt8.ofNat (0xE0+r / 4096),UInt8.ofNat (0x80+r / 64 % 64),UInt8.ofNat (0x80+r % 64),?_,?_⟩
 ·unfold Utf8.encode;simp only[hv,if_true,Int.toNat_natCast];rw[if_neg (by omega),if_neg (by omega),if_pos (by omega)]
 ·rw[UInt8.toNat_ofNat'];omega
theorem Hc (r:Nat)(h1:65536≤r)(hv:Utf8.valid (r:Int)=true):∃ x y z u:UInt8,Utf8.encode (r:Int)=⟨#[x,y,z,u]⟩:=by
 refine ⟨UInt8.ofNat (0xF0+r / 262144),UInt8.ofNat (0x80+r / 4096 % 64),UInt8.ofNat (0x80+r / 64 % 64),UInt8.ofNat (0x80+r % 64),?_⟩;unfold Utf8.encode;simp only[hv,if_true,Int.toNat_natCast];rw[if_neg (by omega),if_neg (by omega),if_neg (by omega)]
theorem BQ (r:Nat):Lib.validRune (r:Int)=Utf8.valid (r:Int):=by
 unfold Lib.validRune Utf8.valid;rw[Bool.eq_iff_iff];simp
 omega
theorem DY (l:List UInt8)(c:UInt8)(h:128≤c.toNat)(hl:∀ x∈l,x.toNat<128):Lib.indexByte l c = -1:=by
 have h1:=Lib.contains_iff_indexByte l c
 have h2:l.contains c=false:=by
  rw[Bool.eq_false_iff];intro hc;have:=hl c (List.contains_iff_mem.1 hc)
  omega
 rw[h2] at h1;have h3:=of_decide_eq_false h1.symm;have h4:=Lib.indexByte_ge l c;omega
theorem Gz (r:Nat)(w:World)(h1:128≤r)(h2:r≤2147483647) :
  Calls Tryz.prog 289 #[.string ⟨#[42,63,91]⟩,.int .i32 r] w fun e w'=>e = .returned (.int .i64 (-1))∧Below w.heap.size w w':=by
 have k1:decide ((r:Int)<128)=false:=by rw[decide_eq_false_iff_not];omega
 have k2:decide ((0:Int)≤(r:Int))=true:=by rw[decide_eq_true_eq];omega
 by_cases he:r=65533
 ·subst he;have n0:=fun ty=>run_next_ascii (P:=Tryz.prog) w ⟨#[42,63,91]⟩ 0 ty (by show 0<3;decide) (by show (42:UInt8).toNat<128;decide)
  have n1:=fun ty=>run_next_ascii (P:=Tryz.prog) w ⟨#[42,63,91]⟩ 1 ty (by show 1<3;decide) (by show (63:UInt8).toNat<128;decide)
  have n2:=fun ty=>run_next_ascii (P:=Tryz.prog) w ⟨#[42,63,91]⟩ 2 ty (by show 2<3;decide) (by show (91:UInt8).toNat<128;decide)
  have n3:=fun ty=>run_next_end (P:=Tryz.prog) w ⟨#[42,63,91]⟩ 3 ty (by show ¬ 3<3;decide)
  have g0:(⟨#[42,63,91]⟩:ByteArray)[0]'(by show 0<3;decide)=42:=rfl
  have g1:(⟨#[42,63,91]⟩:ByteArray)[1]'(by show 1<3;decide)=63:=rfl
  have g2:(⟨#[42,63,91]⟩:ByteArray)[2]'(by show 2<3;decide)=91:=rfl
  rw[g0] at n0;rw[g1] at n1;rw[g2] at n2;clear h1 h2 k1 k2 g0 g1 g2;go_enter Tryz.func289,Tryz.ntmps289
  go_wp2_with fail
  refine wp_loop_rounds 4 ?_;rw[rounds_succ];go_wp2_with fail
  rw[rounds_succ];go_wp2_with fail
  rw[rounds_succ];go_wp2_with fail
  rw[rounds_succ];go_wp2_with fail
  go_ret;exact⟨rfl,(Below.refl _ _).alloc (Nat.le_refl _) _⟩
 ·have k3:((r:Int)==65533)=false:=by rw[beq_eq_false_iff_ne];omega
  cases hv:Utf8.valid (r:Int) with
  | false =>
   have HV:=Ng (BQ r);rw[hv] at HV;clear hv;go_enter Tryz.func289,Tryz.ntmps289
   go_wp2_with fail
   refine (Tryz.utf8_ValidRune _ _).mono ?_;rintro e w' ⟨rfl,rfl⟩;rw[HV.out];go_wp2_with fail
   go_ret;exact⟨rfl,Below.refl _ _⟩
  | true =>
   have HV:=Ng (BQ r);rw[hv] at HV
   by_cases h3:r<2048
   ·obtain⟨x,y,hz,hy⟩:=Ic r h1 h3
    have HI:=Ng (show Lib.indexByte ((⟨#[42,63,91]⟩:ByteArray).extract 2 3).data.toList (((((⟨#[x,y]⟩:ByteArray)[1]'(by show 1<2;decide)).toNat:Nat):Int).toNat.toUInt8) = -1 from by
     have e1:((⟨#[42,63,91]⟩:ByteArray).extract 2 3).data.toList=[91]:=by decide
     rw[e1];show Lib.indexByte _ (((y.toNat:Nat):Int).toNat.toUInt8) = -1
     rw[show ((y.toNat:Int)).toNat.toUInt8=y by simp]
     exact DY _ _ hy (by decide))
    have n1:(((((⟨#[42,63,91]⟩:ByteArray)[1]'(by show 1<3;decide)).toNat:Nat):Int) != ((((⟨#[x,y]⟩:ByteArray)[1]'(by show 1<2;decide)).toNat:Nat):Int))=true:=by
     rw[bne_iff_ne];show ((63:Nat):Int)≠(y.toNat:Int)
     omega
    clear hv;go_enter Tryz.func289,Tryz.ntmps289
    go_wp2_with fail
    refine (Tryz.utf8_ValidRune _ _).mono ?_;rintro e w' ⟨rfl,hw⟩;have hw:=hw.symm;subst hw;rw[HV.out];go_wp2_with fail
    go_step3
    go_wp2_with fail
    refine wp_loop_rounds 1 ?_;rw[rounds_succ];go_wp2_with fail
    go_step3
    go_wp2_with fail
    refine wp_region_quiet_below (by kernel_rfl) (by kernel_rfl) ?_
    repeat (go_big_quiet_step (fail))
    refine wpQuiet_nil ?_;intro w2 hw';have hb:Below w.heap.size w w2:=b8 hw';clear hw';go_wp2_with fail
    have HB:=Ng hb;clear hb;refine wp_region_quiet_below (by kernel_rfl) (by kernel_rfl) ?_
    repeat (go_big_quiet_step ((go_at_call 148;exact Calls.regrown_of ((Tryz.strings_IndexByte _ _ _).mono (by rintro e w' ⟨rfl,rfl⟩;exact⟨congrArg (fun z=>Ending.returned (.int .i64 z)) HI.out,Below.refl _ _⟩)))))
    refine wpQuiet_nil ?_;intro w3 hw';have hb:Below w2.heap.size w2 w3:=b8 hw';clear hw';go_wp2_with fail
    rw[Exit.noGoto_ret];go_wp2_with fail
    rw[Exit.noGoto_ret];go_wp2_with fail
    go_ret;exact⟨rfl,aE HB.out hb⟩
   ·by_cases h4:r<65536
    ·obtain⟨x,y,z,hz,hy⟩:=FX r (by omega) h4 hv
     have HI:=Ng (show Lib.indexByte ((⟨#[42,63,91]⟩:ByteArray).extract 3 3).data.toList (((((⟨#[x,y,z]⟩:ByteArray)[2]'(by show 2<3;decide)).toNat:Nat):Int).toNat.toUInt8) = -1 from by
      have e1:((⟨#[42,63,91]⟩:ByteArray).extract 3 3).data.toList=[]:=by decide
      rw[e1];show Lib.indexByte _ (((z.toNat:Nat):Int).toNat.toUInt8) = -1
      rw[show ((z.toNat:Int)).toNat.toUInt8=z by simp]
      exact DY _ _ hy (by decide))
     have n1:(((((⟨#[42,63,91]⟩:ByteArray)[2]'(by show 2<3;decide)).toNat:Nat):Int) != ((((⟨#[x,y,z]⟩:ByteArray)[2]'(by show 2<3;decide)).toNat:Nat):Int))=true:=by
      rw[bne_iff_ne];show ((91:Nat):Int)≠(z.toNat:Int)
      omega
     clear hv;go_enter Tryz.func289,Tryz.ntmps289
     go_wp2_with fail
     refine (Tryz.utf8_ValidRune _ _).mono ?_;rintro e w' ⟨rfl,hw⟩;have hw:=hw.symm;subst hw;rw[HV.out];go_wp2_with fail
     go_step3
     go_wp2_with fail
     refine wp_loop_rounds 1 ?_;rw[rounds_succ];go_wp2_with fail
     go_step3
     go_wp2_with fail
     refine wp_region_quiet_below (by kernel_rfl) (by kernel_rfl) ?_
     repeat (go_big_quiet_step (fail))
     refine wpQuiet_nil ?_;intro w2 hw';have hb:Below w.heap.size w w2:=b8 hw';clear hw';go_wp2_with fail
     have HB:=Ng hb;clear hb;refine wp_region_quiet_below (by kernel_rfl) (by kernel_rfl) ?_
     repeat (go_big_quiet_step ((go_at_call 148;exact Calls.regrown_of ((Tryz.strings_IndexByte _ _ _).mono (by rintro e w' ⟨rfl,rfl⟩;exact⟨congrArg (fun z=>Ending.returned (.int .i64 z)) HI.out,Below.refl _ _⟩)))))
     refine wpQuiet_nil ?_;intro w3 hw';have hb:Below w2.heap.size w2 w3:=b8 hw';clear hw';go_wp2_with fail
     rw[Exit.noGoto_ret];go_wp2_with fail
     rw[Exit.noGoto_ret];go_wp2_with fail
     go_ret;exact⟨rfl,aE HB.out hb⟩
    ·obtain⟨x,y,z,u,hz⟩:=Hc r (by omega) hv
     clear hv;go_enter Tryz.func289,Tryz.ntmps289
     go_wp2_with fail
     refine (Tryz.utf8_ValidRune _ _).mono ?_;rintro e w' ⟨rfl,hw⟩;have hw:=hw.symm;subst hw;rw[HV.out];go_wp2_with fail
     go_step3
     go_wp2_with fail
     refine wp_loop_rounds 1 ?_;rw[rounds_succ];go_wp2_with fail
     rw[Exit.noGoto_ret];go_wp2_with fail
     go_ret;exact⟨rfl,Below.refl _ _⟩
def iM (c:UInt8):Bool:=[42,63,91].contains c.toNat
theorem DT (c:UInt8):iM c=([42,63,91]:List UInt8).contains c:=by
 have h:∀ n:Fin 256,iM (UInt8.ofNat n.val)=([42,63,91]:List UInt8).contains (UInt8.ofNat n.val):=by decide +kernel
 have h1:=h ⟨c.toNat,c.toNat_lt⟩;simpa using h1
theorem Jv (c:UInt8)(h:128≤c.toNat):iM c=false:=by
 unfold iM;rw[Bool.eq_false_iff];intro hc;rw[List.contains_iff_mem] at hc;simp at hc
 omega
theorem Lm (c:UInt8):decide (0≤Lib.indexByte (⟨#[42,63,91]⟩:ByteArray).data.toList c)=iM c:=by
 rw[← Lib.contains_iff_indexByte,DT]
theorem Dd (s:ByteArray)(j:Nat)(h:j<s.size):s.get! j=s[j]'h:=get_at s j h
theorem Be (s:ByteArray)(i:Nat)(h:i<s.size)(ha:128≤(s[i]'h).toNat):∀ k,k<(Utf8.decode s i).2→i+k<s.size∧128≤(s.get! (i+k)).toNat:=by
 have h0:(s.get! (i+0)).toNat=(s[i]'h).toNat:=by rw[Nat.add_zero,Dd s i h]
 intro k hk
 by_cases k0:k=0
 ·subst k0;exact⟨h,by omega⟩
 ·unfold Utf8.decode at hk;simp only[] at hk;split at hk
  ·omega
  ·split at hk
   ·rename_i h2
    simp only[Bool.and_eq_true,decide_eq_true_eq,beq_iff_eq] at h2;split at hk
    ·have:k=1:=by omega
     subst this;omega
    ·omega
   ·split at hk
    ·rename_i h2
     simp only[Bool.and_eq_true,decide_eq_true_eq,beq_iff_eq] at h2;split at hk
     ·have:k=1∨k=2:=by omega
      rcases this with rfl | rfl <;> omega
     ·omega
    ·split at hk
     ·rename_i h2
      simp only[Bool.and_eq_true,decide_eq_true_eq,beq_iff_eq] at h2;split at hk
      ·have:k=1∨k=2∨k=3:=by omega
       rcases this with rfl | rfl | rfl <;> omega
      ·omega
     ·omega
theorem Je (s:ByteArray)(i:Nat)(h:i<s.size)(ha:128≤(s[i]'h).toNat):i+(Utf8.decode s i).2≤s.size:=by
 obtain⟨_,h2⟩:=decode_high s i h ha;have h3:=(Be s i h ha ((Utf8.decode s i).2 - 1) (by omega)).1
 omega
def NoP (s:ByteArray) (i:Nat):Prop:=(s.data.toList.take i).any iM=false
theorem NoP.zero (s:ByteArray):NoP s 0:=by simp [NoP]
theorem NoP.one {s:ByteArray}{i:Nat}(h:NoP s i)(hi:i<s.size)(hc:iM (s[i]'hi)=false):NoP s (i+1):=by
 unfold NoP at *;have e:=Lib.data_getElem? s i hi;obtain⟨hk,e2⟩:=List.getElem?_eq_some_iff.1 e;rw[List.take_succ_eq_append_getElem hk,List.any_append,h,e2];simp [hc]
theorem NoP.more {s:ByteArray}{i:Nat}(h:NoP s i):∀ n,(∀ k,k<n→i+k<s.size∧128≤(s.get! (i+k)).toNat)→NoP s (i+n)
 | 0,_=>h
 | n+1,hk=>by
  have h1:=NoP.more h n fun k hk'=>hk k (by omega)
  obtain⟨h2,h3⟩:=hk n (by omega)
  refine NoP.one h1 h2 (Jv _ ?_);rw[Dd s (i+n) h2] at h3;exact h3
theorem NoP.all {s:ByteArray}{i:Nat}(h:NoP s i)(hi:s.size≤i):s.data.toList.any iM=false:=by
 unfold NoP at h;rwa [List.take_of_length_le (by rw[← Lib.size_eq];exact hi)] at h
theorem L8 {s:ByteArray}{i:Nat}(hi:i<s.size)(hc:iM (s[i]'hi)=true):s.data.toList.any iM=true:=by
 rw[List.any_eq_true];exact⟨_,List.mem_of_getElem? (Lib.data_getElem? s i hi),hc⟩
theorem Gw (s:ByteArray)(w:World)(h8:s.size≤8) :
  Calls Tryz.prog 277 #[.string s,.string ⟨#[42,63,91]⟩] w fun e w'=>∃ z:Int,e = .returned (.int .i64 z)∧decide (0≤z)=s.data.toList.any iM∧Below w.heap.size w w':=by
 have h8z:decide ((8:Int)<(s.size:Int))=false:=decide_eq_false (by omega)
 have hi0:=World.iter_heap w s 0;have hb0:Below w.heap.size w (w.iter s 0):=(Below.refl _ _).alloc (Nat.le_refl _) _;go_enter Tryz.func277,Tryz.ntmps277
 go_wp2_with (go_at_call 290;refine (Tryz.strings_shouldUseASCIISet _ _).mono ?_;rintro e w' ⟨rfl,hw⟩;rw[hw,h8z])
 go_loopg [9,10] s.size (fun m _ _ wr=>∃ i:Nat,m=s.size - i∧i≤s.size∧wr.heap[w.heap.size]?=some (.stringIter s i)∧Below w.heap.size w wr∧Hid (NoP s i))
 case atStart=>exact⟨0,rfl,Nat.zero_le _,hi0,hb0,Ng (NoP.zero s)⟩
 case round =>
  clear hi0 hb0;obtain⟨i,rfl,hi,hit,hb,hno⟩:=hrel
  by_cases hlt:i<s.size
  ·obtain⟨x,hx⟩:∃ x:UInt8,s[i]'hlt=x:=⟨_,rfl⟩;have HX:=Ng hx
   by_cases hx128:x.toNat<128
   ·have hnx:=fun ty=>Lib.run_next_ascii_at (P:=Tryz.prog) wr w.heap.size s i ty hit hlt (by rw[hx];exact hx128)
    rw[hx] at hnx;have hit2:=Lib.iterAt_heap wr w.heap.size s i (i+1) hit;have hb2:=Lib.below_iterAt hb (Nat.le_refl _) s (i+1);have hback:((x.toNat:Int)).toNat.toUInt8=x:=by simp
    have hpi:=Lm x;clear hx hit hb
    cases hp:iM x with
    | true =>
     rw[hp] at hpi;have h1:=of_decide_eq_true hpi;go_wp2_with (go_at_call 289;refine (Tryz.strings_IndexRune_ascii _ _ _ (by omega) (by omega)).mono ?_;rintro e w' ⟨rfl,hw⟩;rw[hw,hback])
     go_ret;exact⟨(i:Int),rfl,by rw[L8 hlt (by rw[HX.out];exact hp)];exact decide_eq_true (by omega),hb2⟩
    | false =>
     rw[hp] at hpi;have h1:=of_decide_eq_false hpi;have HN:=Ng (hno.out.one hlt (by rw[HX.out];exact hp))
     go_wp2_with (go_at_call 289;refine (Tryz.strings_IndexRune_ascii _ _ _ (by omega) (by omega)).mono ?_;rintro e w' ⟨rfl,hw⟩;rw[hw,hback])
     go_roundg (s.size - (i+1))
     case measure=>omega
     case rel=>exact⟨i+1,rfl,by omega,hit2,hb2,HN⟩
   ·have hnx:=fun ty=>Lib.run_next_any_at (P:=Tryz.prog) wr w.heap.size s i ty hit hlt
    have hsp:=Je s i hlt (by rw[hx];omega)
    obtain⟨hr1,hr2⟩:=decode_high s i hlt (by rw[hx];omega)
    have hr3:=decode_le s i;have HN:=Ng (hno.out.more _ (Be s i hlt (by rw[hx];omega)))
    have hit2:=Lib.iterAt_heap wr w.heap.size s i (i+(Utf8.decode s i).2) hit;have hb2:=Lib.below_iterAt hb (Nat.le_refl _) s (i+(Utf8.decode s i).2);obtain⟨rn,hrn⟩:∃ rn,(Utf8.decode s i).1=rn:=⟨_,rfl⟩;obtain⟨wd,hwd⟩:∃ wd,(Utf8.decode s i).2=wd:=⟨_,rfl⟩;rw[hrn] at hr1 hr3;rw[hrn,hwd] at hnx;rw[hwd] at hsp hr2 HN hit2 hb2;clear hx hit hb hrn hwd;go_wp2_with fail
    refine (Gz rn _ hr1 hr3).mono ?_;rintro e w5 ⟨rfl,hb5⟩;have hit5:w5.heap[w.heap.size]?=some (.stringIter s (i+wd)):=(hb5.block _ (lt_of_block hit2)).trans hit2;have hb6:=hb2.trans (hb5.mono hb2.size);go_wp2_with fail
    go_roundg (s.size - (i+wd))
    case measure=>omega
    case rel=>exact⟨i+wd,rfl,by omega,hit5,hb6,HN⟩
  ·obtain rfl:i=s.size:=by omega
   have hnx:=fun ty=>Lib.run_next_end_at (P:=Tryz.prog) wr w.heap.size s s.size ty hit (by omega)
   have HA:=Ng (hno.out.all (Nat.le_refl _));go_wp2_with fail
   go_ret;exact⟨-1,rfl,by rw[HA.out];rfl,hb⟩
theorem Mz (l:List UInt8):decide (0≤Lib.indexAny l [42,63,91])=l.any iM:=by
 induction l with
 | nil=>rfl
 | cons c l ih =>
  have hge:=Lib.indexAny_ge [42,63,91] l;rw[List.any_cons,← ih,DT,show Lib.indexAny (c :: l) [42,63,91]=(if ([42,63,91]:List UInt8).contains c then 0 else if Lib.indexAny l [42,63,91]==-1 then -1 else Lib.indexAny l [42,63,91]+1) from rfl]
  generalize Lib.indexAny l [42,63,91]=z at hge
  cases hc:([42,63,91]:List UInt8).contains c with
  | true=>simp
  | false =>
   simp only[Bool.false_eq_true,if_false,Bool.false_or];rw[Bool.eq_iff_iff];simp only[decide_eq_true_eq];split
   ·rename_i h
    rw[beq_iff_eq] at h;omega
   ·rename_i h
    have h2:z≠-1:=fun e=>h (by rw[e];rfl)
    omega
theorem JY (s:ByteArray)(w:World)(hs:s.size≤1000000) :
  Calls Tryz.prog 253 #[.string s,.string ⟨#[42,63,91]⟩] w fun e w'=>e = .returned (.bool (s.data.toList.any iM))∧Below w.heap.size w w':=by
 have HI:=Ng (show Calls Tryz.prog 277 #[.string s,.string ⟨#[42,63,91]⟩] w fun e w'=>∃ z:Int,e = .returned (.int .i64 z)∧decide (0≤z)=s.data.toList.any iM∧Below w.heap.size w w' from by
  by_cases h8:s.size≤8
  ·exact Gw s w h8
  ·refine (Tryz.strings_IndexAny_long (fun w=>by kernel_rfl) s ⟨#[42,63,91]⟩ w (by decide) (by omega) (by omega) (by decide) ?_).mono ?_
   ·intro j b hj
    match j,hj with
    | 0,hj=>cases hj;decide
    | 1,hj=>cases hj;decide
    | 2,hj=>cases hj;decide
    | j+3,hj=>simp at hj
   ·rintro e w' ⟨rfl,rfl⟩;exact⟨_,rfl,Mz _,((Below.refl _ _).alloc (Nat.le_refl _) _).alloc (by simp) _⟩)
 obtain⟨q,hq⟩:∃ q,s.data.toList.any iM=q:=⟨_,rfl⟩;rw[hq] at HI ⊢;clear hq;go_enter Tryz.func253,Tryz.ntmps253
 go_wp2_with fail
 refine HI.out.mono ?_;rintro e w1 ⟨z,rfl,hz,hb⟩;go_wp2_with fail
 go_ret;exact⟨rfl,hb⟩
theorem JU (x:aD)(P:List aD):eT (P++[x])=eT P++(if x.kind=1 then x.text else if x.kind=2 then cC x.text else []):=by simp [eT]
theorem GC (x:aD)(P:List aD):jU (P++[x])=(jU P || (decide (x.kind≠1)&&decide (x.kind≠2))):=by simp [jU]
theorem JL (x:aD)(P:List aD):mO (P++[x])=(mO P || (decide (x.kind≠1)&&decide (x.kind≠2)&&!x.quoted)):=by simp [mO]
theorem J9 (x:aD)(P:List aD):nI (P++[x])=(nI P || (decide (x.kind=1)&&x.text.any iM)):=by
 unfold nI;rw[List.any_append,List.any_cons,List.any_nil,Bool.or_false];rfl
theorem LD (P:List aD)(k:Nat):txS (P.take k)≤txS P:=by
 have h:P=P.take k++P.drop k:=(List.take_append_drop k P).symm
 have h2:txS P=txS (P.take k)+txS (P.drop k):=by
  conv=>lhs;rw[h]
  unfold txS;rw[List.map_append,List.sum_append]
 omega
theorem G2 {sent:Nat→Addr}{S:Nat→Nat→aD→aL aA}(hS:o7 S)(hP:lS sent 252 rX (fun b d x=>eM (S b d) x))(hI:lS sent 259 rQ (fun b d x=>dP (S b d) x))(hV:lT sent 222 (fun b d t=>cZ (S b d) b t)):lT sent 223 (fun b d t=>fS (S b d) b t):=by
 intro w b g cap n base i d ts t tv r hd F hQ hE ht hx htx hp hw hr;have hmf:∀ (fn:Fn) (first cap:Array Value) (w:World),(Instr.makeFunc fn first cap).run Tryz.prog w = .ok (.func fn first cap) w:=fun _ _ _ _=>rfl
 have hbl:=hQ.blt;have HT:=Ng ht;obtain⟨tp,rfl,ao,pc,rfl,q1,q2,q3⟩:=ht;have hB0:=Blk.new w [.pointer (some ⟨b,0,none⟩)] 75;have hB1:=Blk.new (w.alloc (.cells #[.pointer (some ⟨b,0,none⟩)] 75)) [.int .i64 t.kind,.int .i64 t.place,.slice ao t.parts.length pc] 113;have hb0:=(Below.refl _ w).alloc (Nat.le_refl _) (.cells #[.pointer (some ⟨b,0,none⟩)] 75);have hb0':=(Below.refl _ (w.alloc (.cells #[.pointer (some ⟨b,0,none⟩)] 75))).alloc (Nat.le_refl _) (.cells #[.int .i64 t.kind,.int .i64 t.place,.slice ao t.parts.length pc] 113);have hb1:=aE hb0 hb0';have hB0:=hB0.below hb0';rw[World.size_alloc] at hB1;have HP3:=Ng q3;have hlw:=qS t.parts
 have HR:=Ng (show (if jU t.parts=false∧oB (eT t.parts)=true then iC base t (aC 6 0 [] [aC 1 1 (eT t.parts) []])
  else if jU t.parts=false∨(mO t.parts=false∧nI t.parts=false) then cZ (S base d) base t
  else (gT (gU (S base d) (dP (S base d))) base t).go fun l=>oOk (aC 6 0 [] [aC 5 0 [] [l]]))=some r from hr.out)
 obtain⟨N,hN⟩:∃ N,t.parts.length=N:=⟨_,rfl⟩;have HN:=Ng hN;have HQ:=Ng hQ;have HE:=Ng hE;rw[hN] at q1 hB0 hB1 hb1 hlw ⊢;clear hN q3 hQ hE hr;go_enter Tryz.func223,Tryz.ntmps223
 go_upto_region 2 with fail
 refine eJ (fun w9=>Blk w9 w.heap.size [.pointer (some ⟨b,0,none⟩)]∧Blk w9 (w.heap.size+1) [.int .i64 t.kind,.int .i64 t.place,.slice ao N pc]∧Below w.heap.size w w9) ⟨hB0,hB1,hb1⟩ ?_
 clear hB0 hB1 hb1;intro wz ⟨hB0,hB1,hbz⟩;have hcB0:=hB1.cell 2 rfl;go_wp2_with fail
 go_loopg [6,7,8,9,11,17] N (fun mm v6 v7 v8 v9 v11 c wr=>∃ k:Nat,mm=N - k∧k≤N∧c = .int .i64 k∧v6 = .string (bs (eT (t.parts.take k)))∧v7 = .bool (jU (t.parts.take k))∧v8 = .bool (mO (t.parts.take k))∧v9 = .bool (nI (t.parts.take k))∧Below wz.heap.size wz wr)
 case atStart=>exact⟨0,rfl,Nat.zero_le _,rfl,rfl,rfl,rfl,rfl,Below.refl _ _⟩
 case round =>
  obtain⟨k,rfl,hk,rfl,rfl,rfl,rfl,rfl,hbr⟩:=hrel;have hszr:=hbr.size;have hbw:=hbz.trans (hbr.mono hbz.size);have hft:=DB (t.parts.take k);have hfs:=LD t.parts k;have hft1:(bs (eT (t.parts.take k))).size≤20000:=by rw[aY];omega
  by_cases hlt:k<N
  ·obtain⟨gp,rfl,p1,p2⟩:=HP3.out (by have:=HN.out;omega)
   obtain⟨x,hx2⟩:∃ x,t.parts[k]?=some x:=⟨_,List.getElem?_eq_getElem (by have:=HN.out;omega)⟩
   have hxm:=List.mem_of_getElem? hx2;have hxl:=(hx x hxm).len;obtain⟨x0,x1,x2,x3,x4⟩:=(p2.below hbw).facts k x hx2;obtain⟨hkt,hxe⟩:=List.getElem?_eq_some_iff.1 hx2;have htake:t.parts.take (k+1)=t.parts.take k++[x]:=by rw[List.take_succ_eq_append_getElem hkt,hxe]
   have hxs:(bs x.text).size≤8192:=by rw[aY];exact hxl
   have HF1:=Ng (JU x (t.parts.take k));have HF2:=Ng (GC x (t.parts.take k));have HF3:=Ng (JL x (t.parts.take k));have HF4:=Ng (J9 x (t.parts.take k));rw[← htake] at HF1 HF2 HF3 HF4;generalize eT (t.parts.take k)=T at *;generalize jU (t.parts.take k)=D at *;generalize mO (t.parts.take k)=Bq at *;generalize nI (t.parts.take k)=Pq at *;have hbx:=hbr.alloc hszr (.cells #[Value.int .i64 x.kind,.int .i64 x.place,.int .i64 x.num,.bool x.quoted,.string (bs x.text)] 189);clear p2 hx2 hkt hxe htake hft hfs
   by_cases k1:x.kind=1
   ·have ek:(x.kind:Int)=1:=by omega
    have E1:=Ng (show eT (t.parts.take (k+1))=T++x.text from by rw[HF1.out,if_pos k1])
    have E2:=Ng (show jU (t.parts.take (k+1))=D from by rw[HF2.out];simp [k1])
    have E3:=Ng (show mO (t.parts.take (k+1))=Bq from by rw[HF3.out];simp [k1])
    have E4:=Ng (show nI (t.parts.take (k+1))=(Pq || x.text.any iM) from by rw[HF4.out];simp [k1])
    have hcat:bs T++bs x.text=bs (T++x.text):=rH _ _;rw[ek] at x0 hbx;clear HF1 HF2 HF3 HF4 ek k1;have HA:=Ng fun w9=>JY (bs x.text) w9 (by omega)
    rw[bK] at HA;generalize x.text.any iM=pq at HA E4
    cases Pq with
    | true =>
     go_wp2_with fail
     go_roundg (N - (k+1))
     case measure=>omega
     case rel=>exact⟨k+1,rfl,by omega,by go_num,by rw[E1.out,← hcat],by rw[E2.out],by rw[E3.out],by rw[E4.out];rfl,hbx⟩
    | false =>
     go_wp2_with fail
     refine (HA.out _).mono ?_;rintro e w2 ⟨rfl,hb2⟩;have hb3:=hbx.trans (hb2.mono hbx.size);go_wp2_with fail
     go_roundg (N - (k+1))
     case measure=>omega
     case rel=>exact⟨k+1,rfl,by omega,by go_num,by rw[E1.out,← hcat],by rw[E2.out],by rw[E3.out],by rw[E4.out];rfl,hb3⟩
   ·have k1':((x.kind:Int)==1)=false:=by rw[beq_eq_false_iff_ne];omega
    have E4:=Ng (show nI (t.parts.take (k+1))=Pq from by rw[HF4.out];simp [k1])
    by_cases k2:x.kind=2
    ·have ek:(x.kind:Int)=2:=by omega
     have E1:=Ng (show eT (t.parts.take (k+1))=T++cC x.text from by rw[HF1.out,if_neg k1,if_pos k2])
     have E2:=Ng (show jU (t.parts.take (k+1))=D from by rw[HF2.out];simp [k2])
     have E3:=Ng (show mO (t.parts.take (k+1))=Bq from by rw[HF3.out];simp [k2])
     have hel:=wY x.text;have HA:=Ng fun w9=>AY (bs x.text) w9 (by omega)
     rw[bK] at HA;have hcat:bs T++bs (cC x.text)=bs (T++cC x.text):=rH _ _;have hes:(bs (cC x.text)).size≤20000:=by rw[aY];omega
     rw[ek] at x0 hbx;generalize cC x.text=es at *;clear HF1 HF2 HF3 HF4 ek k1 k1' k2 hel;go_wp2_with fail
     refine (HA.out _).mono ?_;rintro e w2 ⟨rfl,hb2⟩;have hb3:=hbx.trans (hb2.mono hbx.size);go_wp2_with fail
     go_roundg (N - (k+1))
     case measure=>omega
     case rel=>exact⟨k+1,rfl,by omega,by go_num,by rw[E1.out,← hcat],by rw[E2.out],by rw[E3.out],by rw[E4.out],hb3⟩
    ·have k2':((x.kind:Int)==2)=false:=by rw[beq_eq_false_iff_ne];omega
     have E1:=Ng (show eT (t.parts.take (k+1))=T from by rw[HF1.out,if_neg k1,if_neg k2,List.append_nil])
     have E2:=Ng (show jU (t.parts.take (k+1))=true from by rw[HF2.out];simp [k1,k2])
     have E3:=Ng (show mO (t.parts.take (k+1))=(Bq || !x.quoted) from by rw[HF3.out];simp [k1,k2])
     have c3:=(Blk.new wr [Value.int .i64 x.kind,.int .i64 x.place,.int .i64 x.num,.bool x.quoted,.string (bs x.text)] 189).cell 3 rfl;clear HF1 HF2 HF3 HF4 k1 k2
     cases Bq with
     | true =>
      go_upto_region 5 with fail
      go_region
      all_goals (go_wp2_with fail)
      all_goals (go_roundg (N - (k+1)))
      all_goals (first | omega | exact⟨k+1,rfl,by omega,by go_num,by rw[E1.out],by rw[E2.out],by rw[E3.out];rfl,by rw[E4.out],by first | exact hbx | exact lH hbx⟩)
     | false =>
      go_upto_region 5 with fail
      go_region
      all_goals (go_wp2_with fail)
      all_goals (go_roundg (N - (k+1)))
      all_goals (first | omega | exact⟨k+1,rfl,by omega,by go_num,by rw[E1.out],by rw[E2.out],by rw[E3.out];rfl,by rw[E4.out],by first | exact hbx | exact lH hbx⟩)
  ·obtain rfl:k=N:=by omega
   have hT:t.parts.take k=t.parts:=List.take_of_length_le (by have:=HN.out;omega)
   rw[hT] at hft hfs hft1 ⊢;clear hT;have c0:=(hB0.below hbr).cell 0 rfl;have d0:=(hB1.below hbr).cell 0 rfl;have d1:=(hB1.below hbr).cell 1 rfl;have d2:=(hB1.below hbr).cell 2 rfl;have hbl2:b<wr.heap.size:=Nat.lt_of_lt_of_le hbl hbw.size;have HT2:=HT.out.below hbw;rw[HN.out] at HT2;have HT3:=Ng HT2
   have HVal:=Ng (show ∀ w9,Below wr.heap.size wr w9→cZ (S base d) base t=some r→Calls Tryz.prog 222 #[.pointer (some ⟨b,0,none⟩),.agg #[.int .i64 t.kind,.int .i64 t.place,.slice ao k pc]] w9 (cF w b sent r) from fun w9 h9 hq =>
    (hV w9 b g cap n base i d ts t _ r hd F (HQ.out.below (aE hbw h9)) (HE.out.below (aE hbw h9)) (HT3.out.below h9) hx htx hp hw (Ng hq)).mono fun e w' h=>h.later (aE hbw h9))
   have HJo:=Ng (show ∀ w9,Below wr.heap.size wr w9→∀ rc,gT (gU (S base d) (dP (S base d))) base t=some rc→Calls Tryz.prog 251 #[.pointer (some ⟨b,0,none⟩),.agg #[.int .i64 t.kind,.int .i64 t.place,.slice ao k pc],.func (.func 257) #[] #[.pointer (some ⟨w.heap.size,0,none⟩)]] w9 (cF w9 b sent rc) from fun w9 h9 rc hq =>
    KM (sent:=sent) 257 ⟨w.heap.size,0,none⟩ Ff (tq:=gU (S base d) (dP (S base d))) w9 b g cap n base i d ts t _ rc F (HQ.out.below (aE hbw h9)) (HE.out.below (aE hbw h9)) (HT3.out.below h9) hp
     (Ng fun w' x rc hb hxm hq=>G8 hS hP hI w' b g cap n base i d ts x rc ⟨w.heap.size,0,none⟩ hd F ((HQ.out.below (aE hbw h9)).below hb) ((HE.out.below (aE hbw h9)).below hb) (hx x hxm) (aF hb (aF h9 c0)) (Ng hq))
     (Ng fun x hxm l hl=>(t6 (hS.q base d n t.parts hx) hxm (hx x hxm).valid (hx x hxm).len (fun h1 h2=>(uG (hS.q base d n t.parts hx) hxm (hx x hxm).valid (hx x hxm).len h1 h2).mono fun l h=>by unfold nY;omega)).1 l hl) hw (Ng hq))
   have HJp:=Ng (show dK base (base+n) (gT (gU (S base d) (dP (S base d))) base t) _ from tW ⟨hp,fun p hp=>(hx p hp).len,fun p hp=>(hx p hp).valid⟩ fun x hxm=>t6 (hS.q base d n t.parts hx) hxm (hx x hxm).valid (hx x hxm).len (fun h1 h2=>(uG (hS.q base d n t.parts hx) hxm (hx x hxm).valid (hx x hxm).len h1 h2).mono fun l h=>by unfold nY;omega))
   have HFi:=Ng (show ∀ (w9:World) (v9:Value),Below wr.heap.size wr w9→iC base t (aC 6 0 [] [aC 1 1 (eT t.parts) []])=some r→NSl w9 b v9 (aC 6 0 [] [aC 1 1 (eT t.parts) []])→Calls Tryz.prog 255 #[.pointer (some ⟨b,0,none⟩),.agg #[.int .i64 t.kind,.int .i64 t.place,.slice ao k pc],v9] w9 (fun e w'=>cF w b sent r e w'∧Below wr.heap.size wr w') from fun w9 v9 h9 hq hN9 =>
    (yE w9 b g cap n base i d ts t _ v9 _ r F (HQ.out.below (aE hbw h9)) (HE.out.below (aE hbw h9)) (HT3.out.below h9) hp hN9 (by simp [bN]) (Ng hq)).mono fun e w' h=>⟨h.later (aE hbw h9),aE h9 h.1⟩)
   clear HQ HE HT hS hP hI hV hx F HT2 HT3 hmf;generalize eT t.parts=T at *;generalize jU t.parts=D at *;generalize mO t.parts=Bq at *;generalize nI t.parts=Pq at *;have hmf:∀ (fn:Fn) (first cap:Array Value) (w:World),(Instr.makeFunc fn first cap).run Tryz.prog w = .ok (.func fn first cap) w:=fun _ _ _ _=>rfl
   clear hB0 hB1 hcB0 HP3
   cases D with
   | false =>
    have hTl:T.length≤100000:=by omega
    go_wp2_with fail
    refine (IX T _ hTl).mono ?_;rintro e w2 ⟨rfl,hb2⟩;have c0':=aF hb2 c0;have d0':=aF hb2 d0;have d1':=aF hb2 d1;have d2':=aF hb2 d2
    cases hlv:oB T with
    | true =>
     have HX:=Ng (show iC base t (aC 6 0 [] [aC 1 1 T []])=some r from by
      have:=HR.out
      rw[if_pos (by simp [hlv])] at this
      exact this)
     have HNl:=Ng (show ∀ w9,Below wr.heap.size wr w9→Calls Tryz.prog 256 #[.string (bs T)] w9 fun e w'=>∃ v',e = .returned v'∧NSl w' b v' (aC 1 1 T [])∧Below wr.heap.size wr w' from fun w9 h9=>(xF T b w9 (Nat.lt_of_lt_of_le hbl2 h9.size)).mono fun e w' ⟨v',h1,h2,h3⟩=>⟨v',h1,h2,aE h9 h3⟩)
     have HNm:=Ng (show ∀ (w9:World) (u:Value),Below wr.heap.size wr w9→NSl w9 b u (aC 1 1 T [])→Calls Tryz.prog 7 #[.int .i64 6,.int .i64 0,.string ⟨#[]⟩,.slice (some ⟨w9.heap.size,0,none⟩) 1 1] (w9.alloc (.cells #[u] 26)) fun e w'=>∃ v',e = .returned v'∧NSl w' b v' (aC 6 0 [] [aC 1 1 T []])∧Below wr.heap.size wr w' from fun w9 u h9 h1=>by
      have hsz9:=h9.size;exact (bT 6 0 [] [aC 1 1 T []] b _ _ (by simp;omega) (KSl.new1 (w:=w9) (u:=u) (by omega) (.inl h1)) (by simp [aC]) (by simp)).mono fun e w' ⟨v',q1,q2,q3⟩=>⟨v',q1,q2,aE (h9.alloc h9.size _) q3⟩)
     have e1:=hb2;have e2:=hb2.drew;clear HR;go_wp2_with fail
     go_region_held3 (fun w'=>w'.cell? ⟨w.heap.size,0,none⟩=some (.pointer (some ⟨b,0,none⟩))∧w'.cell? ⟨w.heap.size+1,0,none⟩=some (.int .i64 t.kind)∧w'.cell? ⟨w.heap.size+1,1,none⟩=some (.int .i64 t.place)∧w'.cell? ⟨w.heap.size+1,2,none⟩=some (.slice ao k pc))
      (first | exact⟨aF hb7 c0,aF hb7 d0,aF hb7 d1,aF hb7 d2⟩ | exact⟨aF hb6 c0,aF hb6 d0,aF hb6 d1,aF hb6 d2⟩ | exact⟨aF hb5 c0,aF hb5 d0,aF hb5 d1,aF hb5 d2⟩ | go_keep)
      (first
       | (go_at_call 256;(with_reducible refine (HNl.out _ (by first | exact e1 | exact e2)).mono ?_);rintro e w5 ⟨v5,rfl,hN5,hb5⟩;obtain⟨g5,c5,rfl,-⟩:=id hN5)
       | (go_at_call 7;(with_reducible refine (HNm.out _ _ hb5 hN5).mono ?_);rintro e w6 ⟨v6,rfl,hN6,hb6⟩;obtain⟨g6,c6,rfl,-⟩:=id hN6)
       | (go_at_call 255;(with_reducible refine (HFi.out _ _ hb6 HX.out hN6).mono ?_);rintro e w7 ⟨h7,hb7⟩;obtain⟨v7,u7,rfl⟩:=h7.tuple))
     go_wp2_with fail
     go_ret2;exact h7
    | false =>
     have HX:=Ng (show cZ (S base d) base t=some r from by
      have:=HR.out
      rw[if_neg (by simp [hlv]),if_pos (by simp)] at this
      exact this)
     clear HR;go_wp2_with fail
     refine (HVal.out _ hb2 HX.out).mono ?_;intro e w5 h5;obtain⟨v5,u5,rfl⟩:=h5.tuple;go_wp2_with fail
     go_ret2;exact h5
   | true =>
    cases Bq with
    | false =>
     cases Pq with
     | false =>
      have HX:=Ng (show cZ (S base d) base t=some r from by
       have:=HR.out
       rw[if_neg (by simp),if_pos (by simp)] at this
       exact this)
      clear HR;go_wp2_with fail
      refine (HVal.out _ (Below.refl _ _) HX.out).mono ?_;intro e w5 h5;obtain⟨v5,u5,rfl⟩:=h5.tuple;go_wp2_with fail
      go_ret2;exact h5
     | true =>
      have HX:=Ng (show (gT (gU (S base d) (dP (S base d))) base t).go (fun l=>oOk (aC 6 0 [] [aC 5 0 [] [l]]))=some r from by
       have:=HR.out
       rw[if_neg (by simp),if_neg (by simp)] at this
       exact this)
      clear HR;go_wp2_with fail
      cases hq:gT (gU (S base d) (dP (S base d))) base t with
      | none=>exact (aL.go_none hq HX.out).elim
      | some rc =>
       refine (HJo.out _ (Below.refl _ _) rc hq).mono ?_;rintro e w5 ⟨hb5,h5⟩;have hb6:=aE hbw hb5
       cases rc with
       | error q =>
        have HX2:=Ng (aL.go_err hq HX.out);obtain⟨v,u,rfl,h6,hfv⟩:=h5;have h7:=h6.from hbw.size
        obtain⟨eb,rfl⟩:=h6.form';clear h6 hq HX;go_wp2_with fail
        go_ret2;exact cF.bad (c:=q.1) (p:=q.2) HX2.out rfl h7 hb6 (by first | assumption | exact⟨_,_,_,rfl⟩)
       | ok l =>
        obtain⟨v,rfl,h6⟩:=h5;have HX2:=aL.go_ok hq HX.out;have HX2:=Ng (kJ (show oOk _=some _ from HX2))
        have hll:=(HJp.out.1 l hq).2.1;have hsz6:=hb6.size;have hll2:l.length≤200000:=by unfold wtT at hll;omega
        have HN1:=Ng (bT 5 0 [] [l] b _ _ (by simp;omega) (KSl.new1 (w:=w5) (by omega) (.inl h6)) (by simp;omega) (by simp))
        obtain⟨gv,cv,rfl,-⟩:=h6;clear hq HX hll;go_wp2_with fail
        refine HN1.out.mono ?_;rintro e w7 ⟨v7,rfl,h7,hb7⟩;have hb8:=aE hb6 (vT hb7);have hsz8:=hb8.size;have HN2:=Ng (bT 6 0 [] [aC 5 0 [] [l]] b _ _ (by simp;omega) (KSl.new1 (w:=w7) (by omega) (.inl h7)) (by simp [bN];omega) (by simp))
        obtain⟨gv7,cv7,rfl,-⟩:=h7;go_wp2_with fail
        refine HN2.out.mono ?_;rintro e w9 ⟨v9,rfl,h9,hb9⟩;go_wp2_with fail
        go_ret2;exact cF.ok HX2.out rfl h9 (aE hb8 (vT hb9))
    | true =>
     have HX:=Ng (show (gT (gU (S base d) (dP (S base d))) base t).go (fun l=>oOk (aC 6 0 [] [aC 5 0 [] [l]]))=some r from by
      have:=HR.out
      rw[if_neg (by simp),if_neg (by simp)] at this
      exact this)
     clear HR;go_wp2_with fail
     cases hq:gT (gU (S base d) (dP (S base d))) base t with
     | none=>exact (aL.go_none hq HX.out).elim
     | some rc =>
      refine (HJo.out _ (Below.refl _ _) rc hq).mono ?_;rintro e w5 ⟨hb5,h5⟩;have hb6:=aE hbw hb5
      cases rc with
      | error q =>
       have HX2:=Ng (aL.go_err hq HX.out);obtain⟨v,u,rfl,h6,hfv⟩:=h5;have h7:=h6.from hbw.size
       obtain⟨eb,rfl⟩:=h6.form';clear h6 hq HX;go_wp2_with fail
       go_ret2;exact cF.bad (c:=q.1) (p:=q.2) HX2.out rfl h7 hb6 (by first | assumption | exact⟨_,_,_,rfl⟩)
      | ok l =>
       obtain⟨v,rfl,h6⟩:=h5;have HX2:=aL.go_ok hq HX.out;have HX2:=Ng (kJ (show oOk _=some _ from HX2))
       have hll:=(HJp.out.1 l hq).2.1;have hsz6:=hb6.size;have hll2:l.length≤200000:=by unfold wtT at hll;omega
       have HN1:=Ng (bT 5 0 [] [l] b _ _ (by simp;omega) (KSl.new1 (w:=w5) (by omega) (.inl h6)) (by simp;omega) (by simp))
       obtain⟨gv,cv,rfl,-⟩:=h6;clear hq HX hll;go_wp2_with fail
       refine HN1.out.mono ?_;rintro e w7 ⟨v7,rfl,h7,hb7⟩;have hb8:=aE hb6 (vT hb7);have hsz8:=hb8.size;have HN2:=Ng (bT 6 0 [] [aC 5 0 [] [l]] b _ _ (by simp;omega) (KSl.new1 (w:=w7) (by omega) (.inl h7)) (by simp [bN];omega) (by simp))
       obtain⟨gv7,cv7,rfl,-⟩:=h7;go_wp2_with fail
       refine HN2.out.mono ?_;rintro e w9 ⟨v9,rfl,h9,hb9⟩;go_wp2_with fail
       go_ret2;exact cF.ok HX2.out rfl h9 (aE hb8 (vT hb9))
end Go.Proofs.YtbpjobmpacjgcaaGreatDoor
