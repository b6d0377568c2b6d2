/- The document's live text (patoisref2): Escape. -/
import Derived.Test.YtbplbehhlbkklaaGreatDoorGZLive
namespace Go.Proofs.YtbplbehhlbkklaaGreatDoor
open Go Go.RowKit
def zescC (c:UInt8):Bool:=[42,63,91,93,92,32,9,10].contains c.toNat
theorem zescape_cons (c:UInt8)(l:List UInt8):escapeP (c :: l)=(if zescC c=true then [92,c] else [c])++escapeP l:=by
 rw[escapeP];rfl
theorem zescape_app:∀ (l m:List UInt8),escapeP (l++m)=escapeP l++escapeP m
 | [],m=>by simp [escapeP]
 | c :: l,m=>by
  rw[List.cons_append,zescape_cons,zescape_cons,zescape_app l m,List.append_assoc]
theorem zescape_len:∀ (l:List UInt8),(escapeP l).length≤2 * l.length
 | []=>by simp [escapeP]
 | c :: l=>by
  have:=zescape_len l
  rw[zescape_cons,List.length_append,List.length_cons];split <;> simp <;> omega
theorem conv_none (w:World):(convert 142 9 (.slice none 0 0)).run Tryz.prog w = .ok (.string ⟨#[]⟩) w:=by kernel_rfl
theorem BOwn.conv0 {w:World}{B:Nat}{v:Value}{L:List UInt8}(h:BOwn w B v L):(convert 142 9 v).run Tryz.prog w = .ok (.string (bs L)) w:=by
 by_cases hl:0<L.length
 ·exact h.conv hl
 ·obtain rfl:L=[]:=List.length_eq_zero_iff.1 (by omega)
  rcases h.2 with ⟨hv,h0⟩ | ⟨g,cap,cur,hv,_⟩
  ·rw[hv];exact conv_none w
  ·rw[hv];exact run_convert_bytes_back _ _ _ 5 ⟨g,0,none⟩ cap [] Tryz.underlying142 Tryz.underlying5 Tryz.underlying9 (fun j hj=>absurd hj (by simp))
section
set_option maxHeartbeats 8000000
set_option maxRecDepth 100000
theorem r2special_any (c:UInt8)(w:World):Calls Tryz.prog 175 #[.int .u8 c.toNat] w fun e w'=>e = .returned (.bool (zescC c))∧w'=w:=by
 have hX:zescC c=(decide (c.toNat=42) || decide (c.toNat=63) || decide (c.toNat=91) || decide (c.toNat=93) || decide (c.toNat=92) || (c.toNat==32 || c.toNat==9 || c.toNat==10)):=by
  unfold zescC;rw[Bool.eq_iff_iff,List.contains_iff_mem];simp only[List.mem_cons,List.not_mem_nil,or_false,Bool.or_eq_true,decide_eq_true_eq,beq_iff_eq];omega
 obtain⟨r,hr⟩:∃ r,zescC c=r:=⟨_,rfl⟩;rw[hr] at hX ⊢;have HX:=Lib.hid hX;have HB:=Lib.hid (fun w9=>rBlank_any c w9)
 clear hr hX;obtain⟨n,hn⟩:∃ n,c.toNat=n:=⟨_,rfl⟩;rw[hn] at HX HB ⊢
 by_cases h1:n=42
 ·subst h1;have hr:r=true:=by rw[HX.out];simp
  have HR:=Lib.hid hr;clear hr HX HB hn;go_enter Tryz.func175,Tryz.ntmps175
  go_wp2_with fail
  go_ret;exact⟨by rw[HR.out];rfl,rfl⟩
 have e1:((n:Int)==42)=false:=by rw[beq_eq_false_iff_ne];omega
 by_cases h2:n=63
 ·subst h2;have hr:r=true:=by rw[HX.out];simp
  have HR:=Lib.hid hr;clear hr HX HB hn;go_enter Tryz.func175,Tryz.ntmps175
  go_wp2_with fail
  go_ret;exact⟨by rw[HR.out];rfl,rfl⟩
 have e2:((n:Int)==63)=false:=by rw[beq_eq_false_iff_ne];omega
 by_cases h3:n=91
 ·subst h3;have hr:r=true:=by rw[HX.out];simp
  have HR:=Lib.hid hr;clear hr HX HB hn;go_enter Tryz.func175,Tryz.ntmps175
  go_wp2_with fail
  go_ret;exact⟨by rw[HR.out];rfl,rfl⟩
 have e3:((n:Int)==91)=false:=by rw[beq_eq_false_iff_ne];omega
 by_cases h4:n=93
 ·subst h4;have hr:r=true:=by rw[HX.out];simp
  have HR:=Lib.hid hr;clear hr HX HB hn;go_enter Tryz.func175,Tryz.ntmps175
  go_wp2_with fail
  go_ret;exact⟨by rw[HR.out];rfl,rfl⟩
 have e4:((n:Int)==93)=false:=by rw[beq_eq_false_iff_ne];omega
 by_cases h5:n=92
 ·subst h5;have hr:r=true:=by rw[HX.out];simp
  have HR:=Lib.hid hr;clear hr HX HB hn;go_enter Tryz.func175,Tryz.ntmps175
  go_wp2_with fail
  go_ret;exact⟨by rw[HR.out];rfl,rfl⟩
 have e5:((n:Int)==92)=false:=by rw[beq_eq_false_iff_ne];omega
 have hr:r=(n==32 || n==9 || n==10):=by rw[HX.out];simp [h1,h2,h3,h4,h5]
 have HR:=Lib.hid hr;clear hr HX h1 h2 h3 h4 h5 hn;go_enter Tryz.func175,Tryz.ntmps175
 go_wp2_with fail
 refine (HB.out _).mono ?_;rintro e w1 ⟨rfl,rfl⟩;rw[← HR.out];go_wp2_with fail
 go_ret;exact⟨rfl,rfl⟩
theorem r2Escape_any (s:ByteArray)(w:World)(hs:s.size≤1000000):Calls Tryz.prog 158 #[.string s] w fun e w'=>e = .returned (.string (bs (escapeP s.data.toList)))∧Below w.heap.size w w':=by
 obtain⟨i0,hi0,hz0,hz1,hz2⟩:=info_parts infoU8;have HS:=Lib.hid (size_eq s);obtain⟨T,hT⟩:∃ T,escapeP s.data.toList=T:=⟨_,rfl⟩;have HT:=Lib.hid hT;rw[hT];clear hT;go_enter Tryz.func158,Tryz.ntmps158
 go_wp2_with fail
 go_loopg [3,4] s.size (fun m s3 s4 wr=>∃ k:Nat,m=s.size - k∧k≤s.size∧s4 = .int .i64 k∧BOwn wr w.heap.size s3 (escapeP (s.data.toList.take k))∧Below w.heap.size w wr)
 case atStart=>exact⟨0,rfl,Nat.zero_le _,rfl,World.ownsRow_nil _ _ _ _,Below.refl _ _⟩
 case round =>
  obtain⟨k,rfl,hk,rfl,hO,hb⟩:=hrel;obtain⟨ao,acap,rfl⟩:=hO.form;have hlen:=zescape_len (s.data.toList.take k);rw[List.length_take] at hlen
  by_cases hlt:k<s.size
  ·have hg:=getElem_bat s k hlt;have hwk:IntKind.i64.wrap ((k:Int)+1)=(k:Int)+1:=by rw[IntKind.wrap_i64];omega
   have HTK:=Lib.hid (show escapeP (s.data.toList.take (k+1))=escapeP (s.data.toList.take k)++(if zescC (bat s k)=true then [92,bat s k] else [bat s k]) from by
    rw[List.take_succ_eq_append_getElem (by rw[HS.out];exact hlt),zescape_app]
    have h9:k<s.data.size:=hlt;have e:s.data.toList[k]'(by rw[HS.out];exact hlt)=bat s k:=by simp [bat,List.getD,Array.getElem?_eq_getElem h9]
    rw[e,zescape_cons];simp [escapeP])
   generalize escapeP (s.data.toList.take k)=P at *;obtain⟨pl,hpl⟩:∃ pl,P.length=pl:=⟨_,rfl⟩;have HPN:=Lib.hid hpl;have hsz:=hb.size;have HO:=Lib.hid hO;rw[hpl] at hlen HO ⊢;clear hO hpl;have hOA:∀ o,(wr.alloc o).ownsRow w.heap.size 5 1 (.slice ao pl acap) pl (P.map fun c=>Value.int .u8 (c.toNat:Int)):=fun o=>World.ownsRow.alloc (by have h:=HO.out;unfold BOwn at h;rw[HPN.out] at h;exact h) o
   cases hc:zescC (bat s k) with
   | true =>
    rw[hc,if_pos rfl] at HTK;go_wp2_with fail
    refine (r2special_any (bat s k) _).mono ?_;rintro e w2 ⟨rfl,rfl⟩;rename World=>w2
    rw[hc];clear hc;go_wp2_with (at_builtin;refine wpList_append_own _ rfl _ _ 142 rfl w.heap.size 5 i0 _ 1 1 Tryz.underlying142 hi0 hz0 hz1 hz2 rfl (by decide) _ _ _ rfl (hOA _) ⟨w2.heap.size,0,none⟩ 1 1 [.int .u8 92] rfl rfl ?c1 ?c2 ?c3 ?c4 ?c5 ?_)
    case c1=>exact cells_new (by simp)
    case c2=>intro u hu;simp at hu;subst hu;rfl
    case c3=>unfold maxLen;omega
    case c4=>omega
    case c5=>simp;omega
    intro v6 w6 hown' hgrow _;obtain⟨hO6,hb6⟩:=BOwn.grown (w0:=w) (d:=92) hsz HO.out (by rw[HPN.out];exact hown') hgrow
    have hb7:=hb.trans hb6;have hlen6:(P++[92]).length=pl+1:=by rw[List.length_append,HPN.out];rfl
    obtain⟨ao6,acap6,rfl⟩:=hO6.form;have HO6:=Lib.hid hO6;rw[hlen6] at HO6 ⊢;have HL6:=Lib.hid hlen6;have hsz6:=hb7.size;have hOB:∀ o,(w6.alloc o).ownsRow w.heap.size 5 1 (.slice ao6 (pl+1) acap6) (pl+1) ((P++[92]).map fun (c:UInt8)=>Value.int .u8 (c.toNat:Int)):=fun o=>World.ownsRow.alloc (by have h:=HO6.out;unfold BOwn at h;rw[HL6.out] at h;exact h) o
    clear hOA hown' hgrow hO6 hb6 hlen6;go_wp2_with (at_builtin;refine wpList_append_own _ rfl _ _ 142 rfl w.heap.size 5 i0 _ 1 1 Tryz.underlying142 hi0 hz0 hz1 hz2 rfl (by decide) _ _ _ rfl (hOB _) ⟨w6.heap.size,0,none⟩ 1 1 [.int .u8 ((bat s k).toNat:Int)] rfl rfl (cells_new (by simp)) (by intro u hu;simp at hu;subst hu;rfl) (by unfold maxLen;omega) (by omega) (by simp;omega) ?_;intro v8 w8 hown' hgrow _)
    obtain⟨hO8,hb8⟩:=BOwn.grown (w0:=w) (d:=bat s k) hsz6 HO6.out (by rw[HL6.out];exact hown') hgrow
    have hb9:=hb7.trans hb8;clear hOB hown' hgrow;go_wp2_with fail
    go_roundg (s.size - (k+1))
    case measure=>omega
    case rel=>exact⟨k+1,rfl,by omega,by go_num,by rw[HTK.out];simpa using hO8,hb9⟩
   | false =>
    rw[hc,if_neg (by simp)] at HTK
    go_wp2_with fail
    refine (r2special_any (bat s k) _).mono ?_;rintro e w2 ⟨rfl,rfl⟩;rename World=>w2
    rw[hc];clear hc;go_wp2_with (at_builtin;refine wpList_append_own _ rfl _ _ 142 rfl w.heap.size 5 i0 _ 1 1 Tryz.underlying142 hi0 hz0 hz1 hz2 rfl (by decide) _ _ _ rfl (hOA _) ⟨w2.heap.size,0,none⟩ 1 1 [.int .u8 ((bat s k).toNat:Int)] rfl rfl (cells_new (by simp)) (by intro u hu;simp at hu;subst hu;rfl) (by unfold maxLen;omega) (by omega) (by simp;omega) ?_;intro v6 w6 hown' hgrow _)
    obtain⟨hO6,hb6⟩:=BOwn.grown (w0:=w) (d:=bat s k) hsz HO.out (by rw[HPN.out];exact hown') hgrow
    have hb7:=hb.trans hb6;clear hOA hown' hgrow;go_wp2_with fail
    go_roundg (s.size - (k+1))
    case measure=>omega
    case rel=>exact⟨k+1,rfl,by omega,by go_num,by rw[HTK.out];exact hO6,hb7⟩
  ·obtain rfl:k=s.size:=by omega
   rw[List.take_of_length_le (by rw[HS.out];exact Nat.le_refl _),HT.out] at hO
   rw[List.take_of_length_le (by rw[HS.out];exact Nat.le_refl _),HT.out]
   have hcv:=hO.conv0;generalize T.length=bn at hcv ⊢;clear hO hlen;go_wp2_with fail
   go_ret;exact⟨rfl,hb⟩
end
end Go.Proofs.YtbplbehhlbkklaaGreatDoor
