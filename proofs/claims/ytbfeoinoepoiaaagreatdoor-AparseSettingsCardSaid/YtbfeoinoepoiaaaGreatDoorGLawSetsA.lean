/- AparseSettings. -/
import Derived.Test.YtbfeoinoepoiaaaGreatDoorGSetInv
import Derived.Test.YtbfeoinoepoiaaaGreatDoorGZG
import Derived.Test.YtbfeoinoepoiaaaGreatDoorGRNum
namespace Go.Proofs.YtbfeoinoepoiaaaGreatDoor
set_option maxHeartbeats 16000000
set_option maxRecDepth 100000
open Go Go.RowKit
def textsOf (Z:Nat→ByteArray) (n:Nat):List (List UInt8):=(List.range n).map fun i=>(Z i).data.toList
theorem texts_len (Z:Nat→ByteArray) (n:Nat):(textsOf Z n).length=n:=by simp [textsOf]
theorem texts_get (Z:Nat→ByteArray) (n k:Nat) (h:k<n):(textsOf Z n)[k]?=some (Z k).data.toList:=by
 unfold textsOf
 rw [List.getElem?_map,List.getElem?_range h]
 rfl
theorem ext_front2 (S T:List UInt8):(bs S++bs T).extract 0 (bs S).size=bs S:=by
 rw [bs_app9,extract_bs,bs_list,bs_size,List.drop_zero,List.take_left]
def GoodQ (q:List UInt8):Prop:=q.length≤60∧∀ c∈q,c.toNat≠39
theorem setsLawA_in (ao:Option Addr) (ln cap:Nat) (Z:Nat→ByteArray) (wn:Int) (n:Nat) (hwn:bits BinOp.and IntKind.i64 wn 3=(n:Int)) (hn3:n≤3) (w:World) (sent:Nat→Addr) (hS:Sents w sent) (hmx:∃ m,w.cell? ⟨9,0,none⟩=some (.int .i64 m)) (het:w.cell? ⟨10,0,none⟩=some (.iface 145 (.agg #[.pointer (some ⟨19,25,none⟩)]))) (hln:ln≤cap) (_hcap:cap≤maxLen) (hB:StrsOf w ao ln Z) (h1:1≤ln) (h8:ln≤8) :
  Calls Tryz.prog 4 #[.slice ao ln cap,.int .i64 wn] w fun e w'=>e = .returned (.bool true)∧Below w.heap.size w w':=by
 obtain ⟨k0,hk0,hk1,hk2,hk3⟩:=info_parts infoNodes
 have HB:=Lib.hid hB
 clear hB
 have y0:decide ((8:Int)<(ln:Int))=false:=by rw [decide_eq_false_iff_not]; omega
 have y1:((ln:Int) == 0)=false:=by rw [beq_eq_false_iff_ne]; omega
 go_enter Tryz.func4,Tryz.ntmps4
 go_wp2_with fail
 refine (first11_any _ sent hS hmx het).mono ?_
 rintro e w1 ⟨rfl,hb1⟩
 have hgm:9<w1.heap.size:=hmx.elim fun m hm=>block_lt_of_cell (bSome hb1 hm)
 have HB1:=Lib.hid (HB.out.below hb1)
 clear HB
 obtain ⟨qs,hqs⟩:∃ qs,textsOf Z ln=qs:=⟨_,rfl⟩
 have HQL:=Lib.hid (show qs.length=ln from by rw [← hqs]; exact texts_len Z ln)
 have HQG:Hid (∀ k,k<ln→qs[k]?=some (Z k).data.toList):=Lib.hid fun k hk=>by rw [← hqs]; exact texts_get Z ln k hk
 clear hqs
 have HNU:=Lib.hid fun (k:Nat) (w9:World) (hk:k<ln)=>rNumber_two k w9 (by omega)
 go_upto_block 0 with fail
 go_cut [6] (fun s6 w9=>(∀ q∈qs,GoodQ q)∧s6 = .string (bs (setsSrcA varA 0 qs))∧Below w1.heap.size w1 w9)
 case first =>
  go_wp2_with fail
  go_loopg [6,7] ln (fun m s i wr=>∃ k:Nat,m=ln - k∧k≤ln∧s = .string (bs (setsSrcA varA 0 (qs.take k)))∧i = .int .i64 k∧Hid (∀ q∈qs.take k,GoodQ q)∧Below w1.heap.size w1 wr)
  case atStart=>exact ⟨0,rfl,Nat.zero_le _,rfl,rfl,Lib.hid (by simp),Below.refl _ _⟩
  case round =>
   obtain ⟨k,rfl,hk,rfl,rfl,hall,hbr⟩:=hrel
   by_cases hkl:k<ln
   ·obtain ⟨a,rfl,hz,hz1⟩:=HB1.out k hkl
    have hz:=bSome hbr hz
    have HQ:=Lib.hid (HQG.out k hkl)
    have HN:=Lib.hid fun (w9:World)=>HNU.out k w9 hkl
    generalize Z k=zb at *
    by_cases e1:60<zb.size
    ·have y2:decide ((60:Int)<(zb.size:Int))=true:=by rw [decide_eq_true_eq]; omega
     clear hwn
     go_wp2_with fail
     go_ret
     exact ⟨rfl,bNext hb1 hbr⟩
    ·have y2:decide ((60:Int)<(zb.size:Int))=false:=by rw [decide_eq_false_iff_not]; omega
     obtain ⟨zn,hzn⟩:∃ n,zb.size=n:=⟨_,rfl⟩
     have HZN:=Lib.hid hzn
     go_upto_block 2 with fail
     go_cut [] (fun w9=>(∀ c∈zb.data.toList,c.toNat≠39)∧wr=w9)
     case first =>
      go_wp2_with fail
      go_loopg [8] zn (fun m s8 w9=>∃ j:Nat,m=zn - j∧j≤zn∧s8 = .int .i64 j∧Hid (∀ c∈zb.data.toList.take j,c.toNat≠39)∧wr=w9)
      case atStart=>exact ⟨0,rfl,Nat.zero_le _,rfl,Lib.hid (by simp),rfl⟩
      case round =>
       obtain ⟨j,rfl,hj,rfl,hnq,rfl⟩:=hrel
       by_cases hjl:j<zn
       ·obtain ⟨c,hc⟩:∃ c,zb.data.toList[j]?=some c:=⟨_,List.getElem?_eq_getElem (by rw [size_eq]; omega)⟩
        have HCC:=Lib.hid hc
        have hidx:∀ h,zb[j]'h=c:=fun h=>by
         have h8:=hc
         rw [Array.getElem?_toList,Array.getElem?_eq_getElem (by simpa using h)] at h8
         exact Option.some.inj h8
        clear hc
        obtain ⟨v,hv⟩:∃ v:Int,(c.toNat:Int)=v:=⟨_,rfl⟩
        have HV:=Lib.hid hv
        have hjz:decide ((j:Int)<(zb.size:Int))=true:=by rw [decide_eq_true_eq]; omega
        have hjz2:j<zb.size:=by omega
        by_cases e39:v=39
        ·subst e39
         go_wp2_with fail
         go_ret
         exact ⟨rfl,bNext hb1 hbr⟩
        have f39:(v == 39)=false:=by rw [beq_eq_false_iff_ne]; exact e39
        go_wp2_with fail
        go_roundg (zn - (j+1))
        case measure=>omega
        case rel=>exact ⟨j+1,rfl,by omega,by go_num,Lib.hid (fun x hx=>by
         rw [List.take_add_one,HCC.out] at hx
         rcases List.mem_append.1 hx with hx | hx
         ·exact hnq.out x hx
         ·simp at hx
          subst hx
          have:=HV.out
          omega),rfl⟩
       ·obtain rfl:j=zn:=by omega
        go_wp2_with fail
        go_meet
        case rel=>exact ⟨by have h:=hnq.out; rw [List.take_of_length_le (by rw [size_eq]; have:=HZN.out; omega)] at h; exact h,rfl⟩
     case rest =>
      obtain ⟨h39,rfl⟩:=hcut
      have HGQ:=Lib.hid (show GoodQ zb.data.toList from ⟨by rw [size_eq]; omega,h39⟩)
      clear h39
      have hsz:=setsSrcA_size (qs.take k) 0 (by rw [List.length_take]; have:=HQL.out; omega) (fun q hq=>(hall.out q hq).1)
      rw [List.length_take] at hsz
      have EQ:=Lib.hid (show bs (setsSrcA varA 0 (qs.take k))++{ data:=#[32,118] }++bs (Lib.decDigits k)++{ data:=#[61,39] }++zb++{ data:=#[39] }=bs (setsSrcA varA 0 (qs.take (k+1))) from by
       rw [← setsSrcA_snoc varA qs 0 k _ HQ.out,Nat.zero_add]
       have hz9:bs zb.data.toList=zb:=bs_of zb
       rw [show ({ data:=#[32,118] }:ByteArray)=bs [32,118] from rfl,show ({ data:=#[61,39] }:ByteArray)=bs [61,39] from rfl,show ({ data:=#[39] }:ByteArray)=bs [39] from rfl,← hz9,bs_app9,bs_app9,bs_app9,bs_app9,bs_app9,bs_list]
       congr 1
       simp [varA])
      have HALL2:=Lib.hid (show ∀ q∈qs.take (k+1),GoodQ q from fun q hq=>by
       rw [List.take_add_one,HQ.out] at hq
       rcases List.mem_append.1 hq with hq | hq
       ·exact hall.out q hq
       ·simp at hq
        subst hq
        exact HGQ.out)
      obtain ⟨n1,hn1⟩:∃ n,(bs (setsSrcA varA 0 (qs.take k))).size=n:=⟨_,rfl⟩
      obtain ⟨n2,hn2⟩:∃ n,(bs (Lib.decDigits k)).size=n:=⟨_,rfl⟩
      have g1:n1≤528:=by rw [← hn1,bs_size]; omega
      have g2:n2=1:=by rw [← hn2,bs_size,dec_one k (by omega)]; rfl
      obtain ⟨n3,hn3⟩:∃ n,zb.size=n:=⟨_,rfl⟩
      have g3:n3≤60:=by omega
      have q0:¬ 9223372036854775807<n1:=by omega
      have q1:¬ 9223372036854775807≤n1:=by omega
      have q2:¬ 9223372036854775806<n1:=by omega
      have q3:¬ 9223372036854775806≤n1:=by omega
      have q4:¬ 9223372036854775805<n1:=by omega
      have q5:¬ 9223372036854775805≤n1:=by omega
      have q6:¬ 9223372036854775804<n1:=by omega
      have q7:¬ 9223372036854775804≤n1:=by omega
      have q8:¬ 9223372036854775803<n1:=by omega
      have q9:¬ 9223372036854775803≤n1:=by omega
      have q10:¬ 9223372036854775802<n1:=by omega
      have q11:¬ 9223372036854775802≤n1:=by omega
      have q12:¬ 9223372036854775807<n1+2+n2:=by omega
      have q13:¬ 9223372036854775807≤n1+2+n2:=by omega
      have q14:¬ 9223372036854775806<n1+2+n2:=by omega
      have q15:¬ 9223372036854775806≤n1+2+n2:=by omega
      have q16:¬ 9223372036854775805<n1+2+n2:=by omega
      have q17:¬ 9223372036854775805≤n1+2+n2:=by omega
      have q18:¬ 9223372036854775804<n1+2+n2:=by omega
      have q19:¬ 9223372036854775804≤n1+2+n2:=by omega
      have q20:¬ 9223372036854775803<n1+2+n2:=by omega
      have q21:¬ 9223372036854775803≤n1+2+n2:=by omega
      have q22:¬ 9223372036854775802<n1+2+n2:=by omega
      have q23:¬ 9223372036854775802≤n1+2+n2:=by omega
      have q24:¬ 9223372036854775807<n1+2+n2+2+n3:=by omega
      have q25:¬ 9223372036854775807≤n1+2+n2+2+n3:=by omega
      have q26:¬ 9223372036854775806<n1+2+n2+2+n3:=by omega
      have q27:¬ 9223372036854775806≤n1+2+n2+2+n3:=by omega
      have q28:¬ 9223372036854775805<n1+2+n2+2+n3:=by omega
      have q29:¬ 9223372036854775805≤n1+2+n2+2+n3:=by omega
      have q30:¬ 9223372036854775804<n1+2+n2+2+n3:=by omega
      have q31:¬ 9223372036854775804≤n1+2+n2+2+n3:=by omega
      have q32:¬ 9223372036854775803<n1+2+n2+2+n3:=by omega
      have q33:¬ 9223372036854775803≤n1+2+n2+2+n3:=by omega
      have q34:¬ 9223372036854775802<n1+2+n2+2+n3:=by omega
      have q35:¬ 9223372036854775802≤n1+2+n2+2+n3:=by omega
      have q36:¬ 9223372036854775807<n1+2:=by omega
      have q37:¬ 9223372036854775807<n1+2+n2+2:=by omega
      have q38:¬ 9223372036854775807<n1+2+n2+2+n3+1:=by omega
      have q39:¬ 9223372036854775807<n1+2+n2+3:=by omega
      have q40:¬ 9223372036854775807<n2+2:=by omega
      have q41:¬ 9223372036854775807<n3+1:=by omega
      obtain ⟨S1,hS1⟩:∃ S1,bs (setsSrcA varA 0 (qs.take (k+1)))=S1:=⟨_,rfl⟩
      have HS1:=Lib.hid hS1
      rw [hS1] at EQ
      generalize bs (setsSrcA varA 0 (qs.take k))=dt at *
      generalize bs (Lib.decDigits k)=dn at *
      clear hS1 hsz hzn HZN
      go_upto_region 16 with fail
      go_region_with (first | (go_at_call 13; (with_reducible refine (HN.out _).mono ?_); rintro e w9 ⟨rfl,hb9⟩; have hzq:=bSome hb9 hz))
      all_goals (go_wp2_with fail)
      all_goals go_roundg (ln - (k+1))
      all_goals first
       | omega
       | exact ⟨k+1,rfl,by omega,by rw [EQ.out,HS1.out],by go_num,HALL2,bNext hbr.drew hb9⟩
   ·obtain rfl:k=ln:=by omega
    go_wp2_with fail
    go_meet
    case rel =>
     have h:=hall.out
     rw [List.take_of_length_le (by rw [HQL.out]; exact Nat.le_refl _)] at h ⊢
     exact ⟨h,rfl,hbr⟩
 case rest =>
  rename World=>w2
  obtain ⟨hgood,rfl,hb2⟩:=hcut
  have hB2:=bNext hb1 hb2
  have HB2:=Lib.hid (HB1.out.below hb2)
  have hS2:=hS.below hB2
  have hm2:=hmx.elim fun m hm=>(⟨m,bSome hB2 hm⟩:∃ m,w2.cell? ⟨9,0,none⟩=some (.int .i64 m))
  have ht2:=bSome hB2 het
  have z2:9<w2.heap.size:=Nat.lt_of_lt_of_le hgm hb2.size
  have HP:=Lib.hid (parse_sets8 (fun q hq=>hgood q hq) (by intro e; have:=HQL.out; rw [e] at this; simp at this; omega) (by have:=HQL.out; omega) n hn3)
  have HSZ:=Lib.hid (setsSrcA_size qs 0 (by have:=HQL.out; omega) (fun q hq=>(hgood q hq).1))
  clear HB1 hS hmx het hb2 hgood
  obtain ⟨L,hL⟩:∃ L,setsLA varA 0 qs=L:=⟨_,rfl⟩
  have HLG:Hid (∀ k,k<ln→L[k]?=some (varA k,litP (Z k).data.toList)):=Lib.hid fun k hk=>by
   rw [← hL,setsLA_get varA qs 0 k _ (HQG.out k hk),Nat.zero_add]
  have HLN:=Lib.hid (show L.length=ln from by rw [← hL,(setsLA_map varA 0 qs).1]; exact HQL.out)
  have HLO:=Lib.hid (show ∀ x∈L,x.2.length=1 from by rw [← hL]; exact setsLA_one varA qs 0)
  have HW:=Lib.hid (sets_want qs n)
  rw [hL] at HP HW
  rw [HQL.out] at HW
  clear hL HQG
  obtain ⟨S,hS0⟩:∃ S,setsSrcA varA 0 qs=S:=⟨_,rfl⟩
  rw [hS0] at HP HSZ ⊢
  clear hS0
  go_upto_if 74 with fail
  go_cut [6,9] (fun s6 s9 w9=>s6 = .string (bs (S++wsSrc n))∧∃ v,s9=v∧NSl w9 9 v (madeP L (wsP n))∧Below w2.heap.size w2 w9)
  case first =>
   by_cases hn0:n=0
   ·subst hn0
    have y3:(((0:Nat):Int) == 0)=true:=by decide
    try rw [y3]
    go_upto_block 4 with fail
    go_cut [10] (fun s10 w9=>KOwn w9 w2.heap.size 9 s10 (setsP L ln)∧Below w2.heap.size w2 w9)
    case first =>
     go_wp2_with fail
     go_loopg [10,11] ln (fun m s10 s11 wr=>∃ k:Nat,m=ln - k∧k≤ln∧KOwn wr w2.heap.size 9 s10 (setsP L k)∧s11 = .int .i64 k∧Below w2.heap.size w2 wr)
     case atStart=>exact ⟨0,rfl,Nat.zero_le _,KOwn.nil _ _ _,rfl,Below.refl _ _⟩
     case round =>
      obtain ⟨k,rfl,hk,hO,rfl,hbr⟩:=hrel
      have hlk:(setsP L k).length=k:=setsP_len (by have:=HLN.out; omega)
      have hf:=hO.form
      rw [hlk] at hf
      obtain ⟨ra,rc,rfl⟩:=hf
      by_cases hkl:k<ln
      ·have zr:9<wr.heap.size:=Nat.lt_of_lt_of_le z2 hbr.size
       have hlv1:(litP ([]:List UInt8)).length≤20:=by decide
       obtain ⟨a,rfl,hz,hz1⟩:=HB2.out k hkl
       have hz:=bSome hbr hz
       have HNQ:=Lib.hid fun (w9:World)=>HNU.out k w9 hkl
       have HZP:=Lib.hid (HLG.out k hkl)
       obtain ⟨zl,hzl⟩:∃ zl,(Z k).data.toList=zl:=⟨_,rfl⟩
       have hzb:Z k=bs zl:=by rw [← hzl,bs_of]
       have HLT:Hid (∀ W:World,9<W.heap.size→Calls Tryz.prog 15 #[.string (Z k)] W fun e w'=>∃ v',e = .returned v'∧NSl w' 9 v' (litP zl)∧Below W.heap.size W w'):=Lib.hid fun W h=>by
        rw [hzb]
        exact cLit_any zl 9 W h
       rw [hzl] at HZP
       generalize Z k=z at *
       have hdn:(bs (Lib.decDigits k)).size≤1:=by rw [bs_size,dec_one k (by omega)]; exact Nat.le_refl _
       have EF:({ data:=#[118] }:ByteArray)++bs (Lib.decDigits k)=bs (varA k):=by rw [show ({ data:=#[118] }:ByteArray)=bs [118] from rfl,bs_app9]; rfl
       have HNW:Hid (∀ (W:World) (v:Value),KSl W 9 v [litP zl]→9<W.heap.size→Calls Tryz.prog 14 #[.int .i64 22,.int .i64 0,.string ({ data:=#[118] }++bs (Lib.decDigits k)),v] W fun e w'=>∃ v',e = .returned v'∧NSl w' 9 v' (newP 22 0 (varA k) [litP zl])∧Below W.heap.size W w'):=Lib.hid fun W v h1 h2=>by
        rw [EF]
        exact cNewS_any 22 0 (varA k) [litP zl] 9 v W h2 h1 (by have h:=hlv1; first | (simp [litP,newP] at h ⊢; done) | (simp [litP,newP] at h ⊢; omega)) (by simp)
       clear EF hzl hzb
       generalize bs (Lib.decDigits k)=dn at *
       obtain ⟨n2,hn2⟩:∃ n,dn.size=n:=⟨_,rfl⟩
       have q0:¬ 9223372036854775807<1+n2:=by omega
       have q1:¬ 9223372036854775806<n2:=by omega
       have q2:¬ 9223372036854775807 - 1<n2:=by omega
       have q3:¬ 9223372036854775807<n2+1:=by omega
       have HSN:Hid (setsP L k++[newP 22 0 (varA k) [litP zl]]=setsP L (k+1)):=Lib.hid (setsP_snoc HZP.out)
       have HLK:=Lib.hid hlk
       have HO:=Lib.hid hO
       have hO2:=hO
       obtain ⟨us,u1,u2,u3⟩:=hO2
       rw [hlk] at u2
       have U1:=Lib.hid u1
       have U2:=Lib.hid u2
       have U3:=Lib.hid u3
       have hszr:=hbr.size
       clear hO u1 u2 u3 hlk
       go_upto_region 23 with fail
       go_region_law (first
        | (refine step_append_own rfl _ _ 38 rfl 23 k0 _ 1 24 Tryz.underlying38 hk0 hk1 hk2 hk3 rfl (by decide) w2.heap.size _ k us rfl (hOA _) ?_ ⟨w7.heap.size,0,none⟩ 1 1 [.slice (some ⟨g7,0,none⟩) (newP 22 0 (varA k) [litP zl]).length c7] rfl rfl ?_ ?_ ?_ ?_ ?_; (focus (first | (simp; done) | (simp; omega))); (focus (exact cells_new (by simp))); (focus (intro u hu; simp at hu; subst hu; rfl)); (focus (unfold maxLen; omega)); (focus (first | omega | (simp; done) | (simp; omega))); (intro v6 w6 hown' hgrow; obtain ⟨hO6,hb6⟩:=KOwn.grown (L:=setsP L k) (Nat.le_trans hszr hB7.size) U1.out (by rw [HLK.out]; exact hOB) (fun i u l h1 h2=>(U3.out i u l h1 h2).below hB7) hN7 (by rw [HLK.out]; exact hown') hgrow))
        | (go_simp; go_wp2_with (first
         | (go_at_call 13; (with_reducible refine (HNQ.out _).mono ?_); rintro e w9 ⟨rfl,hb9⟩; have hzq:=bSome hb9 hz; have z9:9<w9.heap.size:=Nat.lt_of_lt_of_le zr hb9.size)
         | (go_at_call 15; (with_reducible refine (HLT.out _ z9).mono ?_); rintro e w8 ⟨v8,rfl,hN8,hb8⟩; obtain ⟨g8,c8,rfl,-⟩:=id hN8; have z8:9<w8.heap.size:=Nat.lt_of_lt_of_le z9 hb8.size)
         | (go_at_call 14; refine (HNW.out _ _ (KSl.new1 z8 (.inl hN8)) (by simp; omega)).mono ?_; rintro e w7 ⟨v7,rfl,hN7,hb7⟩; obtain ⟨g7,c7,rfl,-⟩:=id hN7; have hB7:Below wr.heap.size wr w7:=bNext (bNext (bNext (Below.refl _ wr).drew hb9) hb8) (bNext ((Below.refl w8.heap.size w8).alloc (Nat.le_refl _) _) hb7); have hs7:=hB7.size; have hOB:w7.ownsRow w2.heap.size 23 1 (.slice ra k rc) k us:=ownsRow_kept U2.out (Kept.ofBelow (S:=Nowhere) hB7) (fun _ _ _ e=>e); have hOA:∀ o,(w7.alloc o).ownsRow w2.heap.size 23 1 (.slice ra k rc) k us:=fun o=>ownsRow_kept hOB (Kept.ofBelow (S:=Nowhere) ((Below.refl _ w7).alloc (Nat.le_refl _) o)) (fun _ _ _ e=>e)))))
       all_goals (go_wp2_with fail)
       all_goals go_roundg (ln - (k+1))
       all_goals first
        | omega
        | exact ⟨k+1,rfl,by omega,by rw [HSN.out] at hO6; exact hO6,by go_num,(bNext hbr hB7).trans (hb6.mono (by omega))⟩
      ·obtain rfl:k=ln:=by omega
       go_wp2_with fail
       go_meet
       case rel=>exact ⟨hO,hbr⟩
    case rest =>
     rename World=>w3
     obtain ⟨hO,hb3⟩:=hcut
     have hKS:=hO.ksl z2
     obtain ⟨ra,rc,rfl⟩:=hO.form
     have z3:9<w3.heap.size:=Nat.lt_of_lt_of_le z2 hb3.size
     have hfl:=setsP_flat HLO.out (k:=ln)
     have hll:(setsP L ln).length=ln:=setsP_len (by have:=HLN.out; omega)
     have HQ:=Lib.hid (cSeq_any (setsP L ln) 9 _ w3 z3 setsP_all (by have:=HLN.out; omega) (by omega) hKS)
     have HW0:=Lib.hid (show madeP L (wsP 0)=seqP (setsP L ln) from by have h:=HW.out; rw [if_pos rfl] at h; exact h)
     clear hO hKS hll hfl
     generalize (setsP L ln).length=pl at *
     go_wp2_with fail
     refine HQ.out.mono ?_
     rintro e w4 ⟨v4,rfl,hN4,hb4⟩
     obtain ⟨g4,c4,rfl,-⟩:=id hN4
     go_wp2_with fail
     go_meet
     case rel=>exact ⟨by rw [wsSrc,List.append_nil],_,rfl,by rw [HW0.out]; exact hN4,bNext hb3 hb4⟩
   ·have y3:((n:Int) == 0)=false:=by rw [beq_eq_false_iff_ne]; omega
    rw [y3]
    go_upto_block 6 with fail
    go_cut [6,12] (fun s6 s12 w9=>s6 = .string (bs (S++wsSrc n))∧KOwn w9 w2.heap.size 9 s12 (wsP n)∧Below w2.heap.size w2 w9)
    case first =>
     go_wp2_with fail
     go_loopg [6,12,13] n (fun m s6 s12 s13 wr=>∃ k:Nat,m=n - k∧k≤n∧s6 = .string (bs (S++wsSrc k))∧KOwn wr w2.heap.size 9 s12 (wsP k)∧s13 = .int .i64 k∧Below w2.heap.size w2 wr)
     case atStart=>exact ⟨0,rfl,Nat.zero_le _,by rw [wsSrc,List.append_nil],KOwn.nil _ _ _,rfl,Below.refl _ _⟩
     case round =>
      obtain ⟨k,rfl,hk,rfl,hO,rfl,hbr⟩:=hrel
      have hf:=hO.form
      rw [wsP_len] at hf
      obtain ⟨ra,rc,rfl⟩:=hf
      by_cases hkl:k<n
      ·have HO:=Lib.hid hO
       have zr:9<wr.heap.size:=Nat.lt_of_lt_of_le z2 hbr.size
       have hszr:=hbr.size
       have hl1:(S++wsSrc k).length≤8100:=by
        have h1:=HSZ.out
        have h2:=HQL.out
        have h3:(wsSrc k).length≤20:=by
         have:k=0∨k=1∨k=2:=by omega
         rcases this with rfl | rfl | rfl <;> decide
        rw [List.length_append]
        omega
       have HWS:=Lib.hid (wsSrc_snoc k)
       have HWP:=Lib.hid (wsP_snoc k)
       clear hO
       obtain ⟨R,hR⟩:∃ R,S++wsSrc k=R:=⟨_,rfl⟩
       have HR:=Lib.hid hR
       rw [hR] at hl1
       rw [hR]
       clear hR
       have hbs:(bs R).size≤8100:=by rw [bs_size]; exact hl1
       obtain ⟨sb,hsb⟩:∃ sb,bs R=sb:=⟨_,rfl⟩
       have HSB:=Lib.hid hsb
       rw [hsb] at hbs
       rw [hsb]
       clear hsb
       by_cases k00:k=0
       ·subst k00
        have HEX:=Lib.hid (show (sb++{ data:=#[32,119,61,49] }).extract 0 sb.size=sb from by rw [← HSB.out]; exact ext_front2 R [32,119,61,49])
        go_wp2_with fail
        refine (cLit_any [119] 9 wr zr).mono ?_
        rintro e w3 ⟨v3,rfl,hN3,hb3⟩
        have hB3:=bNext hbr hb3
        have hsz3:=hB3.size
        have hlk:(wsP 0).length=0:=wsP_len 0
        obtain ⟨g3,c3,rfl,-⟩:=id hN3
        obtain ⟨us,u1,u2,u3⟩:=HO.out.below z2 hb3
        have u2':=u2
        rw [hlk] at u2'
        have hOA:∀ o,(w3.alloc o).ownsRow w2.heap.size 23 1 (.slice ra 0 rc) 0 us:=fun o=>ownsRow_kept u2' (Kept.ofBelow (S:=Nowhere) ((Below.refl _ w3).alloc (Nat.le_refl _) o)) (fun _ _ _ e=>e)
        have HN3:=Lib.hid hN3
        clear hN3
        go_wp2_with (at_builtin; refine wpList_append_own _ rfl _ _ 38 rfl w2.heap.size 23 k0 _ 1 24 Tryz.underlying38 hk0 hk1 hk2 hk3 rfl (by decide) _ _ _ rfl (hOA _) ⟨w3.heap.size,0,none⟩ 1 1 [.slice (some ⟨g3,0,none⟩) (litP [119]).length c3] rfl rfl ?c1 ?c2 ?c3 ?c4 ?c5 ?_)
        case c1=>exact cells_new (by simp)
        case c2 =>
         intro u hu
         simp at hu
         subst hu
         rfl
        case c3=>unfold maxLen; omega
        case c4=>omega
        case c5=>simp; omega
        intro v6 w6 hown' hgrow _
        obtain ⟨hO6,hb6⟩:=KOwn.grown (L:=wsP 0) hsz3 u1 u2 u3 HN3.out (by rw [hlk]; exact hown') hgrow
        go_wp2_with fail
        go_roundg (n - 1)
        case measure=>omega
        case rel =>
         have h1:R++[32,119]=S++wsSrc (0+1):=by
          have h3:wsSrc 0++[32,119]=wsSrc (0+1):=HWS.out
          rw [← h3,← HR.out,List.append_assoc]
         have h2:wsP 0++[litP [119]]=wsP (0+1):=HWP.out
         rw [h2] at hO6
         exact ⟨0+1,rfl,by omega,by rw [← h1]; exact (congrArg (fun x=>Value.string (x++{ data:=#[32,119] })) HEX.out).trans (by first | (rw [← HSB.out]; done) | (rw [← HSB.out]; exact congrArg Value.string (bs_app9 R [32,119]))),hO6,rfl,hB3.trans hb6⟩
       ·have y4:((k:Int) == 0)=false:=by rw [beq_eq_false_iff_ne]; omega
        go_wp2_with fail
        refine (cLit_any [119,61,49] 9 wr zr).mono ?_
        rintro e w3 ⟨v3,rfl,hN3,hb3⟩
        have hB3:=bNext hbr hb3
        have hsz3:=hB3.size
        have hlk:(wsP k).length=k:=wsP_len k
        obtain ⟨g3,c3,rfl,-⟩:=id hN3
        obtain ⟨us,u1,u2,u3⟩:=HO.out.below z2 hb3
        have u2':=u2
        rw [hlk] at u2'
        have hOA:∀ o,(w3.alloc o).ownsRow w2.heap.size 23 1 (.slice ra k rc) k us:=fun o=>ownsRow_kept u2' (Kept.ofBelow (S:=Nowhere) ((Below.refl _ w3).alloc (Nat.le_refl _) o)) (fun _ _ _ e=>e)
        have HN3:=Lib.hid hN3
        clear hN3
        go_wp2_with (at_builtin; refine wpList_append_own _ rfl _ _ 38 rfl w2.heap.size 23 k0 _ 1 24 Tryz.underlying38 hk0 hk1 hk2 hk3 rfl (by decide) _ _ _ rfl (hOA _) ⟨w3.heap.size,0,none⟩ 1 1 [.slice (some ⟨g3,0,none⟩) (litP [119,61,49]).length c3] rfl rfl ?c1 ?c2 ?c3 ?c4 ?c5 ?_)
        case c1=>exact cells_new (by simp)
        case c2 =>
         intro u hu
         simp at hu
         subst hu
         rfl
        case c3=>unfold maxLen; omega
        case c4=>omega
        case c5=>simp; omega
        intro v6 w6 hown' hgrow _
        obtain ⟨hO6,hb6⟩:=KOwn.grown (L:=wsP k) hsz3 u1 u2 u3 HN3.out (by rw [hlk]; exact hown') hgrow
        go_wp2_with fail
        go_roundg (n - (k+1))
        case measure=>omega
        case rel =>
         have h1:R++[32,119,61,49]=S++wsSrc (k+1):=by
          rw [← HWS.out,if_neg k00,← HR.out,List.append_assoc]
         have h2:=HWP.out
         rw [if_neg k00] at h2
         rw [h2] at hO6
         exact ⟨k+1,rfl,by omega,by rw [← h1,← HSB.out]; exact congrArg Value.string (bs_app9 R [32,119,61,49]),hO6,by go_num,hB3.trans hb6⟩
      ·obtain rfl:k=n:=by omega
       go_wp2_with fail
       go_meet
       case rel=>exact ⟨rfl,hO,hbr⟩
    case rest =>
     rename World=>w3
     obtain ⟨rfl,hO,hb3⟩:=hcut
     have hKS:=hO.ksl z2
     have hf:=hO.form
     rw [wsP_len] at hf
     obtain ⟨ra,rc,rfl⟩:=hf
     have z3:9<w3.heap.size:=Nat.lt_of_lt_of_le z2 hb3.size
     have HC:=Lib.hid (cNewS_any 21 0 [] (wsP n) 9 _ w3 z3 hKS (by rw [flat_one _ (wsP_one n),wsP_len]; omega) (by rw [wsP_len]; omega))
     have HB3:=Lib.hid (HB2.out.below hb3)
     have hlc:(newP 21 0 [] (wsP n)).length≤4:=by rw [newP,List.length_cons,flat_one _ (wsP_one n),wsP_len]; omega
     obtain ⟨cp,hcp⟩:∃ cp,newP 21 0 [] (wsP n)=cp:=⟨_,rfl⟩
     have HW1:=Lib.hid (show madeP L (wsP n)=locsP L cp 0 from by have h:=HW.out; rw [if_neg hn0,hcp] at h; exact h)
     rw [hcp] at HC hlc
     clear hO hKS hcp HB2
     go_wp2_with fail
     refine HC.out.mono ?_
     rintro e w4 ⟨v4,rfl,hN4,hb4⟩
     obtain ⟨g4,c4,rfl,-⟩:=id hN4
     have HN4:=Lib.hid hN4
     have HB4:=Lib.hid (HB3.out.below hb4)
     have hb24:=bNext hb3 hb4
     have z4:9<w4.heap.size:=Nat.lt_of_lt_of_le z3 hb4.size
     clear hN4 hb3 hb4 HB3
     generalize hpl:cp.length=pl at *
     go_upto_block 8 with fail
     go_cut [9] (fun s9 w9=>NSl w9 9 s9 (locsP L cp 0)∧Below w2.heap.size w2 w9)
     case first =>
      go_wp2_with fail
      go_loopg [9,14] ln (fun m s9 s14 wr=>∃ k:Nat,k=m∧k≤ln∧NSl wr 9 s9 (locsP L cp k)∧s14 = .int .i64 ((k:Int) - 1)∧Below w4.heap.size w4 wr)
      case atStart=>exact ⟨ln,rfl,Nat.le_refl _,by rw [← HLN.out,locsP_end]; exact HN4.out,by first | rfl | go_num,Below.refl _ _⟩
      case round =>
       obtain ⟨k,rfl,hk,hv,rfl,hbr⟩:=hrel
       have HV:=Lib.hid hv
       obtain ⟨gv,cv,rfl,-⟩:=id hv
       clear hv
       by_cases h1:0<k
       ·obtain ⟨q,rfl⟩:∃ q,k=q+1:=⟨k - 1,by omega⟩
        have hkk:((q+1:Nat):Int) - 1=(q:Int):=by omega
        rw [hkk]
        have hkl:q<ln:=by omega
        have hlv1:(locsP L cp (q+1)).length≤20:=by have h:=locsP_len HLO.out cp (q+1); have:=HLN.out; omega
        have HB2:=HB4
        have zr:9<wr.heap.size:=Nat.lt_of_lt_of_le z4 hbr.size
        obtain ⟨a,rfl,hz,hz1⟩:=HB2.out q hkl
        have hz:=bSome hbr hz
        have HNQ:=Lib.hid fun (w9:World)=>HNU.out q w9 hkl
        have HZP:=Lib.hid (HLG.out q hkl)
        obtain ⟨zl,hzl⟩:∃ zl,(Z q).data.toList=zl:=⟨_,rfl⟩
        have hzb:Z q=bs zl:=by rw [← hzl,bs_of]
        have HLT:Hid (∀ W:World,9<W.heap.size→Calls Tryz.prog 15 #[.string (Z q)] W fun e w'=>∃ v',e = .returned v'∧NSl w' 9 v' (litP zl)∧Below W.heap.size W w'):=Lib.hid fun W h=>by
         rw [hzb]
         exact cLit_any zl 9 W h
        rw [hzl] at HZP
        generalize Z q=z at *
        have hdn:(bs (Lib.decDigits q)).size≤1:=by rw [bs_size,dec_one q (by omega)]; exact Nat.le_refl _
        have EF:({ data:=#[118] }:ByteArray)++bs (Lib.decDigits q)=bs (varA q):=by rw [show ({ data:=#[118] }:ByteArray)=bs [118] from rfl,bs_app9]; rfl
        have HNW:Hid (∀ (W:World) (v:Value),KSl W 9 v [litP zl,locsP L cp (q+1)]→9<W.heap.size→Calls Tryz.prog 14 #[.int .i64 35,.int .i64 0,.string ({ data:=#[118] }++bs (Lib.decDigits q)),v] W fun e w'=>∃ v',e = .returned v'∧NSl w' 9 v' (newP 35 0 (varA q) [litP zl,locsP L cp (q+1)])∧Below W.heap.size W w'):=Lib.hid fun W v h1 h2=>by
         rw [EF]
         exact cNewS_any 35 0 (varA q) [litP zl,locsP L cp (q+1)] 9 v W h2 h1 (by have h:=hlv1; first | (simp [litP,newP] at h ⊢; done) | (simp [litP,newP] at h ⊢; omega)) (by simp)
        clear EF hzl hzb
        generalize bs (Lib.decDigits q)=dn at *
        obtain ⟨n2,hn2⟩:∃ n,dn.size=n:=⟨_,rfl⟩
        have q0:¬ 9223372036854775807<1+n2:=by omega
        have q1:¬ 9223372036854775806<n2:=by omega
        have q2:¬ 9223372036854775807 - 1<n2:=by omega
        have q3:¬ 9223372036854775807<n2+1:=by omega
        have HLS:Hid (locsP L cp q=newP 35 0 (varA q) [litP zl,locsP L cp (q+1)]):=Lib.hid (locsP_step HZP.out)
        have hwq:IntKind.i64.wrap ((q:Int) - 1)=(q:Int) - 1:=by rw [IntKind.wrap_i64]; omega
        clear hkk HB2
        generalize hlv:(locsP L cp (q+1)).length=lv at *
        have HLV:=Lib.hid hlv
        clear hlv
        go_upto_region 38 with fail
        go_region_with (first
         | (go_at_call 13; (with_reducible refine (HNQ.out _).mono ?_); rintro e w9 ⟨rfl,hb9⟩; have hzq:=bSome hb9 hz; have z9:9<w9.heap.size:=Nat.lt_of_lt_of_le zr hb9.size)
         | (go_at_call 15; (with_reducible refine (HLT.out _ z9).mono ?_); rintro e w8 ⟨v8,rfl,hN8,hb8⟩; obtain ⟨g8,c8,rfl,-⟩:=id hN8; have z8:9<w8.heap.size:=Nat.lt_of_lt_of_le z9 hb8.size; have hB8:Below wr.heap.size wr w8:=bNext (bNext (Below.refl _ wr).drew hb9) hb8; have hV8:=HV.out.below hB8)
         | (go_at_call 14; refine (HNW.out _ _ (KSl.new2 z8 (.inl hN8) (.inl hV8)) (by simp; omega)).mono ?_; rintro e w7 ⟨v7,rfl,hN7,hb7⟩; obtain ⟨g7,c7,rfl,-⟩:=id hN7; have hB7:Below wr.heap.size wr w7:=bNext hB8 (bNext ((Below.refl w8.heap.size w8).alloc (Nat.le_refl _) _) hb7)))
        all_goals (go_wp2_with fail)
        all_goals go_roundg q
        all_goals first
         | omega
         | exact ⟨q,rfl,by omega,by rw [HLS.out]; exact hN7,by go_num,bNext hbr hB7⟩
       ·obtain rfl:k=0:=by omega
        go_wp2_with fail
        go_meet
        case rel=>exact ⟨HV.out,bNext hb24 hbr⟩
     case rest =>
      rename World=>w4
      obtain ⟨hN,hb4⟩:=hcut
      obtain ⟨g4,c4,rfl,-⟩:=id hN
      go_wp2_with fail
      go_meet
      case rel=>exact ⟨rfl,_,rfl,by rw [HW1.out]; exact hN,hb4⟩
  case rest =>
   rename World=>w5
   obtain ⟨rfl,v,rfl,hv,hb5⟩:=hcut
   have HV:=Lib.hid hv
   obtain ⟨gv,cv,rfl,-⟩:=id hv
   have hB5:=bNext hB2 hb5
   have hS5:=hS2.below hb5
   have hm5:=hm2.elim fun m hm=>(⟨m,bSome hb5 hm⟩:∃ m,w5.cell? ⟨9,0,none⟩=some (.int .i64 m))
   have ht5:=bSome hb5 ht2
   have hcl:(madeP L (wsP n)).length≤100000000:=by
    have h1:=(made_len L (wsP n)).1
    have h2:=flat_one (wsP n) (wsP_one n)
    have h3:=wsP_len n
    have h4:setsLen L≤2 * L.length:=by
     have:∀ (M:List (List UInt8 × Prog)),(∀ x∈M,x.2.length=1)→setsLen M=2 * M.length:=by
      intro M
      induction M with
      | nil=>intro _; rfl
      | cons x M ih =>
       intro h
       have:=ih fun y hy=>h y (by simp [hy])
       have h9:=h x (by simp)
       simp only [setsLen,List.map_cons,List.sum_cons,List.length_cons] at this ⊢
       omega
     rw [this L HLO.out]
     exact Nat.le_refl _
    have h5:=HLN.out
    omega
   have hsl:(S++wsSrc n).length≤8192:=by
    have h1:=HSZ.out
    have h2:=HQL.out
    have h3:(wsSrc n).length≤20:=by
     have:n=0∨n=1∨n=2∨n=3:=by omega
     rcases this with rfl | rfl | rfl | rfl <;> decide
    rw [List.length_append]
    omega
   have HCL:=Lib.hid hcl
   clear hv HB2 hS2 hm2 ht2 hB2 hb5 HLG HLN HLO HW HSZ hcl
   obtain ⟨C,hC⟩:∃ C,madeP L (wsP n)=C:=⟨_,rfl⟩
   rw [hC] at HP HV HCL ⊢
   clear hC
   go_wp2_with fail
   refine (parse_okA _ C HP.out hsl w5 sent hS5 hm5 ht5).mono ?_
   rintro e w6 ⟨g6,c6,b6,rfl,hN6,hb6⟩
   have HN6:=Lib.hid hN6
   have HV6:=Lib.hid (HV.out.below hb6)
   have hB6:=bNext hB5 hb6
   clear hN6 HV hS5 hm5 ht5 hB5 hb6 HP
   generalize hpq:C.length=pl at *
   have HPQ:=Lib.hid hpq
   clear hpq
   go_wp2_with fail
   refine (cSame_eq C b6 9 _ _ w6 HN6.out HV6.out (by rw [HPQ.out]; exact HCL.out)).mono ?_
   rintro e w7 ⟨rfl,hb7⟩
   have hB7:=bNext hB6 hb7
   go_wp2_with fail
   go_ret
   exact ⟨rfl,hB7⟩
theorem and3n (n:Int):bits .and .i64 n 3=n % 4:=by
 have h3:(BitVec.ofInt 64 3).toNat=2 ^ 2 - 1:=by decide
 have key:(BitVec.ofInt 64 n &&& BitVec.ofInt 64 3).toNat=(n % ((2 ^ 64:Nat):Int)).toNat % 2 ^ 2:=by
  rw [BitVec.toNat_and,BitVec.toNat_ofInt,h3,Nat.and_two_pow_sub_one_eq_mod]
 show IntKind.i64.wrap ((BitVec.ofInt 64 n &&& BitVec.ofInt 64 3).toNat:Nat)=n % 4
 rw [key,IntKind.wrap_i64]
 omega
theorem setsLawA_all (ao:Option Addr) (ln cap:Nat) (wn:Int) (w:World) (sent:Nat→Addr) (hS:Sents w sent) (hmx:∃ m,w.cell? ⟨9,0,none⟩=some (.int .i64 m)) (het:w.cell? ⟨10,0,none⟩=some (.iface 145 (.agg #[.pointer (some ⟨19,25,none⟩)]))) (hln:ln≤cap) (hcap:cap≤maxLen) (hB:StrsAt w ao ln) :
  Calls Tryz.prog 4 #[.slice ao ln cap,.int .i64 wn] w fun e w'=>e = .returned (.bool true)∧Below w.heap.size w w':=by
 by_cases h8:1≤ln∧ln≤8
 ·obtain ⟨Z,hZ⟩:=hB.of
  exact setsLawA_in ao ln cap Z wn (wn % 4).toNat (by rw [and3n]; omega) (by omega) w sent hS hmx het hln hcap hZ h8.1 h8.2
 ·have h13:ln=0∨8<ln:=by omega
  clear hB h8
  go_enter Tryz.func4,Tryz.ntmps4
  go_wp2_with fail
  refine (first11_any _ sent hS hmx het).mono ?_
  rintro e w1 ⟨rfl,hb1⟩
  rcases h13 with rfl | h13
  all_goals
   go_wp2_with fail
   go_ret
   exact ⟨rfl,hb1⟩
end Go.Proofs.YtbfeoinoepoiaaaGreatDoor
