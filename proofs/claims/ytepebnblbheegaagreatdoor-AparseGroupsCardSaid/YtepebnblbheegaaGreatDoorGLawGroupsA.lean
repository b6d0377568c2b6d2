/- AparseGroups. -/
import Derived.Test.YtepebnblbheegaaGreatDoorGGroupsA
import Derived.Test.YtepebnblbheegaaGreatDoorGDepthZ
import Derived.Test.YtepebnblbheegaaGreatDoorGQTopG
import Derived.Test.YtepebnblbheegaaGreatDoorGZF
import Derived.Test.YtepebnblbheegaaGreatDoorGQMay
namespace Go.Proofs.YtepebnblbheegaaGreatDoor
set_option maxHeartbeats 16000000
set_option maxRecDepth 100000
open Go Go.RowKit
def OutV (w:World) (sent:Nat→Addr) (r:Except (Nat × Option Nat) Prog) (v x:Value):Prop :=
 match r with
 | .ok l=>x = .nilIface∧∃ b,NSl w b v l
 | .error (c,none)=>x = .iface 303 (.pointer (some (sent c)))
 | .error (c,some p)=>∃ eb,x = .iface 67 (.pointer (some ⟨eb,0,none⟩))∧ErrAt w eb sent c p
def codeA (r:Except (Nat × Option Nat) Prog):Nat:=match r with | .ok _=>0 | .error (c,_)=>c
theorem OutV.below {w w':World} {sent:Nat→Addr} {r:Except (Nat × Option Nat) Prog} {v x:Value} (h:OutV w sent r v x) (hb:Below w.heap.size w w'):OutV w' sent r v x:=by
 unfold OutV at h ⊢
 match r,h with
 | .ok l,h=>obtain ⟨h1,b,h2⟩:=h; exact ⟨h1,b,h2.below hb⟩
 | .error (c,none),h=>exact h
 | .error (c,some p),h=>obtain ⟨eb,h1,h2⟩:=h; exact ⟨eb,h1,Blk.below h2 hb⟩
theorem OutV.err {w:World} {sent:Nat→Addr} {r:Except (Nat × Option Nat) Prog} {v x:Value} {e:Nat × Option Nat} (h:OutV w sent r v x) (hr:r = .error e):∃ ty a,x = .iface ty (.pointer (some a)):=by
 subst hr
 obtain ⟨c,p⟩:=e
 cases p with
 | none=>exact ⟨_,_,h⟩
 | some p=>obtain ⟨eb,h1,-⟩:=h; exact ⟨_,_,h1⟩
theorem parseV (S:List UInt8) (hl:S.length≤8192) (w:World) (sent:Nat→Addr) (hS:Sents w sent) (hmx:∃ m,w.cell? ⟨9,0,none⟩=some (.int .i64 m)) (het:w.cell? ⟨18,0,none⟩=some (.iface 162 (.agg #[.pointer (some ⟨19,25,none⟩)]))) :
  Calls Tryz.prog 29 #[.string (bs S)] w fun e w'=>∃ v x,e = .returned (.tuple #[v,x])∧OutV w' sent (parseA S) v x∧Below w.heap.size w w':=by
 have HP:=qParse_short (bs S) w (by rw [bs_size]; exact hl) sent hS hmx het
 rw [bs_list] at HP
 refine HP.mono ?_
 rintro e w' ⟨hb,h⟩
 generalize parseA S=r at *
 match r,h with
 | .ok l,h=>obtain ⟨v,b,rfl,hN⟩:=h; exact ⟨_,_,rfl,⟨rfl,b,hN⟩,hb⟩
 | .error (c,none),h=>exact ⟨_,_,h,rfl,hb⟩
 | .error (c,some p),h=>obtain ⟨eb,rfl,h2⟩:=h; exact ⟨_,_,rfl,⟨eb,rfl,h2⟩,hb⟩
theorem faultV_any (S:List UInt8) (hl:S.length≤8192) (w:World) (sent:Nat→Addr) (hS:Sents w sent) {v x:Value} (h:OutV w sent (parseA S) v x) :
  Calls Tryz.prog 22 #[x] w fun e w'=>(∃ uo un uc,e = .returned (.agg #[.int .i64 (codeA (parseA S):Int),.slice uo un uc]))∧Below w.heap.size w w':=by
 have HC:=fun (c:Nat) (p:Option Nat) (h:parseA S = .error (c,p))=>parseA_codes (L:=S) (c:=c) (p:=p) hl h
 generalize parseA S=r at *
 match r,h,HC with
 | .ok l,h,_ =>
  obtain ⟨rfl,-⟩:=h
  refine (seeFault_nil w).mono ?_
  rintro e w' ⟨rfl,hb⟩
  exact ⟨⟨_,_,_,rfl⟩,hb⟩
 | .error (c,none),h,HC =>
  obtain ⟨⟨h1,h2⟩,-⟩:=HC c none rfl
  cases h
  refine (seeFault_sent w sent hS c h1 h2).mono ?_
  rintro e w' ⟨rfl,hb⟩
  exact ⟨⟨_,_,_,rfl⟩,hb⟩
 | .error (c,some p),h,HC =>
  obtain ⟨⟨h1,h2⟩,-⟩:=HC c (some p) rfl
  obtain ⟨eb,rfl,h3⟩:=h
  refine (seeFault_at w sent hS c h1 h2 p eb h3).mono ?_
  rintro e w' ⟨g,rfl,-,-,hb⟩
  exact ⟨⟨_,_,_,rfl⟩,hb⟩
theorem field_code (c:Int) (uo:Option Addr) (un uc:Nat) (w:World):(Instr.field 30 (.agg #[.int .i64 c,.slice uo un uc]) 0).run Tryz.prog w = .ok (.int .i64 c) w:=by kernel_rfl
theorem OkOr102.ok {s:List UInt8} {l:Prog} (h:OkOr102 s l) (hc:codeA (parseA s)≠102):parseA s = .ok l:=by
 rcases h with h | ⟨p,h⟩
 ·exact h
 ·rw [h] at hc
  exact absurd rfl hc
theorem OutV.ok {w:World} {sent:Nat→Addr} {r:Except (Nat × Option Nat) Prog} {v x:Value} {l:Prog} (h:OutV w sent r v x) (hr:r = .ok l):x = .nilIface∧∃ b,NSl w b v l:=by
 subst hr
 exact h
theorem NSl.at {w:World} {b b':Nat} {v:Value} {l:Prog} (h:NSl w b v l) (hb:∀ g n c,v = .slice (some ⟨g,0,none⟩) n c→g≠b'):NSl w b' v l:=by
 obtain ⟨g,cap,h1,h2,h3,h4,h5,h6⟩:=h
 exact ⟨g,cap,h1,h2,h3,h4,hb g _ _ h1,h6⟩
theorem parse_sizes {S:List UInt8} (hl:S.length≤8192) {l:Prog} (h:parseA S = .ok l):SizesOk l∧0<l.length∧l.length≤3000:=by
 obtain ⟨us,F,j,h1,h2,h3,h4,D,h5⟩:=parseA_inv hl h
 obtain ⟨l1,l2,_⟩:=checkP_none h4
 exact ⟨h5.sizes,l1,l2⟩
theorem groupsLawA_in (S T:List UInt8) (w:World) (sent:Nat→Addr) (hS:Sents w sent) (hmx:∃ m,w.cell? ⟨9,0,none⟩=some (.int .i64 m)) (het:w.cell? ⟨18,0,none⟩=some (.iface 162 (.agg #[.pointer (some ⟨19,25,none⟩)]))) (h1:S.length≤700) (h2:T.length≤700) :
  Calls Tryz.prog 14 #[.string (bs S),.string (bs T)] w fun e w'=>e = .returned (.bool true)∧Below w.heap.size w w':=by
 have HPA:=Lib.hid fun (R:List UInt8) (hR:R.length≤8192) (w9:World) (hb:Below w.heap.size w w9)=>parseV R hR w9 sent (hS.below hb) (hmx.elim fun m hm=>⟨m,bSome hb hm⟩) (bSome hb het)
 have HFA:=Lib.hid fun (R:List UInt8) (hR:R.length≤8192) (w9:World) (v x:Value) (hb:Below w.heap.size w w9) (h:OutV w9 sent (parseA R) v x)=>faultV_any R hR w9 sent (hS.below hb) h
 have hz1:(bs S).size≤700:=by rw [bs_size]; exact h1
 have hz2:(bs T).size≤700:=by rw [bs_size]; exact h2
 have HZ1:=Lib.hid h1
 have HZ2:=Lib.hid h2
 have y1:decide ((700:Int)<((bs S).size:Int))=false:=by rw [decide_eq_false_iff_not]; omega
 have y2:decide ((700:Int)<((bs T).size:Int))=false:=by rw [decide_eq_false_iff_not]; omega
 have E1:=Lib.hid (show ({ data:=#[123,10] }:ByteArray)++bs S++{ data:=#[10,125] }=bs ([123,10]++(S++[10,125])) from by
  rw [show ({ data:=#[123,10] }:ByteArray)=bs [123,10] from rfl,show ({ data:=#[10,125] }:ByteArray)=bs [10,125] from rfl,bs_app9,bs_app9,List.append_assoc])
 have E2:=Lib.hid (show ({ data:=#[10,59,10] }:ByteArray)++bs S++{ data:=#[32,35,32,102,105,32,100,111,110,101,10] }=bs ([10,59,10]++(S++[32,35,32,102,105,32,100,111,110,101,10])) from by
  rw [show ({ data:=#[10,59,10] }:ByteArray)=bs [10,59,10] from rfl,show ({ data:=#[32,35,32,102,105,32,100,111,110,101,10] }:ByteArray)=bs [32,35,32,102,105,32,100,111,110,101,10] from rfl,bs_app9,bs_app9,List.append_assoc])
 have E3:=Lib.hid (show ({ data:=#[105,102,32] }:ByteArray)++bs S++{ data:=#[10,116,104,101,110,32] }++bs T++{ data:=#[10,102,105] }=bs ([105,102,32]++(S++([10,116,104,101,110,32]++(T++[10,102,105])))) from by
  rw [show ({ data:=#[105,102,32] }:ByteArray)=bs [105,102,32] from rfl,show ({ data:=#[10,116,104,101,110,32] }:ByteArray)=bs [10,116,104,101,110,32] from rfl,show ({ data:=#[10,102,105] }:ByteArray)=bs [10,102,105] from rfl,bs_app9,bs_app9,bs_app9,bs_app9]
  simp only [List.append_assoc])
 have E4:=Lib.hid (show ({ data:=#[123,10] }:ByteArray)++bs S++{ data:=#[10,125,10,123,10] }++bs T++{ data:=#[10,125] }=bs ([123,10]++(S++([10,125,10,123,10]++(T++[10,125])))) from by
  rw [show ({ data:=#[123,10] }:ByteArray)=bs [123,10] from rfl,show ({ data:=#[10,125,10,123,10] }:ByteArray)=bs [10,125,10,123,10] from rfl,show ({ data:=#[10,125] }:ByteArray)=bs [10,125] from rfl,bs_app9,bs_app9,bs_app9,bs_app9]
  simp only [List.append_assoc])
 obtain ⟨R1,hR1⟩:∃ R,[123,10]++(S++[10,125])=R:=⟨_,rfl⟩
 obtain ⟨R2,hR2⟩:∃ R,[10,59,10]++(S++[32,35,32,102,105,32,100,111,110,101,10])=R:=⟨_,rfl⟩
 obtain ⟨R3,hR3⟩:∃ R,[105,102,32]++(S++([10,116,104,101,110,32]++(T++[10,102,105])))=R:=⟨_,rfl⟩
 obtain ⟨R4,hR4⟩:∃ R,[123,10]++(S++([10,125,10,123,10]++(T++[10,125])))=R:=⟨_,rfl⟩
 have HR1:=Lib.hid (show R1.length≤8192 from by rw [← hR1]; simp; omega)
 have HR2:=Lib.hid (show R2.length≤8192 from by rw [← hR2]; simp; omega)
 have HR3:=Lib.hid (show R3.length≤8192 from by rw [← hR3]; simp; omega)
 have HR4:=Lib.hid (show R4.length≤8192 from by rw [← hR4]; simp; omega)
 have HG:=Lib.hid fun (h9:∀ c∈S,c.toNat≠92∧c.toNat≠35) (h8:∀ c∈T,c.toNat≠92∧c.toNat≠35) (a b:Prog) (ha:parseA S = .ok a) (hb:parseA T = .ok b)=>(show OkOr102 R1 a∧OkOr102 R2 a∧OkOr102 R3 (newP 24 0 [] [a,b,seqP []])∧OkOr102 R4 (seqP [a,b]) from by
  rw [← hR1,← hR2,← hR3,← hR4]
  exact ⟨group_one h1 h9 ha,group_two h1 h9 ha,group_three h1 h9 ha h2 h8 hb,group_four h1 h9 ha h2 h8 hb⟩)
 rw [hR1] at E1
 rw [hR2] at E2
 rw [hR3] at E3
 rw [hR4] at E4
 clear hR1 hR2 hR3 hR4
 clear h1 h2
 go_enter Tryz.func14,Tryz.ntmps14
 go_wp2_with fail
 refine (first11_any _ sent hS hmx het).mono ?_
 rintro e w1 ⟨rfl,hb1⟩
 have hge:18<w.heap.size:=block_lt_of_cell het
 clear hS hmx het
 go_wp2_with fail
 refine (HPA.out S (by have:=HZ1.out; omega) _ hb1).mono ?_
 rintro e w2 ⟨va,xa,rfl,hoa,hb2⟩
 have hB2:=bNext hb1 hb2
 have HOA:=Lib.hid hoa
 clear hoa
 go_wp2_with fail
 refine (HPA.out T (by have:=HZ2.out; omega) _ hB2).mono ?_
 rintro e w3 ⟨vb,xb,rfl,hob,hb3⟩
 have hB3:=bNext hB2 hb3
 have HOB:=Lib.hid hob
 have HOA3:=Lib.hid (HOA.out.below hb3)
 clear hob HOA hb2
 cases hpa:parseA S with
 | error ea =>
  obtain ⟨ty,ad,rfl⟩:=HOA3.out.err hpa
  clear HOA3 HOB
  go_wp2_with fail
  go_ret
  exact ⟨rfl,hB3⟩
 | ok a =>
  obtain ⟨rfl,ba,hNa⟩:=HOA3.out.ok hpa
  cases hpb:parseA T with
  | error eb =>
   obtain ⟨ty,ad,rfl⟩:=HOB.out.err hpb
   clear HOA3 HOB hNa
   go_wp2_with fail
   go_ret
   exact ⟨rfl,hB3⟩
  | ok b =>
   obtain ⟨rfl,bb,hNb⟩:=HOB.out.ok hpb
   have HQA:=Lib.hid hpa
   have HQB:=Lib.hid hpb
   have HNA:=Lib.hid hNa
   have HNB:=Lib.hid hNb
   obtain ⟨ga,ca,rfl,-⟩:=hNa
   obtain ⟨gb,cb,rfl,-⟩:=hNb
   clear HOA3 HOB hpa hpb
   obtain ⟨a1,a2,a3⟩:=parse_sizes (by have:=HZ1.out; omega) HQA.out
   obtain ⟨b1,b2,b3⟩:=parse_sizes (by have:=HZ2.out; omega) HQB.out
   have HDA:=Lib.hid fun (w9:World) (hN:NSl w9 ba (.slice (some ⟨ga,0,none⟩) a.length ca) a)=>cDepth_any a ba _ w9 hN a1 a2 (by omega)
   have HDB:=Lib.hid fun (w9:World) (hN:NSl w9 bb (.slice (some ⟨gb,0,none⟩) b.length cb) b)=>cDepth_any b bb _ w9 hN b1 b2 (by omega)
   have HLA:=Lib.hid (show 0<a.length∧a.length≤3000 from ⟨a2,a3⟩)
   have HLB:=Lib.hid (show 0<b.length∧b.length≤3000 from ⟨b2,b3⟩)
   obtain ⟨la,hla⟩:∃ n,a.length=n:=⟨_,rfl⟩
   obtain ⟨lb,hlb⟩:∃ n,b.length=n:=⟨_,rfl⟩
   rw [hla,hlb]
   rw [hla] at HDA HNA
   rw [hlb] at HDB HNB
   have HEA:=Lib.hid hla
   have HEB:=Lib.hid hlb
   clear hla hlb a1 a2 a3 b1 b2 b3
   go_wp2_with fail
   refine (HDA.out _ HNA.out).mono ?_
   rintro e w4 ⟨⟨m1,rfl,m2,m3⟩,hb4⟩
   have hB4:=bNext hB3 hb4
   have HNA4:=Lib.hid (HNA.out.below hb4)
   have HNB4:=Lib.hid (HNB.out.below hb4)
   clear HDA HNA HNB hb4
   by_cases c1:20<m1
   ·have z1:decide ((20:Int)<m1)=true:=decide_eq_true c1
    go_wp2_with fail
    go_ret
    exact ⟨rfl,hB4⟩
   ·have z1:decide ((20:Int)<m1)=false:=decide_eq_false c1
    go_wp2_with fail
    refine (HDB.out _ HNB4.out).mono ?_
    rintro e w5 ⟨⟨m4,rfl,m5,m6⟩,hb5⟩
    have hB5:=bNext hB4 hb5
    have HNA5:=Lib.hid (HNA4.out.below hb5)
    have HNB5:=Lib.hid (HNB4.out.below hb5)
    clear HDB HNA4 HNB4 hb5
    by_cases c2:20<m4
    ·have z2:decide ((20:Int)<m4)=true:=decide_eq_true c2
     go_wp2_with fail
     go_ret
     exact ⟨rfl,hB5⟩
    ·have z2:decide ((20:Int)<m4)=false:=decide_eq_false c2
     go_wp2_with fail
     rw [E1.out]
     refine (HPA.out R1 HR1.out _ hB5).mono ?_
     rintro e w6 ⟨v1,x1,rfl,ho1,hb6⟩
     have hB6:=bNext hB5 hb6
     have HO1:=Lib.hid ho1
     have HNA6:=Lib.hid (HNA5.out.below hb6)
     have HNB6:=Lib.hid (HNB5.out.below hb6)
     clear ho1 HNA5 HNB5 hb6
     go_wp2_with fail
     rw [E2.out]
     refine (HPA.out R2 HR2.out _ hB6).mono ?_
     rintro e w7 ⟨v2,x2,rfl,ho2,hb7⟩
     have hB7:=bNext hB6 hb7
     have HO2:=Lib.hid ho2
     have HO1':=Lib.hid (HO1.out.below hb7)
     have HNA7:=Lib.hid (HNA6.out.below hb7)
     have HNB7:=Lib.hid (HNB6.out.below hb7)
     clear ho2 HNA6 HNB6 hb7 HO1
     go_wp2_with fail
     rw [E3.out]
     refine (HPA.out R3 HR3.out _ hB7).mono ?_
     rintro e w8 ⟨v3,x3,rfl,ho3,hb8⟩
     have hB8:=bNext hB7 hb8
     have HO3:=Lib.hid ho3
     have HO1:=Lib.hid (HO1'.out.below hb8)
     have HO2':=Lib.hid (HO2.out.below hb8)
     have HNA8:=Lib.hid (HNA7.out.below hb8)
     have HNB8:=Lib.hid (HNB7.out.below hb8)
     clear ho3 HNA7 HNB7 hb8 HO1' HO2
     go_wp2_with fail
     rw [E4.out]
     refine (HPA.out R4 HR4.out _ hB8).mono ?_
     rintro e w9 ⟨v4,x4,rfl,ho4,hb9⟩
     have hB9:=bNext hB8 hb9
     have HO4:=Lib.hid ho4
     have HO1':=Lib.hid (HO1.out.below hb9)
     have HO2:=Lib.hid (HO2'.out.below hb9)
     have HO3':=Lib.hid (HO3.out.below hb9)
     have HNA9:=Lib.hid (HNA8.out.below hb9)
     have HNB9:=Lib.hid (HNB8.out.below hb9)
     clear ho4 HNA8 HNB8 hb9 HO1 HO2' HO3
     go_wp2_with fail
     refine (HFA.out R1 HR1.out _ _ _ hB9 HO1'.out).mono ?_
     obtain ⟨c1,hc1⟩:∃ c,codeA (parseA R1)=c:=⟨_,rfl⟩
     rw [hc1]
     have HC1:=Lib.hid hc1
     clear hc1
     rintro e wa ⟨⟨uo1,un1,uc1,rfl⟩,hba⟩
     have hf1:=field_code c1 uo1 un1 uc1 wa
     have hBa:=bNext hB9 hba
     by_cases k1:c1=102
     ·subst k1
      have hf9:=field_code 102 uo1 un1 uc1 wa
      go_wp2_with fail
      go_ret
      exact ⟨rfl,hBa⟩
     have z13:((c1:Int) == 102)=false:=by rw [beq_eq_false_iff_ne]; omega
     have HO1a:=Lib.hid (HO1'.out.below hba)
     have HO2a:=Lib.hid (HO2.out.below hba)
     have HO3a:=Lib.hid (HO3'.out.below hba)
     have HO4a:=Lib.hid (HO4.out.below hba)
     have HNAa:=Lib.hid (HNA9.out.below hba)
     have HNBa:=Lib.hid (HNB9.out.below hba)
     clear HO1' HO2 HO3' HO4 HNA9 HNB9 hba hB9
     go_wp2_with fail
     refine (HFA.out R2 HR2.out _ _ _ hBa HO2a.out).mono ?_
     obtain ⟨c2,hc2⟩:∃ c,codeA (parseA R2)=c:=⟨_,rfl⟩
     rw [hc2]
     have HC2:=Lib.hid hc2
     clear hc2
     rintro e wb ⟨⟨uo2,un2,uc2,rfl⟩,hbb⟩
     have hf2:=field_code c2 uo2 un2 uc2 wb
     have hBb:=bNext hBa hbb
     by_cases k2:c2=102
     ·subst k2
      have hf9:=field_code 102 uo2 un2 uc2 wb
      go_wp2_with fail
      go_ret
      exact ⟨rfl,hBb⟩
     have z23:((c2:Int) == 102)=false:=by rw [beq_eq_false_iff_ne]; omega
     have HO1b:=Lib.hid (HO1a.out.below hbb)
     have HO2b:=Lib.hid (HO2a.out.below hbb)
     have HO3b:=Lib.hid (HO3a.out.below hbb)
     have HO4b:=Lib.hid (HO4a.out.below hbb)
     have HNAb:=Lib.hid (HNAa.out.below hbb)
     have HNBb:=Lib.hid (HNBa.out.below hbb)
     clear HO1a HO2a HO3a HO4a HNAa HNBa hbb hBa
     go_wp2_with fail
     refine (HFA.out R3 HR3.out _ _ _ hBb HO3b.out).mono ?_
     obtain ⟨c3,hc3⟩:∃ c,codeA (parseA R3)=c:=⟨_,rfl⟩
     rw [hc3]
     have HC3:=Lib.hid hc3
     clear hc3
     rintro e wc ⟨⟨uo3,un3,uc3,rfl⟩,hbc⟩
     have hf3:=field_code c3 uo3 un3 uc3 wc
     have hBc:=bNext hBb hbc
     by_cases k3:c3=102
     ·subst k3
      have hf9:=field_code 102 uo3 un3 uc3 wc
      go_wp2_with fail
      go_ret
      exact ⟨rfl,hBc⟩
     have z33:((c3:Int) == 102)=false:=by rw [beq_eq_false_iff_ne]; omega
     have HO1c:=Lib.hid (HO1b.out.below hbc)
     have HO2c:=Lib.hid (HO2b.out.below hbc)
     have HO3c:=Lib.hid (HO3b.out.below hbc)
     have HO4c:=Lib.hid (HO4b.out.below hbc)
     have HNAc:=Lib.hid (HNAb.out.below hbc)
     have HNBc:=Lib.hid (HNBb.out.below hbc)
     clear HO1b HO2b HO3b HO4b HNAb HNBb hbc hBb
     go_wp2_with fail
     refine (HFA.out R4 HR4.out _ _ _ hBc HO4c.out).mono ?_
     obtain ⟨c4,hc4⟩:∃ c,codeA (parseA R4)=c:=⟨_,rfl⟩
     rw [hc4]
     have HC4:=Lib.hid hc4
     clear hc4
     rintro e wd ⟨⟨uo4,un4,uc4,rfl⟩,hbd⟩
     have hf4:=field_code c4 uo4 un4 uc4 wd
     have hBd:=bNext hBc hbd
     by_cases k4:c4=102
     ·subst k4
      have hf9:=field_code 102 uo4 un4 uc4 wd
      go_wp2_with fail
      go_ret
      exact ⟨rfl,hBd⟩
     have z43:((c4:Int) == 102)=false:=by rw [beq_eq_false_iff_ne]; omega
     have HO1:=Lib.hid (HO1c.out.below hbd)
     have HO2:=Lib.hid (HO2c.out.below hbd)
     have HO3:=Lib.hid (HO3c.out.below hbd)
     have HO4:=Lib.hid (HO4c.out.below hbd)
     have HNA:=Lib.hid (HNAc.out.below hbd)
     have HNB:=Lib.hid (HNBc.out.below hbd)
     clear HO1c HO2c HO3c HO4c HNAc HNBc
     go_upto_block 0 with fail
     obtain ⟨N,hN⟩:∃ N,(S++T).length=N:=⟨_,rfl⟩
     have HN:=Lib.hid hN
     have hnn:(bs S).size+(bs T).size=N:=by rw [bs_size,bs_size,← hN,List.length_append]
     have hn2:(bs S++bs T).size=N:=by rw [bs_app9,bs_size,hN]
     clear hN
     go_cut [] (fun w9=>(∀ c∈S++T,c.toNat≠92∧c.toNat≠35)∧wd=w9)
     case first =>
      go_wp2_with fail
      go_loopg [18] N (fun m s18 wr=>∃ k:Nat,m=N - k∧k≤N∧s18 = .int .i64 k∧Hid (∀ c∈(S++T).take k,c.toNat≠92∧c.toNat≠35)∧wd=wr)
      case atStart=>exact ⟨0,rfl,Nat.zero_le _,rfl,Lib.hid (by simp),rfl⟩
      case round =>
       obtain ⟨k,rfl,hk,rfl,hall,rfl⟩:=hrel
       by_cases h1:k<N
       ·obtain ⟨c,hc⟩:∃ c,(S++T)[k]?=some c:=⟨_,List.getElem?_eq_getElem (by have:=HN.out; omega)⟩
        have HCC:=Lib.hid hc
        have hidx:∀ h,(bs S++bs T)[k]'h=c:=fun h=>by
         have h9:(bs (S++T)).data.toList[k]?=some c:=by rw [bs_list]; exact hc
         have h8:(bs S++bs T).data.toList[k]?=some c:=by rw [bs_app9]; exact h9
         rw [Array.getElem?_toList,Array.getElem?_eq_getElem (by simpa using h)] at h8
         exact Option.some.inj h8
        clear hc
        obtain ⟨z,hz⟩:∃ z:Int,(c.toNat:Int)=z:=⟨_,rfl⟩
        have HZ:=Lib.hid hz
        by_cases e35:z=35
        ·subst e35
         go_wp2_with fail
         go_ret
         exact ⟨rfl,hBd⟩
        by_cases e92:z=92
        ·subst e92
         go_wp2_with fail
         go_ret
         exact ⟨rfl,hBd⟩
        have f35:(z == 35)=false:=by rw [beq_eq_false_iff_ne]; exact e35
        have f92:(z == 92)=false:=by rw [beq_eq_false_iff_ne]; exact e92
        go_wp2_with fail
        go_roundg (N - (k+1))
        case measure=>omega
        case rel=>exact ⟨k+1,rfl,by omega,by go_num,Lib.hid (fun x hx=>by
         rw [List.take_add_one,HCC.out] at hx
         rcases List.mem_append.1 hx with hx | hx
         ·exact hall.out x hx
         ·simp at hx
          subst hx
          have:=HZ.out
          omega),rfl⟩
       ·obtain rfl:k=N:=by omega
        go_wp2_with fail
        go_meet
        case rel=>exact ⟨by have h:=hall.out; rw [← HN.out,List.take_length] at h; exact h,rfl⟩
     case rest =>
      obtain ⟨hall,rfl⟩:=hcut
      obtain ⟨g1,g2,g3,g4⟩:=HG.out (fun c hc=>hall c (by simp [hc])) (fun c hc=>hall c (by simp [hc])) a b HQA.out HQB.out
      obtain ⟨rfl,n1,hN1⟩:=HO1.out.ok (g1.ok (by rw [HC1.out]; exact k1))
      obtain ⟨rfl,n2,hN2⟩:=HO2.out.ok (g2.ok (by rw [HC2.out]; exact k2))
      obtain ⟨rfl,n3,hN3⟩:=HO3.out.ok (g3.ok (by rw [HC3.out]; exact k3))
      obtain ⟨rfl,n4,hN4⟩:=HO4.out.ok (g4.ok (by rw [HC4.out]; exact k4))
      have hsz:3≤wd.heap.size:=by
       have h9:=hBd.size
       have h8:18<w.heap.size:=hge
       omega
      obtain ⟨b9,hb9,hbA,hbB⟩:∃ b9,b9<wd.heap.size∧ga≠b9∧gb≠b9:=by
       by_cases q0:ga≠0∧gb≠0
       ·exact ⟨0,by omega,q0.1,q0.2⟩
       by_cases q1:ga≠1∧gb≠1
       ·exact ⟨1,by omega,q1.1,q1.2⟩
       exact ⟨2,by omega,by omega,by omega⟩
      have hA9:NSl wd b9 (.slice (some ⟨ga,0,none⟩) la ca) a:=HNA.out.at (fun g n c e=>by cases e; exact hbA)
      have hB9':NSl wd b9 (.slice (some ⟨gb,0,none⟩) lb cb) b:=HNB.out.at (fun g n c e=>by cases e; exact hbB)
      have HN1:=Lib.hid hN1
      have HN2:=Lib.hid hN2
      have HN3:=Lib.hid hN3
      have HN4:=Lib.hid hN4
      have HA:=Lib.hid hA9
      have HB:=Lib.hid hB9'
      obtain ⟨h1g,h1c,rfl,-⟩:=hN1
      obtain ⟨h2g,h2c,rfl,-⟩:=hN2
      obtain ⟨h3g,h3c,rfl,-⟩:=hN3
      obtain ⟨h4g,h4c,rfl,-⟩:=hN4
      rw [HEA.out] at HN1 HN2 ⊢
      obtain ⟨l3,hl3⟩:∃ n,(newP 24 0 [] [a,b,seqP []]).length=n:=⟨_,rfl⟩
      obtain ⟨l4,hl4⟩:∃ n,(seqP [a,b]).length=n:=⟨_,rfl⟩
      rw [hl3] at HN3
      rw [hl4] at HN4
      rw [hl3,hl4]
      have hfl:(seqP []).length=1:=rfl
      have HBN:=Lib.hid (show (newP 24 0 [] [a,b,seqP []]).length≤100000000 from by
       have:=HLA.out
       have:=HLB.out
       rw [len_newP]
       simp only [List.flatten_cons,List.flatten_nil,List.append_nil,List.length_append]
       omega)
      have HBS:=Lib.hid (show (seqP [a,b]).length≤100000000 from by
       have:=HLA.out
       have:=HLB.out
       have:=(len_seqP [a,b]).1
       simp only [List.flatten_cons,List.flatten_nil,List.append_nil,List.length_append] at this
       omega)
      clear hfl
      have HL3:=Lib.hid hl3
      have HL4:=Lib.hid hl4
      clear hl3 hl4 hA9 hB9' HO1 HO2 HO3 HO4 HNA HNB g1 g2 g3 g4 hall hbd hf1 hf2 hf3 hf4 HPA HFA HG
      go_wp2_with fail
      refine (cNewS_any 20 0 [] [] b9 (.slice none 0 0) wd hb9 (KSl.nil _ _) (by simp) (by simp)).mono ?_
      rintro e we ⟨vn,rfl,hvn,hbe⟩
      have HVN:=Lib.hid (show NSl we b9 vn (seqP []) from hvn)
      obtain ⟨gn,cn,rfl,-⟩:=id HVN.out
      have hBe:=bNext hBd hbe
      have HN1e:=Lib.hid (HN1.out.below hbe)
      have HN2e:=Lib.hid (HN2.out.below hbe)
      have HN3e:=Lib.hid (HN3.out.below hbe)
      have HN4e:=Lib.hid (HN4.out.below hbe)
      have HAe:=Lib.hid (HA.out.below hbe)
      have HBe:=Lib.hid (HB.out.below hbe)
      have hb9e:b9<we.heap.size:=Nat.lt_of_lt_of_le hb9 hbe.size
      clear hvn HN1 HN2 HN3 HN4 HA HB hbe hb9 hBd
      go_wp2_with fail
      refine (cSame_eq a n1 b9 _ _ we HN1e.out HAe.out (by have:=HLA.out; omega)).mono ?_
      rintro e wf ⟨rfl,hbf⟩
      have hBf:=bNext hBe hbf
      have HN2f:=Lib.hid (HN2e.out.below hbf)
      have HN3f:=Lib.hid (HN3e.out.below hbf)
      have HN4f:=Lib.hid (HN4e.out.below hbf)
      have HAf:=Lib.hid (HAe.out.below hbf)
      have HBf:=Lib.hid (HBe.out.below hbf)
      have HVf:=Lib.hid (HVN.out.below hbf)
      have hb9f:b9<wf.heap.size:=Nat.lt_of_lt_of_le hb9e hbf.size
      clear HN1e HN2e HN3e HN4e HAe HBe HVN hbf hb9e hBe
      go_wp2_with fail
      refine (cSame_eq a n2 b9 _ _ wf HN2f.out HAf.out (by have:=HLA.out; omega)).mono ?_
      rintro e wg ⟨rfl,hbg⟩
      have hBg:=bNext hBf hbg
      have HN3g:=Lib.hid (HN3f.out.below hbg)
      have HN4g:=Lib.hid (HN4f.out.below hbg)
      have HAg:=Lib.hid (HAf.out.below hbg)
      have HBg:=Lib.hid (HBf.out.below hbg)
      have HVg:=Lib.hid (HVf.out.below hbg)
      have hb9g:b9<wg.heap.size:=Nat.lt_of_lt_of_le hb9f hbg.size
      clear HN2f HN3f HN4f HAf HBf HVf hbg hb9f hBf
      have hb0:=(Below.refl wg.heap.size wg).alloc (Nat.le_refl _) (.cells #[.slice (some ⟨ga,0,none⟩) la ca,.slice (some ⟨gb,0,none⟩) lb cb,.slice (some ⟨gn,0,none⟩) (seqP []).length cn] 23)
      have HK3:=Lib.hid (KSl.new3 hb9g (.inl HAg.out) (.inl HBg.out) (.inl HVg.out))
      have hs3:[a,b,seqP []].flatten.length≤1000000000000:=by
       have:=HLA.out
       have:=HLB.out
       have h9:(seqP []).length=1:=rfl
       simp only [List.flatten_cons,List.flatten_nil,List.append_nil,List.length_append]
       omega
      have HNW:=Lib.hid (cNewS_any 24 0 [] [a,b,seqP []] b9 _ _ (by have:=hb0.size; omega) HK3.out hs3 (by simp))
      go_wp2_with fail
      refine HNW.out.mono ?_
      rintro e wh ⟨v5,rfl,hN5,hbh⟩
      have HN5:=Lib.hid hN5
      obtain ⟨g5,c5,rfl,-⟩:=id hN5
      have hBh:=bNext hBg (bNext hb0 hbh)
      have hbgh:=bNext hb0 hbh
      have HN3h:=Lib.hid (HN3g.out.below hbgh)
      have HN4h:=Lib.hid (HN4g.out.below hbgh)
      have HAh:=Lib.hid (HAg.out.below hbgh)
      have HBh:=Lib.hid (HBg.out.below hbgh)
      have hb9h:b9<wh.heap.size:=Nat.lt_of_lt_of_le hb9g hbgh.size
      clear hN5 HNW HK3 HN3g HN4g HAg HBg HVg hb0 hbh hbgh hb9g hBg
      go_wp2_with fail
      refine (cSame_eq (newP 24 0 [] [a,b,seqP []]) n3 b9 _ _ wh HN3h.out HN5.out HBN.out).mono ?_
      rintro e wi ⟨rfl,hbi⟩
      have hBi:=bNext hBh hbi
      have HN4i:=Lib.hid (HN4h.out.below hbi)
      have HAi:=Lib.hid (HAh.out.below hbi)
      have HBi:=Lib.hid (HBh.out.below hbi)
      have hb9i:b9<wi.heap.size:=Nat.lt_of_lt_of_le hb9h hbi.size
      clear HN3h HN4h HAh HBh hbi hb9h hBh HN5
      have hb0:=(Below.refl wi.heap.size wi).alloc (Nat.le_refl _) (.cells #[.slice (some ⟨ga,0,none⟩) la ca,.slice (some ⟨gb,0,none⟩) lb cb] 23)
      have HK2:=Lib.hid (KSl.new2 hb9i (.inl HAi.out) (.inl HBi.out))
      have hs2:[a,b].flatten.length≤100000000:=by
       have:=HLA.out
       have:=HLB.out
       simp only [List.flatten_cons,List.flatten_nil,List.append_nil,List.length_append]
       omega
      have HSQ:=Lib.hid (cSeq_any [a,b] b9 _ _ (by have:=hb0.size; omega) (fun l hl=>by
       have:=HLA.out
       have:=HLB.out
       simp only [List.mem_cons,List.not_mem_nil,or_false] at hl
       rcases hl with rfl | rfl <;> omega) hs2 (by simp) HK2.out)
      go_wp2_with fail
      refine HSQ.out.mono ?_
      rintro e wj ⟨v6,rfl,hN6,hbj⟩
      have HN6:=Lib.hid hN6
      obtain ⟨g6,c6,rfl,-⟩:=id hN6
      have hbij:=bNext hb0 hbj
      have hBj:=bNext hBi hbij
      have HN4j:=Lib.hid (HN4i.out.below hbij)
      clear hN6 HSQ HK2 HN4i HAi HBi hb0 hbj hbij hb9i hBi
      go_wp2_with fail
      refine (cSame_eq (seqP [a,b]) n4 b9 _ _ wj HN4j.out HN6.out HBS.out).mono ?_
      rintro e wk ⟨rfl,hbk⟩
      have hBk:=bNext hBj hbk
      go_wp2_with fail
      go_ret
      exact ⟨rfl,hBk⟩
theorem groupsLawA_all (s t:ByteArray) (w:World) (sent:Nat→Addr) (hS:Sents w sent) (hmx:∃ m,w.cell? ⟨9,0,none⟩=some (.int .i64 m)) (het:w.cell? ⟨18,0,none⟩=some (.iface 162 (.agg #[.pointer (some ⟨19,25,none⟩)]))) :
  Calls Tryz.prog 14 #[.string s,.string t] w fun e w'=>e = .returned (.bool true)∧Below w.heap.size w w':=by
 by_cases h1:s.size≤700
 ·by_cases h2:t.size≤700
  ·have h:=groupsLawA_in s.data.toList t.data.toList w sent hS hmx het (by rw [size_eq]; exact h1) (by rw [size_eq]; exact h2)
   rw [bs_of,bs_of] at h
   exact h
  ·have y1:decide ((700:Int)<(s.size:Int))=false:=by rw [decide_eq_false_iff_not]; omega
   have y2:decide ((700:Int)<(t.size:Int))=true:=by rw [decide_eq_true_eq]; omega
   go_enter Tryz.func14,Tryz.ntmps14
   go_wp2_with fail
   refine (first11_any _ sent hS hmx het).mono ?_
   rintro e w1 ⟨rfl,hb1⟩
   go_wp2_with fail
   go_ret
   exact ⟨rfl,hb1⟩
 ·have y1:decide ((700:Int)<(s.size:Int))=true:=by rw [decide_eq_true_eq]; omega
  go_enter Tryz.func14,Tryz.ntmps14
  go_wp2_with fail
  refine (first11_any _ sent hS hmx het).mono ?_
  rintro e w1 ⟨rfl,hb1⟩
  go_wp2_with fail
  go_ret
  exact ⟨rfl,hb1⟩
end Go.Proofs.YtepebnblbheegaaGreatDoor
