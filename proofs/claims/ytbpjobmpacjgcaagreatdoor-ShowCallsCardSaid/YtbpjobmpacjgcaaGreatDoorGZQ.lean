/- show.A, show.B of the chapter's examples. -/
import Derived.Test.YtbpjobmpacjgcaaGreatDoorGShowCZ
import Derived.Test.YtbpjobmpacjgcaaGreatDoorGZF
namespace Go.Proofs.YtbpjobmpacjgcaaGreatDoor
open Go Go.RowKit
def nL:aA:=aC 21 0 [] [ndP 2 [120]]
theorem Ed:∀ p∈[ndP 2 [120]],Al p:=fun p hp=>by rw[List.mem_singleton] at hp;subst hp;exact⟨2,[120],.inr rfl,rfl,by decide⟩
theorem vK:∀ p∈[ndP 2 [120]],kW p:=fun p hp=>by rw[List.mem_singleton] at hp;subst hp;exact k8 _ _ _ _
theorem Na (sent:Nat→Addr)(b:Nat)(v:Value)(w:World)(hb:b<w.heap.size)(hE:Env w sent)(hN:NSl w b v nL) :
  Calls Tryz.prog 8 #[v] w fun e w'=>e = .returned (.tuple #[.string ⟨#[]⟩,.iface 286 (.pointer (some (sent 115)))])∧Below w.heap.size w w' :=
 MI nL (CT Ed (by simp)) CY (nS _ _ _ _) sent b v w hE hN fun w1 h1=>xC 55 56 56 57 58 59 false (fun _ _=>by kernel_rfl) MY [ndP 2 [120]] b v w1 (Nat.lt_of_lt_of_le hb h1.size) (hN.below h1).at vK (by simp) (by simp [ndP,aC]) fun l hl w2 u h2 hu=>by
  rw[List.mem_singleton] at hl;subst hl;exact AU 2 (.inr rfl) [120] b u w2 (Nat.lt_of_lt_of_le hb (aE h1 h2).size) hu
theorem Nf (sent:Nat→Addr)(b:Nat)(v:Value)(w:World)(hb:b<w.heap.size)(hE:Env w sent)(hmx:∃ m,w.cell? ⟨12,0,none⟩=some (.int .i64 m))(hN:NSl w b v nL)
  (hp:∀ w1:World,Below w.heap.size w w1→Calls Tryz.prog 11 #[.string (bs [36,120])] w1 fun e w'=>∃ v,e = .returned (.tuple #[v,.nilIface])∧Below w1.heap.size w1 w') :
  Calls Tryz.prog 9 #[v] w fun e w'=>e = .returned (.tuple #[.string (bs [36,120]),.nilIface])∧Below w.heap.size w w':=by
 have hg:=fun (w1:World) (h:Below w.heap.size w w1)=>Nat.lt_of_lt_of_le hb h.size
 refine EG nL (CT Ed (by simp)) CY (nS _ _ _ _) [36,120] (by decide) sent b v w hE hN (fun w1 h1=>xC 64 64 63 66 64 67 true (fun _ _=>by kernel_rfl) (fun _=>true) [ndP 2 [120]] b v w1 (hg w1 h1) (hN.below h1).at vK (by simp) (by simp [ndP,aC]) fun l hl w2 u h2 hu=>?_)
  (z8 _ _ _ _ _ _ (.inl rfl) b v _ w hN.at (fun w1 h=>(mB 21 0 [] _ b v w1 (hg w1 h) vK (by simp [ndP,aC]) (hN.below h).at).mono fun e w' ⟨v',he,_,hb'⟩=>⟨v',he,hb'⟩)
   (Aq _ _ _ _ (fun _ _=>by kernel_rfl) shB [ndP 2 [120]] (by simp) b v w hb hN.at vK (by simp) (by simp [ndP,aC]) (fun l hl=>?_) fun l hl w1 u h1 hu=>?_)) hp
 all_goals
  rw[List.mem_singleton] at hl;subst hl
 ·exact wR 2 (.inr rfl) [120] b u w2 (hg w2 (aE h1 h2)) hu
 ·decide
 ·exact wJ 2 (.inr rfl) [120] b u w1 (hmx.elim fun m hm=>⟨m,aF h1 hm⟩) (by decide) hu
set_option maxHeartbeats 16000000
set_option maxRecDepth 100000
theorem wZ (L:List aA)(b:Nat)(v:Value)(w:World)(hb:b<w.heap.size)(hK:KSl w b v L)(hsz:L.flatten.length≤1000000)(hn:L.length≤100000) :
  Calls Tryz.prog 6 #[v] w fun e w'=>∃ v',e = .returned v'∧NSl w' b v' (aC 21 0 [] L)∧Below w.heap.size w w':=by
 have HN:=Ng (bT 21 0 [] L b v w hb hK (by omega) (by omega))
 obtain⟨ao,cap,rfl,-⟩:=hK;generalize L.length=n at *;go_enter Tryz.func6,Tryz.ntmps6
 go_wp2_with fail
 refine HN.out.mono ?_;rintro e w1 ⟨v1,rfl,h1,hb1⟩;go_wp2_with fail
 go_ret;exact⟨_,rfl,h1,hb1⟩
def exL:List (List UInt8):=[[101,99,104,111],[97,32,98]]
theorem A5 (sent:Nat→Addr)(w:World)(hS:kA w sent)(hmx:∃ m,w.cell? ⟨12,0,none⟩=some (.int .i64 m))(het:w.cell? ⟨8,0,none⟩=some (.iface 134 (.agg #[.pointer (some ⟨18,31,none⟩)]))) :
  Calls Tryz.prog 4 #[] w fun e w'=>e = .returned (.bool true)∧Below w.heap.size w w':=by
 have hg:12<w.heap.size:=hmx.elim fun m hm=>block_lt_of_cell hm
 have hel:∀ s∈exL,s.length≤2000:=by decide
 obtain⟨R,S⟩:Red (kR exL) (iI cS exL) (iI cE exL) w∧Say (kR exL) (iI cS exL) (iI cE exL) w:=DK false exL (by decide) hel (by decide) [] (fun x h=>nomatch h) (by simp) (by decide) (by decide) sent w hS hmx het
 have HSe:=Ng hS;have HMX:=Ng hmx;have hMX:∀ w1,Below w.heap.size w w1→∃ m,w1.cell? ⟨12,0,none⟩=some (.int .i64 m):=fun w1 h=>HMX.out.elim fun m hm=>⟨m,aF h hm⟩
 have HPB:=Ng fun w1 h=>(R w1 h).2
 have HPA:=Ng fun w1 h=>(R w1 h).1
 have HPX:=Ng fun (w1:World) (h:Below w.heap.size w w1)=>x6 [36,120] nL Lz (by decide) MU w1 sent (HSe.out.below h) (hMX w1 h)
 have HA:=Ng fun (w1:World) (v:Value) (h:Below w.heap.size w w1) (hv:NSl w1 12 v (kR exL))=>(S w1 v h hv).1
 have HB:=Ng fun (w1:World) (v:Value) (h:Below w.heap.size w w1) (hv:NSl w1 12 v (kR exL))=>(S w1 v h hv).2.1
 have HAN:=Ng fun (w1:World) (v:Value) (h:Below w.heap.size w w1) (hv:NSl w1 12 v nL)=>Na sent 12 v w1 (Nat.lt_of_lt_of_le hg h.size) (HSe.out.below h).env hv
 have HBX:=Ng fun (w1:World) (v:Value) (h:Below w.heap.size w w1) (hv:NSl w1 12 v nL)=>Nf sent 12 v w1 (Nat.lt_of_lt_of_le hg h.size) (HSe.out.below h).env (hMX w1 h) hv
  (fun w2 h2=>(HPX.out w2 (aE h h2)).mono fun e w' ⟨g,c,b',he,_,hb'⟩=>⟨_,he,hb'⟩)
 have HSay:=Ng fun (w1:World) (h:Below w.heap.size w w1)=>(HSe.out.below h).env 115 0 (by simp [cH])
 have hq1:aR [101,99,104,111]=aR [101,99,104,111]:=rfl;clear R S hel hS hmx het hMX;go_enter Tryz.func4,Tryz.ntmps4
 go_wp2_with fail
 refine (qW [101,99,104,111] 12 w hg).mono ?_;rintro e w1 ⟨v1,rfl,h1,hb1⟩;go_wp2_with fail
 refine (qW [97,32,98] 12 w1 (Nat.lt_of_lt_of_le hg hb1.size)).mono ?_;rintro e w2 ⟨v2,rfl,h2,hb2⟩;have hb3:=aE hb1 hb2;have hg2:=Nat.lt_of_lt_of_le hg hb3.size;have hb4:=hb3.alloc hb3.size (.cells #[v1,v2] 26);obtain⟨g1,c1,rfl,-⟩:=id h1;obtain⟨g2,c2,rfl,-⟩:=id h2;have HK:=Ng (KSl.new2 hg2 (.inl (h1.below hb2)) (.inl h2));clear h1 h2;go_wp2_with fail
 refine (wZ [aR [101,99,104,111],aR [97,32,98]] 12 _ _ (Nat.lt_of_lt_of_le hg hb4.size) HK.out (by decide) (by decide)).mono ?_
 rintro e w3 ⟨v3,rfl,h3,hb5⟩;have hP:NSl w3 12 v3 (kR exL):=h3;have hb6:=aE hb4 hb5;clear h3 HK;have HP3:=Ng hP;obtain⟨g3,c3,rfl,-⟩:=id hP;clear hP;generalize hn3:(kR exL).length=n3 at *;go_wp2_with fail
 refine (HA.out w3 _ hb6 (by rw[← hn3] at *;exact HP3.out)).mono ?_
 rintro e w4 ⟨rfl,hb7⟩;have hb8:=aE hb6 hb7;go_wp2_with fail
 refine (HB.out w4 _ hb8 (by rw[← hn3] at *;exact HP3.out.below hb7)).mono ?_
 rintro e w5 ⟨rfl,hb9⟩;have hb10:=aE hb8 hb9;go_wp2_with fail
 refine (HPA.out w5 hb10).mono ?_;rintro e w6 ⟨g6,c6,b6,rfl,hq6,hb11⟩;have hb12:=aE hb10 hb11;go_wp2_with fail
 refine (HPB.out w6 hb12).mono ?_;rintro e w7 ⟨g7,c7,b7,rfl,hq7,hb13⟩;have hb14:=aE hb12 hb13;go_wp2_with fail
 refine (bT 2 0 [120] [] 12 _ w7 (Nat.lt_of_lt_of_le hg hb14.size) (KSl.nil _ _) (by simp) (by simp)).mono ?_
 rintro e w8 ⟨v8,rfl,h8,hb15⟩;have hb16:=aE hb14 hb15;have hg8:=Nat.lt_of_lt_of_le hg hb16.size;have hb17:=hb16.alloc hb16.size (.cells #[v8] 26);have HK8:=Ng (KSl.new1 hg8 (.inl h8));obtain⟨g8,c8,rfl,-⟩:=id h8;clear h8;go_wp2_with fail
 refine (wZ [ndP 2 [120]] 12 _ _ (Nat.lt_of_lt_of_le hg hb17.size) HK8.out (by decide) (by decide)).mono ?_
 rintro e w9 ⟨v9,rfl,h9,hb18⟩;have hb19:=aE hb17 hb18;have hV:NSl w9 12 v9 nL:=h9;have HV:=Ng hV;obtain⟨g9,c9,rfl,-⟩:=id hV;clear h9 hV HK8;generalize hn9:nL.length=n9 at *;go_wp2_with fail
 refine (HAN.out w9 _ hb19 (by rw[← hn9] at *;exact HV.out)).mono ?_
 rintro e w10 ⟨rfl,hb20⟩;have hb21:=aE hb19 hb20;go_wp2_with fail
 refine (HBX.out w10 _ hb21 (by rw[← hn9] at *;exact HV.out.below hb20)).mono ?_
 rintro e w11 ⟨rfl,hb22⟩;have hb23:=aE hb21 hb22;go_wp2_with fail
 refine (HPX.out w11 hb23).mono ?_;rintro e w12 ⟨g12,c12,b12,rfl,hq12,hb24⟩;have hb25:=aE hb23 hb24;have r9:=aE (aE hb20 hb22) hb24;have r7:=aE (aE ((Below.refl _ w8).alloc (Nat.le_refl _) (.cells #[.slice (some ⟨g8,0,none⟩) (aC 2 0 [120] []).length c8] 26)) hb18) r9;have r7:=aE hb15 r7;have r3:=aE (aE (aE (aE hb7 hb9) hb11) hb13) r7;obtain⟨ti,hti,htc⟩:=Option.map_eq_some_iff.1 zH;obtain⟨tj,htj,-⟩:=Option.map_eq_some_iff.1 y6;have HEq:=fun w=>run_eql_iface_ptr_same (P:=Tryz.prog) w (sent 115) Tryz.underlying31 Tryz.underlying286 hti htc htj
 have S1:=Ng (sR (kR exL) b6 12 _ _ w12 (hq6.below (aE hb13 r7)) (HP3.out.below r3) (by decide))
 have S2:=Ng fun (w':World) (h:Below w12.heap.size w12 w')=>sR (kR exL) b7 12 _ _ w' (hq7.below (aE r7 h)) (HP3.out.below (aE r3 h)) (by decide)
 have S3:=Ng fun (w':World) (h:Below w12.heap.size w12 w')=>sR nL b12 12 _ _ w' (hq12.below h) (HV.out.below (aE r9 h)) (by decide)
 clear HP3 HV HA HB HAN HBX HPX HPA HPB;go_wp2_with fail
 refine S1.out.mono ?_;rintro e w13 ⟨rfl,hb26⟩;go_wp2_with fail
 refine (S2.out w13 hb26).mono ?_;rintro e w14 ⟨rfl,hb27⟩;have hb28:=aE hb26 hb27;have he:=HSay.out w14 (aE hb25 hb28);go_wp2_with fail
 refine (S3.out w14 hb28).mono ?_;rintro e w15 ⟨rfl,hb29⟩;go_wp2_with fail
 go_ret;exact⟨rfl,aE hb25 (aE hb28 hb29)⟩
end Go.Proofs.YtbpjobmpacjgcaaGreatDoor
