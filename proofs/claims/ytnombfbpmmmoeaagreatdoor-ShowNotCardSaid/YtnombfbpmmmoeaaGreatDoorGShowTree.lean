/- show.writer: what stands in what: a pipe's parts, a !, a command with a word for it to hear. -/
import Derived.Test.YtnombfbpmmmoeaaGreatDoorGZS
import Derived.Laws.EntriesVeiled
namespace Go.Proofs.YtnombfbpmmmoeaaGreatDoor
set_option maxHeartbeats 8000000
set_option maxRecDepth 100000
open Go Go.RowKit
theorem LK (x:bH)(l:aA)(b g o n cap:Nat)(w:World)(hl:0<l.length)(h:NAt w b (.slice (some ⟨g,o,none⟩) n cap) (x :: l)) :
  Calls Tryz.prog 71 #[.slice (some ⟨g,o,none⟩) n cap] w fun e w'=>e = .returned (.slice (some ⟨g,o+5,none⟩) (n - 1) (cap - 1))∧w'=w:=by
 have h1:2≤n∧n≤cap:=by
  obtain⟨g',o',cap',hv,h2,-⟩:=h;simp only[Value.slice.injEq,List.length_cons] at hv;rw[List.length_cons] at h2;omega
 have hc:¬ cap=1:=by omega
 clear h hl;go_enter Tryz.func71,Tryz.ntmps71
 go_wp2_with fail
 go_ret;exact⟨rfl,rfl⟩
theorem NAt.kid {w:World}{b g o n cap:Nat}{x:bH}{l:aA}(h:NAt w b (.slice (some ⟨g,o,none⟩) n cap) (x :: l)):NAt w b (.slice (some ⟨g,o+5,none⟩) (n - 1) (cap - 1)) l:=by
 have:=h.tail 1 (by simp)
 rw[Nat.one_mul] at this;exact this
def LC (fn:Nat) (W v:Value) (z:List UInt8) (w:World):Prop:=∀ w1:World,Below w.heap.size w w1→Calls Tryz.prog fn #[W,v] w1 fun e w'=>e = .returned (.string (bs z))∧Below w1.heap.size w1 w'
theorem LC.below {fn:Nat}{W v:Value}{z:List UInt8}{w w':World}(h:LC fn W v z w)(hb:Below w.heap.size w w'):LC fn W v z w':=fun w1 h1=>h w1 (aD hb h1)
theorem Mm (f fv fo:Nat)(oa:Array Value)(x:bH)(r:aA)(h32:x.kind≠32)(b:Nat)(v:Value)(z:List UInt8)(w:World)(hN:NAt w b v (x :: r))(hC:LC 162 (.agg #[.func (.func f) #[] #[],.func (.func fv) #[] #[],.func (.func fo) oa #[]]) v z w):LC 160 (.agg #[.func (.func f) #[] #[],.func (.func fv) #[] #[],.func (.func fo) oa #[]]) v z w:=by
 have HI:=LB fun (w1:World) (h:Below w.heap.size w w1)=>mD x r 32 b v w1 (hN.below h)
 rw[beq_eq_false_iff_ne.2 h32] at HI;have HC:=LB hC;obtain⟨g,o,cap,rfl,-⟩:=id hN;simp only[List.length_cons] at HI HC ⊢;generalize r.length+1=n at *;clear hN hC;intro w1 hb;have hB:=Blk.new w1 [Value.func (.func f) #[] #[],.func (.func fv) #[] #[],.func (.func fo) oa #[]] 66;have hb1:=(Below.refl _ w1).alloc (Nat.le_refl _) (.cells #[Value.func (.func f) #[] #[],.func (.func fv) #[] #[],.func (.func fo) oa #[]] 66);have hb2:=aD hb hb1;have c0:=hB.cell 0 rfl;have c1:=hB.cell 1 rfl;have c2:=hB.cell 2 rfl;clear hB;go_enter Tryz.func160,Tryz.ntmps160
 go_wp2_with fail
 refine (HI.out _ hb2).mono ?_;rintro e w2 ⟨rfl,rfl⟩;go_wp2_with fail
 refine (HC.out _ hb2).mono ?_;rintro e w2 ⟨rfl,hb3⟩;go_wp2_with fail
 go_ret;exact⟨rfl,aD hb1 hb3⟩
theorem Ms (f fv fo:Nat)(oa:Array Value)(x:bH)(r:aA)(h27:x.kind=27)(hr:0<r.length)(b:Nat)(v:Value)(z:List UInt8)(hz:z.length≤100000)(w:World)(hN:NAt w b v (x :: r))(hC:∀ u,NAt w b u r→LC 160 (.agg #[.func (.func f) #[] #[],.func (.func fv) #[] #[],.func (.func fo) oa #[]]) u z w):LC 112 (.agg #[.func (.func f) #[] #[],.func (.func fv) #[] #[],.func (.func fo) oa #[]]) v (33 :: 32 :: z) w:=by
 have HI:=LB fun (w1:World) (h:Below w.heap.size w w1)=>mD x r 27 b v w1 (hN.below h)
 rw[beq_iff_eq.2 h27] at HI;obtain⟨g,o,cap,rfl,-⟩:=id hN;have HC:=LB (hC _ hN.kid);have HK:=LB fun (w1:World) (h:Below w.heap.size w w1)=>LK x r b g o _ cap w1 hr (hN.below h)
 have HZ:=LB (show ({ data:=#[33,32] }:ByteArray)++bs z=bs (33 :: 32 :: z) from by rw[show ({ data:=#[33,32] }:ByteArray)=bs [33,32] from rfl,nP];rfl)
 have hzs:(bs z).size≤100000:=by rw[aW];exact hz
 have o1:¬ 9223372036854775807<2+(bs z).size:=by omega
 simp only[List.length_cons,Nat.add_sub_cancel] at HI HC HK ⊢;generalize r.length=n at *;clear hN hC;intro w1 hb;have hB:=Blk.new w1 [Value.func (.func f) #[] #[],.func (.func fv) #[] #[],.func (.func fo) oa #[]] 66;have hb1:=(Below.refl _ w1).alloc (Nat.le_refl _) (.cells #[Value.func (.func f) #[] #[],.func (.func fv) #[] #[],.func (.func fo) oa #[]] 66);have hb2:=aD hb hb1;have c0:=hB.cell 0 rfl;have c1:=hB.cell 1 rfl;have c2:=hB.cell 2 rfl;clear hB;rw[← HZ.out];clear HZ;go_enter Tryz.func112,Tryz.ntmps112
 go_wp2_with fail
 refine (HI.out _ hb2).mono ?_;rintro e w2 ⟨rfl,rfl⟩;generalize hw0:w1.alloc (.cells #[Value.func (.func f) #[] #[],.func (.func fv) #[] #[],.func (.func fo) oa #[]] 66)=w0 at *;clear hw0;go_wp2_with fail
 go_region_held3 (fun w'=>w'.cell? ⟨w1.heap.size,0,none⟩=some (.func (.func f) #[] #[])∧w'.cell? ⟨w1.heap.size,1,none⟩=some (.func (.func fv) #[] #[])∧w'.cell? ⟨w1.heap.size,2,none⟩=some (.func (.func fo) oa #[])) (first | exact⟨aG hb6 c0,aG hb6 c1,aG hb6 c2⟩ | go_keep)
  (first
   | (go_at_call 71;(with_reducible refine (HK.out _ hb2.drew).mono ?_);rintro ee w5 ⟨rfl,rfl⟩)
   | (go_at_call 160;(refine (HC.out _ hb2.drew).mono ?_);rintro ee w6 ⟨rfl,hb6⟩))
 go_wp2_with fail
 go_ret;exact⟨rfl,aD hb1.drew hb6⟩
theorem Mn (f fv fo:Nat)(oa:Array Value)(x:bH)(r:aA)(h25:x.kind≠25)(h26:x.kind≠26)(b:Nat)(v:Value)(z:List UInt8)(w:World)(hN:NAt w b v (x :: r))
  (hK:∀ w1:World,Below w.heap.size w w1→Calls Tryz.prog 58 #[v] w1 fun e w'=>∃ v',e = .returned v'∧Below w1.heap.size w1 w') (hC:LC 112 (.agg #[.func (.func f) #[] #[],.func (.func fv) #[] #[],.func (.func fo) oa #[]]) v z w):LC 57 (.agg #[.func (.func f) #[] #[],.func (.func fv) #[] #[],.func (.func fo) oa #[]]) v z w:=by
 have e25:(x.kind==25)=false:=beq_eq_false_iff_ne.2 h25;have e26:(x.kind==26)=false:=beq_eq_false_iff_ne.2 h26;have HK:=LB hK;have HC:=LB hC;obtain⟨g,o,cap,rfl,-⟩:=id hN;obtain⟨n0,-⟩:=hN.facts (k:=0) rfl;rw[Nat.zero_mul,Nat.add_zero] at n0;simp only[List.length_cons] at HK HC ⊢;have hn1:1≤r.length+1:=by omega
 generalize r.length+1=n at *;obtain⟨kd,hkd⟩:∃ kd,x.kind=kd:=⟨_,rfl⟩;rw[hkd] at e25 e26 n0;have N0:=LB n0;clear hN hC hK n0 h25 h26 hkd;intro w1 hb;have hB:=Blk.new w1 [Value.func (.func f) #[] #[],.func (.func fv) #[] #[],.func (.func fo) oa #[]] 66;have hb1:=(Below.refl _ w1).alloc (Nat.le_refl _) (.cells #[Value.func (.func f) #[] #[],.func (.func fv) #[] #[],.func (.func fo) oa #[]] 66);have hb2:=aD hb hb1;have c0:=hB.cell 0 rfl;have c1:=hB.cell 1 rfl;have c2:=hB.cell 2 rfl;clear c0 c1 c2;go_enter Tryz.func57,Tryz.ntmps57
 go_wp2_with fail
 refine (HK.out _ hb2).mono ?_;rintro e w2 ⟨v2,rfl,hb3⟩;have hB2:=hB.below hb3;have c0:=hB2.cell 0 rfl;have c1:=hB2.cell 1 rfl;have c2:=hB2.cell 2 rfl;have hb4:=aD hb2 hb3;have n0:=aG hb4 N0.out;clear hB hB2;go_wp2_with fail
 refine (HC.out _ hb4).mono ?_;rintro e w3 ⟨rfl,hb5⟩;go_wp2_with fail
 go_ret;exact⟨rfl,aD hb1 (aD hb3 hb5)⟩
theorem Mw (f fv fo:Nat)(oa:Array Value)(x:bH)(r:aA)(h20:x.kind≠20)(h23:x.kind≠23)(b:Nat)(v:Value)(z:List UInt8)(w:World)(hN:NAt w b v (x :: r))(hC:LC 57 (.agg #[.func (.func f) #[] #[],.func (.func fv) #[] #[],.func (.func fo) oa #[]]) v z w):LC 31 (.agg #[.func (.func f) #[] #[],.func (.func fv) #[] #[],.func (.func fo) oa #[]]) v z w:=by
 have e20:(x.kind==20)=false:=beq_eq_false_iff_ne.2 h20;have e23:(x.kind==23)=false:=beq_eq_false_iff_ne.2 h23;have HC:=LB hC;obtain⟨g,o,cap,rfl,-⟩:=id hN;obtain⟨n0,-⟩:=hN.facts (k:=0) rfl;rw[Nat.zero_mul,Nat.add_zero] at n0;simp only[List.length_cons] at HC ⊢;have hn1:1≤r.length+1:=by omega
 generalize r.length+1=n at *;obtain⟨kd,hkd⟩:∃ kd,x.kind=kd:=⟨_,rfl⟩;rw[hkd] at e20 e23 n0;have N0:=LB n0;clear hN hC n0 h20 h23 hkd;intro w1 hb;have hB:=Blk.new w1 [Value.func (.func f) #[] #[],.func (.func fv) #[] #[],.func (.func fo) oa #[]] 66;have hb1:=(Below.refl _ w1).alloc (Nat.le_refl _) (.cells #[Value.func (.func f) #[] #[],.func (.func fv) #[] #[],.func (.func fo) oa #[]] 66);have hb2:=aD hb hb1;have c0:=hB.cell 0 rfl;have c1:=hB.cell 1 rfl;have c2:=hB.cell 2 rfl;have n0:=aG hb2 N0.out;clear hB;go_enter Tryz.func31,Tryz.ntmps31
 go_wp2_with fail
 refine (HC.out _ hb2).mono ?_;rintro e w3 ⟨rfl,hb5⟩;go_wp2_with fail
 go_ret;exact⟨rfl,aD hb1 hb5⟩
theorem M1 (f fv fo:Nat)(oa:Array Value)(v:Value)(z:List UInt8)(hz:z.length≤100000)(w:World)(hC:LC 31 (.agg #[.func (.func f) #[] #[],.func (.func fv) #[] #[],.func (.func fo) oa #[]]) v z w):LC 110 (.agg #[.func (.func f) #[] #[],.func (.func fv) #[] #[],.func (.func fo) oa #[]]) v ([123,32]++z++[59,32,125]) w:=by
 have HC:=LB hC;have HZ:=LB (show ({ data:=#[123,32] }:ByteArray)++bs z++{ data:=#[59,32,125] }=bs ([123,32]++z++[59,32,125]) from by rw[show ({ data:=#[123,32] }:ByteArray)=bs [123,32] from rfl,show ({ data:=#[59,32,125] }:ByteArray)=bs [59,32,125] from rfl,nP,nP])
 have hzs:(bs z).size≤100000:=by rw[aW];exact hz
 obtain⟨y,hy⟩:∃ y,({ data:=#[123,32] }:ByteArray)++bs z=y:=⟨_,rfl⟩
 have hys:y.size≤100002:=by rw[← hy,show ({ data:=#[123,32] }:ByteArray)=bs [123,32] from rfl,nP,aW];simp;omega
 have HY:=LB hy;rw[hy] at HZ;clear hC hy;intro w1 hb;have hB:=Blk.new w1 [Value.func (.func f) #[] #[],.func (.func fv) #[] #[],.func (.func fo) oa #[]] 66;have hb1:=(Below.refl _ w1).alloc (Nat.le_refl _) (.cells #[Value.func (.func f) #[] #[],.func (.func fv) #[] #[],.func (.func fo) oa #[]] 66);have hb2:=aD hb hb1;have c0:=hB.cell 0 rfl;have c1:=hB.cell 1 rfl;have c2:=hB.cell 2 rfl;clear hB;rw[← HZ.out];clear HZ;go_enter Tryz.func110,Tryz.ntmps110
 go_wp2_with fail
 refine (HC.out _ hb2).mono ?_;rintro e w3 ⟨rfl,hb5⟩;go_wp2_with fail
 go_ret;exact⟨by rw[← HY.out];rfl,aD hb1 hb5⟩
theorem M3 (f fv fo:Nat)(oa:Array Value)(efv:∀ args w,(callFunc fv args).run Tryz.prog w = .ok (.enter fv args) w)(s:List UInt8)(q:aA)(hq:oV q)(hqn:q.length≤50000)(b:Nat)(v:Value)(zb zs:List UInt8)(hzb:zb.length≤100000)(hzs:zs.length≤100000)(w:World)(hb0:b<w.heap.size)(hN:NAt w b v (aE 34 0 [] [a8 s,q]))
  (hB0:∀ (w1:World) (u:Value),Below w.heap.size w w1→NSl w1 b u q→LC 110 (.agg #[.func (.func f) #[] #[],.func (.func fv) #[] #[],.func (.func fo) oa #[]]) u zb w1)
  (hV:∀ (w1:World) (u:Value),Below w.heap.size w w1→NSl w1 b u (a8 s)→Calls Tryz.prog fv #[u] w1 fun e w'=>e = .returned (.string (bs zs))∧Below w1.heap.size w1 w') :
  LC 162 (.agg #[.func (.func f) #[] #[],.func (.func fv) #[] #[],.func (.func fo) oa #[]]) v (zb++[32,60,60,60,32]++zs) w:=by
 have HB:=LB hB0;have HV:=LB hV;have HK:=LB fun (w1:World) (h:Below w.heap.size w w1)=>tF 34 0 [] [a8 s,q] b v w1 (Nat.lt_of_lt_of_le hb0 h.size) (by intro l hl;simp only[List.mem_cons,List.not_mem_nil,or_false] at hl;rcases hl with rfl | rfl;exact sJ _ _ _ _;exact hq) (by simp [a8,aE];omega) (hN.below h)
 have hql:0<q.length:=by obtain⟨x,r,rfl,-⟩:=hq;simp
 have HZ:=LB (show bs zb++{ data:=#[32,60,60,60,32] }++bs zs=bs (zb++[32,60,60,60,32]++zs) from by rw[show ({ data:=#[32,60,60,60,32] }:ByteArray)=bs [32,60,60,60,32] from rfl,nP,nP])
 have hzb2:(bs zb).size≤100000:=by rw[aW];exact hzb
 have hzs2:(bs zs).size≤100000:=by rw[aW];exact hzs
 have o1:¬ 9223372036854775807<(bs zb).size+5:=by omega
 have o2:¬ 9223372036854775807<(bs zb).size+5+(bs zs).size:=by omega
 obtain⟨g,o,cap,rfl,-⟩:=id hN;obtain⟨n0,-⟩:=hN.facts (k:=0) rfl;rw[Nat.zero_mul,Nat.add_zero] at n0;have N0:=LB (show w.cell? ⟨g,o,none⟩=some (.int .i64 34) from n0)
 have hn1:1≤(aE 34 0 [] [a8 s,q]).length:=by rw[cF];omega
 have hp:∀ l∈[a8 s,q],0<l.length:=by intro l hl;simp only[List.mem_cons,List.not_mem_nil,or_false] at hl;rcases hl with rfl | rfl;exact mS _ _ _ _;exact hql
 generalize (aE 34 0 [] [a8 s,q]).length=n at *;clear hN hB0 hV n0 hq hzb hzs;intro w1 hb;have hB:=Blk.new w1 [Value.func (.func f) #[] #[],.func (.func fv) #[] #[],.func (.func fo) oa #[]] 66;have hb1:=(Below.refl _ w1).alloc (Nat.le_refl _) (.cells #[Value.func (.func f) #[] #[],.func (.func fv) #[] #[],.func (.func fo) oa #[]] 66);have hb2:=aD hb hb1;have c0:=hB.cell 0 rfl;have c1:=hB.cell 1 rfl;have c2:=hB.cell 2 rfl;clear c0 c1 c2;rw[← HZ.out];clear HZ;go_enter Tryz.func162,Tryz.ntmps162
 go_wp2_with fail
 refine (HK.out _ hb2).mono ?_;rintro e w2 ⟨v2,rfl,hv2,hb3⟩;have hB2:=hB.below hb3;have c0:=hB2.cell 0 rfl;have c1:=hB2.cell 1 rfl;have c2:=hB2.cell 2 rfl;have hb4:=aD hb2 hb3;have n0:=aG hb4 N0.out;obtain⟨ao2,cap2,rfl,-⟩:=id hv2;obtain⟨-,d1,F⟩:=hv2.facts hp;obtain⟨gk,u0,rfl,k0,U0⟩:=F 0 (by simp)
 obtain⟨gk',u1,e1,k1,U1⟩:=F 1 (by simp)
 cases e1
 have U0:NSl w2 b u0 (a8 s):=U0;have U1:NSl w2 b u1 q:=U1;obtain⟨g0,p0,rfl,-⟩:=id U0;obtain⟨g1,p1,rfl,-⟩:=id U1;have HB1:=LB (HB.out w2 _ hb4 U1);have HV1:=LB fun (w9:World) (h:Below w2.heap.size w2 w9)=>HV.out w9 _ (aD hb4 h) (U0.below h)
 generalize (a8 s).length=z0 at *;generalize q.length=z1 at *;clear hv2 F U0 U1 hB hB2 HB HV HK;simp only[List.length_cons,List.length_nil,Nat.zero_add,Nat.reduceAdd] at *;go_wp2_with fail
 go_region_held3 (fun w'=>w'.cell? ⟨w1.heap.size,0,none⟩=some (.func (.func f) #[] #[])∧w'.cell? ⟨w1.heap.size,1,none⟩=some (.func (.func fv) #[] #[])∧w'.cell? ⟨w1.heap.size,2,none⟩=some (.func (.func fo) oa #[])∧w'.cell? ⟨gk,0,none⟩=some (.slice (some ⟨g0,0,none⟩) z0 p0)∧w'.cell? ⟨gk,1,none⟩=some (.slice (some ⟨g1,0,none⟩) z1 p1)) (first | exact⟨aG hb6 c0,aG hb6 c1,aG hb6 c2,aG hb6 k0,aG hb6 k1⟩ | exact⟨aG hb8 c0,aG hb8 c1,aG hb8 c2,aG hb8 k0,aG hb8 k1⟩ | go_keep)
  (first
   | (go_at_call 110;(refine (HB1.out _ (Below.refl _ w2).drew).mono ?_);rintro ee w5 ⟨rfl,hb6⟩)
   | ((refine (HV1.out _ (aD (Below.refl _ w2).drew hb6)).mono ?_);rintro ee w6 ⟨rfl,hb7⟩;have hb8:=aD hb6 hb7))
 go_wp2_with fail
 go_ret;exact⟨rfl,aD hb1 (aD hb3 ((Below.refl _ w2).drew.trans hb8))⟩
end Go.Proofs.YtnombfbpmmmoeaaGreatDoor
