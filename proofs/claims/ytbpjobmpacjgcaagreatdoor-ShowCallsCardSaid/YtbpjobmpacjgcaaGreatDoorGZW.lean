/- show.writer: what stands in what: a pipe's parts, a !, a command with a word for it to hear. -/
import Derived.Test.YtbpjobmpacjgcaaGreatDoorGZS
import Derived.Laws.EntriesVeiled
namespace Go.Proofs.YtbpjobmpacjgcaaGreatDoor
set_option maxHeartbeats 8000000
set_option maxRecDepth 100000
open Go Go.RowKit
theorem KG (x:bE)(l:aA)(b g o n cap:Nat)(w:World)(hl:0<l.length)(h:NAt w b (.slice (some ⟨g,o,none⟩) n cap) (x :: l)) :
  Calls Tryz.prog 65 #[.slice (some ⟨g,o,none⟩) n cap] w fun e w'=>e = .returned (.slice (some ⟨g,o+5,none⟩) (n - 1) (cap - 1))∧w'=w:=by
 have h1:2≤n∧n≤cap:=by
  obtain⟨g',o',cap',hv,h2,-⟩:=h;simp only[Value.slice.injEq,List.length_cons] at hv;rw[List.length_cons] at h2;omega
 have hc:¬ cap=1:=by omega
 clear h hl;go_enter Tryz.func65,Tryz.ntmps65
 go_wp2_with fail
 go_ret;exact⟨rfl,rfl⟩
theorem NAt.kid {w:World}{b g o n cap:Nat}{x:bE}{l:aA}(h:NAt w b (.slice (some ⟨g,o,none⟩) n cap) (x :: l)):NAt w b (.slice (some ⟨g,o+5,none⟩) (n - 1) (cap - 1)) l:=by
 have:=h.tail 1 (by simp)
 rw[Nat.one_mul] at this;exact this
theorem Gc (f fv fo:Nat)(oa:Array Value)(x:bE)(r:aA)(h32:x.kind≠32)(b:Nat)(v:Value)(z:List UInt8)(w:World)(hN:NAt w b v (x :: r))(hC:dV 131 f fv fo oa v z w):dV 128 f fv fo oa v z w:=by
 have HI:=Ng fun (w1:World) (h:Below w.heap.size w w1)=>kL x r 32 b v w1 (hN.below h)
 rw[beq_eq_false_iff_ne.2 h32] at HI;have HC:=Ng hC;obtain⟨g,o,cap,rfl,-⟩:=id hN;simp only[List.length_cons] at HI HC ⊢;generalize r.length+1=n at *;clear hN hC;intro w1 hb;obtain⟨_,rfl,-,hb1,c0,c1,c2⟩:=wrS f fv fo oa w1;have hb2:=aE hb hb1;go_enter Tryz.func128,Tryz.ntmps128
 go_wp2_with fail
 refine (HI.out _ hb2).mono ?_;rintro e w2 ⟨rfl,rfl⟩;go_wp2_with fail
 refine (HC.out _ hb2).mono ?_;rintro e w2 ⟨rfl,hb3⟩;go_wp2_with fail
 go_ret;exact⟨rfl,aE hb1 hb3⟩
theorem GI (f fv fo:Nat)(oa:Array Value)(x:bE)(r:aA)(h27:x.kind≠27)(b:Nat)(v:Value)(z:List UInt8)(w:World)(hN:NAt w b v (x :: r))(hC:dV 128 f fv fo oa v z w):dV 79 f fv fo oa v z w:=by
 have HI:=Ng fun (w1:World) (h:Below w.heap.size w w1)=>kL x r 27 b v w1 (hN.below h)
 rw[beq_eq_false_iff_ne.2 h27] at HI;have HC:=Ng hC;obtain⟨g,o,cap,rfl,-⟩:=id hN;simp only[List.length_cons] at HI HC ⊢;generalize r.length+1=n at *;clear hN hC;intro w1 hb;obtain⟨_,rfl,-,hb1,c0,c1,c2⟩:=wrS f fv fo oa w1;have hb2:=aE hb hb1;go_enter Tryz.func79,Tryz.ntmps79
 go_wp2_with fail
 refine (HI.out _ hb2).mono ?_;rintro e w2 ⟨rfl,rfl⟩;go_wp2_with fail
 refine (HC.out _ hb2).mono ?_;rintro e w2 ⟨rfl,hb3⟩;go_wp2_with fail
 go_ret;exact⟨rfl,aE hb1 hb3⟩
theorem Hp (f fv fo:Nat)(oa:Array Value)(x:bE)(r:aA)(h27:x.kind=27)(hr:0<r.length)(b:Nat)(v:Value)(z:List UInt8)(hz:z.length≤100000)(w:World)(hN:NAt w b v (x :: r))(hC:∀ u,NAt w b u r→dV 128 f fv fo oa u z w):dV 79 f fv fo oa v (33 :: 32 :: z) w:=by
 have HI:=Ng fun (w1:World) (h:Below w.heap.size w w1)=>kL x r 27 b v w1 (hN.below h)
 rw[beq_iff_eq.2 h27] at HI;obtain⟨g,o,cap,rfl,-⟩:=id hN;have HC:=Ng (hC _ hN.kid);have HK:=Ng fun (w1:World) (h:Below w.heap.size w w1)=>KG x r b g o _ cap w1 hr (hN.below h)
 have HZ:=Ng (show ({ data:=#[33,32] }:ByteArray)++bs z=bs (33 :: 32 :: z) from by rw[show ({ data:=#[33,32] }:ByteArray)=bs [33,32] from rfl,nH];rfl)
 have hzs:(bs z).size≤100000:=by rw[aY];exact hz
 have o1:¬ 9223372036854775807<2+(bs z).size:=by omega
 simp only[List.length_cons,Nat.add_sub_cancel] at HI HC HK ⊢;generalize r.length=n at *;clear hN hC;intro w1 hb;obtain⟨_,rfl,-,hb1,c0,c1,c2⟩:=wrS f fv fo oa w1;have hb2:=aE hb hb1;rw[← HZ.out];clear HZ;go_enter Tryz.func79,Tryz.ntmps79
 go_wp2_with fail
 refine (HI.out _ hb2).mono ?_;rintro e w2 ⟨rfl,rfl⟩;generalize hw0:w1.alloc (.cells #[Value.func (.func f) #[] #[],.func (.func fv) #[] #[],.func (.func fo) oa #[]] 45)=w0 at *;clear hw0;go_wp2_with fail
 go_region_held3 (fun w'=>w'.cell? ⟨w1.heap.size,0,none⟩=some (.func (.func f) #[] #[])∧w'.cell? ⟨w1.heap.size,1,none⟩=some (.func (.func fv) #[] #[])∧w'.cell? ⟨w1.heap.size,2,none⟩=some (.func (.func fo) oa #[])) (first | exact⟨aF hb6 c0,aF hb6 c1,aF hb6 c2⟩ | go_keep)
  (first
   | (go_at_call 65;(with_reducible refine (HK.out _ hb2.drew).mono ?_);rintro ee w5 ⟨rfl,rfl⟩)
   | (go_at_call 128;(refine (HC.out _ hb2.drew).mono ?_);rintro ee w6 ⟨rfl,hb6⟩))
 go_wp2_with fail
 go_ret;exact⟨rfl,aE hb1.drew hb6⟩
theorem AK (f fv fo:Nat)(oa:Array Value)(x:bE)(r:aA)(h25:x.kind≠25)(h26:x.kind≠26)(b:Nat)(v:Value)(z:List UInt8)(w:World)(hN:NAt w b v (x :: r))
  (hK:∀ w1:World,Below w.heap.size w w1→Calls Tryz.prog 37 #[v] w1 fun e w'=>∃ v',e = .returned v'∧Below w1.heap.size w1 w') (hC:dV 79 f fv fo oa v z w):dV 36 f fv fo oa v z w:=by
 have e25:(x.kind==25)=false:=beq_eq_false_iff_ne.2 h25;have e26:(x.kind==26)=false:=beq_eq_false_iff_ne.2 h26;have HK:=Ng hK;have HC:=Ng hC;obtain⟨g,o,cap,rfl,-⟩:=id hN;obtain⟨n0,-⟩:=hN.facts (k:=0) rfl;rw[Nat.zero_mul,Nat.add_zero] at n0;simp only[List.length_cons] at HK HC ⊢;have hn1:1≤r.length+1:=by omega
 generalize r.length+1=n at *;obtain⟨kd,hkd⟩:∃ kd,x.kind=kd:=⟨_,rfl⟩;rw[hkd] at e25 e26 n0;have N0:=Ng n0;clear hN hC hK n0 h25 h26 hkd;intro w1 hb;obtain⟨_,rfl,hB,hb1,-⟩:=wrS f fv fo oa w1;have hb2:=aE hb hb1;go_enter Tryz.func36,Tryz.ntmps36
 go_wp2_with fail
 refine (HK.out _ hb2).mono ?_;rintro e w2 ⟨v2,rfl,hb3⟩;have hB2:=hB.below hb3;obtain⟨c0,c1,c2⟩:=bl3 hB2;have hb4:=aE hb2 hb3;have n0:=aF hb4 N0.out;clear hB hB2;go_wp2_with fail
 refine (HC.out _ hb4).mono ?_;rintro e w3 ⟨rfl,hb5⟩;go_wp2_with fail
 go_ret;exact⟨rfl,aE hb1 (aE hb3 hb5)⟩
theorem Bp (f fv fo:Nat)(oa:Array Value)(x:bE)(r:aA)(h20:x.kind≠20)(h23:x.kind≠23)(b:Nat)(v:Value)(z:List UInt8)(w:World)(hN:NAt w b v (x :: r))(hC:dV 36 f fv fo oa v z w):dV 18 f fv fo oa v z w:=by
 have e20:(x.kind==20)=false:=beq_eq_false_iff_ne.2 h20;have e23:(x.kind==23)=false:=beq_eq_false_iff_ne.2 h23;have HC:=Ng hC;obtain⟨g,o,cap,rfl,-⟩:=id hN;obtain⟨n0,-⟩:=hN.facts (k:=0) rfl;rw[Nat.zero_mul,Nat.add_zero] at n0;simp only[List.length_cons] at HC ⊢;have hn1:1≤r.length+1:=by omega
 generalize r.length+1=n at *;obtain⟨kd,hkd⟩:∃ kd,x.kind=kd:=⟨_,rfl⟩;rw[hkd] at e20 e23 n0;have N0:=Ng n0;clear hN hC n0 h20 h23 hkd;intro w1 hb;obtain⟨_,rfl,hB,hb1,c0,c1,c2⟩:=wrS f fv fo oa w1;have hb2:=aE hb hb1;have n0:=aF hb2 N0.out;clear hB;go_enter Tryz.func18,Tryz.ntmps18
 go_wp2_with fail
 refine (HC.out _ hb2).mono ?_;rintro e w3 ⟨rfl,hb5⟩;go_wp2_with fail
 go_ret;exact⟨rfl,aE hb1 hb5⟩
theorem DC (f fv fo:Nat)(oa:Array Value)(v:Value)(z:List UInt8)(hz:z.length≤100000)(w:World)(hC:dV 18 f fv fo oa v z w):dV 77 f fv fo oa v ([123,32]++z++[59,32,125]) w:=by
 have HC:=Ng hC;have HZ:=Ng (show ({ data:=#[123,32] }:ByteArray)++bs z++{ data:=#[59,32,125] }=bs ([123,32]++z++[59,32,125]) from by rw[show ({ data:=#[123,32] }:ByteArray)=bs [123,32] from rfl,show ({ data:=#[59,32,125] }:ByteArray)=bs [59,32,125] from rfl,nH,nH])
 have hzs:(bs z).size≤100000:=by rw[aY];exact hz
 obtain⟨y,hy⟩:∃ y,({ data:=#[123,32] }:ByteArray)++bs z=y:=⟨_,rfl⟩
 have hys:y.size≤100002:=by rw[← hy,show ({ data:=#[123,32] }:ByteArray)=bs [123,32] from rfl,nH,aY];simp;omega
 have HY:=Ng hy;rw[hy] at HZ;clear hC hy;intro w1 hb;obtain⟨_,rfl,-,hb1,c0,c1,c2⟩:=wrS f fv fo oa w1;have hb2:=aE hb hb1;rw[← HZ.out];clear HZ;go_enter Tryz.func77,Tryz.ntmps77
 go_wp2_with fail
 refine (HC.out _ hb2).mono ?_;rintro e w3 ⟨rfl,hb5⟩;go_wp2_with fail
 go_ret;exact⟨by rw[← HY.out];rfl,aE hb1 hb5⟩
theorem zS (f f1 f2 f3 f4 f5:Nat)(nm:Bool)(kd:Int)(hk:kd=27∨kd=20∨kd=32)(L:List aA)(t:Bool)(hS:∀ l∈L,kW l)(hfl:L.flatten.length≤100000)(hn:L.length≤1000)(b:Nat)(v:Value)(w:World)(hb0:b<w.heap.size)(hN:NAt w b v (aC kd 0 [] L))
  (H:∀ l∈L,∀ (w1:World) (u:Value),Below w.heap.size w w1→NSl w1 b u l→jQ f f1 f2 f3 f4 f5 nm u t w1):jQ f f1 f2 f3 f4 f5 nm v (L.all fun _=>t) w:=by
 have HK:=Ng fun (w1:World) (h:Below w.heap.size w w1)=>mB kd 0 [] L b v w1 (Nat.lt_of_lt_of_le hb0 h.size) hS hfl (hN.below h)
 have HA:=Ng fun (w2:World) (v2:Value) (h:Below w.heap.size w w2) (hv:KSl w2 b v2 L)=>u6 29 #[.agg #[.func (.func f) #[] #[],.func (.func f1) #[] #[],.func (.func f2) #[] #[],.func (.func f3) #[] #[],.func (.func f4) #[] #[],.func (.func f5) #[] #[],.bool nm]] (fun _ _=>by kernel_rfl) (fun _=>t) L b v2 w2 hv (fun l hl=>by obtain⟨x,r,rfl,-⟩:=hS l hl;simp) (by omega) (fun l hl w3 u h3 hu=>H l hl w3 u (aE h h3) hu w3 (Below.refl _ _))
 have hmf:∀ (fn:Fn) (first cap:Array Value) (w:World),(Instr.makeFunc fn first cap).run Tryz.prog w = .ok (.func fn first cap) w:=fun _ _ _ _=>rfl
 obtain⟨g,o,cap,rfl,-⟩:=id hN;obtain⟨n0,-⟩:=hN.facts (k:=0) rfl;rw[Nat.zero_mul,Nat.add_zero] at n0;have N0:=Ng (show w.cell? ⟨g,o,none⟩=some (.int .i64 kd) from n0)
 have hn1:1≤(aC kd 0 [] L).length:=by rw[bN];omega
 generalize (aC kd 0 [] L).length=n at *;clear hN n0 H hS hfl;intro w1 hb;obtain⟨_,rfl,hB,hb1⟩:=saS f f1 f2 f3 f4 f5 nm w1;have hb2:=aE hb hb1
 rcases hk with rfl | rfl | rfl
 all_goals
  go_enter Tryz.func29,Tryz.ntmps29
  go_wp2_with fail
  refine (HK.out _ hb2).mono ?_;rintro e w2 ⟨v2,rfl,hv2,hb3⟩;have hB2:=hB.below hb3;obtain⟨c0,c1,c2,c3,c4,c5,c6⟩:=bl7 hB2;have hb4:=aE hb2 hb3;have n0:=aF hb4 N0.out;have HA2:=Ng (HA.out w2 v2 hb4 hv2);obtain⟨ao2,cap2,rfl,-⟩:=hv2;generalize L.length=m at *;go_wp2_with fail
  refine HA2.out.mono ?_;rintro e w3 ⟨rfl,hb5⟩;go_wp2_with fail
  go_ret;exact⟨rfl,aE hb1 (aE hb3 hb5)⟩
end Go.Proofs.YtbpjobmpacjgcaaGreatDoor
