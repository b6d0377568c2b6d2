/- ShowCalls: what the writers write of redirections, of nothing, of a pipe; what may be said of them. -/
import Derived.Test.YtbpjobmpacjgcaaGreatDoorGZW
import Derived.Test.YtbpjobmpacjgcaaGreatDoorGShowCA
import Derived.Test.YtbpjobmpacjgcaaGreatDoorGZX
namespace Go.Proofs.YtbpjobmpacjgcaaGreatDoor
set_option maxHeartbeats 8000000
set_option maxRecDepth 100000
open Go Go.RowKit
theorem K3 (f fv fo:Nat)(oa:Array Value)(m:Nat)(hm:m=1∨m=2∨m=3)(efv:∀ args w,(callFunc fv args).run Tryz.prog w = .ok (.enter fv args) w)(s:List UInt8)(q:aA)(hq:kW q)(hqn:q.length≤50000)(b:Nat)(v:Value)(zb zs:List UInt8)(hzb:zb.length≤100000)(hzs:zs.length≤100000)(w:World)(hb0:b<w.heap.size)(hN:NAt w b v (aC 33 m [] [aR s,q]))
  (hB0:∀ (w1:World) (u:Value),Below w.heap.size w w1→NSl w1 b u q→dV 77 f fv fo oa u zb w1)
  (hV:∀ (w1:World) (u:Value),Below w.heap.size w w1→NSl w1 b u (aR s)→Calls Tryz.prog fv #[u] w1 fun e w'=>e = .returned (.string (bs zs))∧Below w1.heap.size w1 w') :
  dV 131 f fv fo oa v (zb++opR m++zs) w:=by
 have HB:=Ng hB0;have HV:=Ng hV;have HK:=Ng fun (w1:World) (h:Below w.heap.size w w1)=>mB 33 m [] [aR s,q] b v w1 (Nat.lt_of_lt_of_le hb0 h.size) (by intro l hl;simp only[List.mem_cons,List.not_mem_nil,or_false] at hl;rcases hl with rfl | rfl;exact k8 _ _ _ _;exact hq) (by simp [aR,aC];omega) (hN.below h)
 have hql:0<q.length:=by obtain⟨x,r,rfl,-⟩:=hq;simp
 have HZ:=Ng (show ∀ y:ByteArray,y=bs (opR m)→bs zb++y++bs zs=bs (zb++opR m++zs) from fun y hy=>by rw[hy,nH,nH])
 have hzb2:(bs zb).size≤100000:=by rw[aY];exact hzb
 have hzs2:(bs zs).size≤100000:=by rw[aY];exact hzs
 have hi2:0<(aC 33 m [] [aR s,q]).length:=by rw[bN];omega
 obtain⟨g,o,cap,rfl,-⟩:=id hN;obtain⟨n0,n1,-⟩:=hN.facts (k:=0) rfl;rw[Nat.zero_mul,Nat.add_zero] at n0 n1;have N0:=Ng (show w.cell? ⟨g,o,none⟩=some (.int .i64 33)∧w.cell? ⟨g,o+1,none⟩=some (.int .i64 m) from ⟨n0,n1⟩)
 have hn1:1≤(aC 33 m [] [aR s,q]).length:=by rw[bN];omega
 have hp:∀ l∈[aR s,q],0<l.length:=by intro l hl;simp only[List.mem_cons,List.not_mem_nil,or_false] at hl;rcases hl with rfl | rfl;exact nS _ _ _ _;exact hql
 generalize (aC 33 m [] [aR s,q]).length=n at *;clear hN hB0 hV n0 n1 hq hzb hzs;intro w1 hb;obtain⟨_,rfl,hB,hb1,-⟩:=wrS f fv fo oa w1;have hb2:=aE hb hb1;go_enter Tryz.func131,Tryz.ntmps131
 go_wp2_with fail
 refine (HK.out _ hb2).mono ?_;rintro e w2 ⟨v2,rfl,hv2,hb3⟩;have hB2:=hB.below hb3;obtain⟨c0,c1,c2⟩:=bl3 hB2;have hb4:=aE hb2 hb3;have n0:=aF hb4 N0.out.1;have n1:=aF hb4 N0.out.2;obtain⟨ao2,cap2,rfl,-⟩:=id hv2;obtain⟨-,d1,F⟩:=hv2.facts hp;obtain⟨gk,u0,rfl,k0,U0⟩:=F 0 (by simp)
 obtain⟨gk',u1,e1,k1,U1⟩:=F 1 (by simp)
 cases e1
 have U0:NSl w2 b u0 (aR s):=U0;have U1:NSl w2 b u1 q:=U1;obtain⟨g0,p0,rfl,-⟩:=id U0;obtain⟨g1,p1,rfl,-⟩:=id U1;have HB1:=Ng (HB.out w2 _ hb4 U1);have HV1:=Ng fun (w9:World) (h:Below w2.heap.size w2 w9)=>HV.out w9 _ (aE hb4 h) (U0.below h)
 generalize (aR s).length=z0 at *;generalize q.length=z1 at *;clear hv2 F U0 U1 hB hB2 HB HV HK;simp only[List.length_cons,List.length_nil,Nat.zero_add,Nat.reduceAdd] at *;obtain⟨y,hy,hys,hix⟩:∃ y:ByteArray,y=bs (opR m)∧y.size≤4∧∀ w:World,(Instr.index 185 (.agg #[.string { data:=#[] },.string { data:=#[32,60,32] },.string { data:=#[32,62,32] },.string { data:=#[32,62,62,32] }]) (.int .i64 m)).run Tryz.prog w = .ok (.string y) w:=by rcases hm with rfl | rfl | rfl <;> exact⟨_,rfl,by decide,fun _=>by kernel_rfl⟩
 have o1:¬ 9223372036854775807<(bs zb).size+y.size:=by omega
 have o2:¬ 9223372036854775807<(bs zb).size+y.size+(bs zs).size:=by omega
 replace HZ:=Ng (HZ.out _ hy);clear hy hm N0;go_wp2_with fail
 go_region_held3 (fun w'=>w'.cell? ⟨w1.heap.size,0,none⟩=some (.func (.func f) #[] #[])∧w'.cell? ⟨w1.heap.size,1,none⟩=some (.func (.func fv) #[] #[])∧w'.cell? ⟨w1.heap.size,2,none⟩=some (.func (.func fo) oa #[])∧w'.cell? ⟨gk,0,none⟩=some (.slice (some ⟨g0,0,none⟩) z0 p0)∧w'.cell? ⟨gk,1,none⟩=some (.slice (some ⟨g1,0,none⟩) z1 p1)∧w'.cell? ⟨g,o+1,none⟩=some (.int .i64 m)) (first | exact⟨aF hb6 c0,aF hb6 c1,aF hb6 c2,aF hb6 k0,aF hb6 k1,aF hb6 n1⟩ | exact⟨aF hb8 c0,aF hb8 c1,aF hb8 c2,aF hb8 k0,aF hb8 k1,aF hb8 n1⟩ | go_keep)
  (first
   | (go_at_call 77;(refine (HB1.out _ (Below.refl _ w2).drew).mono ?_);rintro ee w5 ⟨rfl,hb6⟩)
   | ((refine (HV1.out _ (aE (Below.refl _ w2).drew hb6)).mono ?_);rintro ee w6 ⟨rfl,hb7⟩;have hb8:=aE hb6 hb7))
 all_goals (
  go_wp2_with fail
  go_ret;rw[← HZ.out];exact⟨rfl,aE hb1 (aE hb3 ((Below.refl _ w2).drew.trans hb8))⟩)
theorem K2 (f fv fo:Nat)(oa:Array Value)(sh:aA→List UInt8)(L:List aA)(h0:L≠[])(hS:∀ l∈L,kW l)(hfl:L.flatten.length≤100000)(hn:L.length≤1000)(hsh:∀ l∈L,(sh l).length≤100000)(b:Nat)(v:Value)(w:World)(hb0:b<w.heap.size)(hN:NAt w b v (aC 32 0 [] L))
  (H:∀ l∈L,∀ (w1:World) (u:Value),Below w.heap.size w w1→NSl w1 b u l→dV 131 f fv fo oa u (sh l) w1):dV 128 f fv fo oa v (Lib.join (L.map sh) [32,124,32]) w:=by
 have HK:=Ng fun (w1:World) (h:Below w.heap.size w w1)=>mB 32 0 [] L b v w1 (Nat.lt_of_lt_of_le hb0 h.size) hS hfl (hN.below h)
 have HI:=Ng fun (w1:World) (h:Below w.heap.size w w1)=>(show Calls Tryz.prog 62 #[v,.int .i64 32] w1 fun e w'=>e = .returned (.bool true)∧w'=w1 from kL ⟨32,0,L.length,L.flatten.length+1,[]⟩ L.flatten 32 b v w1 (hN.below h))
 have HA:=Ng fun (w2:World) (v2:Value) (h:Below w.heap.size w w2) (hv:KSl w2 b v2 L)=>B6 131 #[.agg #[.func (.func f) #[] #[],.func (.func fv) #[] #[],.func (.func fo) oa #[]]] (fun _ _=>by kernel_rfl) sh L h0 [32,124,32] (by decide) b v2 w2 hv (fun l hl=>by obtain⟨x,r,rfl,-⟩:=hS l hl;simp) hn hsh (fun l hl w3 u h3 hu=>H l hl w3 u (aE h h3) hu w3 (Below.refl _ _))
 have hmf:∀ (fn:Fn) (first cap:Array Value) (w:World),(Instr.makeFunc fn first cap).run Tryz.prog w = .ok (.func fn first cap) w:=fun _ _ _ _=>rfl
 obtain⟨g,o,cap,rfl,-⟩:=id hN;generalize (aC 32 0 [] L).length=n at *;obtain⟨z,hz⟩:∃ z,Lib.join (L.map sh) [32,124,32]=z:=⟨_,rfl⟩;rw[hz] at HA ⊢;clear hN H hS hfl hsh hz;intro w1 hb;obtain⟨_,rfl,-,hb1,c0,c1,c2⟩:=wrS f fv fo oa w1;have hb2:=aE hb hb1;go_enter Tryz.func128,Tryz.ntmps128
 go_wp2_with fail
 refine (HI.out _ hb2).mono ?_;rintro e w2 ⟨rfl,rfl⟩;generalize hw0:w1.alloc (.cells #[Value.func (.func f) #[] #[],.func (.func fv) #[] #[],.func (.func fo) oa #[]] 45)=w0 at *;clear hw0;go_wp2_with fail
 go_region_held3 (fun w'=>w'.cell? ⟨w1.heap.size,0,none⟩=some (.func (.func f) #[] #[])∧w'.cell? ⟨w1.heap.size,1,none⟩=some (.func (.func fv) #[] #[])∧w'.cell? ⟨w1.heap.size,2,none⟩=some (.func (.func fo) oa #[])) (first | exact⟨aF hb6 c0,aF hb6 c1,aF hb6 c2⟩ | exact⟨aF hb8 c0,aF hb8 c1,aF hb8 c2⟩ | go_keep)
  (first
   | (go_at_call 37;(refine (HK.out _ hb2.drew).mono ?_);rintro ee w5 ⟨v2,rfl,hv2,hb6⟩;have HA2:=Ng (HA.out w5 v2 (aE hb2.drew hb6) hv2);obtain⟨ao2,cap2,rfl,-⟩:=hv2)
   | (go_at_call 35;(refine HA2.out.mono ?_);rintro ee w6 ⟨rfl,hb7⟩;have hb8:=aE hb6 hb7))
 all_goals (
  go_wp2_with fail
  go_ret;exact⟨rfl,aE hb1.drew hb8⟩)
theorem GZ (f fv fo:Nat)(oa:Array Value)(b:Nat)(v:Value)(w:World)(hN:NAt w b v (aC 20 0 [] [])):dV 18 f fv fo oa v [] w:=by
 obtain⟨g,o,cap,rfl,-⟩:=id hN;obtain⟨n0,-⟩:=hN.facts (k:=0) rfl;rw[Nat.zero_mul,Nat.add_zero] at n0;have N0:=Ng (show w.cell? ⟨g,o,none⟩=some (.int .i64 20) from n0)
 rw[bN];have hn1:1≤([]:List aA).flatten.length+1:=by omega
 generalize ([]:List aA).flatten.length+1=n at *;clear hN n0;intro w1 hb;obtain⟨_,rfl,hB,hb1,c0,c1,c2⟩:=wrS f fv fo oa w1;have hb2:=aE hb hb1;have n0:=aF hb2 N0.out;clear hB;go_enter Tryz.func18,Tryz.ntmps18
 go_wp2_with fail
 go_ret;exact⟨rfl,hb1⟩
theorem MA (f fv fo:Nat)(oa:Array Value)(b:Nat)(v:Value)(w:World)(hb0:b<w.heap.size)(hN:NSl w b v (aC 20 0 [] [])):dV 131 f fv fo oa v (blk []) w:=by
 have HB:=Ng fun (w1:World) (h:Below w.heap.size w w1)=>DC f fv fo oa v [] (by simp) w1 (GZ f fv fo oa b v w1 (hN.below h).at)
 have HK:=Ng fun (w1:World) (h:Below w.heap.size w w1)=>mB 20 0 [] [] b v w1 (Nat.lt_of_lt_of_le hb0 h.size) (fun _ h=>nomatch h) (by simp) (hN.below h).at
 obtain⟨g,o,cap,rfl,-⟩:=id hN.at;obtain⟨n0,-⟩:=hN.at.facts (k:=0) rfl;rw[Nat.zero_mul,Nat.add_zero] at n0;have N0:=Ng (show w.cell? ⟨g,o,none⟩=some (.int .i64 20) from n0)
 rw[bN] at *;have hn1:1≤([]:List aA).flatten.length+1:=by omega
 generalize ([]:List aA).flatten.length+1=n at *;clear hN n0;intro w1 hb;obtain⟨_,rfl,hB,hb1,-⟩:=wrS f fv fo oa w1;have hb2:=aE hb hb1;go_enter Tryz.func131,Tryz.ntmps131
 go_wp2_with fail
 refine (HK.out _ hb2).mono ?_;rintro e w2 ⟨v2,rfl,-,hb3⟩;have hB2:=hB.below hb3;obtain⟨c0,c1,c2⟩:=bl3 hB2;have hb4:=aE hb2 hb3;have n0:=aF hb4 N0.out;clear hB hB2;go_wp2_with fail
 refine (HB.out _ hb4 _ (Below.refl _ _)).mono ?_;rintro e w3 ⟨rfl,hb5⟩;go_wp2_with fail
 go_ret;exact⟨rfl,aE hb1 (aE hb3 hb5)⟩
theorem z8 (f fv fo:Nat)(oa:Array Value)(x:bE)(r:aA)(h:x.kind=21∨x.kind=33)(b:Nat)(v:Value)(z:List UInt8)(w:World)(hN:NAt w b v (x :: r))
  (hK:∀ w1:World,Below w.heap.size w w1→Calls Tryz.prog 37 #[v] w1 fun e w'=>∃ v',e = .returned v'∧Below w1.heap.size w1 w') (hC:dV 131 f fv fo oa v z w):dV 18 f fv fo oa v z w :=
 Bp f fv fo oa x r (by omega) (by omega) b v z w hN (AK f fv fo oa x r (by omega) (by omega) b v z w hN hK (GI f fv fo oa x r (by omega) b v z w hN (Gc f fv fo oa x r (by omega) b v z w hN hC)))
def shQ (q:List UInt8→List UInt8):aA→List UInt8
 | x :: _=>q x.text
 | []=>[]
theorem Ma (q:List UInt8→List UInt8)(l:List (List UInt8)):(l.map aR).map (shQ q)=l.map q:=by rw[List.map_map];rfl
theorem sL (l:List (List UInt8)):(l.map aR).flatten.length=l.length:=by
 induction l with
 | nil=>rfl
 | cons s l ih=>rw[List.map_cons,List.flatten_cons,List.length_append,ih];simp [aR,aC];omega
theorem pJ (l:List (List UInt8))(xs:List (Nat×List UInt8)):kW (rdP l xs):=by
 cases xs with
 | nil=>exact k8 _ _ _ _
 | cons x xs=>exact k8 _ _ _ _
theorem CV (l:List (List UInt8))(hln:l.length≤100)(xs:List (Nat×List UInt8))(hn:xs.length≤20)(b:Nat)(v:Value)(w:World)(hb0:b<w.heap.size)(hN:NSl w b v (rdP l xs)):∃ x r,rdP l xs=x :: r∧(x.kind=21∨x.kind=33)∧∀ w1:World,Below w.heap.size w w1→Calls Tryz.prog 37 #[v] w1 fun e w'=>∃ v',e = .returned v'∧Below w1.heap.size w1 w':=by
 cases xs with
 | nil=>exact⟨_,_,rfl,.inl rfl,fun w1 h=>(mB 21 0 [] (l.map aR) b v w1 (Nat.lt_of_lt_of_le hb0 h.size) (fun p hp=>by obtain⟨s,-,rfl⟩:=List.mem_map.1 hp;exact k8 _ _ _ _) (by rw[sL];omega) (hN.below h).at).mono fun e w' ⟨v',he,_,hb'⟩=>⟨v',he,hb'⟩⟩
 | cons x xs =>
  have:=nC l xs
  rw[List.length_cons] at hn;exact⟨_,_,rfl,.inr rfl,fun w1 h=>(mB 33 x.1 [] [aR x.2,rdP l xs] b v w1 (Nat.lt_of_lt_of_le hb0 h.size) (fun p hp=>by simp only[List.mem_cons,List.not_mem_nil,or_false] at hp;rcases hp with rfl | rfl;exact k8 _ _ _ _;exact pJ l xs) (by simp [aR,aC];omega) (hN.below h).at).mono fun e w' ⟨v',he,_,hb'⟩=>⟨v',he,hb'⟩⟩
theorem EC (f fv fo:Nat)(oa:Array Value)(ef:∀ args w,(callFunc f args).run Tryz.prog w = .ok (.enter f args) w)(efv:∀ args w,(callFunc fv args).run Tryz.prog w = .ok (.enter fv args) w)(q:List UInt8→List UInt8)(l:List (List UInt8))(h0:l≠[])(hl:∀ s∈l,s.length≤2000)(hq:∀ s,s.length≤2000→(q s).length≤10000)(hln:l.length≤100)(b:Nat)(w:World)(hb0:b<w.heap.size)
  (HF:∀ s:List UInt8,s.length≤2000→∀ (w1:World) (u:Value),Below w.heap.size w w1→NSl w1 b u (aR s)→Calls Tryz.prog f #[u] w1 fun e w'=>e = .returned (.string (bs (q s)))∧Below w1.heap.size w1 w')
  (HV:∀ s:List UInt8,s.length≤2000→∀ (w1:World) (u:Value),Below w.heap.size w w1→NSl w1 b u (aR s)→Calls Tryz.prog fv #[u] w1 fun e w'=>e = .returned (.string (bs (q s)))∧Below w1.heap.size w1 w') :
  ∀ xs,okR xs→xs.length≤20→(bG q l xs).length≤8192→∀ (w1:World) (u:Value),Below w.heap.size w w1→NSl w1 b u (rdP l xs)→dV 131 f fv fo oa u (bG q l xs) w1∧dV 18 f fv fo oa u (bG q l xs) w1:=by
 intro xs
 induction xs with
 | nil =>
  intro _ _ _ w1 u h1 hu;have hb1:=Nat.lt_of_lt_of_le hb0 h1.size
  have hc:dV 131 f fv fo oa u (bG q l []) w1:=by
   have h:=Aq f fv fo oa ef (shQ q) (l.map aR) (by cases l with | nil=>exact absurd rfl h0 | cons _ _=>exact fun h=>nomatch h) b u w1 hb1 hu.at (fun p hp=>by obtain⟨s,-,rfl⟩:=List.mem_map.1 hp;exact k8 _ _ _ _) (by rw[List.length_map];omega) (by rw[sL];omega) (fun p hp=>by obtain⟨s,hs,rfl⟩:=List.mem_map.1 hp;exact Nat.le_trans (hq s (hl s hs)) (by omega)) (fun p hp w3 u3 h3 hu3=>by obtain⟨s,hs,rfl⟩:=List.mem_map.1 hp;exact HF s (hl s hs) w3 u3 (aE h1 h3) hu3)
   rw[Ma,BO] at h;exact h
  obtain⟨x,r,hx,hk,HK⟩:=CV l hln [] (by simp) b u w1 hb1 hu
  exact⟨hc,z8 f fv fo oa x r hk b u _ w1 (by rw[← hx];exact hu.at) HK hc⟩
 | cons x xs ih =>
  obtain⟨m,s⟩:=x;intro hx hn hz w1 u h1 hu;have hb1:=Nat.lt_of_lt_of_le hb0 h1.size;obtain⟨hm1,hm3,hs⟩:=hx (m,s) (by simp)
  have hr:=nC l xs;rw[List.length_cons] at hn;have hz':(bG q l xs).length≤8192:=by simp only[bG,List.length_append,blk] at hz;omega
  have hc:dV 131 f fv fo oa u (bG q l ((m,s) :: xs)) w1:=K3 f fv fo oa m (by omega) efv s (rdP l xs) (pJ l xs) (by omega) b u (blk (bG q l xs)) (q s) (by simp [blk];omega) (Nat.le_trans (hq s hs) (by omega)) w1 hb1 hu.at
   (fun w2 u2 h2 hu2=>DC f fv fo oa u2 _ (by omega) w2 (ih hx.tail (by omega) hz' w2 u2 (aE h1 h2) hu2).2) (fun w2 u2 h2 hu2=>HV s hs w2 u2 (aE h1 h2) hu2)
  obtain⟨x,r,hx,hk,HK⟩:=CV l hln ((m,s) :: xs) (by simp;omega) b u w1 hb1 hu
  exact⟨hc,z8 f fv fo oa x r hk b u _ w1 (by rw[← hx];exact hu.at) HK hc⟩
theorem EE (f fv fo:Nat)(oa:Array Value)(p:aA)(hp:kW p)(hpl:p.length≤1000)(hpk:∀ x r,p=x :: r→x.kind≠20)(z:List UInt8)(hz:(fN z).length≤8192)(b:Nat)(w:World)(hb0:b<w.heap.size)
  (H:∀ (w1:World) (u:Value),Below w.heap.size w w1→NSl w1 b u p→dV 131 f fv fo oa u z w1) (v:Value) (hN:NSl w b v (iV p)):dV 18 f fv fo oa v (fN z) w:=by
 have hu':=hN;rw[iV,KK] at hu';have hS:∀ l∈[p,aC 20 0 [] [],p],kW l:=by intro l hl;simp only[List.mem_cons,List.not_mem_nil,or_false] at hl;rcases hl with rfl | rfl | rfl;exact hp;exact k8 _ _ _ _;exact hp
 have hfl:[p,aC 20 0 [] [],p].flatten.length≤3000:=by simp [aC];omega
 have hn20:p≠aC 20 0 [] []:=fun h=>hpk _ _ h rfl
 have hne:∀ l∈[p,aC 20 0 [] [],p],l=p∨l=aC 20 0 [] []:=by intro l hl;simp only[List.mem_cons,List.not_mem_nil,or_false] at hl;rcases hl with h | h | h <;> simp [h]
 have hzl:2 * z.length+13≤(fN z).length:=by simp [fN,blk];omega
 refine Bp f fv fo oa _ _ (show (27:Int)≠20 by decide) (show (27:Int)≠23 by decide) b v _ w hu'.at (AK f fv fo oa _ _ (show (27:Int)≠25 by decide) (show (27:Int)≠26 by decide) b v _ w hu'.at (fun w2 h2=>?_) (Hp f fv fo oa _ _ rfl (nS _ _ _ _) b v (z++([32,124,32]++(blk []++([32,124,32]++z)))) (by simp [blk];omega) w hu'.at fun u2 hu2=>?_))
 ·exact (mB 27 0 [] [aC 32 0 [] [p,aC 20 0 [] [],p]] b v w2 (Nat.lt_of_lt_of_le hb0 h2.size) (by intro l hl;rw[List.mem_singleton] at hl;subst hl;exact k8 _ _ _ _) (by rw[List.flatten_cons,List.flatten_nil,List.append_nil,bN];omega) (hN.below h2).at).mono fun e w' ⟨v',he,_,hb'⟩=>⟨v',he,hb'⟩
 ·have h:=K2 f fv fo oa (fun l=>if l=p then z else blk []) [p,aC 20 0 [] [],p] (fun h=>nomatch h) hS (by omega) (by simp) (fun l hl=>by show (if l=p then z else blk []).length≤_;split;omega;decide) b u2 w hb0 hu2 (fun l hl w3 u3 h3 hu3=>by
   show dV _ _ _ _ _ u3 (if l=p then z else blk []) w3
   split
   ·rename_i e;subst e;exact H w3 u3 h3 hu3
   ·rename_i e
    obtain rfl:=(hne l hl).resolve_left e;exact MA f fv fo oa b u3 w3 (Nat.lt_of_lt_of_le hb0 h3.size) hu3)
  rw[List.map_cons,List.map_cons,List.map_cons,List.map_nil,if_pos rfl,if_neg (fun h=>hn20 h.symm),Lib.join_cons] at h
  simpa [Lib.joinTail] using h
theorem KZ (f f1 f2 f3 f4 f5:Nat)(nm:Bool)(ef1:∀ args w,(callFunc f1 args).run Tryz.prog w = .ok (.enter f1 args) w)(m:Nat)(s:List UInt8)(q:aA)(hq:kW q)(hqn:q.length≤50000)(t:Bool)(b:Nat)(v:Value)(w:World)(hb0:b<w.heap.size)(hN:NAt w b v (aC 33 m [] [aR s,q]))
  (hV:∀ (w1:World) (u:Value),Below w.heap.size w w1→NSl w1 b u (aR s)→Calls Tryz.prog f1 #[u] w1 fun e w'=>e = .returned (.bool true)∧Below w1.heap.size w1 w')
  (hB0:∀ (w1:World) (u:Value),Below w.heap.size w w1→NSl w1 b u q→jQ f f1 f2 f3 f4 f5 nm u t w1):jQ f f1 f2 f3 f4 f5 nm v t w:=by
 have HB:=Ng hB0;have HV:=Ng hV;have HK:=Ng fun (w1:World) (h:Below w.heap.size w w1)=>mB 33 m [] [aR s,q] b v w1 (Nat.lt_of_lt_of_le hb0 h.size) (by intro l hl;simp only[List.mem_cons,List.not_mem_nil,or_false] at hl;rcases hl with rfl | rfl;exact k8 _ _ _ _;exact hq) (by simp [aR,aC];omega) (hN.below h)
 have hql:0<q.length:=by obtain⟨x,r,rfl,-⟩:=hq;simp
 obtain⟨g,o,cap,rfl,-⟩:=id hN;obtain⟨n0,-⟩:=hN.facts (k:=0) rfl;rw[Nat.zero_mul,Nat.add_zero] at n0;have N0:=Ng (show w.cell? ⟨g,o,none⟩=some (.int .i64 33) from n0)
 have hn1:1≤(aC 33 m [] [aR s,q]).length:=by rw[bN];omega
 have hp:∀ l∈[aR s,q],0<l.length:=by intro l hl;simp only[List.mem_cons,List.not_mem_nil,or_false] at hl;rcases hl with rfl | rfl;exact nS _ _ _ _;exact hql
 generalize (aC 33 m [] [aR s,q]).length=n at *;clear hN hB0 hV n0 hq;intro w1 hb;obtain⟨_,rfl,hB,hb1⟩:=saS f f1 f2 f3 f4 f5 nm w1;have hb2:=aE hb hb1;go_enter Tryz.func29,Tryz.ntmps29
 go_wp2_with fail
 refine (HK.out _ hb2).mono ?_;rintro e w2 ⟨v2,rfl,hv2,hb3⟩;have hB2:=hB.below hb3;obtain⟨c0,c1,c2,c3,c4,c5,c6⟩:=bl7 hB2;have hb4:=aE hb2 hb3;have n0:=aF hb4 N0.out;obtain⟨ao2,cap2,rfl,-⟩:=id hv2;obtain⟨-,d1,F⟩:=hv2.facts hp;obtain⟨gk,u0,rfl,k0,U0⟩:=F 0 (by simp)
 obtain⟨gk',u1,e1,k1,U1⟩:=F 1 (by simp)
 cases e1
 have U0:NSl w2 b u0 (aR s):=U0;have U1:NSl w2 b u1 q:=U1;obtain⟨g0,p0,rfl,-⟩:=id U0;obtain⟨g1,p1,rfl,-⟩:=id U1;have HB1:=Ng (HB.out w2 _ hb4 U1);have HV1:=Ng (HV.out w2.drew _ (aE hb4 (Below.refl _ w2).drew) (U0.below (Below.refl _ w2).drew));generalize (aR s).length=z0 at *;generalize q.length=z1 at *;clear hv2 F U0 U1 hB hB2 HB HV HK;simp only[List.length_cons,List.length_nil,Nat.zero_add,Nat.reduceAdd] at *;go_wp2_with fail
 go_region_held3 (fun w'=>w'.cell? ⟨w1.heap.size,0,none⟩=some (.func (.func f) #[] #[])∧w'.cell? ⟨w1.heap.size,1,none⟩=some (.func (.func f1) #[] #[])∧w'.cell? ⟨w1.heap.size,2,none⟩=some (.func (.func f2) #[] #[])∧w'.cell? ⟨w1.heap.size,3,none⟩=some (.func (.func f3) #[] #[])∧w'.cell? ⟨w1.heap.size,4,none⟩=some (.func (.func f4) #[] #[])∧w'.cell? ⟨w1.heap.size,5,none⟩=some (.func (.func f5) #[] #[])∧w'.cell? ⟨w1.heap.size,6,none⟩=some (.bool nm)∧w'.cell? ⟨gk,0,none⟩=some (.slice (some ⟨g0,0,none⟩) z0 p0)∧w'.cell? ⟨gk,1,none⟩=some (.slice (some ⟨g1,0,none⟩) z1 p1)) (first | exact⟨aF hb6 c0,aF hb6 c1,aF hb6 c2,aF hb6 c3,aF hb6 c4,aF hb6 c5,aF hb6 c6,aF hb6 k0,aF hb6 k1⟩ | exact⟨aF hb8 c0,aF hb8 c1,aF hb8 c2,aF hb8 c3,aF hb8 c4,aF hb8 c5,aF hb8 c6,aF hb8 k0,aF hb8 k1⟩ | go_keep)
  (first
   | (go_at_call 29;(refine (HB1.out _ (aE (Below.refl _ w2).drew hb6)).mono ?_);rintro ee w6 ⟨rfl,hb7⟩;have hb8:=aE hb6 hb7)
   | ((refine HV1.out.mono ?_);rintro ee w5 ⟨rfl,hb6⟩))
 go_wp2_with fail
 go_ret;exact⟨rfl,aE hb1 (aE hb3 ((Below.refl _ w2).drew.trans hb8))⟩
theorem EH (f f1 f2 f3 f4 f5:Nat)(nm:Bool)(ef:∀ args w,(callFunc f args).run Tryz.prog w = .ok (.enter f args) w)(ef1:∀ args w,(callFunc f1 args).run Tryz.prog w = .ok (.enter f1 args) w)(l:List (List UInt8))(hln:l.length≤100)(b:Nat)(w:World)(hb0:b<w.heap.size)
  (HF:∀ (s:List UInt8) (w1:World) (u:Value),Below w.heap.size w w1→NSl w1 b u (aR s)→Calls Tryz.prog f #[u] w1 fun e w'=>e = .returned (.bool true)∧Below w1.heap.size w1 w')
  (HV:∀ (s:List UInt8) (w1:World) (u:Value),Below w.heap.size w w1→NSl w1 b u (aR s)→Calls Tryz.prog f1 #[u] w1 fun e w'=>e = .returned (.bool true)∧Below w1.heap.size w1 w') :
  ∀ xs,xs.length≤20→∀ (w1:World) (u:Value),Below w.heap.size w w1→NSl w1 b u (rdP l xs)→jQ f f1 f2 f3 f4 f5 nm u true w1:=by
 intro xs
 induction xs with
 | nil =>
  intro _ w1 u h1 hu;have h:=xC f f1 f2 f3 f4 f5 nm ef (fun _=>true) (l.map aR) b u w1 (Nat.lt_of_lt_of_le hb0 h1.size) hu.at (fun p hp=>by obtain⟨s,-,rfl⟩:=List.mem_map.1 hp;exact k8 _ _ _ _) (by rw[List.length_map];omega) (by rw[sL];omega) (fun p hp w3 u3 h3 hu3=>by obtain⟨s,hs,rfl⟩:=List.mem_map.1 hp;exact HF s w3 u3 (aE h1 h3) hu3)
  rw[show ((l.map aR).all fun _=>true)=true by simp] at h
  exact h
 | cons x xs ih =>
  obtain⟨m,s⟩:=x;intro hn w1 u h1 hu;have hb1:=Nat.lt_of_lt_of_le hb0 h1.size;have hr:=nC l xs;rw[List.length_cons] at hn;exact KZ f f1 f2 f3 f4 f5 nm ef1 m s (rdP l xs) (pJ l xs) (by omega) true b u w1 hb1 hu.at (fun w2 u2 h2 hu2=>HV s w2 u2 (aE h1 h2) hu2) (fun w2 u2 h2 hu2=>ih (by omega) w2 u2 (aE h1 h2) hu2)
theorem ED (f f1 f2 f3 f4 f5:Nat)(nm:Bool)(p:aA)(hp:kW p)(hpl:p.length≤1000)(b:Nat)(w:World)(hb0:b<w.heap.size)
  (H:∀ (w1:World) (u:Value),Below w.heap.size w w1→NSl w1 b u p→jQ f f1 f2 f3 f4 f5 nm u true w1) (v:Value) (hN:NSl w b v (iV p)):jQ f f1 f2 f3 f4 f5 nm v true w:=by
 have h:=zS f f1 f2 f3 f4 f5 nm 27 (.inl rfl) [aC 32 0 [] [p,aC 20 0 [] [],p]] true (by intro l hl;rw[List.mem_singleton] at hl;subst hl;exact k8 _ _ _ _) (by simp [aC];omega) (by simp) b v w hb0 hN.at (fun l hl w2 u2 h2 hu2=>by
  rw[List.mem_singleton] at hl;subst hl;have hb2:=Nat.lt_of_lt_of_le hb0 h2.size
  have h:=zS f f1 f2 f3 f4 f5 nm 32 (.inr (.inr rfl)) [p,aC 20 0 [] [],p] true (by intro l hl;simp only[List.mem_cons,List.not_mem_nil,or_false] at hl;rcases hl with rfl | rfl | rfl;exact hp;exact k8 _ _ _ _;exact hp) (by simp [aC];omega) (by simp) b u2 w2 hb2 hu2.at (fun l hl w3 u3 h3 hu3=>by
   simp only[List.mem_cons,List.not_mem_nil,or_false] at hl;have hb3:=Nat.lt_of_lt_of_le hb2 h3.size;have hq:∀ (hl:l=p),jQ f f1 f2 f3 f4 f5 nm u3 true w3:=fun e=>by subst e;exact H w3 u3 (aE h2 h3) hu3
   rcases hl with e | rfl | e
   ·exact hq e
   ·exact zS f f1 f2 f3 f4 f5 nm 20 (.inr (.inl rfl)) [] true (fun _ h=>nomatch h) (by simp) (by simp) b u3 w3 hb3 hu3.at (fun _ h=>nomatch h)
   ·exact hq e)
  simpa using h)
 simpa using h
end Go.Proofs.YtbpjobmpacjgcaaGreatDoor
