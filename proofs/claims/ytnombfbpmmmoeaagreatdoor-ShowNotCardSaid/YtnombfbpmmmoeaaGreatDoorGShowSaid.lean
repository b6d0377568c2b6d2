/- show.dialect: what can be said of a !, of a Here, of an Eval, of a Frame. -/
import Derived.Test.YtnombfbpmmmoeaaGreatDoorGShowTree
namespace Go.Proofs.YtnombfbpmmmoeaaGreatDoor
set_option maxHeartbeats 8000000
set_option maxRecDepth 100000
open Go Go.RowKit
def LD (D v:Value) (t:Bool) (w:World):Prop:=∀ w1:World,Below w.heap.size w w1→Calls Tryz.prog 34 #[D,v] w1 fun e w'=>e = .returned (.bool t)∧Below w1.heap.size w1 w'
theorem LT (f f1 f2 f3 f4 f5:Nat)(nm:Bool)(x:bH)(r:aA)(hk:x.kind=36∨x.kind=37)(b:Nat)(v:Value)(w:World)(hN:NAt w b v (x :: r))
  (hK:∀ w1:World,Below w.heap.size w w1→Calls Tryz.prog 58 #[v] w1 fun e w'=>∃ v',e = .returned v'∧Below w1.heap.size w1 w'):LD (.agg #[.func (.func f) #[] #[],.func (.func f1) #[] #[],.func (.func f2) #[] #[],.func (.func f3) #[] #[],.func (.func f4) #[] #[],.func (.func f5) #[] #[],.bool nm]) v false w:=by
 have HK:=LB hK;obtain⟨g,o,cap,rfl,-⟩:=id hN;obtain⟨n0,-⟩:=hN.facts (k:=0) rfl;rw[Nat.zero_mul,Nat.add_zero] at n0;simp only[List.length_cons] at HK ⊢;have hn1:1≤r.length+1:=by omega
 generalize r.length+1=n at *;have N0:=LB n0;clear hN hK n0;intro w1 hb;have hB:=Blk.new w1 [Value.func (.func f) #[] #[],.func (.func f1) #[] #[],.func (.func f2) #[] #[],.func (.func f3) #[] #[],.func (.func f4) #[] #[],.func (.func f5) #[] #[],.bool nm] 70;have hb1:=(Below.refl _ w1).alloc (Nat.le_refl _) (.cells #[Value.func (.func f) #[] #[],.func (.func f1) #[] #[],.func (.func f2) #[] #[],.func (.func f3) #[] #[],.func (.func f4) #[] #[],.func (.func f5) #[] #[],.bool nm] 70);have hb2:=aD hb hb1;clear hB
 rcases hk with hk | hk
 all_goals
  rw[hk] at N0;go_enter Tryz.func34,Tryz.ntmps34
  go_wp2_with fail
  refine (HK.out _ hb2).mono ?_;rintro e w2 ⟨v2,rfl,hb3⟩;have n0:=aG (aD hb2 hb3) N0.out;go_wp2_with fail
  go_ret;exact⟨rfl,aD hb1 hb3⟩
theorem MY (f:Nat)(D:Value)(ef:∀ args w,(callFunc f args).run Tryz.prog w = .ok (.enter f args) w)(q:aA→Bool)(L:List aA)(b:Nat)(v:Value)(w:World)(hK:KSl w b v L)(hp:∀ l∈L,0<l.length)(hn:L.length≤100000)
  (H:∀ l∈L,∀ (w1:World) (u:Value),Below w.heap.size w w1→NSl w1 b u l→Calls Tryz.prog f #[D,u] w1 fun e w'=>e = .returned (.bool (q l))∧Below w1.heap.size w1 w') :
  Calls Tryz.prog 66 #[v,.func (.func f) #[D] #[]] w fun e w'=>e = .returned (.bool (L.all q))∧Below w.heap.size w w':=by
 obtain⟨ao,cap,rfl,-⟩:=id hK;obtain⟨-,-,F⟩:=hK.facts hp;obtain⟨n,hln⟩:∃ n,L.length=n:=⟨_,rfl⟩;have HF:=LB F;have HN:=LB hln;have HH:=LB H;rw[hln] at HF hn ⊢;clear hK hp F hln H;go_enter Tryz.func66,Tryz.ntmps66
 go_wp2_with fail
 go_loopg [9] n (fun m x wr=>∃ k:Nat,m=n - k∧k≤n∧x = .int .i64 k∧Below w.heap.size w wr∧(L.take k).all q=true)
 case atStart=>exact⟨0,rfl,Nat.zero_le _,rfl,Below.refl _ _,rfl⟩
 case round =>
  obtain⟨k,rfl,hk,rfl,hb,hall⟩:=hrel
  by_cases hlt:k<n
  ·obtain⟨g,u,rfl,q1,q2⟩:=HF.out k hlt;have hkL:k<L.length:=by have:=HN.out;omega
   rw[List.getD_eq_getElem?_getD,List.getElem?_eq_getElem hkL,Option.getD_some] at q2;have q1:=aG hb q1;have HC:=LB (HH.out L[k] (List.getElem_mem hkL) wr u hb (q2.below hb));have HT:=LB (show (L.take (k+1)).all q=((L.take k).all q&&q L[k]) from by rw[List.take_succ_eq_append_getElem hkL,List.all_append,List.all_cons,List.all_nil,Bool.and_true])
   have HA:=LB hall;obtain⟨gu,cu,rfl,-⟩:=id q2;generalize hz:L[k].length=z at *;obtain⟨r,hr⟩:∃ r,q L[k]=r:=⟨_,rfl⟩;have HR:=LB hr;rw[hr] at HC;clear q2 hall hr hz;go_wp2_with fail
   refine HC.out.mono ?_;rintro e w5 ⟨rfl,hb5⟩
   cases r with
   | false =>
    go_wp2_with fail
    go_ret;refine ⟨?_,aD hb hb5⟩
    have h1:L.all q=false:=by
     rw[Bool.eq_false_iff];intro h2;rw[List.all_eq_true] at h2;have:=h2 _ (List.getElem_mem (by have:=HN.out;omega:k<L.length))
     rw[HR.out] at this
     cases this
    rw[h1];rfl
   | true =>
    go_wp2_with fail
    go_roundg (n - (k+1))
    case measure=>omega
    case rel=>exact⟨k+1,rfl,by omega,by go_num,aD hb hb5,by rw[HT.out,HA.out,HR.out];rfl⟩
  ·obtain rfl:k=n:=by omega
   have HA:=LB (show L.all q=true from by rw[List.take_of_length_le (by have:=HN.out;omega)] at hall;exact hall)
   clear hall;go_wp2_with fail
   go_ret;exact⟨by rw[HA.out];rfl,hb⟩
theorem M5 (f f1 f2 f3 f4 f5:Nat)(nm:Bool)(kd:Int)(hk:kd=27∨kd=20∨kd=32)(L:List aA)(t:Bool)(hS:∀ l∈L,oV l)(hfl:L.flatten.length≤100000)(hn:L.length≤1000)(b:Nat)(v:Value)(w:World)(hb0:b<w.heap.size)(hN:NAt w b v (aE kd 0 [] L))
  (H:∀ l∈L,∀ (w1:World) (u:Value),Below w.heap.size w w1→NSl w1 b u l→LD (.agg #[.func (.func f) #[] #[],.func (.func f1) #[] #[],.func (.func f2) #[] #[],.func (.func f3) #[] #[],.func (.func f4) #[] #[],.func (.func f5) #[] #[],.bool nm]) u t w1):LD (.agg #[.func (.func f) #[] #[],.func (.func f1) #[] #[],.func (.func f2) #[] #[],.func (.func f3) #[] #[],.func (.func f4) #[] #[],.func (.func f5) #[] #[],.bool nm]) v (L.all fun _=>t) w:=by
 have HK:=LB fun (w1:World) (h:Below w.heap.size w w1)=>tF kd 0 [] L b v w1 (Nat.lt_of_lt_of_le hb0 h.size) hS hfl (hN.below h)
 have HA:=LB fun (w2:World) (v2:Value) (h:Below w.heap.size w w2) (hv:KSl w2 b v2 L)=>MY 34 (.agg #[.func (.func f) #[] #[],.func (.func f1) #[] #[],.func (.func f2) #[] #[],.func (.func f3) #[] #[],.func (.func f4) #[] #[],.func (.func f5) #[] #[],.bool nm]) (fun _ _=>by kernel_rfl) (fun _=>t) L b v2 w2 hv (fun l hl=>by obtain⟨x,r,rfl,-⟩:=hS l hl;simp) (by omega) (fun l hl w3 u h3 hu=>H l hl w3 u (aD h h3) hu w3 (Below.refl _ _))
 have hmf:∀ (fn:Fn) (first cap:Array Value) (w:World),(Instr.makeFunc fn first cap).run Tryz.prog w = .ok (.func fn first cap) w:=fun _ _ _ _=>rfl
 obtain⟨g,o,cap,rfl,-⟩:=id hN;obtain⟨n0,-⟩:=hN.facts (k:=0) rfl;rw[Nat.zero_mul,Nat.add_zero] at n0;have N0:=LB (show w.cell? ⟨g,o,none⟩=some (.int .i64 kd) from n0)
 have hn1:1≤(aE kd 0 [] L).length:=by rw[cF];omega
 generalize (aE kd 0 [] L).length=n at *;clear hN n0 H hS hfl;intro w1 hb;have hB:=Blk.new w1 [Value.func (.func f) #[] #[],.func (.func f1) #[] #[],.func (.func f2) #[] #[],.func (.func f3) #[] #[],.func (.func f4) #[] #[],.func (.func f5) #[] #[],.bool nm] 70;have hb1:=(Below.refl _ w1).alloc (Nat.le_refl _) (.cells #[Value.func (.func f) #[] #[],.func (.func f1) #[] #[],.func (.func f2) #[] #[],.func (.func f3) #[] #[],.func (.func f4) #[] #[],.func (.func f5) #[] #[],.bool nm] 70);have hb2:=aD hb hb1
 rcases hk with rfl | rfl | rfl
 all_goals
  go_enter Tryz.func34,Tryz.ntmps34
  go_wp2_with fail
  refine (HK.out _ hb2).mono ?_;rintro e w2 ⟨v2,rfl,hv2,hb3⟩;have hB2:=hB.below hb3;have c0:=hB2.cell 0 rfl;have c1:=hB2.cell 1 rfl;have c2:=hB2.cell 2 rfl;have c3:=hB2.cell 3 rfl;have c4:=hB2.cell 4 rfl;have c5:=hB2.cell 5 rfl;have c6:=hB2.cell 6 rfl;have hb4:=aD hb2 hb3;have n0:=aG hb4 N0.out;have HA2:=LB (HA.out w2 v2 hb4 hv2);obtain⟨ao2,cap2,rfl,-⟩:=hv2;generalize L.length=m at *;go_wp2_with fail
  refine HA2.out.mono ?_;rintro e w3 ⟨rfl,hb5⟩;go_wp2_with fail
  go_ret;exact⟨rfl,aD hb1 (aD hb3 hb5)⟩
theorem M4 (f f1 f2 f3 f4 f5:Nat)(nm:Bool)(ef1:∀ args w,(callFunc f1 args).run Tryz.prog w = .ok (.enter f1 args) w)(s:List UInt8)(q:aA)(hq:oV q)(hqn:q.length≤50000)(t:Bool)(b:Nat)(v:Value)(w:World)(hb0:b<w.heap.size)(hN:NAt w b v (aE 34 0 [] [a8 s,q]))
  (hV:∀ (w1:World) (u:Value),Below w.heap.size w w1→NSl w1 b u (a8 s)→Calls Tryz.prog f1 #[u] w1 fun e w'=>e = .returned (.bool true)∧Below w1.heap.size w1 w')
  (hB0:∀ (w1:World) (u:Value),Below w.heap.size w w1→NSl w1 b u q→LD (.agg #[.func (.func f) #[] #[],.func (.func f1) #[] #[],.func (.func f2) #[] #[],.func (.func f3) #[] #[],.func (.func f4) #[] #[],.func (.func f5) #[] #[],.bool nm]) u t w1):LD (.agg #[.func (.func f) #[] #[],.func (.func f1) #[] #[],.func (.func f2) #[] #[],.func (.func f3) #[] #[],.func (.func f4) #[] #[],.func (.func f5) #[] #[],.bool nm]) v t w:=by
 have HB:=LB hB0;have HV:=LB hV;have HK:=LB fun (w1:World) (h:Below w.heap.size w w1)=>tF 34 0 [] [a8 s,q] b v w1 (Nat.lt_of_lt_of_le hb0 h.size) (by intro l hl;simp only[List.mem_cons,List.not_mem_nil,or_false] at hl;rcases hl with rfl | rfl;exact sJ _ _ _ _;exact hq) (by simp [a8,aE];omega) (hN.below h)
 have hql:0<q.length:=by obtain⟨x,r,rfl,-⟩:=hq;simp
 obtain⟨g,o,cap,rfl,-⟩:=id hN;obtain⟨n0,-⟩:=hN.facts (k:=0) rfl;rw[Nat.zero_mul,Nat.add_zero] at n0;have N0:=LB (show w.cell? ⟨g,o,none⟩=some (.int .i64 34) from n0)
 have hn1:1≤(aE 34 0 [] [a8 s,q]).length:=by rw[cF];omega
 have hp:∀ l∈[a8 s,q],0<l.length:=by intro l hl;simp only[List.mem_cons,List.not_mem_nil,or_false] at hl;rcases hl with rfl | rfl;exact mS _ _ _ _;exact hql
 generalize (aE 34 0 [] [a8 s,q]).length=n at *;clear hN hB0 hV n0 hq;intro w1 hb;have hB:=Blk.new w1 [Value.func (.func f) #[] #[],.func (.func f1) #[] #[],.func (.func f2) #[] #[],.func (.func f3) #[] #[],.func (.func f4) #[] #[],.func (.func f5) #[] #[],.bool nm] 70;have hb1:=(Below.refl _ w1).alloc (Nat.le_refl _) (.cells #[Value.func (.func f) #[] #[],.func (.func f1) #[] #[],.func (.func f2) #[] #[],.func (.func f3) #[] #[],.func (.func f4) #[] #[],.func (.func f5) #[] #[],.bool nm] 70);have hb2:=aD hb hb1;go_enter Tryz.func34,Tryz.ntmps34
 go_wp2_with fail
 refine (HK.out _ hb2).mono ?_;rintro e w2 ⟨v2,rfl,hv2,hb3⟩;have hB2:=hB.below hb3;have c0:=hB2.cell 0 rfl;have c1:=hB2.cell 1 rfl;have c2:=hB2.cell 2 rfl;have c3:=hB2.cell 3 rfl;have c4:=hB2.cell 4 rfl;have c5:=hB2.cell 5 rfl;have c6:=hB2.cell 6 rfl;have hb4:=aD hb2 hb3;have n0:=aG hb4 N0.out;obtain⟨ao2,cap2,rfl,-⟩:=id hv2;obtain⟨-,d1,F⟩:=hv2.facts hp;obtain⟨gk,u0,rfl,k0,U0⟩:=F 0 (by simp)
 obtain⟨gk',u1,e1,k1,U1⟩:=F 1 (by simp)
 cases e1
 have U0:NSl w2 b u0 (a8 s):=U0;have U1:NSl w2 b u1 q:=U1;obtain⟨g0,p0,rfl,-⟩:=id U0;obtain⟨g1,p1,rfl,-⟩:=id U1;have HB1:=LB (HB.out w2 _ hb4 U1);have HV1:=LB (HV.out w2.drew _ (aD hb4 (Below.refl _ w2).drew) (U0.below (Below.refl _ w2).drew));generalize (a8 s).length=z0 at *;generalize q.length=z1 at *;clear hv2 F U0 U1 hB hB2 HB HV HK;simp only[List.length_cons,List.length_nil,Nat.zero_add,Nat.reduceAdd] at *;go_wp2_with fail
 go_region_held3 (fun w'=>w'.cell? ⟨w1.heap.size,0,none⟩=some (.func (.func f) #[] #[])∧w'.cell? ⟨w1.heap.size,1,none⟩=some (.func (.func f1) #[] #[])∧w'.cell? ⟨w1.heap.size,2,none⟩=some (.func (.func f2) #[] #[])∧w'.cell? ⟨w1.heap.size,3,none⟩=some (.func (.func f3) #[] #[])∧w'.cell? ⟨w1.heap.size,4,none⟩=some (.func (.func f4) #[] #[])∧w'.cell? ⟨w1.heap.size,5,none⟩=some (.func (.func f5) #[] #[])∧w'.cell? ⟨w1.heap.size,6,none⟩=some (.bool nm)∧w'.cell? ⟨gk,0,none⟩=some (.slice (some ⟨g0,0,none⟩) z0 p0)∧w'.cell? ⟨gk,1,none⟩=some (.slice (some ⟨g1,0,none⟩) z1 p1)) (first | exact⟨aG hb6 c0,aG hb6 c1,aG hb6 c2,aG hb6 c3,aG hb6 c4,aG hb6 c5,aG hb6 c6,aG hb6 k0,aG hb6 k1⟩ | exact⟨aG hb8 c0,aG hb8 c1,aG hb8 c2,aG hb8 c3,aG hb8 c4,aG hb8 c5,aG hb8 c6,aG hb8 k0,aG hb8 k1⟩ | go_keep)
  (first
   | (go_at_call 34;(refine (HB1.out _ (aD (Below.refl _ w2).drew hb6)).mono ?_);rintro ee w6 ⟨rfl,hb7⟩;have hb8:=aD hb6 hb7)
   | ((refine HV1.out.mono ?_);rintro ee w5 ⟨rfl,hb6⟩))
 go_wp2_with fail
 go_ret;exact⟨rfl,aD hb1 (aD hb3 ((Below.refl _ w2).drew.trans hb8))⟩
end Go.Proofs.YtnombfbpmmmoeaaGreatDoor
