/- ShowNot's words: a variable that splits and is matched; a list of two texts: which dialect says them, what is written. -/
import Derived.Test.YtnombfbpmmmoeaaGreatDoorGShowTree
import Derived.Test.YtnombfbpmmmoeaaGreatDoorGShowTow
namespace Go.Proofs.YtnombfbpmmmoeaaGreatDoor
set_option maxHeartbeats 8000000
set_option maxRecDepth 100000
open Go Go.RowKit
def LF:aA:=aE 6 0 [] [aE 5 0 [] [aE 2 0 [120] []]]
def LG:aA:=aE 3 0 [] [a8 [97],a8 [98]]
theorem L7 (x:bH)(r:aA)(hk:x.kind=6∨x.kind=3)(b:Nat)(v:Value)(w:World)(h:NAt w b v (x :: r)) :
  Calls Tryz.prog 124 #[v] w fun e w'=>e = .returned (.bool false)∧Below w.heap.size w w':=by
 obtain⟨g,o,cap,rfl,h1,-⟩:=id h;obtain⟨n0,-⟩:=h.facts (k:=0) rfl;rw[Nat.zero_mul,Nat.add_zero] at n0;have hn1:1≤r.length+1:=by omega
 simp only[List.length_cons];generalize r.length+1=n at *;clear h
 rcases hk with hk | hk
 all_goals
  rw[hk] at n0;go_enter Tryz.func124,Tryz.ntmps124
  go_wp2_with fail
  go_ret;exact⟨rfl,Below.refl _ _⟩
theorem My (x:bH)(r:aA)(hk:x.kind=6)(b:Nat)(v:Value)(w:World)(h:NAt w b v (x :: r)) :
  Calls Tryz.prog 129 #[v] w fun e w'=>e = .returned (.bool false)∧Below w.heap.size w w':=by
 obtain⟨g,o,cap,rfl,h1,-⟩:=id h;obtain⟨n0,-⟩:=h.facts (k:=0) rfl;rw[Nat.zero_mul,Nat.add_zero,hk] at n0;have hn1:1≤r.length+1:=by omega
 simp only[List.length_cons];generalize r.length+1=n at *;clear h;go_enter Tryz.func129,Tryz.ntmps129
 go_wp2_with fail
 go_ret;exact⟨rfl,Below.refl _ _⟩
theorem L8 (x:bH)(r:aA)(hx:x.kind≠4)(t:Bool)(b:Nat)(v:Value)(w:World)(hb:b<w.heap.size)(h:NSl w b v (x :: r))
  (H:∀ (w1:World) (u:Value),NSl w1 b u (x :: r)→Calls Tryz.prog 124 #[u] w1 fun e w'=>e = .returned (.bool t)∧Below w1.heap.size w1 w') :
  Calls Tryz.prog 62 #[v] w fun e w'=>e = .returned (.bool t)∧Below w.heap.size w w':=by
 have HJ:=LB (Ae _ _ false b v w h.at hx);have hb1:=(Below.refl _ w).alloc (Nat.le_refl _) (.cells #[v] 23)
 have HA:=LB (wW 124 (fun _ _=>by kernel_rfl) (fun _=>t) [x :: r] b _ _ (KSl.new1 hb (.inl h)) (by intro l hl;rw[List.mem_singleton] at hl;subst hl;simp) (by simp) (fun l hl w1 u _ hu=>by
  rw[List.mem_singleton] at hl;subst hl;exact H w1 u hu))
 simp only[List.all_cons,List.all_nil,Bool.and_true] at HA;have qN:=Dc;obtain⟨g,cap,rfl,-⟩:=id h;generalize (x :: r).length=z at *;clear h H hx;go_enter Tryz.func62,Tryz.ntmps62
 go_wp2_with fail
 refine HJ.out.mono ?_;rintro e w1 ⟨rfl,rfl⟩;go_wp2_with fail
 refine HA.out.mono ?_;rintro e w1 ⟨rfl,hb2⟩;go_wp2_with fail
 go_ret;exact⟨rfl,aD hb1 hb2⟩
theorem Mx (b:Nat)(v:Value)(w:World)(hb:b<w.heap.size)(h:NSl w b v LG) :
  Calls Tryz.prog 61 #[v] w fun e w'=>e = .returned (.bool false)∧Below w.heap.size w w':=by
 have HV:=LB (L8 _ _ (show (3:Int)≠4 by decide) false b v w hb h fun w1 u hu=>L7 _ _ (.inr rfl) b u w1 hu.at)
 have HI:=LB (fun (w1:World) (h1:Below w.heap.size w w1)=>mD _ _ 6 b v w1 (h.below h1).at)
 obtain⟨g,cap,rfl,-⟩:=id h;generalize LG.length=z at *;clear h;go_enter Tryz.func61,Tryz.ntmps61
 go_wp2_with fail
 refine HV.out.mono ?_;rintro e w1 ⟨rfl,hb1⟩;go_wp2_with fail
 refine (HI.out w1 hb1).mono ?_;rintro e w2 ⟨rfl,rfl⟩;go_wp2_with fail
 go_ret;exact⟨rfl,hb1⟩
theorem MD (x:bH)(r:aA)(hx:x.kind≠4)(t:Bool)(b:Nat)(v:Value)(w:World)(hb:b<w.heap.size)(h:NSl w b v (x :: r))(h6:x.kind≠6)
  (H:∀ (w1:World) (u:Value),Below w.heap.size w w1→NSl w1 b u (x :: r)→Calls Tryz.prog 129 #[u] w1 fun e w'=>e = .returned (.bool t)∧Below w1.heap.size w1 w') :
  Calls Tryz.prog 70 #[v] w fun e w'=>e = .returned (.bool t)∧Below w.heap.size w w':=by
 have HI:=LB (mD _ _ 6 b v w h.at);rw[beq_eq_false_iff_ne.2 h6] at HI;have HJ:=LB (Ae _ _ true b v w h.at hx);have hb1:=(Below.refl _ w).alloc (Nat.le_refl _) (.cells #[v] 23)
 have HA:=LB (wW 129 (fun _ _=>by kernel_rfl) (fun _=>t) [x :: r] b _ _ (KSl.new1 hb (.inl h)) (by intro l hl;rw[List.mem_singleton] at hl;subst hl;simp) (by simp) (fun l hl w1 u h1 hu=>by
  rw[List.mem_singleton] at hl;subst hl;exact H w1 u (aD hb1 h1) hu))
 simp only[List.all_cons,List.all_nil,Bool.and_true] at HA;have qN:=Dc;obtain⟨g,cap,rfl,-⟩:=id h;generalize (x :: r).length=z at *;clear h H hx h6;go_enter Tryz.func70,Tryz.ntmps70
 go_wp2_with fail
 refine HI.out.mono ?_;rintro e w1 ⟨rfl,rfl⟩;go_wp2_with fail
 refine HJ.out.mono ?_;rintro e w1 ⟨rfl,rfl⟩;go_wp2_with fail
 refine HA.out.mono ?_;rintro e w1 ⟨rfl,hb2⟩;go_wp2_with fail
 go_ret;exact⟨rfl,aD hb1 hb2⟩
theorem MB (b:Nat)(v:Value)(w:World)(hb:b<w.heap.size)(h:NSl w b v LG) :
  Calls Tryz.prog 70 #[v] w fun e w'=>e = .returned (.bool true)∧Below w.heap.size w w' :=
 MD _ _ (show (3:Int)≠4 by decide) true b v w hb h (show (3:Int)≠6 by decide) fun w1 u h1 hu=>by
  have hb1:=Nat.lt_of_lt_of_le hb h1.size;have HK:=LB (tF 3 0 [] [a8 [97],a8 [98]] b u w1 hb1 (by intro l hl;simp only[List.mem_cons,List.not_mem_nil,or_false] at hl;rcases hl with rfl | rfl <;> exact sJ _ _ _ _) (by decide) hu.at)
  have HA:=LB fun (w2:World) (v2:Value) (h2:Below w1.heap.size w1 w2) (hv:KSl w2 b v2 [a8 [97],a8 [98]])=>wW 70 (fun _ _=>by kernel_rfl) (fun _=>true) [a8 [97],a8 [98]] b v2 w2 hv (by intro l hl;simp only[List.mem_cons,List.not_mem_nil,or_false] at hl;rcases hl with rfl | rfl <;> exact mS _ _ _ _) (by simp) (fun l hl w3 u3 h3 hu3=>by
   simp only[List.mem_cons,List.not_mem_nil,or_false] at hl
   rcases hl with rfl | rfl
   ·exact Gi 1 (.inl rfl) [97] b u3 w3 (Nat.lt_of_lt_of_le hb1 (aD h2 h3).size) hu3
   ·exact Gi 1 (.inl rfl) [98] b u3 w3 (Nat.lt_of_lt_of_le hb1 (aD h2 h3).size) hu3)
  obtain⟨g,o,cap,rfl,h1,-⟩:=id hu.at;obtain⟨n0,-⟩:=hu.at.facts (k:=0) rfl;rw[Nat.zero_mul,Nat.add_zero] at n0;have N0:w1.cell? ⟨g,o,none⟩=some (.int .i64 3):=n0;have hn1:1≤((⟨3,0,2,3,[]⟩:bH) :: [a8 [97],a8 [98]].flatten).length:=by decide
  clear n0;generalize ((⟨3,0,2,3,[]⟩:bH) :: [a8 [97],a8 [98]].flatten).length=n at *;clear hu;go_enter Tryz.func129,Tryz.ntmps129
  go_wp2_with fail
  refine HK.out.mono ?_;rintro e w2 ⟨v2,rfl,hv2,hb2⟩;have HA2:=LB (HA.out w2 v2 hb2 hv2);obtain⟨ao2,cap2,rfl,-⟩:=hv2;simp only[List.all_cons,List.all_nil,Bool.and_true,List.length_cons,List.length_nil,Nat.zero_add,Nat.reduceAdd] at HA2 ⊢;go_wp2_with fail
  refine HA2.out.mono ?_;rintro e w3 ⟨rfl,hb3⟩;go_wp2_with fail
  go_ret;exact⟨rfl,aD hb2 hb3⟩
theorem Me (x:bH)(r:aA)(h1:x.kind≠1)(k:Int)(b:Nat)(v:Value)(w:World)(h:NAt w b v (x :: r)) :
  Calls Tryz.prog 127 #[v,.int .i64 k] w fun e w'=>e = .returned (.bool false)∧w'=w:=by
 have HI:=LB (mD _ _ 1 b v w h);rw[beq_eq_false_iff_ne.2 h1] at HI;obtain⟨g,o,cap,rfl,-⟩:=id h;generalize (x :: r).length=z at *;clear h;go_enter Tryz.func127,Tryz.ntmps127
 go_wp2_with fail
 refine HI.out.mono ?_;rintro e w1 ⟨rfl,rfl⟩;go_wp2_with fail
 go_ret;exact⟨rfl,rfl⟩
theorem Ma (x:bH)(r:aA)(h1:x.kind≠1)(b:Nat)(v:Value)(w:World)(h:NAt w b v (x :: r)) :
  Calls Tryz.prog 118 #[v] w fun e w'=>e = .returned (.bool false)∧Below w.heap.size w w':=by
 have HL:=LB (Me _ _ h1 1 b v w h);obtain⟨g,o,cap,rfl,-⟩:=id h;generalize (x :: r).length=z at *;clear h
 have HM:Hid (Calls Tryz.prog 164 #[.slice (some ⟨g,o,none⟩) z cap,.func (.func 165) #[] #[]] w fun e w'=>e = .returned (.bool false)∧Below w.heap.size w w'):=LB (by
  go_enter Tryz.func164,Tryz.ntmps164
  go_wp2_with fail
  refine HL.out.mono ?_;rintro e w1 ⟨rfl,rfl⟩;go_wp2_with fail
  go_ret;exact⟨rfl,Below.refl _ _⟩)
 go_enter Tryz.func118,Tryz.ntmps118
 go_wp2_with fail
 refine HM.out.mono ?_;rintro e w1 ⟨rfl,hb⟩;go_wp2_with fail
 go_ret;exact⟨rfl,hb⟩
theorem Mv (x:bH)(r:aA)(h1:x.kind≠8)(b:Nat)(v:Value)(w:World)(h:NAt w b v (x :: r)) :
  Calls Tryz.prog 122 #[v] w fun e w'=>e = .returned (.bool false)∧w'=w:=by
 have HI:=LB (mD _ _ 8 b v w h);rw[beq_eq_false_iff_ne.2 h1] at HI;obtain⟨g,o,cap,rfl,-⟩:=id h;generalize (x :: r).length=z at *;clear h;go_enter Tryz.func122,Tryz.ntmps122
 go_wp2_with fail
 refine HI.out.mono ?_;rintro e w1 ⟨rfl,rfl⟩;go_wp2_with fail
 go_ret;exact⟨rfl,rfl⟩
theorem MI (x:bH)(r:aA)(h1:x.kind=2)(b:Nat)(v:Value)(w:World)(h:NAt w b v (x :: r)) :
  Calls Tryz.prog 123 #[v] w fun e w'=>e = .returned (.bool true)∧w'=w:=by
 have HI:=LB (mD _ _ 2 b v w h);rw[beq_iff_eq.2 h1] at HI;obtain⟨g,o,cap,rfl,-⟩:=id h;generalize (x :: r).length=z at *;clear h;go_enter Tryz.func123,Tryz.ntmps123
 go_wp2_with fail
 refine HI.out.mono ?_;rintro e w1 ⟨rfl,rfl⟩;go_wp2_with fail
 go_ret;exact⟨rfl,rfl⟩
theorem Mu (b:Nat)(v:Value)(w:World)(hb:b<w.heap.size)(h:NSl w b v LF) :
  Calls Tryz.prog 70 #[v] w fun e w'=>e = .returned (.bool false)∧Below w.heap.size w w':=by
 have HI:=LB (mD _ _ 6 b v w h.at)
 have hcell:∃ g cap,v = .slice (some ⟨g,0,none⟩) 3 cap∧3≤cap:=by
  obtain⟨g,cap,rfl,h1,-⟩:=id h;exact⟨g,cap,rfl,h1⟩
 obtain⟨g,cap,rfl,hcap⟩:=hcell;have HK:=LB (LK _ _ b g 0 3 cap w (show 0<(aE 5 0 [] [aE 2 0 [120] []]).length by decide) h.at)
 have HL:=LB (Me _ _ (show (5:Int)≠1 by decide) 1 b _ w h.at.kid)
 have HJ:=LB (Ae _ _ true b _ w h.at (show (6:Int)≠4 by decide))
 have hb1:=(Below.refl _ w).alloc (Nat.le_refl _) (.cells #[.slice (some ⟨g,0,none⟩) 3 cap] 23)
 have HA:=LB (wW 129 (fun _ _=>by kernel_rfl) (fun _=>false) [LF] b _ _ (KSl.new1 hb (.inl h)) (by intro l hl;rw[List.mem_singleton] at hl;subst hl;decide) (by simp) (fun l hl w1 u _ hu=>by
  rw[List.mem_singleton] at hl;subst hl;exact My _ _ rfl b u w1 hu.at))
 simp only[List.all_cons,List.all_nil,Bool.and_true] at HA;have qN:=Dc;clear h;go_enter Tryz.func70,Tryz.ntmps70
 go_wp2_with fail
 refine HI.out.mono ?_;rintro e w1 ⟨rfl,rfl⟩;go_wp2_with fail
 refine HK.out.mono ?_;rintro e w1 ⟨rfl,rfl⟩;go_wp2_with fail
 refine HL.out.mono ?_;rintro e w1 ⟨rfl,rfl⟩;go_wp2_with fail
 refine HJ.out.mono ?_;rintro e w1 ⟨rfl,rfl⟩;go_wp2_with fail
 refine HA.out.mono ?_;rintro e w1 ⟨rfl,hb2⟩;go_wp2_with fail
 go_ret;exact⟨rfl,aD hb1 hb2⟩
theorem Mr (b:Nat)(v:Value)(w:World)(hb:b<w.heap.size)(h:NSl w b v LF) :
  Calls Tryz.prog 61 #[v] w fun e w'=>e = .returned (.bool true)∧Below w.heap.size w w':=by
 have HV:=LB (L8 _ _ (show (6:Int)≠4 by decide) false b v w hb h fun w1 u hu=>L7 _ _ (.inl rfl) b u w1 hu.at)
 have hcell:∃ g cap,v = .slice (some ⟨g,0,none⟩) 3 cap∧3≤cap:=by
  obtain⟨g,cap,rfl,h1,-⟩:=id h;exact⟨g,cap,rfl,h1⟩
 obtain⟨g,cap,rfl,hcap⟩:=hcell;have HH:=LB fun (w1:World) (h1:Below w.heap.size w w1)=>(h.below h1).at
 have H6:=LB fun (w1:World) (h1:Below w.heap.size w w1)=>mD _ _ 6 b _ w1 (HH.out w1 h1)
 have HK:=LB fun (w1:World) (h1:Below w.heap.size w w1)=>LK _ _ b g 0 3 cap w1 (show 0<(aE 5 0 [] [aE 2 0 [120] []]).length by decide) (HH.out w1 h1)
 have HM:=LB fun (w1:World) (h1:Below w.heap.size w w1)=>Ma _ _ (show (5:Int)≠1 by decide) b _ w1 (HH.out w1 h1).kid
 have H5:=LB fun (w1:World) (h1:Below w.heap.size w w1)=>mD _ _ 5 b _ w1 (HH.out w1 h1).kid
 have HK2:=LB fun (w1:World) (h1:Below w.heap.size w w1)=>LK _ _ b g 5 2 (cap - 1) w1 (show 0<(aE 2 0 [120] []).length by decide) (HH.out w1 h1).kid
 have HJ:Hid (∀ w1:World,Below w.heap.size w w1→Calls Tryz.prog 120 #[.slice (some ⟨g,10,none⟩) 1 (cap - 1 - 1),.bool false] w1 fun e w'=>e = .returned (.slice (some ⟨w1.heap.size,0,none⟩) 1 1)∧w'=w1.alloc (.cells #[.slice (some ⟨g,10,none⟩) 1 (cap - 1 - 1)] 23)):=LB fun w1 h1=>Ae _ _ false b _ w1 (HH.out w1 h1).kid.kid (show (2:Int)≠4 by decide)
 have HMX:=LB fun (w1:World) (h1:Below w.heap.size w w1)=>Ma _ _ (show (2:Int)≠1 by decide) b _ w1 (HH.out w1 h1).kid.kid
 have HQX:=LB fun (w1:World) (h1:Below w.heap.size w w1)=>Mv _ _ (show (2:Int)≠8 by decide) b _ w1 (HH.out w1 h1).kid.kid
 have HBX:=LB fun (w1:World) (h1:Below w.heap.size w w1)=>MI _ _ rfl b _ w1 (HH.out w1 h1).kid.kid
 clear h;go_enter Tryz.func61,Tryz.ntmps61
 go_wp2_with fail
 refine HV.out.mono ?_;rintro e w1 ⟨rfl,hb1⟩;go_wp2_with fail
 refine (H6.out w1 hb1).mono ?_;rintro e w2 ⟨rfl,rfl⟩;go_wp2_with fail
 refine (HK.out _ hb1).mono ?_;rintro e w3 ⟨rfl,rfl⟩;go_wp2_with fail
 refine (HM.out _ hb1).mono ?_;rintro e w4 ⟨rfl,hb2⟩;have hb3:=aD hb1 hb2;go_wp2_with fail
 refine (H5.out _ hb3).mono ?_;rintro e w5 ⟨rfl,rfl⟩;go_wp2_with fail
 refine (HK2.out _ hb3).mono ?_;rintro e w6 ⟨rfl,rfl⟩;go_wp2_with fail
 refine (HJ.out _ hb3).mono ?_;rintro e w7 ⟨rfl,rfl⟩;have hBk:=Blk.new w6 [Value.slice (some ⟨g,10,none⟩) 1 (cap - 1 - 1)] 23;have hb4:=hb3.alloc hb3.size (.cells #[Value.slice (some ⟨g,10,none⟩) 1 (cap - 1 - 1)] 23);generalize hR:w6.heap.size=R at *;generalize w6.alloc (.cells #[Value.slice (some ⟨g,10,none⟩) 1 (cap - 1 - 1)] 23)=w8 at *;have k0:=hBk.cell 0 rfl;clear hBk HV H6 HK HM H5 HK2 HJ hR;have hc9:cap - 1 - 1=cap - 2:=by omega
 go_wp2_with fail
 go_loopg [4,5,30] 1 (fun m d a i wr=>Below w8.heap.size w8 wr∧((m=1∧d = .bool false∧a = .bool false∧i = .int .i64 0)∨(m=0∧d = .bool true∧a = .bool true∧i = .int .i64 1)))
 case atStart=>exact⟨Below.refl _ _,.inl ⟨rfl,rfl,rfl,rfl⟩⟩
 case round =>
  obtain⟨hb5,⟨rfl,rfl,rfl,rfl⟩ | ⟨rfl,rfl,rfl,rfl⟩⟩:=hrel
  ·have k1:=aG hb5 k0;have hb6:=aD hb4 hb5;go_wp2_with fail
   refine (HMX.out _ hb6).mono ?_;rintro e w9 ⟨rfl,hb7⟩;have hb8:=aD hb6 hb7;go_wp2_with fail
   refine (HQX.out _ hb8).mono ?_;rintro e w10 ⟨rfl,rfl⟩;go_wp2_with fail
   refine (HBX.out _ hb8).mono ?_;rintro e w11 ⟨rfl,rfl⟩;go_wp2_with fail
   go_roundg 0
   case measure=>omega
   case rel=>exact⟨aD hb5 hb7,.inr ⟨rfl,rfl,rfl,by go_num⟩⟩
  ·go_wp2_with fail
   go_ret;exact⟨rfl,aD hb4 hb5⟩
theorem Mj (b:Nat)(v:Value)(w:World)(h:NSl w b v LF) :
  Calls Tryz.prog 53 #[v] w fun e w'=>e = .returned (.string (bs LE))∧Below w.heap.size w w':=by
 have hcell:∃ g cap,v = .slice (some ⟨g,0,none⟩) 3 cap∧3≤cap:=by
  obtain⟨g,cap,rfl,h1,-⟩:=id h;exact⟨g,cap,rfl,h1⟩
 obtain⟨g,cap,rfl,hcap⟩:=hcell;have H6:=LB (mD _ _ 6 b _ w h.at);have HK:=LB (LK _ _ b g 0 3 cap w (show 0<(aE 5 0 [] [aE 2 0 [120] []]).length by decide) h.at)
 have H5:=LB (mD _ _ 5 b _ w h.at.kid);have HK2:=LB (LK _ _ b g 5 2 (cap - 1) w (show 0<(aE 2 0 [120] []).length by decide) h.at.kid)
 have H4:=LB (mD _ _ 4 b _ w h.at.kid.kid);have H8:=LB (mD _ _ 8 b _ w h.at.kid.kid);have H1:=LB (mD _ _ 1 b _ w h.at.kid.kid);obtain⟨n0,-,-,-,n4⟩:=h.at.kid.kid.facts (k:=0) rfl;have n0:w.cell? ⟨g,10,none⟩=some (.int .i64 2):=n0;have n4:w.cell? ⟨g,14,none⟩=some (.string (bs [120])):=n4;have e1:((bs [120]).toList==[42])=false:=by kernel_rfl
 have o1:¬ 9223372036854775807<2+(bs [120]).size:=by decide
 have o2:¬ 9223372036854775807<2+(bs [120]).size+1:=by decide
 clear h
 have HD:Hid (Calls Tryz.prog 159 #[.slice (some ⟨g,10,none⟩) 1 (cap - 1 - 1)] w fun e w'=>e = .returned (.string (bs LE))∧Below w.heap.size w w'):=LB (by
  go_enter Tryz.func159,Tryz.ntmps159
  go_wp2_with fail
  go_ret;exact⟨rfl,Below.refl _ _⟩)
 have HA:Hid (Calls Tryz.prog 158 #[.slice (some ⟨g,10,none⟩) 1 (cap - 1 - 1)] w fun e w'=>e = .returned (.string (bs LE))∧Below w.heap.size w w'):=LB (by
  go_enter Tryz.func158,Tryz.ntmps158
  go_wp2_with fail
  refine H8.out.mono ?_;rintro e w1 ⟨rfl,rfl⟩;go_wp2_with fail
  refine H1.out.mono ?_;rintro e w1 ⟨rfl,rfl⟩;go_wp2_with fail
  refine HD.out.mono ?_;rintro e w1 ⟨rfl,hb⟩;go_wp2_with fail
  go_ret;exact⟨rfl,hb⟩)
 have HP:Hid (Calls Tryz.prog 108 #[.slice (some ⟨g,10,none⟩) 1 (cap - 1 - 1),.func (.func 158) #[] #[]] w fun e w'=>e = .returned (.string (bs LE))∧Below w.heap.size w w'):=LB (by
  go_enter Tryz.func108,Tryz.ntmps108
  go_wp2_with fail
  refine H4.out.mono ?_;rintro e w1 ⟨rfl,rfl⟩;go_wp2_with fail
  refine HA.out.mono ?_;rintro e w1 ⟨rfl,hb⟩;go_wp2_with fail
  go_ret;exact⟨rfl,hb⟩)
 have HL:Hid (Calls Tryz.prog 107 #[.slice (some ⟨g,10,none⟩) 1 (cap - 1 - 1)] w fun e w'=>e = .returned (.string (bs LE))∧Below w.heap.size w w'):=LB (by
  go_enter Tryz.func107,Tryz.ntmps107
  go_wp2_with fail
  refine HP.out.mono ?_;rintro e w1 ⟨rfl,hb⟩;go_wp2_with fail
  go_ret;exact⟨rfl,hb⟩)
 go_enter Tryz.func53,Tryz.ntmps53
 go_wp2_with fail
 refine H6.out.mono ?_;rintro e w1 ⟨rfl,rfl⟩;go_wp2_with fail
 refine HK.out.mono ?_;rintro e w1 ⟨rfl,rfl⟩;go_wp2_with fail
 refine H5.out.mono ?_;rintro e w1 ⟨rfl,rfl⟩;go_wp2_with fail
 refine HK2.out.mono ?_;rintro e w1 ⟨rfl,rfl⟩;go_wp2_with fail
 refine HL.out.mono ?_;rintro e w1 ⟨rfl,hb⟩;go_wp2_with fail
 go_ret;exact⟨rfl,hb⟩
theorem Mq (b:Nat)(v:Value)(w:World)(hb:b<w.heap.size)(hmx:∃ m,w.cell? ⟨11,0,none⟩=some (.int .i64 m))(h:NSl w b v LG) :
  Calls Tryz.prog 59 #[v] w fun e w'=>e = .returned (.string (bs LH))∧Below w.heap.size w w':=by
 have hcell:∃ g cap,v = .slice (some ⟨g,0,none⟩) 3 cap∧3≤cap:=by
  obtain⟨g,cap,rfl,h1,-⟩:=id h;exact⟨g,cap,rfl,h1⟩
 obtain⟨g,cap,rfl,hcap⟩:=hcell;have H6:=LB (mD _ _ 6 b _ w h.at);have H4:=LB (mD _ _ 4 b _ w h.at);have HK:=LB (tF 3 0 [] [a8 [97],a8 [98]] b _ w hb (by intro l hl;simp only[List.mem_cons,List.not_mem_nil,or_false] at hl;rcases hl with rfl | rfl <;> exact sJ _ _ _ _) (by decide) h.at)
 have HW:=LB fun (w2:World) (v2:Value) (h2:Below w.heap.size w w2) (hv:KSl w2 b v2 [a8 [97],a8 [98]])=>Hq 59 (fun _ _=>by kernel_rfl) shB [a8 [97],a8 [98]] (by simp) [32] (by simp) b v2 w2 hv (by intro l hl;simp only[List.mem_cons,List.not_mem_nil,or_false] at hl;rcases hl with rfl | rfl <;> exact mS _ _ _ _) (by simp) (by intro l hl;simp only[List.mem_cons,List.not_mem_nil,or_false] at hl;rcases hl with rfl | rfl <;> decide) (fun l hl w3 u3 h3 hu3=>by
  have hm3:∃ m,w3.cell? ⟨11,0,none⟩=some (.int .i64 m):=hmx.elim fun m hm=>⟨m,aG (aD h2 h3) hm⟩
  simp only[List.mem_cons,List.not_mem_nil,or_false] at hl
  rcases hl with rfl | rfl
  ·exact D3 1 (.inl rfl) [97] b u3 w3 hm3 (by simp) hu3
  ·exact D3 1 (.inl rfl) [98] b u3 w3 hm3 (by simp) hu3)
 rw[show Lib.join ([a8 [97],a8 [98]].map shB) [32]=[39,97,39,32,39,98,39] from by decide] at HW
 obtain⟨n0,-⟩:=h.at.facts (k:=0) rfl;have n0:w.cell? ⟨g,0,none⟩=some (.int .i64 3):=n0;clear h
 have HI:Hid (Calls Tryz.prog 115 #[.slice (some ⟨g,0,none⟩) 3 cap] w fun e w'=>e = .returned (.string (bs LH))∧Below w.heap.size w w'):=LB (by
  go_enter Tryz.func115,Tryz.ntmps115
  go_wp2_with fail
  refine HK.out.mono ?_;rintro e w1 ⟨v1,rfl,hv1,hb1⟩;have HW1:=LB (HW.out w1 v1 hb1 hv1);obtain⟨ao,cp,rfl,-⟩:=hv1;simp only[List.length_cons,List.length_nil,Nat.zero_add,Nat.reduceAdd] at HW1 ⊢;go_wp2_with fail
  refine HW1.out.mono ?_;rintro e w2 ⟨rfl,hb2⟩;go_wp2_with fail
  go_ret;exact⟨rfl,aD hb1 hb2⟩)
 have HG:Hid (Calls Tryz.prog 114 #[.slice (some ⟨g,0,none⟩) 3 cap,.func (.func 115) #[] #[]] w fun e w'=>e = .returned (.string (bs LH))∧Below w.heap.size w w'):=LB (by
  go_enter Tryz.func114,Tryz.ntmps114
  go_wp2_with fail
  refine H4.out.mono ?_;rintro e w1 ⟨rfl,rfl⟩;go_wp2_with fail
  refine HI.out.mono ?_;rintro e w1 ⟨rfl,hb⟩;go_wp2_with fail
  go_ret;exact⟨rfl,hb⟩)
 go_enter Tryz.func59,Tryz.ntmps59
 go_wp2_with fail
 refine H6.out.mono ?_;rintro e w1 ⟨rfl,rfl⟩;go_wp2_with fail
 refine HG.out.mono ?_;rintro e w1 ⟨rfl,hb⟩;go_wp2_with fail
 go_ret;exact⟨rfl,hb⟩
theorem Mi (s:List UInt8)(b:Nat)(v:Value)(w:World)(hmx:∃ m,w.cell? ⟨11,0,none⟩=some (.int .i64 m))(hs:s.length≤5000)(h:NSl w b v (a8 s)) :
  Calls Tryz.prog 54 #[v] w fun e w'=>e = .returned (.string (bs (eP s)))∧Below w.heap.size w w':=by
 have H1:=LB (mD _ _ 1 b v w h.at);have H4:=LB (mD _ _ 4 b v w h.at);obtain⟨g,o,cap,rfl,h1,n0,n1,n4⟩:=sO (kd:=1) (s:=s) h.at;have HQ:=LB (Al s w hmx hs);clear h hmx hs
 have HP:Hid (Calls Tryz.prog 109 #[.slice (some ⟨g,o,none⟩) 1 cap] w fun e w'=>e = .returned (.string (bs (eP s)))∧Below w.heap.size w w'):=LB (by
  go_enter Tryz.func109,Tryz.ntmps109
  go_wp2_with fail
  refine H1.out.mono ?_;rintro e w1 ⟨rfl,rfl⟩;go_wp2_with fail
  refine HQ.out.mono ?_;rintro e w1 ⟨rfl,hb1⟩;go_wp2_with fail
  go_ret;exact⟨rfl,hb1⟩)
 have HR:Hid (Calls Tryz.prog 108 #[.slice (some ⟨g,o,none⟩) 1 cap,.func (.func 109) #[] #[]] w fun e w'=>e = .returned (.string (bs (eP s)))∧Below w.heap.size w w'):=LB (by
  go_enter Tryz.func108,Tryz.ntmps108
  go_wp2_with fail
  refine H4.out.mono ?_;rintro e w1 ⟨rfl,rfl⟩;go_wp2_with fail
  refine HP.out.mono ?_;rintro e w1 ⟨rfl,hb1⟩;go_wp2_with fail
  go_ret;exact⟨rfl,hb1⟩)
 go_enter Tryz.func54,Tryz.ntmps54
 go_wp2_with fail
 refine HR.out.mono ?_;rintro e w1 ⟨rfl,hb1⟩;go_wp2_with fail
 go_ret;exact⟨rfl,hb1⟩
end Go.Proofs.YtnombfbpmmmoeaaGreatDoor
