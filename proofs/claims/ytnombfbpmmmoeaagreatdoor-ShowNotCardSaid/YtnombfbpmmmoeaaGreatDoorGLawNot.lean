/- ShowNot. -/
import Derived.Test.YtnombfbpmmmoeaaGreatDoorGShowTowW
import Derived.Test.YtnombfbpmmmoeaaGreatDoorGZT
import Derived.Test.YtnombfbpmmmoeaaGreatDoorGZF
namespace Go.Proofs.YtnombfbpmmmoeaaGreatDoor
set_option maxHeartbeats 16000000
set_option maxRecDepth 100000
open Go Go.RowKit
def qN:Nat→aA
 | 0=>LP
 | 1=>LN
 | 2=>LI
 | _=>LJ
theorem LR {l:aA}(hl:l.length≤1000)(h:l.all LO=true):o8 l:=JK (by omega) fun x hx=>of_decide_eq_true (List.all_eq_true.1 h x hx)
theorem LW (u:Nat):oV (qN u):=by
 unfold qN;split <;> exact sJ _ _ _ _
theorem LS (u n:Nat):0<(tow (qN u) n).length:=by
 obtain⟨x,r,h,-⟩:=LV (qN u) (LW u) n;rw[h];simp
theorem L6 (u n:Nat)(hu:u<4)(hn:n<8):o8 (tow (qN u) n)∧dA (tow (qN u) n)=none∧0<(tow (qN u) n).length∧(tow (qN u) n).length≤1000:=by
 obtain⟨a0,a1,a2,a3⟩:=MT n hn;obtain⟨b0,b1,b2,b3⟩:=MU n hn;obtain⟨-,-,c0,c1,c2,c3⟩:=LL n hn
 match u,hu with
 | 0,_=>exact⟨LR c0 a0,b0,LS 0 n,c0⟩
 | 1,_=>exact⟨LR c1 a1,b1,LS 1 n,c1⟩
 | 2,_=>exact⟨LR c2 a2,b2,LS 2 n,c2⟩
 | 3,_=>exact⟨LR c3 a3,b3,LS 3 n,c3⟩
theorem L1 (u:Nat):(qN u).length≤1000:=by
 unfold qN;split <;> decide
theorem Na (u:Nat)(hu:u<4)(b:Nat)(w:World)(hb0:b<w.heap.size):∀ (w1:World)(v:Value),Below w.heap.size w w1→NSl w1 b v (qN u)→LD (.agg #[.func (.func 61) #[] #[],.func (.func 62) #[] #[],.func (.func 62) #[] #[],.func (.func 63) #[] #[],.func (.func 64) #[] #[],.func (.func 65) #[] #[],.bool false]) v (u==2) w1:=by
 intro w1 v h1 hv;have hb1:=Nat.lt_of_lt_of_le hb0 h1.size
 match u,hu with
 | 0,_ =>
  exact LT 61 62 62 63 64 65 false _ _ (.inl rfl) b v w1 hv.at fun w2 h2=>(tF 36 0 [] [a8 [97]] b v w2 (Nat.lt_of_lt_of_le hb1 h2.size) (by intro l hl;rw[List.mem_singleton] at hl;subst hl;exact sJ _ _ _ _) (by decide) (hv.below h2).at).mono fun e w' ⟨v',he,_,hb'⟩=>⟨v',he,hb'⟩
 | 1,_ =>
  exact LT 61 62 62 63 64 65 false _ _ (.inr rfl) b v w1 hv.at fun w2 h2=>(tF 37 0 [] [aE 20 0 [] []] b v w2 (Nat.lt_of_lt_of_le hb1 h2.size) (by intro l hl;rw[List.mem_singleton] at hl;subst hl;exact sJ _ _ _ _) (by decide) (hv.below h2).at).mono fun e w' ⟨v',he,_,hb'⟩=>⟨v',he,hb'⟩
 | 2,_ =>
  exact fun w2 h2=>A8 61 62 62 63 64 65 false (fun _ _=>by kernel_rfl) (fun _=>true) [LF] b v w2 (Nat.lt_of_lt_of_le hb1 h2.size) (hv.below h2).at (by intro l hl;rw[List.mem_singleton] at hl;subst hl;exact sJ _ _ _ _) (by simp) (by decide) (fun l hl w3 u3 h3 hu3=>by
   rw[List.mem_singleton] at hl;subst hl;exact Mr b u3 w3 (Nat.lt_of_lt_of_le hb1 (aD h2 h3).size) hu3)
 | 3,_ =>
  exact fun w2 h2=>A8 61 62 62 63 64 65 false (fun _ _=>by kernel_rfl) (fun _=>false) [LG] b v w2 (Nat.lt_of_lt_of_le hb1 h2.size) (hv.below h2).at (by intro l hl;rw[List.mem_singleton] at hl;subst hl;exact sJ _ _ _ _) (by simp) (by decide) (fun l hl w3 u3 h3 hu3=>by
   rw[List.mem_singleton] at hl;subst hl;exact Mx b u3 w3 (Nat.lt_of_lt_of_le hb1 (aD h2 h3).size) hu3)
theorem Mf (u:Nat)(hu:u<4)(b:Nat)(w:World)(hb0:b<w.heap.size)(n:Nat)(hn:n<8)(w1:World)(v:Value)(h1:Below w.heap.size w w1)(hv:NSl w1 b v (tow (qN u) n)):LD (.agg #[.func (.func 61) #[] #[],.func (.func 62) #[] #[],.func (.func 62) #[] #[],.func (.func 63) #[] #[],.func (.func 64) #[] #[],.func (.func 65) #[] #[],.bool false]) v (u==2) w1 :=
 LX 61 62 62 63 64 65 false (fun _ _=>by kernel_rfl) (qN u) (LW u) (L1 u) (u==2) b w hb0 (fun w2 v2 h2 hv2=>EC 1 (.inl rfl) [116] b v2 w2 (Nat.lt_of_lt_of_le hb0 h2.size) hv2) (Na u hu b w hb0) n hn w1 v h1 hv
theorem Nb (u:Nat)(hu:u<4)(b:Nat)(w:World)(hb0:b<w.heap.size):∀ (w1:World)(v:Value),Below w.heap.size w w1→NSl w1 b v (qN u)→LD (.agg #[.func (.func 70) #[] #[],.func (.func 70) #[] #[],.func (.func 69) #[] #[],.func (.func 72) #[] #[],.func (.func 70) #[] #[],.func (.func 73) #[] #[],.bool true]) v (u==3) w1:=by
 intro w1 v h1 hv;have hb1:=Nat.lt_of_lt_of_le hb0 h1.size
 match u,hu with
 | 0,_ =>
  exact LT 70 70 69 72 70 73 true _ _ (.inl rfl) b v w1 hv.at fun w2 h2=>(tF 36 0 [] [a8 [97]] b v w2 (Nat.lt_of_lt_of_le hb1 h2.size) (by intro l hl;rw[List.mem_singleton] at hl;subst hl;exact sJ _ _ _ _) (by decide) (hv.below h2).at).mono fun e w' ⟨v',he,_,hb'⟩=>⟨v',he,hb'⟩
 | 1,_ =>
  exact LT 70 70 69 72 70 73 true _ _ (.inr rfl) b v w1 hv.at fun w2 h2=>(tF 37 0 [] [aE 20 0 [] []] b v w2 (Nat.lt_of_lt_of_le hb1 h2.size) (by intro l hl;rw[List.mem_singleton] at hl;subst hl;exact sJ _ _ _ _) (by decide) (hv.below h2).at).mono fun e w' ⟨v',he,_,hb'⟩=>⟨v',he,hb'⟩
 | 2,_ =>
  exact fun w2 h2=>A8 70 70 69 72 70 73 true (fun _ _=>by kernel_rfl) (fun _=>false) [LF] b v w2 (Nat.lt_of_lt_of_le hb1 h2.size) (hv.below h2).at (by intro l hl;rw[List.mem_singleton] at hl;subst hl;exact sJ _ _ _ _) (by simp) (by decide) (fun l hl w3 u3 h3 hu3=>by
   rw[List.mem_singleton] at hl;subst hl;exact Mu b u3 w3 (Nat.lt_of_lt_of_le hb1 (aD h2 h3).size) hu3)
 | 3,_ =>
  exact fun w2 h2=>A8 70 70 69 72 70 73 true (fun _ _=>by kernel_rfl) (fun _=>true) [LG] b v w2 (Nat.lt_of_lt_of_le hb1 h2.size) (hv.below h2).at (by intro l hl;rw[List.mem_singleton] at hl;subst hl;exact sJ _ _ _ _) (by simp) (by decide) (fun l hl w3 u3 h3 hu3=>by
   rw[List.mem_singleton] at hl;subst hl;exact MB b u3 w3 (Nat.lt_of_lt_of_le hb1 (aD h2 h3).size) hu3)
theorem Mg (u:Nat)(hu:u<4)(b:Nat)(w:World)(hb0:b<w.heap.size)(n:Nat)(hn:n<8)(w1:World)(v:Value)(h1:Below w.heap.size w w1)(hv:NSl w1 b v (tow (qN u) n)):LD (.agg #[.func (.func 70) #[] #[],.func (.func 70) #[] #[],.func (.func 69) #[] #[],.func (.func 72) #[] #[],.func (.func 70) #[] #[],.func (.func 73) #[] #[],.bool true]) v (u==3) w1 :=
 LX 70 70 69 72 70 73 true (fun _ _=>by kernel_rfl) (qN u) (LW u) (L1 u) (u==3) b w hb0 (fun w2 v2 h2 hv2=>Gi 1 (.inl rfl) [116] b v2 w2 (Nat.lt_of_lt_of_le hb0 h2.size) hv2) (Nb u hu b w hb0) n hn w1 v h1 hv
theorem MR (u n:Nat)(hu:u<4)(hn:n<8)(sent:Nat→Addr)(b:Nat)(v:Value)(w:World)(hb0:b<w.heap.size)(hS:jN w sent)(hmx:∃ m,w.cell? ⟨11,0,none⟩=some (.int .i64 m))(het:w.cell? ⟨8,0,none⟩=some (.iface 148 (.agg #[.pointer (some ⟨18,27,none⟩)])))(hv:NSl w b v (tow (qN u) n)) :
  Calls Tryz.prog 15 #[v] w fun e w'=>(∃ s,e = .returned (.tuple #[.string s,if u=2 then .nilIface else .iface 287 (.pointer (some (sent 115)))]))∧Below w.heap.size w w':=by
 obtain⟨F,hck,hl,-⟩:=L6 u n hu hn;have hMX:∀ w1,Below w.heap.size w w1→∃ m,w1.cell? ⟨11,0,none⟩=some (.int .i64 m):=fun w1 h=>hmx.elim fun m hm=>⟨m,aG h hm⟩
 have hSa:=fun (w1:World) (h1:Below w.heap.size w w1)=>Mf u hu b w hb0 n hn w1 v h1 (hv.below h1)
 by_cases h:u=2
 ·subst h;rw[if_pos rfl];refine (M8 (tow LI n) F hck hl (EA LE n) ((LL n hn).1) sent b v w hS.env hv hSa ?_ fun w1 h1=>(wQ _ _ (ME n hn) ((LL n hn).1) (M0 n hn) w1 sent (hS.below h1) (hMX w1 h1) (aG h1 het)).mono fun e w' ⟨g,c,b',he,_,hb'⟩=>⟨_,he,hb'⟩).mono fun e w' ⟨he,hb⟩=>⟨⟨_,he⟩,hb⟩
  refine L4 53 54 55 #[.agg #[.func (.func 53) #[] #[],.func (.func 54) #[] #[],.nilFunc]] (fun _ _=>by kernel_rfl) LI (sJ _ _ _ _) (by decide) LE (by decide) b w hb0 (fun w2 v2 h2 hv2=>Mi [116] b v2 w2 (hMX w2 h2) (by simp) hv2) (fun w1 u1 h1 hu1=>?_) n hn w v (Below.refl _ _) hv
  have hb1:=Nat.lt_of_lt_of_le hb0 h1.size;have hsz:∀ l∈[LF],oV l:=by intro l hl;rw[List.mem_singleton] at hl;subst hl;exact sJ _ _ _ _
  refine fun w2 h2=>?_
  have:=Az 53 54 55 #[.agg #[.func (.func 53) #[] #[],.func (.func 54) #[] #[],.nilFunc]] _ _ (show (21:Int)≠20 by decide) (show (21:Int)≠23 by decide) (show (21:Int)≠25 by decide) (show (21:Int)≠26 by decide) (show (21:Int)≠27 by decide) (show (21:Int)≠32 by decide) b u1 (bs (Lib.join ([LF].map fun _=>LE) [32])) w2 (hu1.below h2).at
   (fun w3 h3=>(tF 21 0 [] [LF] b u1 w3 (Nat.lt_of_lt_of_le hb1 (aD h2 h3).size) hsz (by decide) (hu1.below (aD h2 h3)).at).mono fun e w' ⟨v',he,_,hb'⟩=>⟨v',he,hb'⟩)
   (fun w3 h3=>y7 53 54 55 _ (fun _ _=>by kernel_rfl) (fun _=>LE) [LF] (by simp) b u1 w3 (Nat.lt_of_lt_of_le hb1 (aD h2 h3).size) (hu1.below (aD h2 h3)).at hsz (by simp) (by decide) (fun l hl=>by decide) (fun l hl w4 u3 h4 hu3=>by
    rw[List.mem_singleton] at hl;subst hl;exact Mj b u3 w4 hu3))
  rw[List.map_cons,List.map_nil,Lib.join_one] at this;exact this
 ·rw[if_neg h];have e:(u==2)=false:=beq_eq_false_iff_ne.2 h;rw[e] at hSa;exact (M7 (tow (qN u) n) F hck hl sent b v w hS.env hv hSa).mono fun e w' ⟨he,hb⟩=>⟨⟨_,he⟩,hb⟩
theorem MO (u n:Nat)(hu:u<4)(hn:n<8)(sent:Nat→Addr)(b:Nat)(v:Value)(w:World)(hb0:b<w.heap.size)(hS:jN w sent)(hmx:∃ m,w.cell? ⟨11,0,none⟩=some (.int .i64 m))(_het:w.cell? ⟨8,0,none⟩=some (.iface 148 (.agg #[.pointer (some ⟨18,27,none⟩)])))(hv:NSl w b v (tow (qN u) n)) :
  Calls Tryz.prog 16 #[v] w fun e w'=>(∃ s,e = .returned (.tuple #[.string s,if u=3 then .nilIface else .iface 287 (.pointer (some (sent 115)))]))∧Below w.heap.size w w':=by
 obtain⟨F,hck,hl,-⟩:=L6 u n hu hn;have hMX:∀ w1,Below w.heap.size w w1→∃ m,w1.cell? ⟨11,0,none⟩=some (.int .i64 m):=fun w1 h=>hmx.elim fun m hm=>⟨m,aG h hm⟩
 have hSa:=fun (w1:World) (h1:Below w.heap.size w w1)=>Mg u hu b w hb0 n hn w1 v h1 (hv.below h1)
 by_cases h:u=3
 ·subst h;rw[if_pos rfl];refine (M9 (tow LJ n) F hck hl (EA LH n) ((LL n hn).2.1) sent b v w hS.env hv hSa ?_ fun w1 h1=>(wP _ _ (MN n hn) ((LL n hn).2.1) (MZ n hn) w1 sent (hS.below h1) (hMX w1 h1)).mono fun e w' ⟨g,c,b',he,_,hb'⟩=>⟨_,he,hb'⟩).mono fun e w' ⟨he,hb⟩=>⟨⟨_,he⟩,hb⟩
  refine L4 59 59 60 #[.agg #[.func (.func 59) #[] #[],.func (.func 59) #[] #[],.nilFunc]] (fun _ _=>by kernel_rfl) LJ (sJ _ _ _ _) (by decide) LH (by decide) b w hb0 (fun w2 v2 h2 hv2=>D3 1 (.inl rfl) [116] b v2 w2 (hMX w2 h2) (by simp) hv2) (fun w1 u1 h1 hu1=>?_) n hn w v (Below.refl _ _) hv
  have hb1:=Nat.lt_of_lt_of_le hb0 h1.size;have hsz:∀ l∈[LG],oV l:=by intro l hl;rw[List.mem_singleton] at hl;subst hl;exact sJ _ _ _ _
  refine fun w2 h2=>?_
  have:=Az 59 59 60 #[.agg #[.func (.func 59) #[] #[],.func (.func 59) #[] #[],.nilFunc]] _ _ (show (21:Int)≠20 by decide) (show (21:Int)≠23 by decide) (show (21:Int)≠25 by decide) (show (21:Int)≠26 by decide) (show (21:Int)≠27 by decide) (show (21:Int)≠32 by decide) b u1 (bs (Lib.join ([LG].map fun _=>LH) [32])) w2 (hu1.below h2).at
   (fun w3 h3=>(tF 21 0 [] [LG] b u1 w3 (Nat.lt_of_lt_of_le hb1 (aD h2 h3).size) hsz (by decide) (hu1.below (aD h2 h3)).at).mono fun e w' ⟨v',he,_,hb'⟩=>⟨v',he,hb'⟩)
   (fun w3 h3=>y7 59 59 60 _ (fun _ _=>by kernel_rfl) (fun _=>LH) [LG] (by simp) b u1 w3 (Nat.lt_of_lt_of_le hb1 (aD h2 h3).size) (hu1.below (aD h2 h3)).at hsz (by simp) (by decide) (fun l hl=>by decide) (fun l hl w4 u3 h4 hu3=>by
    rw[List.mem_singleton] at hl;subst hl;exact Mq b u3 w4 (Nat.lt_of_lt_of_le hb1 (aD (aD h2 h3) h4).size) (hMX w4 (aD h1 (aD (aD h2 h3) h4))) hu3))
  rw[List.map_cons,List.map_nil,Lib.join_one] at this;exact this
 ·rw[if_neg h];have e:(u==3)=false:=beq_eq_false_iff_ne.2 h;rw[e] at hSa;exact (M6 (tow (qN u) n) F hck hl sent b v w hS.env hv hSa).mono fun e w' ⟨he,hb⟩=>⟨⟨_,he⟩,hb⟩
theorem Nc (n:Int):bits .and .i64 n 7=n % 8:=by
 have h127:(BitVec.ofInt 64 7).toNat=2 ^ 3 - 1:=by decide
 have key:(BitVec.ofInt 64 n &&& BitVec.ofInt 64 7).toNat=(n % ((2 ^ 64:Nat):Int)).toNat % 2 ^ 3:=by
  rw[BitVec.toNat_and,BitVec.toNat_ofInt,h127,Nat.and_two_pow_sub_one_eq_mod]
 show IntKind.i64.wrap ((BitVec.ofInt 64 n &&& BitVec.ofInt 64 7).toNat:Nat)=n % 8
 rw[key,IntKind.wrap_i64];omega
theorem MW (z a y:Int)(u n:Nat)(hu:u<4)(hz:Int.tmod z 4=y)(hy1 : -3≤y)(hy2:y≤3)(hyu:Int.tmod (y+4) 4=u)(hn:n<8)(ha:bits .and .i64 a 7=n)(sent:Nat→Addr)(w:World)(hS:jN w sent)(hmx:∃ m,w.cell? ⟨11,0,none⟩=some (.int .i64 m))(het:w.cell? ⟨8,0,none⟩=some (.iface 148 (.agg #[.pointer (some ⟨18,27,none⟩)]))) :
  Calls Tryz.prog 5 #[.int .i64 z,.int .i64 a] w fun e w'=>e = .returned (.bool true)∧Below w.heap.size w w':=by
 have hg:11<w.heap.size:=hmx.elim fun m hm=>block_lt_of_cell hm
 have HF:=LB (Fv sent w hS hmx het);have HSe:=LB hS;have HMX:Hid (∀ w1,Below w.heap.size w w1→∃ m,w1.cell? ⟨11,0,none⟩=some (.int .i64 m)):=LB fun w1 h=>hmx.elim fun m hm=>⟨m,aG h hm⟩
 have HET:=LB het;have hw1:IntKind.i64.wrap (y+4)=y+4:=by rw[IntKind.wrap_i64];omega
 have hw2:IntKind.i64.wrap y=y:=by rw[IntKind.wrap_i64];omega
 have hw3:IntKind.i64.wrap (u:Int)=u:=by rw[IntKind.wrap_i64];omega
 clear hS hmx het;go_enter Tryz.func5,Tryz.ntmps5
 go_wp2_with fail
 refine HF.out.mono ?_;rintro e w1 ⟨rfl,hb1⟩;have hg1:=Nat.lt_of_lt_of_le hg hb1.size;clear HF;go_wp2_with fail
 refine (oD [97] 11 w1 hg1).mono ?_;rintro e w2 ⟨v2,rfl,h2,hb2⟩;obtain⟨g2,c2,rfl,-⟩:=id h2;have hg2:=Nat.lt_of_lt_of_le hg1 hb2.size;go_wp2_with fail
 refine (LM 36 0 [] (a8 [97]) 11 _ w2 hg2 h2 (by decide)).mono ?_
 rintro e w3 ⟨v3,rfl,h3,hb3⟩;obtain⟨g3,c3,rfl,-⟩:=id h3;have hg3:=Nat.lt_of_lt_of_le hg2 hb3.size;go_wp2_with fail
 refine (bZ 20 0 [] [] 11 _ w3 hg3 (KSl.nil _ _) (by simp) (by simp)).mono ?_
 rintro e w4 ⟨v4,rfl,h4,hb4⟩;obtain⟨g4,c4,rfl,-⟩:=id h4;have hg4:=Nat.lt_of_lt_of_le hg3 hb4.size;go_wp2_with fail
 refine (LM 37 0 [] (aE 20 0 [] []) 11 _ w4 hg4 h4 (by decide)).mono ?_
 rintro e w5 ⟨v5,rfl,h5,hb5⟩;obtain⟨g5,c5,rfl,-⟩:=id h5;have hg5:=Nat.lt_of_lt_of_le hg4 hb5.size;go_wp2_with fail
 refine (bZ 2 0 [120] [] 11 _ w5 hg5 (KSl.nil _ _) (by simp) (by simp)).mono ?_
 rintro e w6 ⟨v6,rfl,h6,hb6⟩;obtain⟨g6,c6,rfl,-⟩:=id h6;have hg6:=Nat.lt_of_lt_of_le hg5 hb6.size;go_wp2_with fail
 refine (LM 5 0 [] (aE 2 0 [120] []) 11 _ w6 hg6 h6 (by decide)).mono ?_
 rintro e w7 ⟨v7,rfl,h7,hb7⟩;obtain⟨g7,c7,rfl,-⟩:=id h7;have hg7:=Nat.lt_of_lt_of_le hg6 hb7.size;go_wp2_with fail
 refine (LM 6 0 [] (aE 5 0 [] [aE 2 0 [120] []]) 11 _ w7 hg7 h7 (by decide)).mono ?_
 rintro e w8 ⟨v8,rfl,h8,hb8⟩;obtain⟨g8,c8,rfl,-⟩:=id h8;have hg8:=Nat.lt_of_lt_of_le hg7 hb8.size;go_wp2_with fail
 refine (vJ [LF] 11 _ _ (by simp;omega) (KSl.new1 hg8 (.inl h8)) (by decide) (by decide)).mono ?_
 rintro e w9 ⟨v9,rfl,h9,hb9⟩;obtain⟨g9,c9,rfl,-⟩:=id h9;have hb9:=aD ((Below.refl _ w8).alloc (Nat.le_refl _) _) hb9;have hg9:=Nat.lt_of_lt_of_le hg8 hb9.size;go_wp2_with fail
 refine (oD [97] 11 w9 hg9).mono ?_;rintro e w10 ⟨v10,rfl,h10,hb10⟩;obtain⟨g10,c10,rfl,-⟩:=id h10;have hg10:=Nat.lt_of_lt_of_le hg9 hb10.size;go_wp2_with fail
 refine (oD [98] 11 w10 hg10).mono ?_;rintro e w11 ⟨v11,rfl,h11,hb11⟩;obtain⟨g11,c11,rfl,-⟩:=id h11;have hg11:=Nat.lt_of_lt_of_le hg10 hb11.size;go_wp2_with fail
 refine (Mb 3 0 (a8 [97]) (a8 [98]) 11 _ _ w11 hg11 (h10.below hb11) h11 (by decide)).mono ?_
 rintro e w12 ⟨v12,rfl,h12,hb12⟩;obtain⟨g12,c12,rfl,-⟩:=id h12;have hg12:=Nat.lt_of_lt_of_le hg11 hb12.size;go_wp2_with fail
 refine (vJ [LG] 11 _ _ (by simp;omega) (KSl.new1 hg12 (.inl h12)) (by decide) (by decide)).mono ?_
 rintro e w13 ⟨v13,rfl,h13,hb13⟩;obtain⟨g13,c13,rfl,-⟩:=id h13;have hb13:=aD ((Below.refl _ w12).alloc (Nat.le_refl _) _) hb13;have s12:=aD hb12 hb13;have s11:=aD hb11 s12;have s10:=aD hb10 s11;have s9:=aD hb9 s10;have s8:=aD hb8 s9;have s7:=aD hb7 s8;have s6:=aD hb6 s7;have s5:=aD hb5 s6;have s4:=aD hb4 s5;have s1:=aD hb1 (aD hb2 (aD hb3 s4));have q0:NSl w13 11 _ LP:=h3.below s4;have q1:NSl w13 11 _ LN:=h5.below s6;have q2:NSl w13 11 _ LI:=h9.below s10;have q3:NSl w13 11 _ LJ:=h13;have hBk:=Blk.new w13 [.slice (some ⟨g3,0,none⟩) (aE 36 0 [] [a8 [97]]).length c3,.slice (some ⟨g5,0,none⟩) (aE 37 0 [] [aE 20 0 [] []]).length c5,.slice (some ⟨g9,0,none⟩) (aE 21 0 [] [LF]).length c9,.slice (some ⟨g13,0,none⟩) (aE 21 0 [] [LG]).length c13] 23;have hb14:=(Below.refl _ w13).alloc (Nat.le_refl _) (.cells #[.slice (some ⟨g3,0,none⟩) (aE 36 0 [] [a8 [97]]).length c3,.slice (some ⟨g5,0,none⟩) (aE 37 0 [] [aE 20 0 [] []]).length c5,.slice (some ⟨g9,0,none⟩) (aE 21 0 [] [LF]).length c9,.slice (some ⟨g13,0,none⟩) (aE 21 0 [] [LG]).length c13] 23)
 have HQ:∃ gq zq cq,(w13.alloc (.cells #[.slice (some ⟨g3,0,none⟩) (aE 36 0 [] [a8 [97]]).length c3,.slice (some ⟨g5,0,none⟩) (aE 37 0 [] [aE 20 0 [] []]).length c5,.slice (some ⟨g9,0,none⟩) (aE 21 0 [] [LF]).length c9,.slice (some ⟨g13,0,none⟩) (aE 21 0 [] [LG]).length c13] 23)).cell? ⟨w13.heap.size,u,none⟩=some (.slice (some ⟨gq,0,none⟩) zq cq)∧NSl w13 11 (.slice (some ⟨gq,0,none⟩) zq cq) (qN u):=by
  match u,hu with
  | 0,_=>exact⟨_,_,_,hBk.cell 0 rfl,q0⟩
  | 1,_=>exact⟨_,_,_,hBk.cell 1 rfl,q1⟩
  | 2,_=>exact⟨_,_,_,hBk.cell 2 rfl,q2⟩
  | 3,_=>exact⟨_,_,_,hBk.cell 3 rfl,q3⟩
 obtain⟨gq,zq,cq,kq,hq⟩:=HQ;have hq:=hq.below hb14;have s14:=aD s1 hb14;clear q0 q1 q2 q3 h2 h3 h4 h5 h6 h7 h8 h9 h10 h11 h12 h13 hBk;clear s4 s5 s6 s7 s8 s9 s10 s11 s12 hb1 hb2 hb3 hb4 hb5 hb6 hb7 hb8 hb9 hb10 hb11 hb12 hb13 hb14;generalize (aE 36 0 [] [a8 [97]]).length=n3 at *;generalize (aE 37 0 [] [aE 20 0 [] []]).length=n5 at *;generalize (aE 21 0 [] [LF]).length=n9 at *;generalize (aE 21 0 [] [LG]).length=n13 at *;go_wp2_with fail
 go_loopg [6,7] n (fun m p i wr=>∃ k:Nat,m=n - k∧k≤n∧i = .int .i64 k∧NSl wr 11 p (tow (qN u) k)∧Below w.heap.size w wr)
 case atStart=>exact⟨0,rfl,Nat.zero_le _,rfl,hq,s14⟩
 case round =>
  obtain⟨k,rfl,hk,rfl,hp,hbr⟩:=hrel;have hgr:=Nat.lt_of_lt_of_le hg hbr.size;have HP:=LB hp;obtain⟨gp,cp,rfl,-⟩:=id hp;clear hp
  by_cases hlt:k<n
  ·have hlk:=LQ (qN u) k;have hql:=L1 u;have hz9:(tow (qN u) k).length≤1021:=by omega
   clear hlk hql;generalize hzk:(tow (qN u) k).length=zk at *;go_wp2_with fail
   refine (oD [116] 11 wr hgr).mono ?_;rintro e w20 ⟨v20,rfl,h20,hb20⟩;obtain⟨g20,c20,rfl,-⟩:=id h20;have hg20:=Nat.lt_of_lt_of_le hgr hb20.size;go_wp2_with fail
   refine (Mb 34 0 (a8 [116]) (tow (qN u) k) 11 _ _ w20 hg20 h20 (by have:=HP.out.below hb20;exact this) (by rw[hzk];simp [a8,aE];omega)).mono ?_
   rintro e w21 ⟨v21,rfl,h21,hb21⟩;obtain⟨g21,c21,rfl,-⟩:=id h21;have hg21:=Nat.lt_of_lt_of_le hg20 hb21.size;go_wp2_with fail
   refine (LM 27 0 [] (aE 34 0 [] [a8 [116],tow (qN u) k]) 11 _ w21 hg21 h21 (by simp [a8,aE];omega)).mono ?_
   rintro e w22 ⟨v22,rfl,h22,hb22⟩;obtain⟨g22,c22,rfl,-⟩:=id h22;go_wp2_with fail
   go_roundg (n - (k+1))
   case measure=>omega
   case rel=>exact⟨k+1,rfl,by omega,by go_num,h22,aD hbr (aD hb20 (aD hb21 hb22))⟩
  ·obtain rfl:k=n:=by omega
   have HA:=LB (MR u k hu hn sent 11 _ wr hgr (HSe.out.below hbr) (HMX.out wr hbr) (aG hbr HET.out) HP.out);have HB:=LB fun (w1:World) (h:Below wr.heap.size wr w1)=>MO u k hu hn sent 11 _ w1 (Nat.lt_of_lt_of_le hgr h.size) (HSe.out.below (aD hbr h)) (HMX.out w1 (aD hbr h)) (aG (aD hbr h) HET.out) (HP.out.below h)
   obtain⟨F,hck,hl,-⟩:=L6 u k hu hn;have HCA:=LB fun (w1:World) (h:Below wr.heap.size wr w1)=>LZ _ F hck hl (u==2) sent 11 _ w1 (HSe.out.below (aD hbr h)).env (HP.out.below h) fun w2 h2=>Mf u hu 11 wr hgr k hn w2 _ (aD h h2) (HP.out.below (aD h h2))
   have HCB:=LB fun (w1:World) (h:Below wr.heap.size wr w1)=>LY _ F hck hl (u==3) sent 11 _ w1 (HSe.out.below (aD hbr h)).env (HP.out.below h) fun w2 h2=>Mg u hu 11 wr hgr k hn w2 _ (aD h h2) (HP.out.below (aD h h2))
   have HSay:=LB fun (w1:World) (h:Below wr.heap.size wr w1)=>(HSe.out.below (aD hbr h)).env 115 0 (by simp [cC])
   obtain⟨ti,hti,htc⟩:=Option.map_eq_some_iff.1 xR;obtain⟨tj,htj,-⟩:=Option.map_eq_some_iff.1 xK;have HEq:=fun w=>run_eql_iface_ptr_same (P:=Tryz.prog) w (sent 115) Tryz.underlying27 Tryz.underlying287 hti htc htj
   have HNil:=fun w=>run_eql_iface_nil_left (P:=Tryz.prog) w 287 (.pointer (some (sent 115))) Tryz.underlying27
   clear HP F hck hl;generalize (tow (qN u) k).length=zk at *;go_wp2_with fail
   refine HA.out.mono ?_;rintro e w15 ⟨⟨s15,rfl⟩,hb15⟩;obtain rfl | rfl | rfl | rfl:u=0∨u=1∨u=2∨u=3:=by omega
   all_goals
    simp (decide:=true) only [reduceIte] at HB ⊢
    go_wp2_with fail
    refine (HB.out w15 hb15).mono ?_;rintro e w16 ⟨⟨s16,rfl⟩,hb16⟩;have hb17:=aD hb15 hb16;have he:=HSay.out w16 hb17;go_wp2_with fail
    refine (HCA.out w16 hb17).mono ?_;rintro e w18 ⟨rfl,hb18⟩;go_wp2_with fail
    refine (HCB.out w18 (aD hb17 hb18)).mono ?_;rintro e w19 ⟨rfl,hb19⟩;go_wp2_with fail
    go_ret;exact⟨rfl,aD hbr (aD (aD hb17 hb18) hb19)⟩
theorem MM (z a:Int)(sent:Nat→Addr)(w:World)(hS:jN w sent)(hmx:∃ m,w.cell? ⟨11,0,none⟩=some (.int .i64 m))(het:w.cell? ⟨8,0,none⟩=some (.iface 148 (.agg #[.pointer (some ⟨18,27,none⟩)]))) :
  Calls Tryz.prog 5 #[.int .i64 z,.int .i64 a] w fun e w'=>e = .returned (.bool true)∧Below w.heap.size w w':=by
 have h1:=Int.tmod_lt_of_pos z (show (0:Int)<4 by omega)
 have h2:=Int.lt_tmod_of_pos z (show (0:Int)<4 by omega)
 have h3:Int.tmod (Int.tmod z 4+4) 4=(Int.tmod z 4+4) % 4:=Int.tmod_eq_emod_of_nonneg (by omega)
 exact MW z a (Int.tmod z 4) ((Int.tmod z 4+4) % 4).toNat (a % 8).toNat (by omega) rfl (by omega) (by omega) (by rw[h3];omega) (by omega) (by rw[Nc];omega) sent w hS hmx het
end Go.Proofs.YtnombfbpmmmoeaaGreatDoor
