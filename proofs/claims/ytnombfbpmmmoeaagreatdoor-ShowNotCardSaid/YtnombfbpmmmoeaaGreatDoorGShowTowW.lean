/- show of what stands in a Here within a Not, so many times; show.A and show.B of what can be said and of what cannot. -/
import Derived.Test.YtnombfbpmmmoeaaGreatDoorGShowLeaf2
import Derived.Test.YtnombfbpmmmoeaaGreatDoorGShowSaid
import Derived.Test.YtnombfbpmmmoeaaGreatDoorGZT
namespace Go.Proofs.YtnombfbpmmmoeaaGreatDoor
set_option maxHeartbeats 8000000
set_option maxRecDepth 100000
open Go Go.RowKit
theorem LQ (q:aA):∀ n,(tow q n).length=q.length+3 * n
 | 0=>rfl
 | n+1=>by
  have:=LQ q n
  simp [tow,aE,a8]
  omega
theorem Mc (z:List UInt8):∀ n,(EA z n).length=z.length+15 * n
 | 0=>rfl
 | n+1=>by
  have:=Mc z n
  simp [EA]
  omega
theorem LV (q:aA)(hq:oV q):∀ n,oV (tow q n)
 | 0=>hq
 | _+1=>sJ _ _ _ _
theorem MX (kd n:Int)(s:List UInt8)(c:aA):aE kd n s [c]=⟨kd,n,1,(c.length:Int)+1,s⟩ :: c:=by simp [aE]
theorem LX (f f1 f2 f3 f4 f5:Nat)(nm:Bool)(ef1:∀ args w,(callFunc f1 args).run Tryz.prog w = .ok (.enter f1 args) w)(q:aA)(hq:oV q)(hql:q.length≤1000)(t:Bool)(b:Nat)(w:World)(hb0:b<w.heap.size)
  (hV:∀ (w1:World) (u:Value),Below w.heap.size w w1→NSl w1 b u (a8 [116])→Calls Tryz.prog f1 #[u] w1 fun e w'=>e = .returned (.bool true)∧Below w1.heap.size w1 w')
  (h0:∀ (w1:World) (u:Value),Below w.heap.size w w1→NSl w1 b u q→LD (.agg #[.func (.func f) #[] #[],.func (.func f1) #[] #[],.func (.func f2) #[] #[],.func (.func f3) #[] #[],.func (.func f4) #[] #[],.func (.func f5) #[] #[],.bool nm]) u t w1) :
  ∀ n,n<8→∀ (w1:World) (u:Value),Below w.heap.size w w1→NSl w1 b u (tow q n)→LD (.agg #[.func (.func f) #[] #[],.func (.func f1) #[] #[],.func (.func f2) #[] #[],.func (.func f3) #[] #[],.func (.func f4) #[] #[],.func (.func f5) #[] #[],.bool nm]) u t w1
 | 0,_=>h0
 | n+1,hn=>fun w1 u h1 hu=>by
  have ih:=LX f f1 f2 f3 f4 f5 nm ef1 q hq hql t b w hb0 hV h0 n (by omega)
  have hl:=LQ q n;have hb1:=Nat.lt_of_lt_of_le hb0 h1.size
  have:=M5 f f1 f2 f3 f4 f5 nm 27 (.inl rfl) [aE 34 0 [] [a8 [116],tow q n]] t (by intro l hl;rw[List.mem_singleton] at hl;subst hl;exact sJ _ _ _ _) (by simp [aE,a8];omega) (by simp) b u w1 hb1 hu.at (fun l hl w2 u2 h2 hu2=>by
   rw[List.mem_singleton] at hl;subst hl;exact M4 f f1 f2 f3 f4 f5 nm ef1 [116] (tow q n) (LV q hq n) (by omega) t b u2 w2 (Nat.lt_of_lt_of_le hb1 h2.size) hu2.at (fun w3 u3 h3 hu3=>hV w3 u3 (aD (aD h1 h2) h3) hu3) (fun w3 u3 h3 hu3=>ih w3 u3 (aD (aD h1 h2) h3) hu3))
  simpa using this
theorem L4 (f fv fo:Nat)(oa:Array Value)(efv:∀ args w,(callFunc fv args).run Tryz.prog w = .ok (.enter fv args) w)(q:aA)(hq:oV q)(hql:q.length≤1000)(z:List UInt8)(hzl:z.length≤1000)(b:Nat)(w:World)(hb0:b<w.heap.size)
  (hV:∀ (w1:World) (u:Value),Below w.heap.size w w1→NSl w1 b u (a8 [116])→Calls Tryz.prog fv #[u] w1 fun e w'=>e = .returned (.string (bs [39,116,39]))∧Below w1.heap.size w1 w')
  (h0:∀ (w1:World) (u:Value),Below w.heap.size w w1→NSl w1 b u q→LC 31 (.agg #[.func (.func f) #[] #[],.func (.func fv) #[] #[],.func (.func fo) oa #[]]) u z w1) :
  ∀ n,n<8→∀ (w1:World) (u:Value),Below w.heap.size w w1→NSl w1 b u (tow q n)→LC 31 (.agg #[.func (.func f) #[] #[],.func (.func fv) #[] #[],.func (.func fo) oa #[]]) u (EA z n) w1
 | 0,_=>h0
 | n+1,hn=>fun w1 u h1 hu=>by
  have ih:=L4 f fv fo oa efv q hq hql z hzl b w hb0 hV h0 n (by omega)
  have hl:=LQ q n;have hz:=Mc z n;have hb1:=Nat.lt_of_lt_of_le hb0 h1.size;have hH:(aE 34 0 [] [a8 [116],tow q n]).length=(tow q n).length+2:=by simp [aE,a8]
  have hu':=hu;rw[tow,MX] at hu';refine Mw f fv fo oa _ _ (show (27:Int)≠20 by decide) (show (27:Int)≠23 by decide) b u _ w1 hu'.at (Mn f fv fo oa _ _ (show (27:Int)≠25 by decide) (show (27:Int)≠26 by decide) b u _ w1 hu'.at (fun w2 h2=>?_) (Ms f fv fo oa _ _ rfl (by rw[hH];omega) b u _ ?_ w1 hu'.at fun u2 hu2=>?_))
  ·exact (tF 27 0 [] [aE 34 0 [] [a8 [116],tow q n]] b u w2 (Nat.lt_of_lt_of_le hb1 h2.size) (by intro l hl;rw[List.mem_singleton] at hl;subst hl;exact sJ _ _ _ _) (by simp [aE,a8];omega) (hu.below h2).at).mono fun e w' ⟨v',he,_,hb'⟩=>⟨v',he,hb'⟩
  ·simp
   omega
  ·exact Mm f fv fo oa _ _ (show (34:Int)≠32 by decide) b u2 _ w1 hu2 (M3 f fv fo oa efv [116] (tow q n) (LV q hq n) (by omega) b u2 _ _ (by simp;omega) (by simp) w1 hb1 hu2
    (fun w3 u3 h3 hu3=>M1 f fv fo oa u3 _ (by omega) w3 (ih w3 u3 (aD h1 h3) hu3)) (fun w3 u3 h3 hu3=>hV w3 u3 (aD h1 h3) hu3))
theorem LZ (l:aA)(F:o8 l)(hck:dA l=none)(hl:0<l.length)(t:Bool)(sent:Nat→Addr)(b:Nat)(v:Value)(w:World)(hE:Env w sent)(hN:NSl w b v l)
  (hS:∀ w1:World,Below w.heap.size w w1→LD (.agg #[.func (.func 61) #[] #[],.func (.func 62) #[] #[],.func (.func 62) #[] #[],.func (.func 63) #[] #[],.func (.func 64) #[] #[],.func (.func 65) #[] #[],.bool false]) v t w1) :
  Calls Tryz.prog 17 #[v] w fun e w'=>e = .returned (.bool t)∧Below w.heap.size w w':=by
 have HC:=LB (nX _ F sent b w v hN hl hE (by rw[hck];simp))
 rw[hck] at HC;have HS:=LB hS;obtain⟨g,cap,rfl,-⟩:=id hN;generalize l.length=n at *;clear hN hE hck hS;go_enter Tryz.func17,Tryz.ntmps17
 go_wp2_with fail
 refine HC.out.mono ?_;rintro e w1 ⟨hb1,he⟩;obtain rfl:e = .returned .nilIface:=he;go_wp2_with fail
 refine (I5 w1).mono ?_;rintro e w2 ⟨rfl,hb2⟩;go_wp2_with fail
 refine (HS.out w2 (aD hb1 hb2) w2 (Below.refl _ _)).mono ?_;rintro e w3 ⟨rfl,hb3⟩;go_wp2_with fail
 go_ret;exact⟨rfl,aD (aD hb1 hb2) hb3⟩
theorem LY (l:aA)(F:o8 l)(hck:dA l=none)(hl:0<l.length)(t:Bool)(sent:Nat→Addr)(b:Nat)(v:Value)(w:World)(hE:Env w sent)(hN:NSl w b v l)
  (hS:∀ w1:World,Below w.heap.size w w1→LD (.agg #[.func (.func 70) #[] #[],.func (.func 70) #[] #[],.func (.func 69) #[] #[],.func (.func 72) #[] #[],.func (.func 70) #[] #[],.func (.func 73) #[] #[],.bool true]) v t w1) :
  Calls Tryz.prog 18 #[v] w fun e w'=>e = .returned (.bool t)∧Below w.heap.size w w':=by
 have HC:=LB (nX _ F sent b w v hN hl hE (by rw[hck];simp))
 rw[hck] at HC;have HS:=LB hS;obtain⟨g,cap,rfl,-⟩:=id hN;generalize l.length=n at *;clear hN hE hck hS;go_enter Tryz.func18,Tryz.ntmps18
 go_wp2_with fail
 refine HC.out.mono ?_;rintro e w1 ⟨hb1,he⟩;obtain rfl:e = .returned .nilIface:=he;go_wp2_with fail
 refine (Hz w1).mono ?_;rintro e w2 ⟨rfl,hb2⟩;go_wp2_with fail
 refine (HS.out w2 (aD hb1 hb2) w2 (Below.refl _ _)).mono ?_;rintro e w3 ⟨rfl,hb3⟩;go_wp2_with fail
 go_ret;exact⟨rfl,aD (aD hb1 hb2) hb3⟩
theorem M7 (l:aA)(F:o8 l)(hck:dA l=none)(hl:0<l.length)(sent:Nat→Addr)(b:Nat)(v:Value)(w:World)(hE:Env w sent)(hN:NSl w b v l)
  (hS:∀ w1:World,Below w.heap.size w w1→LD (.agg #[.func (.func 61) #[] #[],.func (.func 62) #[] #[],.func (.func 62) #[] #[],.func (.func 63) #[] #[],.func (.func 64) #[] #[],.func (.func 65) #[] #[],.bool false]) v false w1) :
  Calls Tryz.prog 15 #[v] w fun e w'=>e = .returned (.tuple #[.string ⟨#[]⟩,.iface 287 (.pointer (some (sent 115)))])∧Below w.heap.size w w':=by
 have HC:=LB (nX _ F sent b w v hN hl hE (by rw[hck];simp))
 rw[hck] at HC;have HA:=LB fun (w1:World) (h:Below w.heap.size w w1)=>LZ l F hck hl false sent b v w1 (hE.below h) (hN.below h) fun w2 h2=>hS w2 (aD h h2)
 have HE:=LB hE;obtain⟨g,cap,rfl,-⟩:=id hN;generalize l.length=n at *;clear hN hE hck hS;go_enter Tryz.func15,Tryz.ntmps15
 go_wp2_with fail
 refine HC.out.mono ?_;rintro e w1 ⟨hb1,he⟩;obtain rfl:e = .returned .nilIface:=he;go_wp2_with fail
 refine (HA.out w1 hb1).mono ?_;rintro e w2 ⟨rfl,hb2⟩;have hb3:=aD hb1 hb2;have he:=HE.out.below hb3 115 0 (by simp [cC])
 go_wp2_with fail
 go_region
 go_wp2_with fail
 go_ret2;exact⟨rfl,kP hb3⟩
theorem M8 (l:aA)(F:o8 l)(hck:dA l=none)(hl:0<l.length)(z:List UInt8)(hz:z.length≤8192)(sent:Nat→Addr)(b:Nat)(v:Value)(w:World)(hE:Env w sent)(hN:NSl w b v l)
  (hS:∀ w1:World,Below w.heap.size w w1→LD (.agg #[.func (.func 61) #[] #[],.func (.func 62) #[] #[],.func (.func 62) #[] #[],.func (.func 63) #[] #[],.func (.func 64) #[] #[],.func (.func 65) #[] #[],.bool false]) v true w1) (hW:LC 31 (.agg #[.func (.func 53) #[] #[],.func (.func 54) #[] #[],.func (.func 55) #[.agg #[.func (.func 53) #[] #[],.func (.func 54) #[] #[],.nilFunc]] #[]]) v z w)
  (hp:∀ w1:World,Below w.heap.size w w1→Calls Tryz.prog 9 #[.string (bs z)] w1 fun e w'=>∃ v,e = .returned (.tuple #[v,.nilIface])∧Below w1.heap.size w1 w') :
  Calls Tryz.prog 15 #[v] w fun e w'=>e = .returned (.tuple #[.string (bs z),.nilIface])∧Below w.heap.size w w':=by
 have HC:=LB (nX _ F sent b w v hN hl hE (by rw[hck];simp))
 rw[hck] at HC;have HA:=LB fun (w1:World) (h:Below w.heap.size w w1)=>LZ l F hck hl true sent b v w1 (hE.below h) (hN.below h) fun w2 h2=>hS w2 (aD h h2)
 have HL:Hid (∀ w1:World,Below w.heap.size w w1→Calls Tryz.prog 31 #[.agg #[.func (.func 53) #[] #[],.func (.func 54) #[] #[],.func (.func 55) #[.agg #[.func (.func 53) #[] #[],.func (.func 54) #[] #[],.nilFunc]] #[]],v] w1 fun e w'=>e = .returned (.string (bs z))∧Below w1.heap.size w1 w'):=LB hW
 have HP:=LB fun (w1:World) (h:Below w.heap.size w w1)=>Ag 9 (fun _ _=>by kernel_rfl) (bs z) (by rw[aW];exact hz) sent w1 (hE.below h) (hp w1 h)
 obtain⟨g,cap,rfl,-⟩:=id hN;generalize bs z=y at *;generalize l.length=n at *;clear hN hE hck hS hz hp hW;go_enter Tryz.func15,Tryz.ntmps15
 go_wp2_with fail
 refine HC.out.mono ?_;rintro e w1 ⟨hb1,he⟩;obtain rfl:e = .returned .nilIface:=he;go_wp2_with fail
 refine (HA.out w1 hb1).mono ?_;rintro e w2 ⟨rfl,hb2⟩;have hb3:=aD hb1 hb2;go_wp2_with fail
 refine (Jn w2).mono ?_;rintro e w3 ⟨rfl,hb4⟩;have hb5:=aD hb3 hb4;go_wp2_with fail
 refine (HL.out w3 hb5).mono ?_;rintro e w4 ⟨rfl,hb6⟩;have hb7:=aD hb5 hb6;go_wp2_with fail
 refine (HP.out w4 hb7).mono ?_;rintro e w5 ⟨rfl,hb8⟩;go_wp2_with fail
 go_ret2;exact⟨rfl,aD hb7 hb8⟩
theorem M6 (l:aA)(F:o8 l)(hck:dA l=none)(hl:0<l.length)(sent:Nat→Addr)(b:Nat)(v:Value)(w:World)(hE:Env w sent)(hN:NSl w b v l)
  (hS:∀ w1:World,Below w.heap.size w w1→LD (.agg #[.func (.func 70) #[] #[],.func (.func 70) #[] #[],.func (.func 69) #[] #[],.func (.func 72) #[] #[],.func (.func 70) #[] #[],.func (.func 73) #[] #[],.bool true]) v false w1) :
  Calls Tryz.prog 16 #[v] w fun e w'=>e = .returned (.tuple #[.string ⟨#[]⟩,.iface 287 (.pointer (some (sent 115)))])∧Below w.heap.size w w':=by
 have HC:=LB (nX _ F sent b w v hN hl hE (by rw[hck];simp))
 rw[hck] at HC;have HA:=LB fun (w1:World) (h:Below w.heap.size w w1)=>LY l F hck hl false sent b v w1 (hE.below h) (hN.below h) fun w2 h2=>hS w2 (aD h h2)
 have HE:=LB hE;obtain⟨g,cap,rfl,-⟩:=id hN;generalize l.length=n at *;clear hN hE hck hS;go_enter Tryz.func16,Tryz.ntmps16
 go_wp2_with fail
 refine HC.out.mono ?_;rintro e w1 ⟨hb1,he⟩;obtain rfl:e = .returned .nilIface:=he;go_wp2_with fail
 refine (HA.out w1 hb1).mono ?_;rintro e w2 ⟨rfl,hb2⟩;have hb3:=aD hb1 hb2;have he:=HE.out.below hb3 115 0 (by simp [cC])
 go_wp2_with fail
 go_region
 go_wp2_with fail
 go_ret2;exact⟨rfl,kP hb3⟩
theorem M9 (l:aA)(F:o8 l)(hck:dA l=none)(hl:0<l.length)(z:List UInt8)(hz:z.length≤8192)(sent:Nat→Addr)(b:Nat)(v:Value)(w:World)(hE:Env w sent)(hN:NSl w b v l)
  (hS:∀ w1:World,Below w.heap.size w w1→LD (.agg #[.func (.func 70) #[] #[],.func (.func 70) #[] #[],.func (.func 69) #[] #[],.func (.func 72) #[] #[],.func (.func 70) #[] #[],.func (.func 73) #[] #[],.bool true]) v true w1) (hW:LC 31 (.agg #[.func (.func 59) #[] #[],.func (.func 59) #[] #[],.func (.func 60) #[.agg #[.func (.func 59) #[] #[],.func (.func 59) #[] #[],.nilFunc]] #[]]) v z w)
  (hp:∀ w1:World,Below w.heap.size w w1→Calls Tryz.prog 11 #[.string (bs z)] w1 fun e w'=>∃ v,e = .returned (.tuple #[v,.nilIface])∧Below w1.heap.size w1 w') :
  Calls Tryz.prog 16 #[v] w fun e w'=>e = .returned (.tuple #[.string (bs z),.nilIface])∧Below w.heap.size w w':=by
 have HC:=LB (nX _ F sent b w v hN hl hE (by rw[hck];simp))
 rw[hck] at HC;have HA:=LB fun (w1:World) (h:Below w.heap.size w w1)=>LY l F hck hl true sent b v w1 (hE.below h) (hN.below h) fun w2 h2=>hS w2 (aD h h2)
 have HL:Hid (∀ w1:World,Below w.heap.size w w1→Calls Tryz.prog 31 #[.agg #[.func (.func 59) #[] #[],.func (.func 59) #[] #[],.func (.func 60) #[.agg #[.func (.func 59) #[] #[],.func (.func 59) #[] #[],.nilFunc]] #[]],v] w1 fun e w'=>e = .returned (.string (bs z))∧Below w1.heap.size w1 w'):=LB hW
 have HP:=LB fun (w1:World) (h:Below w.heap.size w w1)=>Ag 11 (fun _ _=>by kernel_rfl) (bs z) (by rw[aW];exact hz) sent w1 (hE.below h) (hp w1 h)
 obtain⟨g,cap,rfl,-⟩:=id hN;generalize bs z=y at *;generalize l.length=n at *;clear hN hE hck hS hz hp hW;go_enter Tryz.func16,Tryz.ntmps16
 go_wp2_with fail
 refine HC.out.mono ?_;rintro e w1 ⟨hb1,he⟩;obtain rfl:e = .returned .nilIface:=he;go_wp2_with fail
 refine (HA.out w1 hb1).mono ?_;rintro e w2 ⟨rfl,hb2⟩;have hb3:=aD hb1 hb2;go_wp2_with fail
 refine (Kq w2).mono ?_;rintro e w3 ⟨rfl,hb4⟩;have hb5:=aD hb3 hb4;go_wp2_with fail
 refine (HL.out w3 hb5).mono ?_;rintro e w4 ⟨rfl,hb6⟩;have hb7:=aD hb5 hb6;go_wp2_with fail
 refine (HP.out w4 hb7).mono ?_;rintro e w5 ⟨rfl,hb8⟩;go_wp2_with fail
 go_ret2;exact⟨rfl,aD hb7 hb8⟩
end Go.Proofs.YtnombfbpmmmoeaaGreatDoor
