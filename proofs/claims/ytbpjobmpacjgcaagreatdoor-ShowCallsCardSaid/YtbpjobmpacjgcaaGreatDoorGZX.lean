/- ShowNot's words: a variable that splits and is matched; a list of two texts: which dialect says them, what is written. -/
import Derived.Test.YtbpjobmpacjgcaaGreatDoorGZW
import Derived.Test.YtbpjobmpacjgcaaGreatDoorGZS
import Derived.Test.YtbpjobmpacjgcaaGreatDoorGZT
namespace Go.Proofs.YtbpjobmpacjgcaaGreatDoor
set_option maxHeartbeats 8000000
set_option maxRecDepth 100000
open Go Go.RowKit
theorem Fi (s:List UInt8)(b:Nat)(v:Value)(w:World)(hmx:∃ m,w.cell? ⟨12,0,none⟩=some (.int .i64 m))(hs:s.length≤5000)(h:NSl w b v (aR s)) :
  Calls Tryz.prog 33 #[v] w fun e w'=>e = .returned (.string (bs (cS s)))∧Below w.heap.size w w':=by
 have H1:=Ng (kL _ _ 1 b v w h.at);have H4:=Ng (kL _ _ 4 b v w h.at);obtain⟨g,o,cap,rfl,h1,n0,n1,n4⟩:=sE (kd:=1) (s:=s) h.at;have HQ:=Ng (A4 s w hmx hs);clear h hmx hs
 have HP:Hid (Calls Tryz.prog 76 #[.slice (some ⟨g,o,none⟩) 1 cap] w fun e w'=>e = .returned (.string (bs (cS s)))∧Below w.heap.size w w'):=Ng (by
  go_enter Tryz.func76,Tryz.ntmps76
  go_wp2_with fail
  refine H1.out.mono ?_;rintro e w1 ⟨rfl,rfl⟩;go_wp2_with fail
  refine HQ.out.mono ?_;rintro e w1 ⟨rfl,hb1⟩;go_wp2_with fail
  go_ret;exact⟨rfl,hb1⟩)
 have HR:Hid (Calls Tryz.prog 75 #[.slice (some ⟨g,o,none⟩) 1 cap,.func (.func 76) #[] #[]] w fun e w'=>e = .returned (.string (bs (cS s)))∧Below w.heap.size w w'):=Ng (by
  go_enter Tryz.func75,Tryz.ntmps75
  go_wp2_with fail
  refine H4.out.mono ?_;rintro e w1 ⟨rfl,rfl⟩;go_wp2_with fail
  refine HP.out.mono ?_;rintro e w1 ⟨rfl,hb1⟩;go_wp2_with fail
  go_ret;exact⟨rfl,hb1⟩)
 go_enter Tryz.func33,Tryz.ntmps33
 go_wp2_with fail
 refine HR.out.mono ?_;rintro e w1 ⟨rfl,hb1⟩;go_wp2_with fail
 go_ret;exact⟨rfl,hb1⟩
theorem KK (kd n:Int)(s:List UInt8)(c:aA):aC kd n s [c]=⟨kd,n,1,(c.length:Int)+1,s⟩ :: c:=by simp [aC]
theorem zE (l:aA)(F:lJ l)(hck:dB l=none)(hl:0<l.length)(t:Bool)(sent:Nat→Addr)(b:Nat)(v:Value)(w:World)(hE:Env w sent)(hN:NSl w b v l)
  (hS:∀ w1:World,Below w.heap.size w w1→jQ 55 56 56 57 58 59 false v t w1) :
  Calls Tryz.prog 13 #[v] w fun e w'=>e = .returned (.bool t)∧Below w.heap.size w w':=by
 have HC:=Ng (pH _ F sent b w v hN hl hE (by rw[hck];simp))
 rw[hck] at HC;have HS:=Ng hS;obtain⟨g,cap,rfl,-⟩:=id hN;generalize l.length=n at *;clear hN hE hck hS;go_enter Tryz.func13,Tryz.ntmps13
 go_wp2_with fail
 refine HC.out.mono ?_;rintro e w1 ⟨hb1,he⟩;obtain rfl:e = .returned .nilIface:=he;go_wp2_with fail
 refine (Kd w1).mono ?_;rintro e w2 ⟨rfl,hb2⟩;go_wp2_with fail
 refine (HS.out w2 (aE hb1 hb2) w2 (Below.refl _ _)).mono ?_;rintro e w3 ⟨rfl,hb3⟩;go_wp2_with fail
 go_ret;exact⟨rfl,aE (aE hb1 hb2) hb3⟩
theorem DP (l:aA)(F:lJ l)(hck:dB l=none)(hl:0<l.length)(t:Bool)(sent:Nat→Addr)(b:Nat)(v:Value)(w:World)(hE:Env w sent)(hN:NSl w b v l)
  (hS:∀ w1:World,Below w.heap.size w w1→jQ 64 64 63 66 64 67 true v t w1) :
  Calls Tryz.prog 14 #[v] w fun e w'=>e = .returned (.bool t)∧Below w.heap.size w w':=by
 have HC:=Ng (pH _ F sent b w v hN hl hE (by rw[hck];simp))
 rw[hck] at HC;have HS:=Ng hS;obtain⟨g,cap,rfl,-⟩:=id hN;generalize l.length=n at *;clear hN hE hck hS;go_enter Tryz.func14,Tryz.ntmps14
 go_wp2_with fail
 refine HC.out.mono ?_;rintro e w1 ⟨hb1,he⟩;obtain rfl:e = .returned .nilIface:=he;go_wp2_with fail
 refine (J0 w1).mono ?_;rintro e w2 ⟨rfl,hb2⟩;go_wp2_with fail
 refine (HS.out w2 (aE hb1 hb2) w2 (Below.refl _ _)).mono ?_;rintro e w3 ⟨rfl,hb3⟩;go_wp2_with fail
 go_ret;exact⟨rfl,aE (aE hb1 hb2) hb3⟩
theorem MI (l:aA)(F:lJ l)(hck:dB l=none)(hl:0<l.length)(sent:Nat→Addr)(b:Nat)(v:Value)(w:World)(hE:Env w sent)(hN:NSl w b v l)
  (hS:∀ w1:World,Below w.heap.size w w1→jQ 55 56 56 57 58 59 false v false w1) :
  Calls Tryz.prog 8 #[v] w fun e w'=>e = .returned (.tuple #[.string ⟨#[]⟩,.iface 286 (.pointer (some (sent 115)))])∧Below w.heap.size w w':=by
 have HC:=Ng (pH _ F sent b w v hN hl hE (by rw[hck];simp))
 rw[hck] at HC;have HA:=Ng fun (w1:World) (h:Below w.heap.size w w1)=>zE l F hck hl false sent b v w1 (hE.below h) (hN.below h) fun w2 h2=>hS w2 (aE h h2)
 have HE:=Ng hE;obtain⟨g,cap,rfl,-⟩:=id hN;generalize l.length=n at *;clear hN hE hck hS;go_enter Tryz.func8,Tryz.ntmps8
 go_wp2_with fail
 refine HC.out.mono ?_;rintro e w1 ⟨hb1,he⟩;obtain rfl:e = .returned .nilIface:=he;go_wp2_with fail
 refine (HA.out w1 hb1).mono ?_;rintro e w2 ⟨rfl,hb2⟩;have hb3:=aE hb1 hb2;have he:=HE.out.below hb3 115 0 (by simp [cH])
 go_wp2_with fail
 go_region
 go_wp2_with fail
 go_ret2;exact⟨rfl,lH hb3⟩
theorem M0 (l:aA)(F:lJ l)(hck:dB l=none)(hl:0<l.length)(z:List UInt8)(hz:z.length≤8192)(sent:Nat→Addr)(b:Nat)(v:Value)(w:World)(hE:Env w sent)(hN:NSl w b v l)
  (hS:∀ w1:World,Below w.heap.size w w1→jQ 55 56 56 57 58 59 false v true w1) (hW:dV 18 32 33 34 #[.agg #[.func (.func 32) #[] #[],.func (.func 33) #[] #[],.nilFunc]] v z w)
  (hp:∀ w1:World,Below w.heap.size w w1→Calls Tryz.prog 10 #[.string (bs z)] w1 fun e w'=>∃ v,e = .returned (.tuple #[v,.nilIface])∧Below w1.heap.size w1 w') :
  Calls Tryz.prog 8 #[v] w fun e w'=>e = .returned (.tuple #[.string (bs z),.nilIface])∧Below w.heap.size w w':=by
 have HC:=Ng (pH _ F sent b w v hN hl hE (by rw[hck];simp))
 rw[hck] at HC;have HA:=Ng fun (w1:World) (h:Below w.heap.size w w1)=>zE l F hck hl true sent b v w1 (hE.below h) (hN.below h) fun w2 h2=>hS w2 (aE h h2)
 have HL:Hid (∀ w1:World,Below w.heap.size w w1→Calls Tryz.prog 18 #[.agg #[.func (.func 32) #[] #[],.func (.func 33) #[] #[],.func (.func 34) #[.agg #[.func (.func 32) #[] #[],.func (.func 33) #[] #[],.nilFunc]] #[]],v] w1 fun e w'=>e = .returned (.string (bs z))∧Below w1.heap.size w1 w'):=Ng hW
 have HP:=Ng fun (w1:World) (h:Below w.heap.size w w1)=>Bd 10 (fun _ _=>by kernel_rfl) (bs z) (by rw[aY];exact hz) sent w1 (hE.below h) (hp w1 h)
 obtain⟨g,cap,rfl,-⟩:=id hN;generalize bs z=y at *;generalize l.length=n at *;clear hN hE hck hS hz hp hW;go_enter Tryz.func8,Tryz.ntmps8
 go_wp2_with fail
 refine HC.out.mono ?_;rintro e w1 ⟨hb1,he⟩;obtain rfl:e = .returned .nilIface:=he;go_wp2_with fail
 refine (HA.out w1 hb1).mono ?_;rintro e w2 ⟨rfl,hb2⟩;have hb3:=aE hb1 hb2;go_wp2_with fail
 refine (LB w2).mono ?_;rintro e w3 ⟨rfl,hb4⟩;have hb5:=aE hb3 hb4;go_wp2_with fail
 refine (HL.out w3 hb5).mono ?_;rintro e w4 ⟨rfl,hb6⟩;have hb7:=aE hb5 hb6;go_wp2_with fail
 refine (HP.out w4 hb7).mono ?_;rintro e w5 ⟨rfl,hb8⟩;go_wp2_with fail
 go_ret2;exact⟨rfl,aE hb7 hb8⟩
theorem EG (l:aA)(F:lJ l)(hck:dB l=none)(hl:0<l.length)(z:List UInt8)(hz:z.length≤8192)(sent:Nat→Addr)(b:Nat)(v:Value)(w:World)(hE:Env w sent)(hN:NSl w b v l)
  (hS:∀ w1:World,Below w.heap.size w w1→jQ 64 64 63 66 64 67 true v true w1) (hW:dV 18 38 38 39 #[.agg #[.func (.func 38) #[] #[],.func (.func 38) #[] #[],.nilFunc]] v z w)
  (hp:∀ w1:World,Below w.heap.size w w1→Calls Tryz.prog 11 #[.string (bs z)] w1 fun e w'=>∃ v,e = .returned (.tuple #[v,.nilIface])∧Below w1.heap.size w1 w') :
  Calls Tryz.prog 9 #[v] w fun e w'=>e = .returned (.tuple #[.string (bs z),.nilIface])∧Below w.heap.size w w':=by
 have HC:=Ng (pH _ F sent b w v hN hl hE (by rw[hck];simp))
 rw[hck] at HC;have HA:=Ng fun (w1:World) (h:Below w.heap.size w w1)=>DP l F hck hl true sent b v w1 (hE.below h) (hN.below h) fun w2 h2=>hS w2 (aE h h2)
 have HL:Hid (∀ w1:World,Below w.heap.size w w1→Calls Tryz.prog 18 #[.agg #[.func (.func 38) #[] #[],.func (.func 38) #[] #[],.func (.func 39) #[.agg #[.func (.func 38) #[] #[],.func (.func 38) #[] #[],.nilFunc]] #[]],v] w1 fun e w'=>e = .returned (.string (bs z))∧Below w1.heap.size w1 w'):=Ng hW
 have HP:=Ng fun (w1:World) (h:Below w.heap.size w w1)=>Bd 11 (fun _ _=>by kernel_rfl) (bs z) (by rw[aY];exact hz) sent w1 (hE.below h) (hp w1 h)
 obtain⟨g,cap,rfl,-⟩:=id hN;generalize bs z=y at *;generalize l.length=n at *;clear hN hE hck hS hz hp hW;go_enter Tryz.func9,Tryz.ntmps9
 go_wp2_with fail
 refine HC.out.mono ?_;rintro e w1 ⟨hb1,he⟩;obtain rfl:e = .returned .nilIface:=he;go_wp2_with fail
 refine (HA.out w1 hb1).mono ?_;rintro e w2 ⟨rfl,hb2⟩;have hb3:=aE hb1 hb2;go_wp2_with fail
 refine (KO w2).mono ?_;rintro e w3 ⟨rfl,hb4⟩;have hb5:=aE hb3 hb4;go_wp2_with fail
 refine (HL.out w3 hb5).mono ?_;rintro e w4 ⟨rfl,hb6⟩;have hb7:=aE hb5 hb6;go_wp2_with fail
 refine (HP.out w4 hb7).mono ?_;rintro e w5 ⟨rfl,hb8⟩;go_wp2_with fail
 go_ret2;exact⟨rfl,aE hb7 hb8⟩
end Go.Proofs.YtbpjobmpacjgcaaGreatDoor
