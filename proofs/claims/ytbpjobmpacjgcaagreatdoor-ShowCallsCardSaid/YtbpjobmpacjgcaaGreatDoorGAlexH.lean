/- Dialect A's reader: what is between two quotes, and what begins with a dollar. -/
import Derived.Test.YtbpjobmpacjgcaaGreatDoorGAlexG
namespace Go.Proofs.YtbpjobmpacjgcaaGreatDoor
set_option maxHeartbeats 8000000
set_option maxRecDepth 100000
open Go Go.RowKit
def fE (w:World) (r q B:Nat) (s:ByteArray) (v:Value) (P:List aD) (j:Bool):Prop:=∃ i,aN w r q B s i v P j
section
variable {w:World} {r q B:Nat} {s:ByteArray} {v:Value} {P:List aD} {j:Bool}
theorem fE.of {i:Nat}(h:aN w r q B s i v P j):fE w r q B s v P j:=⟨i,h⟩
theorem fE.alloc (h:fE w r q B s v P j)(o:Obj):fE (w.alloc o) r q B s v P j:=h.elim fun _ k=>⟨_,k.alloc o⟩
theorem fE.other (h:fE w r q B s v P j){p:Addr}(h1:p.block≠r)(h2:p.block≠q)(h3:v.ownBlock≠some p.block)(u:Value):fE (w.setCell p u) r q B s v P j:=h.elim fun _ k=>⟨_,k.other h1 h2 h3 u⟩
theorem aN.moveTo {k:Nat}{u:Value}(h:fE w r q B s v P j)(hu:u = .int .i64 (k:Nat)):aN (w.setCell ⟨r,1,none⟩ u) r q B s k v P j:=by
 rw[hu];exact h.elim fun _ h=>h.move k
end
def eF (w:World) (r q B:Nat) (s:ByteArray) (sent:Nat→Addr) (X:Except (Nat×Nat) nV) (e:Ending) (w':World):Prop :=
 match X with
 | .ok (i',P',j')=>e = .returned .nilIface∧(∃ v',aN w' r q B s i' v' P' j')∧aB (RB r B) w w'
 | .error (c,p)=>∃ b,e = .returned (.iface 61 (.pointer (some ⟨b,0,none⟩)))∧bJ w' b sent c p∧aB (RB r B) w w'
theorem eF.ok {w w':World}{r q B:Nat}{s:ByteArray}{sent:Nat→Addr}{X:Except (Nat×Nat) nV}{e:Ending}{i':Nat}{P':List aD}{j':Bool}{v':Value}(hX:Hid (.ok (i',P',j')=X))(he:e = .returned .nilIface)(hR:aN w' r q B s i' v' P' j')(hK:aB (RB r B) w w'):eF w r q B s sent X e w':=by
 have:=hX.out
 subst this;exact⟨he,⟨v',hR⟩,hK⟩
theorem eF.bad {w w':World}{r q B:Nat}{s:ByteArray}{sent:Nat→Addr}{X:Except (Nat×Nat) nV}{e:Ending}{c p b:Nat}(hX:Hid (.error (c,p)=X))(he:e = .returned (.iface 61 (.pointer (some ⟨b,0,none⟩))))(hE:bJ w' b sent c p)(hK:aB (RB r B) w w'):eF w r q B s sent X e w':=by
 have:=hX.out
 subst this;exact⟨b,he,hE,hK⟩
def pS (L:List UInt8) (i:Nat) (P:List aD):Except (Nat×Nat) nV :=
 match cO 39 (L.drop (i+1)) with
 | none=>.error (103,i)
 | some n=>.ok (i+n+2,P++[⟨2,i,0,false,aZ L (i+1) (i+1+n)⟩],false)
theorem Bh (r q B:Nat)(s:ByteArray)(i:Nat)(v:Value)(P:List aD)(j:Bool)(w:World)(hs:s.size≤1000000)(hi:i<s.size)(hP:P.length≤100000)(hBw:B≤w.heap.size)(hR:aN w r q B s i v P j)(sent:Nat→Addr)
  (hev:w.cell? ⟨9,0,none⟩=some (.iface 286 (.pointer (some (sent 103))))) (X:Except (Nat×Nat) nV) (hX:Hid (pS s.data.toList i P=X)) :
  Calls Tryz.prog 173 #[.pointer (some ⟨r,0,none⟩)] w (eF w r q B s sent X):=by
 have g0:=cell_regrown hR.c0;have g1:=cell_regrown hR.c1;have g2:=cell_regrown hR.cs;unfold pS at hX;go_enter Tryz.func173,Tryz.ntmps173
 go_wp2_with fail
 cases hx:cO 39 (s.data.toList.drop (i+1)) with
 | none =>
  rw[hx] at hX;have HX:=Ng hx;clear hx;refine wp_region_quiet_below (by kernel_rfl) (by kernel_rfl) ?_
  repeat (go_big_quiet_step ((first | (go_at_call 170;exact Calls.regrown_of (jD s _)) | (go_at_call 101;exact Calls.regrown_of (gQ s _ _ _ hs)) | (go_at_call 148;exact Calls.regrown_of ((yG s _ 39 (i+1) _ (by omega) (by decide) HX).mono (by rintro e w' ⟨rfl,rfl⟩;exact⟨rfl,Below.refl _ _⟩))))))
  refine wpQuiet_nil ?_;intro w2 hw';have hb:Below w.heap.size w w2:=b8 hw';clear hw';have hR2:=hR.below hb;have hev2:=aF hb hev;have c1:=hR2.c1;have hgl:=block_lt_of_cell hev2;go_wp2_with fail
  go_region_held3 (fun w'=>w'.cell? ⟨r,1,none⟩=some (.int .i64 (i:Int))∧w'.cell? ⟨9,0,none⟩=some (.iface 286 (.pointer (some (sent 103))))) (first | go_keep)
   (first
    | (go_at_call 136;refine (oO _ _ _ _).mono ?_;rintro e w5 ⟨rfl,rfl⟩))
  go_wp2_with fail
  go_ret;exact eF.bad hX rfl (by unfold bJ;(apply Blk.as);(exact (Blk.newAt _ _ rfl).drew);rfl) (((aB.refl _ _).andBelow hb).alloc _).drew
 | some n =>
  rw[hx] at hX;have hn:=lD _ _ _ hx;rw[List.length_drop,size_eq] at hn;have HX:=Ng hx;clear hx;refine wp_region_quiet_below (by kernel_rfl) (by kernel_rfl) ?_
  repeat (go_big_quiet_step ((first | (go_at_call 170;exact Calls.regrown_of (jD s _)) | (go_at_call 101;exact Calls.regrown_of (gQ s _ _ _ hs)) | (go_at_call 148;exact Calls.regrown_of ((yR s _ 39 (i+1) n _ (by omega) (by decide) HX).mono (by rintro e w' ⟨rfl,rfl⟩;exact⟨rfl,Below.refl _ _⟩))))))
  refine wpQuiet_nil ?_;intro w2 hw';have hb:Below w.heap.size w w2:=b8 hw';clear hw';have hR2:=hR.below hb;have hBw2:B≤w2.heap.size:=Nat.le_trans hBw hb.size;have hK2:aB (RB r B) w w2:=(aB.refl _ _).andBelow hb;have c0:=hR2.c0;have c1:=hR2.c1;have cs:=hR2.cs;clear g0 g1 g2 hb hBw hR;have HA:=Ng fun w5 h1 h2=>jW r q B s i v P j ⟨2,i,0,false,aZ s.data.toList (i+1) (i+1+n)⟩ false w5 hP h1 h2
  unfold aD.cells at HA;have hw1:IntKind.i64.wrap ((i:Int)+1)=(i:Int)+1:=by rw[IntKind.wrap_i64];omega
  have hw2:IntKind.i64.wrap ((i:Int)+1+(n:Int))=(i:Int)+1+(n:Int):=by rw[IntKind.wrap_i64];omega
  go_wp2_with fail
  go_region_held3 (fun w'=>w'.cell? ⟨r,0,none⟩=some (.pointer (some ⟨q,0,none⟩))∧w'.cell? ⟨r,1,none⟩=some (.int .i64 (i:Int))∧w'.cell? ⟨q,0,none⟩=some (.string s)) (first | exact⟨k0,k1,ks⟩ | exact⟨hR5.c0,hR5.c1,hR5.cs⟩ | go_keep)
   (first
    | (go_at_call 101;refine (gQ s _ _ _ hs).mono ?_;rintro e w5 ⟨rfl,hb5⟩;have hR5:=hR2.drew.below hb5;have hBw5:B≤w5.heap.size:=Nat.le_trans hBw2 hb5.size)
    | (go_at_call 172;refine (HA.out _ hBw5 hR5).mono ?_;rintro e w6 ⟨rfl,⟨v6,hR6⟩,hK6⟩;have k0:=hR6.c0;have k1:=hR6.c1;have ks:=hR6.cs))
  have f1:=hR6.fr 1;have hK6':=(hK2.drew.andBelow hb5).same hK6;go_wp2_with fail
  go_ret;exact eF.ok hX rfl (aN.moveTo (.of hR6) (by go_num)) (hK6'.setCell (fun _=>.inl rfl) _)
section
variable (s:ByteArray) (qd:Bool) (i:Nat) (P:List aD) (j:Bool)
theorem J8:e8 s.data.toList qd i P j =
  if eG (s.data.toList.drop (i+1))≠[] then (if bI (eG (s.data.toList.drop (i+1)))=true then .ok (i+1+(eG (s.data.toList.drop (i+1))).length,P++[⟨3,i,0,qd,eG (s.data.toList.drop (i+1))⟩],false) else .error (106,i))
  else if (bat s (i+1)).toNat=123 then match cO 125 (s.data.toList.drop (i+2)) with
   | none=>.error (106,i)
   | some n=>if bI (aZ s.data.toList (i+2) (i+2+n))=true then .ok (i+3+n,P++[⟨3,i,0,qd,aZ s.data.toList (i+2) (i+2+n)⟩],false) else .error (106,i)
  else if (bat s (i+1)).toNat=42 then .ok (i+2,P++[⟨3,i,0,qd,[42]⟩],false)
  else if 49≤(bat s (i+1)).toNat∧(bat s (i+1)).toNat≤57 then .ok (i+2,P++[⟨5,i,(bat s (i+1)).toNat - 48,qd,[]⟩],false)
  else if (bat s (i+1)).toNat=35 then .ok (i+2,P++[⟨6,i,0,qd,[]⟩],false)
  else if (bat s (i+1)).toNat=40 then match aX s.data.toList (s.data.toList.length+1) false 0 (i+2) with
   | none=>.error (104,i)
   | some t=>.ok (t+1,P++[⟨4,i,0,qd,aZ s.data.toList (i+2) t⟩],false)
  else .ok (i+1,bQ P j (if qd then 2 else 1) i [36],true):=rfl
end
theorem tX (r q B:Nat)(s:ByteArray)(i:Nat)(v:Value)(P:List aD)(j qd:Bool)(w:World)(hs:s.size≤8192)(hi:i<s.size)(hS:∀ p∈P,p.text.length≤1000000)(hP:P.length≤100000)(hBw:B≤w.heap.size)(hR:aN w r q B s i v P j)(sent:Nat→Addr)
  (hev:w.cell? ⟨10,0,none⟩=some (.iface 286 (.pointer (some (sent 106))))) (hev2:w.cell? ⟨11,0,none⟩=some (.iface 286 (.pointer (some (sent 104))))) (X:Except (Nat×Nat) nV) (hX:Hid (e8 s.data.toList qd i P j=X)) :
  Calls Tryz.prog 175 #[.pointer (some ⟨r,0,none⟩),.bool qd] w (eF w r q B s sent X):=by
 have hs':s.size≤1000000:=by omega
 have c0:=hR.c0;have c1:=hR.c1;have cs:=hR.cs;have hr:=hR.here.lt;have hq:=hR.src.lt;have HN:=Ng fun w1 h=>Ch ⟨q,0,none⟩ s (i+1) w1 hs' (by omega) h
 rw[show ((i+1:Nat):Int)=(i:Int)+1 from rfl] at HN
 have hRA:=Ng (hR.alloc (.cells #[.int .i64 0,.int .i64 i,.int .i64 0,.bool qd,.string ⟨#[]⟩] 189));go_enter Tryz.func175,Tryz.ntmps175
 go_upto_block 0 with (first
  | (go_at_call 147;refine (HN.out _ ?_).mono ?_;(exact hRA.out.cs);rintro e w2 ⟨rfl,hb2⟩;have hR2:=hRA.out.below hb2)
  | (go_at_call 134;refine (CQ r q B s i v P j 1 _ hs' (by omega) (by decide) hR2).mono ?_;rintro e w3 ⟨rfl,hb3⟩))
 have hR3:=hR2.below hb3;have hpb:v.ownBlock≠some w.heap.size:=fun e=>by have:=(hR.row.lt _ e).2;omega
 have hrlt:=hR.rlt;have hqlt:=hR.qlt;have hB3:Blk w3 w.heap.size [.int .i64 0,.int .i64 i,.int .i64 0,.bool qd,.string ⟨#[]⟩]:=((Blk.new w _ _).below hb2).below hb3;have hK3:aB (RB r B) w w3:=(((aB.refl _ _).alloc _).andBelow hb2).andBelow hb3;have he1:=aF hb3 (aF hb2 (aF ((Below.refl _ _).alloc (Nat.le_refl _) _) hev));have he2:=aF hb3 (aF hb2 (aF ((Below.refl _ _).alloc (Nat.le_refl _) _) hev2));rw[J8] at hX;have c3:=Ei s (i+1);have hbz:=lE s.data.toList (i+1);rw[size_eq] at hbz;have HBZ:Hid ((bat s (i+1)).toNat≠0→i+1<s.size):=Ng hbz;clear hRA HN c0 c1 cs hR hR2 hb2 hb3 hev hev2 hbz;have c0:=hR3.c0;have c1:=hR3.c1;have cs:=hR3.cs;have f1:=hR3.fr 1;have n1:¬ r=w.heap.size:=by omega
 have n2:¬ q=w.heap.size:=by omega
 have tc0:=hB3.cell 0 rfl;have tc1:=hB3.cell 1 rfl;have tc2:=hB3.cell 2 rfl;have tc3:=hB3.cell 3 rfl;have tc4:=hB3.cell 4 rfl;have tf0:=hB3.free 0;have tf1:=hB3.free 1;have tf2:=hB3.free 2;have tf3:=hB3.free 3;have tf4:=hB3.free 4;have hnl:=sD (s.data.toList.drop (i+1));rw[List.length_drop,size_eq] at hnl;generalize hnm:eG (s.data.toList.drop (i+1))=nm at *;have hns:=aY nm;generalize hcb:(bat s (i+1)).toNat=cb at *
 by_cases hne:nm=[]
 ·subst hne;have HX0:=Ng ((if_neg (by simp)).symm.trans hX.out)
  have e1:(bs []).toList=[]:=by rw[Lib.toList_data,bK]
  have e2:(bs []).toList.isEmpty=true:=by rw[e1];rfl
  clear hX hnm hcb hns hnl
  by_cases h123:cb=123
  ·have HX1:=Ng ((if_pos h123).symm.trans HX0.out);have hlt:=HBZ.out (by omega)
   have d1:((cb:Int)==123)=true:=by rw[beq_iff_eq];omega
   have g0:=cell_regrown hR3.c0;have g1:=cell_regrown hR3.c1;have g2:=cell_regrown hR3.cs;clear HX0 h123 HBZ;go_upto_region 16 with fail
   cases hx:cO 125 (s.data.toList.drop (i+2)) with
   | none =>
    rw[hx] at HX1;have HX:=Ng HX1.out;dsimp only at HX;have HI:=Ng hx;clear hx HX1;refine wp_region_quiet_below (by kernel_rfl) (by kernel_rfl) ?_
    repeat (go_big_quiet_step ((first | (go_at_call 170;exact Calls.regrown_of (jD s _)) | (go_at_call 101;exact Calls.regrown_of (gQ s _ _ _ hs')) | (go_at_call 148;exact Calls.regrown_of ((yG s _ 125 (i+2) _ (by omega) (by decide) HI).mono (by rintro e w' ⟨rfl,rfl⟩;exact⟨rfl,Below.refl _ _⟩))))))
    refine wpQuiet_nil ?_;intro w5 hw';have hb:Below w3.heap.size w3 w5:=b8 hw';clear hw';have he5:=aF hb he1;have hK5:=hK3.andBelow hb;clear g0 g1 g2;go_wp2_with (first | (go_at_call 136;refine (oO _ _ _ _).mono ?_;rintro e w6 ⟨rfl,rfl⟩))
    go_ret;exact eF.bad HX rfl (by unfold bJ;(apply Blk.as);(exact Blk.newAt _ _ rfl);rfl) (hK5.alloc _)
   | some n =>
    rw[hx] at HX1;have HX2:=Ng HX1.out;dsimp only at HX2;have hn:=lD _ _ _ hx;rw[List.length_drop,size_eq] at hn;have HI:=Ng hx;clear hx HX1;refine wp_region_quiet_below (by kernel_rfl) (by kernel_rfl) ?_
    repeat (go_big_quiet_step ((first | (go_at_call 170;exact Calls.regrown_of (jD s _)) | (go_at_call 101;exact Calls.regrown_of (gQ s _ _ _ hs')) | (go_at_call 148;exact Calls.regrown_of ((yR s _ 125 (i+2) n _ (by omega) (by decide) HI).mono (by rintro e w' ⟨rfl,rfl⟩;exact⟨rfl,Below.refl _ _⟩))))))
    refine wpQuiet_nil ?_;intro w5 hw';have hb:Below w3.heap.size w3 w5:=b8 hw';clear hw';have hR5:=hR3.below hb;have hB5:=hB3.below hb;have hK5:=hK3.andBelow hb;have he5:=aF hb he1;clear hR3 hB3 hK3 c0 c1 cs f1 tc0 tc1 tc2 tc3 tc4 tf0 tf1 tf2 tf3 tf4 g0 g1 g2 hb he1;have c0:=hR5.c0;have c1:=hR5.c1;have cs:=hR5.cs;have hsl:=m8 s.data.toList (i+2) (i+2+n);rw[show ((i+2+n:Nat):Int)=(i:Int)+2+n from rfl,show ((i+2:Nat):Int)=(i:Int)+2 from rfl] at hsl
    have HL:=Ng hsl;clear hsl
    cases hnb:bI (aZ s.data.toList (i+2) (i+2+n)) with
    | true =>
     have HX:=Ng ((if_pos hnb).symm.trans HX2.out);have HT:=Ng fun w1=>mV (bs (aZ s.data.toList (i+2) (i+2+n))) w1 (by rw[aY];have:=HL.out;omega)
     rw[bK,hnb] at HT;clear hnb HX2
     go_upto_region 19 with (first
      | (go_at_call 101;refine (gQ s _ _ _ hs').mono ?_;rintro e w7 ⟨rfl,hb7⟩)
      | (go_at_call 120;refine (HT.out _).mono ?_;rintro e w' ⟨rfl,rfl⟩))
     have hR7:=hR5.below hb7;have hB7:=hB5.below hb7;have hK7:=hK5.andBelow hb7;clear hR5 hB5 hK5 c0 c1 cs hb7 he5;have c0:=hR7.c0;have c1:=hR7.c1;have cs:=hR7.cs;have f1:=hR7.fr 1;have tc0:=hB7.cell 0 rfl;have tc1:=hB7.cell 1 rfl;have tc2:=hB7.cell 2 rfl;have tc3:=hB7.cell 3 rfl;have tc4:=hB7.cell 4 rfl;have tf0:=hB7.free 0;have tf1:=hB7.free 1;have tf2:=hB7.free 2;have tf3:=hB7.free 3;have tf4:=hB7.free 4;go_upto_region 31 with (go_at_call 101;refine (gQ s _ _ _ hs').mono ?_;rintro e w8 ⟨rfl,hb8⟩;have hR8:=hR7.below hb8;have hB8:=hB7.below hb8;have hK8:=hK7.andBelow hb8;have tc0':=hB8.cell 0 rfl;have tf0':=hB8.free 0;have tc4':=hB8.cell 4 rfl;have tf4':=hB8.free 4;have c1':=hR8.c1;have f1':=hR8.fr 1)
     clear hR7 hB7 hK7;obtain⟨hR3,hB3,hK3⟩:aN w8 r q B s i v P j∧_∧aB (RB r B) w w8:=⟨hR8,hB8,hK8⟩;go_upto_region 31 with fail
     refine eJ (fun w4=>aN w4 r q B s (i+3+n) v P j∧Blk w4 w.heap.size [.int .i64 (3:Nat),.int .i64 i,.int .i64 (0:Nat),.bool qd,.string (bs (aZ s.data.toList (i+2) (i+2+n)))]∧aB (RB r B) w w4) ⟨?_,?_,?_⟩ ?_
     ·repeat first | with_reducible assumption | ((with_reducible refine aN.moveTo ?_ ?_);rotate_left;focus go_num) | with_reducible exact fE.of (by assumption) | ((with_reducible first | refine fE.other ?_ ?_ ?_ ?_ _ | refine aN.other ?_ ?_ ?_ ?_ _);rotate_left;(focus first | omega | (simp;omega) | simp);(focus first | omega | (simp;omega) | simp);focus first | assumption | (simp;done)) | with_reducible first | refine aN.alloc ?_ _ | refine aN.drew ?_
     ·apply Blk.as
      with_reducible repeat first | assumption | (apply Blk.newAt;focus (simp;done)) | apply Blk.set | (apply Blk.other;case hp=>first | omega | (simp;omega) | simp) | apply Blk.alloc | apply Blk.drewN | apply Blk.drew
      first | (simp [bs];done) | (simp [bs];omega) | rfl
     ·repeat first | with_reducible assumption | with_reducible exact aB.refl _ _ | ((with_reducible refine aB.setCell ?_ ?_ _);rotate_left;focus first | exact fun _=>.inl rfl | exact fun h=>absurd h (by first | omega | (simp;omega) | simp)) | with_reducible first | refine aB.alloc ?_ _ | refine aB.drewN ?_ _ | refine aB.drew ?_
     intro w4 ⟨hR4,hB4,hK4⟩;clear c0 c1 cs f1 hR3 hB3 hK3 tc0 tc1 tc2 tc3 tc4 tf0 tf1 tf2 tf3 tf4
     try clear hd3
     have tc0:=hB4.cell 0 rfl;have tc1:=hB4.cell 1 rfl;have tc2:=hB4.cell 2 rfl;have tc3:=hB4.cell 3 rfl;have tc4:=hB4.cell 4 rfl;have tf0:=hB4.free 0;have tf1:=hB4.free 1;have tf2:=hB4.free 2;have tf3:=hB4.free 3;have tf4:=hB4.free 4;have HA:=Ng (jW r q B s (i+3+n) v P j ⟨3,i,0,qd,aZ s.data.toList (i+2) (i+2+n)⟩ false w4 hP (Nat.le_trans hBw hK4.size) hR4);unfold aD.cells at HA;go_wp2_with (go_at_call 172;refine HA.out.mono ?_;rintro e w6 ⟨rfl,⟨v6,hR6⟩,hK6⟩)
     go_ret;exact eF.ok HX rfl hR6 (hK4.same hK6)
    | false =>
     have HX:=Ng ((if_neg (by rw[hnb];decide)).symm.trans HX2.out)
     have HT:=Ng fun w1=>mV (bs (aZ s.data.toList (i+2) (i+2+n))) w1 (by rw[aY];have:=HL.out;omega)
     rw[bK,hnb] at HT;clear hnb HX2
     go_wp2_with (first
      | (go_at_call 101;refine (gQ s _ _ _ hs').mono ?_;rintro e w7 ⟨rfl,hb7⟩;have he7:=aF hb7 he5;have hK7:=hK5.andBelow hb7)
      | (go_at_call 120;refine (HT.out _).mono ?_;rintro e w' ⟨rfl,rfl⟩)
      | (go_at_call 136;refine (oO _ _ _ _).mono ?_;rintro e w6 ⟨rfl,rfl⟩))
     go_ret;exact eF.bad HX rfl (by unfold bJ;(apply Blk.as);(exact Blk.newAt _ _ rfl);rfl) (hK7.alloc _)
  ·have HX1:=Ng ((if_neg h123).symm.trans HX0.out);have d1:((cb:Int)==123)=false:=by rw[beq_eq_false_iff_ne];omega
   clear HX0
   by_cases h42:cb=42
   ·have HX:=Ng ((if_pos h42).symm.trans HX1.out);subst h42;clear HX1;go_upto_region 31 with fail
    refine eJ (fun w4=>aN w4 r q B s (i+2) v P j∧Blk w4 w.heap.size [.int .i64 (3:Nat),.int .i64 i,.int .i64 (0:Nat),.bool qd,.string (bs ([42]))]∧aB (RB r B) w w4) ⟨?_,?_,?_⟩ ?_
    ·repeat first | with_reducible assumption | ((with_reducible refine aN.moveTo ?_ ?_);rotate_left;focus go_num) | with_reducible exact fE.of (by assumption) | ((with_reducible first | refine fE.other ?_ ?_ ?_ ?_ _ | refine aN.other ?_ ?_ ?_ ?_ _);rotate_left;(focus first | omega | (simp;omega) | simp);(focus first | omega | (simp;omega) | simp);focus first | assumption | (simp;done)) | with_reducible first | refine aN.alloc ?_ _ | refine aN.drew ?_
    ·apply Blk.as
     with_reducible repeat first | assumption | (apply Blk.newAt;focus (simp;done)) | apply Blk.set | (apply Blk.other;case hp=>first | omega | (simp;omega) | simp) | apply Blk.alloc | apply Blk.drewN | apply Blk.drew
     first | (simp [bs];done) | (simp [bs];omega) | rfl
    ·repeat first | with_reducible assumption | with_reducible exact aB.refl _ _ | ((with_reducible refine aB.setCell ?_ ?_ _);rotate_left;focus first | exact fun _=>.inl rfl | exact fun h=>absurd h (by first | omega | (simp;omega) | simp)) | with_reducible first | refine aB.alloc ?_ _ | refine aB.drewN ?_ _ | refine aB.drew ?_
    intro w4 ⟨hR4,hB4,hK4⟩;clear c0 c1 cs f1 hR3 hB3 hK3 tc0 tc1 tc2 tc3 tc4 tf0 tf1 tf2 tf3 tf4
    try clear hd3
    have tc0:=hB4.cell 0 rfl;have tc1:=hB4.cell 1 rfl;have tc2:=hB4.cell 2 rfl;have tc3:=hB4.cell 3 rfl;have tc4:=hB4.cell 4 rfl;have tf0:=hB4.free 0;have tf1:=hB4.free 1;have tf2:=hB4.free 2;have tf3:=hB4.free 3;have tf4:=hB4.free 4;have HA:=Ng (jW r q B s (i+2) v P j ⟨3,i,0,qd,[42]⟩ false w4 hP (Nat.le_trans hBw hK4.size) hR4);unfold aD.cells at HA;go_wp2_with (go_at_call 172;refine HA.out.mono ?_;rintro e w6 ⟨rfl,⟨v6,hR6⟩,hK6⟩)
    go_ret;exact eF.ok HX rfl hR6 (hK4.same hK6)
   ·have HX2:=Ng ((if_neg h42).symm.trans HX1.out);have d2:((cb:Int)==42)=false:=by rw[beq_eq_false_iff_ne];omega
    clear HX1
    by_cases hdig:49≤cb∧cb≤57
    ·have HX:=Ng ((if_pos hdig).symm.trans HX2.out);obtain⟨hd1,hd2⟩:=hdig;have hd3:((cb - 48:Nat):Int)=(cb:Int) - 48:=by omega
     clear HX2 HBZ;have p1:decide ((49:Int)≤(cb:Int))=true:=by rw[decide_eq_true_eq];omega
     have p2:decide ((cb:Int)≤57)=true:=by rw[decide_eq_true_eq];omega
     have p3:IntKind.u8.wrap ((cb:Int) - 48)=(cb:Int) - 48:=by rw[IntKind.wrap_u8];omega
     have p4:IntKind.i64.wrap ((cb:Int) - 48)=(cb:Int) - 48:=by rw[IntKind.wrap_i64];omega
     clear hd1 hd2;go_upto_region 31 with fail
     refine eJ (fun w4=>aN w4 r q B s (i+2) v P j∧Blk w4 w.heap.size [.int .i64 (5:Nat),.int .i64 i,.int .i64 (cb - 48:Nat),.bool qd,.string (bs ([]))]∧aB (RB r B) w w4) ⟨?_,?_,?_⟩ ?_
     ·repeat first | with_reducible assumption | ((with_reducible refine aN.moveTo ?_ ?_);rotate_left;focus go_num) | with_reducible exact fE.of (by assumption) | ((with_reducible first | refine fE.other ?_ ?_ ?_ ?_ _ | refine aN.other ?_ ?_ ?_ ?_ _);rotate_left;(focus first | omega | (simp;omega) | simp);(focus first | omega | (simp;omega) | simp);focus first | assumption | (simp;done)) | with_reducible first | refine aN.alloc ?_ _ | refine aN.drew ?_
     ·apply Blk.as
      with_reducible repeat first | assumption | (apply Blk.newAt;focus (simp;done)) | apply Blk.set | (apply Blk.other;case hp=>first | omega | (simp;omega) | simp) | apply Blk.alloc | apply Blk.drewN | apply Blk.drew
      first | (simp [bs];done) | (simp [bs];omega) | rfl
     ·repeat first | with_reducible assumption | with_reducible exact aB.refl _ _ | ((with_reducible refine aB.setCell ?_ ?_ _);rotate_left;focus first | exact fun _=>.inl rfl | exact fun h=>absurd h (by first | omega | (simp;omega) | simp)) | with_reducible first | refine aB.alloc ?_ _ | refine aB.drewN ?_ _ | refine aB.drew ?_
     intro w4 ⟨hR4,hB4,hK4⟩;clear c0 c1 cs f1 hR3 hB3 hK3 tc0 tc1 tc2 tc3 tc4 tf0 tf1 tf2 tf3 tf4
     try clear hd3
     have tc0:=hB4.cell 0 rfl;have tc1:=hB4.cell 1 rfl;have tc2:=hB4.cell 2 rfl;have tc3:=hB4.cell 3 rfl;have tc4:=hB4.cell 4 rfl;have tf0:=hB4.free 0;have tf1:=hB4.free 1;have tf2:=hB4.free 2;have tf3:=hB4.free 3;have tf4:=hB4.free 4;have HA:=Ng (jW r q B s (i+2) v P j ⟨5,i,cb - 48,qd,[]⟩ false w4 hP (Nat.le_trans hBw hK4.size) hR4);unfold aD.cells at HA;go_wp2_with (go_at_call 172;refine HA.out.mono ?_;rintro e w6 ⟨rfl,⟨v6,hR6⟩,hK6⟩)
     go_ret;exact eF.ok HX rfl hR6 (hK4.same hK6)
    ·have HX3:=Ng ((if_neg hdig).symm.trans HX2.out);clear HX2
     have hpq:(decide ((49:Int)≤(cb:Int))=false)∨(decide ((49:Int)≤(cb:Int))=true∧decide ((cb:Int)≤57)=false):=by
      simp only[decide_eq_true_eq,decide_eq_false_iff_not];omega
     clear hdig HBZ
     rcases hpq with p1 | ⟨p1,p2⟩
     ·by_cases h35:cb=35
      ·have HX:=Ng ((if_pos h35).symm.trans HX3.out);subst h35;clear HX3;go_upto_region 31 with fail
       refine eJ (fun w4=>aN w4 r q B s (i+2) v P j∧Blk w4 w.heap.size [.int .i64 (6:Nat),.int .i64 i,.int .i64 (0:Nat),.bool qd,.string (bs ([]))]∧aB (RB r B) w w4) ⟨?_,?_,?_⟩ ?_
       ·repeat first | with_reducible assumption | ((with_reducible refine aN.moveTo ?_ ?_);rotate_left;focus go_num) | with_reducible exact fE.of (by assumption) | ((with_reducible first | refine fE.other ?_ ?_ ?_ ?_ _ | refine aN.other ?_ ?_ ?_ ?_ _);rotate_left;(focus first | omega | (simp;omega) | simp);(focus first | omega | (simp;omega) | simp);focus first | assumption | (simp;done)) | with_reducible first | refine aN.alloc ?_ _ | refine aN.drew ?_
       ·apply Blk.as
        with_reducible repeat first | assumption | (apply Blk.newAt;focus (simp;done)) | apply Blk.set | (apply Blk.other;case hp=>first | omega | (simp;omega) | simp) | apply Blk.alloc | apply Blk.drewN | apply Blk.drew
        first | (simp [bs];done) | (simp [bs];omega) | rfl
       ·repeat first | with_reducible assumption | with_reducible exact aB.refl _ _ | ((with_reducible refine aB.setCell ?_ ?_ _);rotate_left;focus first | exact fun _=>.inl rfl | exact fun h=>absurd h (by first | omega | (simp;omega) | simp)) | with_reducible first | refine aB.alloc ?_ _ | refine aB.drewN ?_ _ | refine aB.drew ?_
       intro w4 ⟨hR4,hB4,hK4⟩;clear c0 c1 cs f1 hR3 hB3 hK3 tc0 tc1 tc2 tc3 tc4 tf0 tf1 tf2 tf3 tf4
       try clear hd3
       have tc0:=hB4.cell 0 rfl;have tc1:=hB4.cell 1 rfl;have tc2:=hB4.cell 2 rfl;have tc3:=hB4.cell 3 rfl;have tc4:=hB4.cell 4 rfl;have tf0:=hB4.free 0;have tf1:=hB4.free 1;have tf2:=hB4.free 2;have tf3:=hB4.free 3;have tf4:=hB4.free 4;have HA:=Ng (jW r q B s (i+2) v P j ⟨6,i,0,qd,[]⟩ false w4 hP (Nat.le_trans hBw hK4.size) hR4);unfold aD.cells at HA;go_wp2_with (go_at_call 172;refine HA.out.mono ?_;rintro e w6 ⟨rfl,⟨v6,hR6⟩,hK6⟩)
       go_ret;exact eF.ok HX rfl hR6 (hK4.same hK6)
      ·have HX4:=Ng ((if_neg h35).symm.trans HX3.out);have d3:((cb:Int)==35)=false:=by rw[beq_eq_false_iff_ne];omega
       clear HX3
       by_cases h40:cb=40
       ·have HX5:=Ng ((if_pos h40).symm.trans HX4.out);subst h40;clear HX4
        cases hx:aX s.data.toList (s.data.toList.length+1) false 0 (i+2) with
        | none =>
         rw[hx] at HX5;have HX:=Ng HX5.out;dsimp only at HX;have HC:=Ng (t7 r q s ((i:Int)+2) (i+2) w3 none hs' (by omega) (by omega) c0 cs (Ng hx))
         unfold mH at HC;clear hx HX5;go_wp2_with (first | (go_at_call 192;refine HC.out.mono ?_;rintro e w5 ⟨rfl,hb5⟩;have he5:=aF hb5 he2) | (go_at_call 136;refine (oO _ _ _ _).mono ?_;rintro e w6 ⟨rfl,rfl⟩))
         go_ret;exact eF.bad HX rfl (by unfold bJ;(apply Blk.as);(exact Blk.newAt _ _ rfl);rfl) ((hK3.andBelow hb5).alloc _)
        | some t =>
         rw[hx] at HX5;have HX:=Ng HX5.out;dsimp only at HX;have ht:=iH _ _ _ _ _ _ hx;rw[size_eq] at ht;have HC:=Ng (t7 r q s ((i:Int)+2) (i+2) w3 (some t) hs' (by omega) (by omega) c0 cs (Ng hx))
         unfold mH at HC;clear hx HX5;go_upto_region 30 with (go_at_call 192;refine HC.out.mono ?_;rintro e w5 ⟨rfl,hb5⟩)
         have hR5:=hR3.below hb5;have hB5:=hB3.below hb5;have hK5:=hK3.andBelow hb5;clear hR3 hB3 hK3 c0 c1 cs f1 tc0 tc1 tc2 tc3 tc4 tf0 tf1 tf2 tf3 tf4 HC;have c0:=hR5.c0;have c1:=hR5.c1;have cs:=hR5.cs;have f1:=hR5.fr 1;have tc0:=hB5.cell 0 rfl;have tc1:=hB5.cell 1 rfl;have tc2:=hB5.cell 2 rfl;have tc3:=hB5.cell 3 rfl;have tc4:=hB5.cell 4 rfl;have tf0:=hB5.free 0;have tf1:=hB5.free 1;have tf2:=hB5.free 2;have tf3:=hB5.free 3;have tf4:=hB5.free 4;obtain⟨hR3,hB3,hK3⟩:aN w5 r q B s i v P j∧_∧aB (RB r B) w w5:=⟨hR5,hB5,hK5⟩;go_upto_region 31 with (go_at_call 101;refine (gQ s _ _ _ hs').mono ?_;rintro e w7 ⟨rfl,hb7⟩;have hR7:=hR3.below hb7;have hB7:=hB3.below hb7;have hK7:=hK3.andBelow hb7;have tc0':=hB7.cell 0 rfl;have tf0':=hB7.free 0;have tc4':=hB7.cell 4 rfl;have tf4':=hB7.free 4;have c1':=hR7.c1;have f1':=hR7.fr 1)
         clear hR3 hB3 hK3;obtain⟨hR3,hB3,hK3⟩:aN w7 r q B s i v P j∧_∧aB (RB r B) w w7:=⟨hR7,hB7,hK7⟩;go_upto_region 31 with fail
         refine eJ (fun w4=>aN w4 r q B s (t+1) v P j∧Blk w4 w.heap.size [.int .i64 (4:Nat),.int .i64 i,.int .i64 (0:Nat),.bool qd,.string (bs (aZ s.data.toList (i+2) t))]∧aB (RB r B) w w4) ⟨?_,?_,?_⟩ ?_
         ·repeat first | with_reducible assumption | ((with_reducible refine aN.moveTo ?_ ?_);rotate_left;focus go_num) | with_reducible exact fE.of (by assumption) | ((with_reducible first | refine fE.other ?_ ?_ ?_ ?_ _ | refine aN.other ?_ ?_ ?_ ?_ _);rotate_left;(focus first | omega | (simp;omega) | simp);(focus first | omega | (simp;omega) | simp);focus first | assumption | (simp;done)) | with_reducible first | refine aN.alloc ?_ _ | refine aN.drew ?_
         ·apply Blk.as
          with_reducible repeat first | assumption | (apply Blk.newAt;focus (simp;done)) | apply Blk.set | (apply Blk.other;case hp=>first | omega | (simp;omega) | simp) | apply Blk.alloc | apply Blk.drewN | apply Blk.drew
          first | (simp [bs];done) | (simp [bs];omega) | rfl
         ·repeat first | with_reducible assumption | with_reducible exact aB.refl _ _ | ((with_reducible refine aB.setCell ?_ ?_ _);rotate_left;focus first | exact fun _=>.inl rfl | exact fun h=>absurd h (by first | omega | (simp;omega) | simp)) | with_reducible first | refine aB.alloc ?_ _ | refine aB.drewN ?_ _ | refine aB.drew ?_
         intro w4 ⟨hR4,hB4,hK4⟩;clear c0 c1 cs f1 hR3 hB3 hK3 tc0 tc1 tc2 tc3 tc4 tf0 tf1 tf2 tf3 tf4
         try clear hd3
         have tc0:=hB4.cell 0 rfl;have tc1:=hB4.cell 1 rfl;have tc2:=hB4.cell 2 rfl;have tc3:=hB4.cell 3 rfl;have tc4:=hB4.cell 4 rfl;have tf0:=hB4.free 0;have tf1:=hB4.free 1;have tf2:=hB4.free 2;have tf3:=hB4.free 3;have tf4:=hB4.free 4;have HA:=Ng (jW r q B s (t+1) v P j ⟨4,i,0,qd,aZ s.data.toList (i+2) t⟩ false w4 hP (Nat.le_trans hBw hK4.size) hR4);unfold aD.cells at HA;go_wp2_with (go_at_call 172;refine HA.out.mono ?_;rintro e w6 ⟨rfl,⟨v6,hR6⟩,hK6⟩)
         go_ret;exact eF.ok HX rfl hR6 (hK4.same hK6)
       ·have HX:=Ng ((if_neg h40).symm.trans HX4.out);have d4:((cb:Int)==40)=false:=by rw[beq_eq_false_iff_ne];omega
        clear HX4 h35 h40
        cases qd with
        | false =>
         have HA:=Ng (nN r q B s i v P j 1 [36] w3 hS (by decide) hP (by omega) (Nat.le_trans hBw hK3.size) hR3 _ (Ng rfl))
         go_wp2_with (go_at_call 176;refine HA.out.mono ?_;rintro e w6 ⟨rfl,⟨v6,hR6⟩,hK6⟩;have k1:=hR6.c1;have kf:=hR6.fr 1)
         go_ret;exact eF.ok HX rfl (aN.moveTo (.of hR6) (by go_num)) ((hK3.same hK6).setCell (fun _=>.inl rfl) _)
        | true =>
         have HA:=Ng (nN r q B s i v P j 2 [36] w3 hS (by decide) hP (by omega) (Nat.le_trans hBw hK3.size) hR3 _ (Ng rfl))
         go_wp2_with (go_at_call 176;refine HA.out.mono ?_;rintro e w6 ⟨rfl,⟨v6,hR6⟩,hK6⟩;have k1:=hR6.c1;have kf:=hR6.fr 1)
         go_ret;exact eF.ok HX rfl (aN.moveTo (.of hR6) (by go_num)) ((hK3.same hK6).setCell (fun _=>.inl rfl) _)
     ·by_cases h35:cb=35
      ·have HX:=Ng ((if_pos h35).symm.trans HX3.out);subst h35;clear HX3;go_upto_region 31 with fail
       refine eJ (fun w4=>aN w4 r q B s (i+2) v P j∧Blk w4 w.heap.size [.int .i64 (6:Nat),.int .i64 i,.int .i64 (0:Nat),.bool qd,.string (bs ([]))]∧aB (RB r B) w w4) ⟨?_,?_,?_⟩ ?_
       ·repeat first | with_reducible assumption | ((with_reducible refine aN.moveTo ?_ ?_);rotate_left;focus go_num) | with_reducible exact fE.of (by assumption) | ((with_reducible first | refine fE.other ?_ ?_ ?_ ?_ _ | refine aN.other ?_ ?_ ?_ ?_ _);rotate_left;(focus first | omega | (simp;omega) | simp);(focus first | omega | (simp;omega) | simp);focus first | assumption | (simp;done)) | with_reducible first | refine aN.alloc ?_ _ | refine aN.drew ?_
       ·apply Blk.as
        with_reducible repeat first | assumption | (apply Blk.newAt;focus (simp;done)) | apply Blk.set | (apply Blk.other;case hp=>first | omega | (simp;omega) | simp) | apply Blk.alloc | apply Blk.drewN | apply Blk.drew
        first | (simp [bs];done) | (simp [bs];omega) | rfl
       ·repeat first | with_reducible assumption | with_reducible exact aB.refl _ _ | ((with_reducible refine aB.setCell ?_ ?_ _);rotate_left;focus first | exact fun _=>.inl rfl | exact fun h=>absurd h (by first | omega | (simp;omega) | simp)) | with_reducible first | refine aB.alloc ?_ _ | refine aB.drewN ?_ _ | refine aB.drew ?_
       intro w4 ⟨hR4,hB4,hK4⟩;clear c0 c1 cs f1 hR3 hB3 hK3 tc0 tc1 tc2 tc3 tc4 tf0 tf1 tf2 tf3 tf4
       try clear hd3
       have tc0:=hB4.cell 0 rfl;have tc1:=hB4.cell 1 rfl;have tc2:=hB4.cell 2 rfl;have tc3:=hB4.cell 3 rfl;have tc4:=hB4.cell 4 rfl;have tf0:=hB4.free 0;have tf1:=hB4.free 1;have tf2:=hB4.free 2;have tf3:=hB4.free 3;have tf4:=hB4.free 4;have HA:=Ng (jW r q B s (i+2) v P j ⟨6,i,0,qd,[]⟩ false w4 hP (Nat.le_trans hBw hK4.size) hR4);unfold aD.cells at HA;go_wp2_with (go_at_call 172;refine HA.out.mono ?_;rintro e w6 ⟨rfl,⟨v6,hR6⟩,hK6⟩)
       go_ret;exact eF.ok HX rfl hR6 (hK4.same hK6)
      ·have HX4:=Ng ((if_neg h35).symm.trans HX3.out);have d3:((cb:Int)==35)=false:=by rw[beq_eq_false_iff_ne];omega
       clear HX3
       by_cases h40:cb=40
       ·have HX5:=Ng ((if_pos h40).symm.trans HX4.out);subst h40;clear HX4
        cases hx:aX s.data.toList (s.data.toList.length+1) false 0 (i+2) with
        | none =>
         rw[hx] at HX5;have HX:=Ng HX5.out;dsimp only at HX;have HC:=Ng (t7 r q s ((i:Int)+2) (i+2) w3 none hs' (by omega) (by omega) c0 cs (Ng hx))
         unfold mH at HC;clear hx HX5;go_wp2_with (first | (go_at_call 192;refine HC.out.mono ?_;rintro e w5 ⟨rfl,hb5⟩;have he5:=aF hb5 he2) | (go_at_call 136;refine (oO _ _ _ _).mono ?_;rintro e w6 ⟨rfl,rfl⟩))
         go_ret;exact eF.bad HX rfl (by unfold bJ;(apply Blk.as);(exact Blk.newAt _ _ rfl);rfl) ((hK3.andBelow hb5).alloc _)
        | some t =>
         rw[hx] at HX5;have HX:=Ng HX5.out;dsimp only at HX;have ht:=iH _ _ _ _ _ _ hx;rw[size_eq] at ht;have HC:=Ng (t7 r q s ((i:Int)+2) (i+2) w3 (some t) hs' (by omega) (by omega) c0 cs (Ng hx))
         unfold mH at HC;clear hx HX5;go_upto_region 30 with (go_at_call 192;refine HC.out.mono ?_;rintro e w5 ⟨rfl,hb5⟩)
         have hR5:=hR3.below hb5;have hB5:=hB3.below hb5;have hK5:=hK3.andBelow hb5;clear hR3 hB3 hK3 c0 c1 cs f1 tc0 tc1 tc2 tc3 tc4 tf0 tf1 tf2 tf3 tf4 HC;have c0:=hR5.c0;have c1:=hR5.c1;have cs:=hR5.cs;have f1:=hR5.fr 1;have tc0:=hB5.cell 0 rfl;have tc1:=hB5.cell 1 rfl;have tc2:=hB5.cell 2 rfl;have tc3:=hB5.cell 3 rfl;have tc4:=hB5.cell 4 rfl;have tf0:=hB5.free 0;have tf1:=hB5.free 1;have tf2:=hB5.free 2;have tf3:=hB5.free 3;have tf4:=hB5.free 4;obtain⟨hR3,hB3,hK3⟩:aN w5 r q B s i v P j∧_∧aB (RB r B) w w5:=⟨hR5,hB5,hK5⟩;go_upto_region 31 with (go_at_call 101;refine (gQ s _ _ _ hs').mono ?_;rintro e w7 ⟨rfl,hb7⟩;have hR7:=hR3.below hb7;have hB7:=hB3.below hb7;have hK7:=hK3.andBelow hb7;have tc0':=hB7.cell 0 rfl;have tf0':=hB7.free 0;have tc4':=hB7.cell 4 rfl;have tf4':=hB7.free 4;have c1':=hR7.c1;have f1':=hR7.fr 1)
         clear hR3 hB3 hK3;obtain⟨hR3,hB3,hK3⟩:aN w7 r q B s i v P j∧_∧aB (RB r B) w w7:=⟨hR7,hB7,hK7⟩;go_upto_region 31 with fail
         refine eJ (fun w4=>aN w4 r q B s (t+1) v P j∧Blk w4 w.heap.size [.int .i64 (4:Nat),.int .i64 i,.int .i64 (0:Nat),.bool qd,.string (bs (aZ s.data.toList (i+2) t))]∧aB (RB r B) w w4) ⟨?_,?_,?_⟩ ?_
         ·repeat first | with_reducible assumption | ((with_reducible refine aN.moveTo ?_ ?_);rotate_left;focus go_num) | with_reducible exact fE.of (by assumption) | ((with_reducible first | refine fE.other ?_ ?_ ?_ ?_ _ | refine aN.other ?_ ?_ ?_ ?_ _);rotate_left;(focus first | omega | (simp;omega) | simp);(focus first | omega | (simp;omega) | simp);focus first | assumption | (simp;done)) | with_reducible first | refine aN.alloc ?_ _ | refine aN.drew ?_
         ·apply Blk.as
          with_reducible repeat first | assumption | (apply Blk.newAt;focus (simp;done)) | apply Blk.set | (apply Blk.other;case hp=>first | omega | (simp;omega) | simp) | apply Blk.alloc | apply Blk.drewN | apply Blk.drew
          first | (simp [bs];done) | (simp [bs];omega) | rfl
         ·repeat first | with_reducible assumption | with_reducible exact aB.refl _ _ | ((with_reducible refine aB.setCell ?_ ?_ _);rotate_left;focus first | exact fun _=>.inl rfl | exact fun h=>absurd h (by first | omega | (simp;omega) | simp)) | with_reducible first | refine aB.alloc ?_ _ | refine aB.drewN ?_ _ | refine aB.drew ?_
         intro w4 ⟨hR4,hB4,hK4⟩;clear c0 c1 cs f1 hR3 hB3 hK3 tc0 tc1 tc2 tc3 tc4 tf0 tf1 tf2 tf3 tf4
         try clear hd3
         have tc0:=hB4.cell 0 rfl;have tc1:=hB4.cell 1 rfl;have tc2:=hB4.cell 2 rfl;have tc3:=hB4.cell 3 rfl;have tc4:=hB4.cell 4 rfl;have tf0:=hB4.free 0;have tf1:=hB4.free 1;have tf2:=hB4.free 2;have tf3:=hB4.free 3;have tf4:=hB4.free 4;have HA:=Ng (jW r q B s (t+1) v P j ⟨4,i,0,qd,aZ s.data.toList (i+2) t⟩ false w4 hP (Nat.le_trans hBw hK4.size) hR4);unfold aD.cells at HA;go_wp2_with (go_at_call 172;refine HA.out.mono ?_;rintro e w6 ⟨rfl,⟨v6,hR6⟩,hK6⟩)
         go_ret;exact eF.ok HX rfl hR6 (hK4.same hK6)
       ·have HX:=Ng ((if_neg h40).symm.trans HX4.out);have d4:((cb:Int)==40)=false:=by rw[beq_eq_false_iff_ne];omega
        clear HX4 h35 h40
        cases qd with
        | false =>
         have HA:=Ng (nN r q B s i v P j 1 [36] w3 hS (by decide) hP (by omega) (Nat.le_trans hBw hK3.size) hR3 _ (Ng rfl))
         go_wp2_with (go_at_call 176;refine HA.out.mono ?_;rintro e w6 ⟨rfl,⟨v6,hR6⟩,hK6⟩;have k1:=hR6.c1;have kf:=hR6.fr 1)
         go_ret;exact eF.ok HX rfl (aN.moveTo (.of hR6) (by go_num)) ((hK3.same hK6).setCell (fun _=>.inl rfl) _)
        | true =>
         have HA:=Ng (nN r q B s i v P j 2 [36] w3 hS (by decide) hP (by omega) (Nat.le_trans hBw hK3.size) hR3 _ (Ng rfl))
         go_wp2_with (go_at_call 176;refine HA.out.mono ?_;rintro e w6 ⟨rfl,⟨v6,hR6⟩,hK6⟩;have k1:=hR6.c1;have kf:=hR6.fr 1)
         go_ret;exact eF.ok HX rfl (aN.moveTo (.of hR6) (by go_num)) ((hK3.same hK6).setCell (fun _=>.inl rfl) _)
 ·have HX0:=Ng ((if_pos hne).symm.trans hX.out)
  have hz:0<(bs nm).size:=by
   rw[hns]
   cases nm with
   | nil=>exact absurd rfl hne
   | cons _ _=>simp
  obtain⟨e1,e2⟩:=pL _ hz;clear hX hnm hcb hne hz
  cases hnb:bI nm with
  | true =>
   have HX:=Ng ((if_pos hnb).symm.trans HX0.out);have hnx:Hid (bI (bs nm).data.toList=true):=Ng (by rw[bK];exact hnb)
   clear HX0 hnb;go_upto_region 14 with (go_at_call 120;refine (mV _ _ (by omega)).mono ?_;rintro e w' ⟨rfl,rfl⟩;rw[hnx.out])
   go_upto_region 31 with fail
   refine eJ (fun w4=>aN w4 r q B s (i+1+nm.length) v P j∧Blk w4 w.heap.size [.int .i64 (3:Nat),.int .i64 i,.int .i64 (0:Nat),.bool qd,.string (bs (nm))]∧aB (RB r B) w w4) ⟨?_,?_,?_⟩ ?_
   ·repeat first | with_reducible assumption | ((with_reducible refine aN.moveTo ?_ ?_);rotate_left;focus go_num) | with_reducible exact fE.of (by assumption) | ((with_reducible first | refine fE.other ?_ ?_ ?_ ?_ _ | refine aN.other ?_ ?_ ?_ ?_ _);rotate_left;(focus first | omega | (simp;omega) | simp);(focus first | omega | (simp;omega) | simp);focus first | assumption | (simp;done)) | with_reducible first | refine aN.alloc ?_ _ | refine aN.drew ?_
   ·apply Blk.as
    with_reducible repeat first | assumption | (apply Blk.newAt;focus (simp;done)) | apply Blk.set | (apply Blk.other;case hp=>first | omega | (simp;omega) | simp) | apply Blk.alloc | apply Blk.drewN | apply Blk.drew
    first | (simp [bs];done) | (simp [bs];omega) | rfl
   ·repeat first | with_reducible assumption | with_reducible exact aB.refl _ _ | ((with_reducible refine aB.setCell ?_ ?_ _);rotate_left;focus first | exact fun _=>.inl rfl | exact fun h=>absurd h (by first | omega | (simp;omega) | simp)) | with_reducible first | refine aB.alloc ?_ _ | refine aB.drewN ?_ _ | refine aB.drew ?_
   intro w4 ⟨hR4,hB4,hK4⟩;clear c0 c1 cs f1 hR3 hB3 hK3 tc0 tc1 tc2 tc3 tc4 tf0 tf1 tf2 tf3 tf4
   try clear hd3
   have tc0:=hB4.cell 0 rfl;have tc1:=hB4.cell 1 rfl;have tc2:=hB4.cell 2 rfl;have tc3:=hB4.cell 3 rfl;have tc4:=hB4.cell 4 rfl;have tf0:=hB4.free 0;have tf1:=hB4.free 1;have tf2:=hB4.free 2;have tf3:=hB4.free 3;have tf4:=hB4.free 4;have HA:=Ng (jW r q B s (i+1+nm.length) v P j ⟨3,i,0,qd,nm⟩ false w4 hP (Nat.le_trans hBw hK4.size) hR4);unfold aD.cells at HA;go_wp2_with (go_at_call 172;refine HA.out.mono ?_;rintro e w6 ⟨rfl,⟨v6,hR6⟩,hK6⟩)
   go_ret;exact eF.ok HX rfl hR6 (hK4.same hK6)
  | false =>
   have HX:=Ng ((if_neg (by rw[hnb];decide)).symm.trans HX0.out)
   have hnx:Hid (bI (bs nm).data.toList=false):=Ng (by rw[bK];exact hnb)
   clear HX0 hnb;go_wp2_with (first | (go_at_call 120;refine (mV _ _ (by omega)).mono ?_;rintro e w' ⟨rfl,rfl⟩;rw[hnx.out]) | (go_at_call 136;refine (oO _ _ _ _).mono ?_;rintro e w6 ⟨rfl,rfl⟩))
   go_ret;exact eF.bad HX rfl (by unfold bJ;(apply Blk.as);(exact Blk.newAt _ _ rfl);rfl) (hK3.alloc _)
theorem Em (r q B:Nat)(s:ByteArray)(i:Nat)(v:Value)(P:List aD)(j:Bool)(w:World)(hs:s.size≤1000000)(hi:i≤1000000)(hR:aN w r q B s i v P j) :
  Calls Tryz.prog 134 #[.pointer (some ⟨r,0,none⟩),.int .i64 0] w fun e w'=>e = .returned (.int .u8 (bat s i).toNat)∧Below w.heap.size w w' :=
 CQ r q B s i v P j 0 w hs hi (by decide) hR
theorem EK (c:UInt8)(b:Bool)(w:World)(h:Hid ([36,34,92].contains c.toNat=b)) :
  Calls Tryz.prog 148 #[.string ⟨#[36,34,92]⟩,.int .u8 c.toNat] w fun e w'=>∃ x:Int,e = .returned (.int .i64 x)∧decide (0≤x)=b∧w'=w:=by
 refine (Tryz.strings_IndexByte _ _ _).mono ?_;rintro e w' ⟨rfl,rfl⟩;refine ⟨_,rfl,?_,rfl⟩;rw[indexByte_ge,show ((c.toNat:Int).toNat.toUInt8)=c from by simp,← h.out]
 have h:∀ n:Fin 256,List.contains ([36,34,92]:List UInt8) (UInt8.ofNat n.val)=List.contains ([36,34,92]:List Nat) (UInt8.ofNat n.val).toNat:=by decide +kernel
 have h1:=h ⟨c.toNat,c.toNat_lt⟩;simpa using h1
theorem mX (s:ByteArray)(i:Nat)(h:i<s.size):aZ s.data.toList (i:Int) ((i:Int)+1)=[bat s i]:=by
 unfold aZ;rw[Int.toNat_natCast,show ((i:Int)+1).toNat=i+1 from rfl,List.drop_take,dN s i h,show i+1 - i=1 from by omega]
 rfl
theorem LJ (s:ByteArray)(i:Nat)(h:i+1<s.size):aZ s.data.toList (i:Int) ((i:Int)+2)=[bat s i,bat s (i+1)]:=by
 unfold aZ;rw[Int.toNat_natCast,show ((i:Int)+2).toNat=i+2 from rfl,List.drop_take,dN s i (by omega),dN s (i+1) h,show i+2 - i=2 from by omega]
 rfl
theorem Ht (x y:UInt8):(bs [x,y]).extract 1 2=bs [y]:=by rw[BZ,bK];rfl
section
variable (s:ByteArray) (a f i:Nat) (P:List aD) (j:Bool)
theorem J5:dR s.data.toList a (f+1) i P j =
  if s.data.toList.length≤i then .error (103,a)
  else if (bat s i).toNat=34 then .ok (i+1,P,false)
  else if (bat s i).toNat=92∧i+1<s.data.toList.length then
   dR s.data.toList a f (i+2) (bQ P j 2 i (if [36,34,92].contains (bat s (i+1)).toNat then [bat s (i+1)] else [bat s i,bat s (i+1)])) true
  else if (bat s i).toNat=36 then match e8 s.data.toList true i P j with
   | .error e=>.error e
   | .ok (i',P',j')=>dR s.data.toList a f i' P' j'
  else dR s.data.toList a f (i+1) (bQ P j 2 i [bat s i]) true:=rfl
end
theorem Bk (r q B:Nat)(s:ByteArray)(a:Nat)(v:Value)(P:List aD)(j:Bool)(w:World)(hs:s.size≤8192)(hi:a<s.size)(hSm:dG P a)(hBw:B≤w.heap.size)(hR:aN w r q B s a v P j)(sent:Nat→Addr)(hE:Env w sent)(hG:∀ c g,(c,g)∈cH→¬ RB r B g)
  (X:Except (Nat×Nat) nV) (hX:Hid (dR s.data.toList a (s.data.toList.length+1) (a+1) (P++[⟨2,a,0,false,[]⟩]) true=X)) :
  Calls Tryz.prog 174 #[.pointer (some ⟨r,0,none⟩)] w (eF w r q B s sent X):=by
 have hs':s.size≤1000000:=by omega
 have c1:=hR.c1;have hPl:P.length≤100000:=by have:=hSm.1;omega
 have HA:=Ng (jW r q B s a v P j ⟨2,a,0,false,[]⟩ true w hPl hBw hR);unfold aD.cells at HA;go_enter Tryz.func174,Tryz.ntmps174
 go_upto_region 3 with (go_at_call 172;refine HA.out.mono ?_;rintro e w2 ⟨rfl,⟨v2,hR2⟩,hK2⟩)
 clear HA c1;have c1:=hR2.c1;have f1:=hR2.fr 1;go_wp2_with fail
 have hS2:dG (P++[⟨2,a,0,false,[]⟩]) (a+1):=hSm.part _ (by simp) (by omega)
 go_loopg [] (s.size - (a+1)) (fun n wr=>∃ (k f:Nat) (P':List aD) (j':Bool) (v':Value),n=s.size - k∧k≤s.size∧s.size - k<f∧dG P' k∧aN wr r q B s k v' P' j'∧aB (RB r B) w wr∧Hid (dR s.data.toList a f k P' j'=X))
 case atStart =>
  exact⟨a+1,_,_,true,v2,rfl,by omega,by rw[size_eq];omega,hS2,aN.moveTo (.of hR2) (by go_num),hK2.setCell (fun _=>.inl rfl) _,hX⟩
 case round =>
  clear hX hR hR2 hK2 hS2 hSm hPl c1 f1;obtain⟨k,f,P',j',v',rfl,hk,hf,hSm,hR,hK,hX⟩:=hrel;obtain⟨g,rfl⟩:∃ g,f=g+1:=⟨f - 1,by omega⟩
  rw[J5,size_eq] at hX;have hPl:P'.length≤100000:=by have:=hSm.1;omega
  have hPt:∀ p∈P',p.text.length≤1000000:=fun p hp=>by have:=hSm.2 p hp;omega
  have hBr:B≤wr.heap.size:=Nat.le_trans hBw hK.size;have HM:=Ng fun w1 h=>Cv r q B s k v' P' j' w1 hs' (by omega) h
  by_cases hlt:k<s.size
  ·have hX1:=Ng ((if_neg (by omega)).symm.trans hX.out)
   rw[show decide (k<s.size)=true from by rw[decide_eq_true_eq];exact hlt] at HM
   have HP:=Ng fun w1 h=>Em r q B s k v' P' j' w1 hs' (by omega) h
   clear hX
   go_upto_block 2 with (first
    | (go_at_call 133;refine (HM.out _ hR).mono ?_;rintro e w3 ⟨rfl,hb3⟩;have hR3:=hR.below hb3)
    | (go_at_call 134;refine (HP.out _ hR3).mono ?_;rintro e w4 ⟨rfl,hb4⟩))
   have hR4:=hR3.below hb4;have hK4:=(hK.andBelow hb3).andBelow hb4;have hBr4:B≤w4.heap.size:=Nat.le_trans hBw hK4.size;clear hR hK hBr hR3 hb3 hb4 HM HP;have c1:=hR4.c1;have f1:=hR4.fr 1
   by_cases h34:(bat s k).toNat=34
   ·have HX:=Ng ((if_pos h34).symm.trans hX1.out);have d1:(((bat s k).toNat:Int)==34)=true:=by rw[beq_iff_eq];omega
    have f3:=hR4.fr 3;have c3:=hR4.c3;clear hX1 h34;go_wp2_with fail
    go_ret;exact eF.ok HX rfl ((aN.moveTo (.of hR4) (by go_num)).join false) ((hK4.setCell (fun _=>.inl rfl) _).setCell (fun _=>.inl rfl) _)
   ·have hX2:=Ng ((if_neg h34).symm.trans hX1.out);have d1:(((bat s k).toNat:Int)==34)=false:=by rw[beq_eq_false_iff_ne];omega
    have g0:=cell_regrown hR4.c0;have g1:=cell_regrown hR4.c1;have g2:=cell_regrown hR4.cs;clear hX1;go_upto_region 12 with fail
    by_cases h92:(bat s k).toNat=92
    ·have d2:(((bat s k).toNat:Int)==92)=true:=by rw[beq_iff_eq];omega
     refine wp_region_quiet_below (by kernel_rfl) (by kernel_rfl) ?_
     repeat (go_big_quiet_step ((go_at_call 170;exact Calls.regrown_of (jD s _))))
     refine wpQuiet_nil ?_;intro w5 hw';have hb:Below w4.heap.size w4 w5:=b8 hw';clear hw';have hR5:=hR4.below hb;have hK5:=hK4.andBelow hb;have hBr5:B≤w5.heap.size:=Nat.le_trans hBr4 hb.size;clear hR4 hK4 hBr4 hb g0 g1 g2 c1 f1
     by_cases hlt2:k+1<s.size
     ·have hX3:=Ng ((if_pos ⟨h92,hlt2⟩).symm.trans hX2.out);clear hX2 h92 h34;have g0:=cell_regrown hR5.c0;have g1:=cell_regrown hR5.c1;have g2:=cell_regrown hR5.cs;go_upto_region 13 with fail
      refine wp_region_quiet_below (by kernel_rfl) (by kernel_rfl) ?_
      repeat (go_big_quiet_step ((go_at_call 101;exact Calls.regrown_of (gQ s _ _ _ hs'))))
      refine wpQuiet_nil ?_;intro w6 hw';have hb:Below w5.heap.size w5 w6:=b8 hw';clear hw';rw[LJ s k hlt2];have hR6:=hR5.below hb;have hK6:=hK5.andBelow hb;have hBr6:B≤w6.heap.size:=Nat.le_trans hBr5 hb.size;clear hR5 hK5 hBr5 hb g0 g1 g2;have hz2:(bs [bat s k,bat s (k+1)]).size=2:=rfl;have hge:(bs [bat s k,bat s (k+1)])[1]=bat s (k+1):=rfl
      cases hcc:[36,34,92].contains (bat s (k+1)).toNat with
      | true =>
       rw[hcc] at hX3;have HX:=Ng ((congrArg (fun l=>dR s.data.toList a g (k+2) (bQ P' j' 2 k l) true) (if_pos rfl)).symm.trans hX3.out)
       have HI:=Ng hcc;clear hX3 hcc;go_upto_region 16 with (go_at_call 148;refine (EK (bat s (k+1)) true _ HI).mono ?_;rintro e w7 ⟨x,rfl,hx,rfl⟩)
       rw[Ht];have HB:=Ng (nN r q B s k v' P' j' 2 ([bat s (k+1)]) w7 hPt (by simp) hPl (by omega) hBr6 hR6 _ (Ng rfl))
       have hSm':dG (bQ P' j' 2 k ([bat s (k+1)])) (k+2):=hSm.bytes _ _ _ _ (by simp) (by omega)
       go_wp2_with (go_at_call 176;refine HB.out.mono ?_;rintro e w8 ⟨rfl,⟨v8,hR8⟩,hK8⟩;have c1:=hR8.c1;have f1:=hR8.fr 1)
       go_roundg (s.size - (k+2))
       case measure=>omega
       case rel=>exact⟨k+2,g,_,true,v8,rfl,by omega,by omega,hSm',aN.moveTo (.of hR8) (by go_num),(hK6.same hK8).setCell (fun _=>.inl rfl) _,HX⟩
      | false =>
       rw[hcc] at hX3;have HX:=Ng ((congrArg (fun l=>dR s.data.toList a g (k+2) (bQ P' j' 2 k l) true) (if_neg (by decide))).symm.trans hX3.out)
       have HI:=Ng hcc;clear hX3 hcc;go_upto_region 16 with (go_at_call 148;refine (EK (bat s (k+1)) false _ HI).mono ?_;rintro e w7 ⟨x,rfl,hx,rfl⟩)
       have HB:=Ng (nN r q B s k v' P' j' 2 ([bat s k,bat s (k+1)]) w7 hPt (by simp) hPl (by omega) hBr6 hR6 _ (Ng rfl))
       have hSm':dG (bQ P' j' 2 k ([bat s k,bat s (k+1)])) (k+2):=hSm.bytes _ _ _ _ (by simp) (by omega)
       go_wp2_with (go_at_call 176;refine HB.out.mono ?_;rintro e w8 ⟨rfl,⟨v8,hR8⟩,hK8⟩;have c1:=hR8.c1;have f1:=hR8.fr 1)
       go_roundg (s.size - (k+2))
       case measure=>omega
       case rel=>exact⟨k+2,g,_,true,v8,rfl,by omega,by omega,hSm',aN.moveTo (.of hR8) (by go_num),(hK6.same hK8).setCell (fun _=>.inl rfl) _,HX⟩
     ·have hX3:=Ng ((if_neg (fun h=>hlt2 h.2)).symm.trans hX2.out)
      have hXd:=Ng ((if_neg (by omega)).symm.trans hX3.out)
      obtain⟨hR4,hK4,hBr4⟩:aN w5 r q B s k v' P' j'∧aB (RB r B) w w5∧B≤w5.heap.size:=⟨hR5,hK5,hBr5⟩;have c1:=hR4.c1;have f1:=hR4.fr 1;have d3:(((bat s k).toNat:Int)==36)=false:=by rw[beq_eq_false_iff_ne];omega
      clear hX2 hX3 hR5 hK5 hBr5 h92 h34;have HX:=Ng (show dR s.data.toList a g (k+1) (bQ P' j' 2 k (aZ s.data.toList (k:Int) ((k:Int)+1))) true=X by rw[mX s k hlt];exact hXd.out)
      have hSm':dG (bQ P' j' 2 k (aZ s.data.toList (k:Int) ((k:Int)+1))) (k+1):=hSm.bytes _ _ _ _ (by rw[mX s k hlt];simp) (by omega)
      clear hXd hSm;have hw1:IntKind.i64.wrap ((k:Int)+1)=(k:Int)+1:=by rw[IntKind.wrap_i64];omega
      have HB:=Ng fun w5 h1 h2=>nN r q (B) s k v' P' j' 2 (aZ s.data.toList (k:Int) ((k:Int)+1)) w5 hPt (by rw[mX s k hlt];simp) hPl (by omega) h1 h2 _ (Ng rfl)
      have c0:=hR4.c0;have cs:=hR4.cs;go_wp2_with fail
      go_region_held3 (fun w'=>w'.cell? ⟨r,0,none⟩=some (.pointer (some ⟨q,0,none⟩))∧w'.cell? ⟨r,1,none⟩=some (.int .i64 (k:Int))∧w'.cell? ⟨q,0,none⟩=some (.string s)) (first | exact⟨k0,k1,ks⟩ | exact⟨hR5.c0,hR5.c1,hR5.cs⟩ | go_keep)
       (first
        | (go_at_call 101;refine (gQ s _ _ _ hs').mono ?_;rintro e w5 ⟨rfl,hb5⟩;have hR5:=hR4.drew.below hb5;have hBw5:B≤w5.heap.size:=Nat.le_trans hBr4 hb5.size)
        | (go_at_call 176;refine (HB.out _ hBw5 hR5).mono ?_;rintro e w6 ⟨rfl,⟨v6,hR6⟩,hK6⟩;have k0:=hR6.c0;have k1:=hR6.c1;have ks:=hR6.cs))
      have f1':=hR6.fr 1;have hK7:=(hK4.drew.andBelow hb5).same hK6;clear hK6 hK4 hR4 hR5 hb5 c0 c1 cs f1 HB;go_wp2_with fail
      go_roundg (s.size - (k+1))
      case measure=>omega
      case rel=>exact⟨k+1,g,_,true,v6,rfl,by omega,by omega,hSm',aN.moveTo (.of hR6) (by go_num),hK7.setCell (fun _=>.inl rfl) _,HX⟩
    ·have d2:(((bat s k).toNat:Int)==92)=false:=by rw[beq_eq_false_iff_ne];omega
     have hX3:=Ng ((if_neg (fun h=>h92 h.1)).symm.trans hX2.out)
     clear hX2 h92 h34;refine wp_region_quiet_below (by kernel_rfl) (by kernel_rfl) ?_
     repeat (go_big_quiet_step ((go_at_call 170;exact Calls.regrown_of (jD s _))))
     refine wpQuiet_nil ?_;intro w5 hw';have hb:Below w4.heap.size w4 w5:=b8 hw';clear hw';have hR5:=hR4.below hb;have hK5:=hK4.andBelow hb;have hBr5:B≤w5.heap.size:=Nat.le_trans hBr4 hb.size;clear hR4 hK4 hBr4 hb g0 g1 g2 c1 f1;obtain⟨hR4,hK4,hBr4⟩:aN w5 r q B s k v' P' j'∧aB (RB r B) w w5∧B≤w5.heap.size:=⟨hR5,hK5,hBr5⟩;clear hR5 hK5 hBr5
     by_cases h36:(bat s k).toNat=36
     ·have d3:(((bat s k).toNat:Int)==36)=true:=by rw[beq_iff_eq];omega
      have hX4:=Ng ((if_pos h36).symm.trans hX3.out);have he1:=hK4.cell (hE 106 10 (by decide)) (hG 106 10 (by decide))
      have he2:=hK4.cell (hE 104 11 (by decide)) (hG 104 11 (by decide))
      clear hX3 h36
      cases hd:e8 s.data.toList true k P' j' with
      | error e =>
       obtain⟨ec,ep⟩:=e;rw[hd] at hX4;have HX:=Ng hX4.out;dsimp only at HX;have HD:=Ng (tX r q B s k v' P' j' true w5 hs hlt hPt hPl hBr4 hR4 sent he1 he2 _ (Ng hd));clear hX4 hd;go_wp2_with (go_at_call 175;refine HD.out.mono ?_;rintro e w6 hst;obtain⟨b,rfl,hE6,hK6⟩:=hst)
       go_ret;exact eF.bad HX rfl hE6 (hK4.same hK6)
      | ok st =>
       obtain⟨i2,P2,j2⟩:=st;rw[hd] at hX4;have HX:=Ng hX4.out;dsimp only at HX;obtain⟨hS6,hi6,hi7⟩:=tP _ _ _ _ _ _ _ _ (by rw[size_eq];exact hlt) hSm hd
       rw[size_eq] at hi7;have HD:=Ng (tX r q B s k v' P' j' true w5 hs hlt hPt hPl hBr4 hR4 sent he1 he2 _ (Ng hd));clear hX4 hd;go_wp2_with (go_at_call 175;refine HD.out.mono ?_;rintro e w6 hst;obtain⟨rfl,⟨v6,hR6⟩,hK6⟩:=hst)
       go_roundg (s.size - i2)
       case measure=>omega
       case rel=>exact⟨i2,g,P2,j2,v6,rfl,by omega,by omega,hS6,hR6,hK4.same hK6,HX⟩
     ·have hXd:=Ng ((if_neg h36).symm.trans hX3.out);have d3:(((bat s k).toNat:Int)==36)=false:=by rw[beq_eq_false_iff_ne];omega
      have c1:=hR4.c1;have f1:=hR4.fr 1;clear hX3 h36;have HX:=Ng (show dR s.data.toList a g (k+1) (bQ P' j' 2 k (aZ s.data.toList (k:Int) ((k:Int)+1))) true=X by rw[mX s k hlt];exact hXd.out)
      have hSm':dG (bQ P' j' 2 k (aZ s.data.toList (k:Int) ((k:Int)+1))) (k+1):=hSm.bytes _ _ _ _ (by rw[mX s k hlt];simp) (by omega)
      clear hXd hSm;have hw1:IntKind.i64.wrap ((k:Int)+1)=(k:Int)+1:=by rw[IntKind.wrap_i64];omega
      have HB:=Ng fun w5 h1 h2=>nN r q (B) s k v' P' j' 2 (aZ s.data.toList (k:Int) ((k:Int)+1)) w5 hPt (by rw[mX s k hlt];simp) hPl (by omega) h1 h2 _ (Ng rfl)
      have c0:=hR4.c0;have cs:=hR4.cs;go_wp2_with fail
      go_region_held3 (fun w'=>w'.cell? ⟨r,0,none⟩=some (.pointer (some ⟨q,0,none⟩))∧w'.cell? ⟨r,1,none⟩=some (.int .i64 (k:Int))∧w'.cell? ⟨q,0,none⟩=some (.string s)) (first | exact⟨k0,k1,ks⟩ | exact⟨hR5.c0,hR5.c1,hR5.cs⟩ | go_keep)
       (first
        | (go_at_call 101;refine (gQ s _ _ _ hs').mono ?_;rintro e w5 ⟨rfl,hb5⟩;have hR5:=hR4.drew.below hb5;have hBw5:B≤w5.heap.size:=Nat.le_trans hBr4 hb5.size)
        | (go_at_call 176;refine (HB.out _ hBw5 hR5).mono ?_;rintro e w6 ⟨rfl,⟨v6,hR6⟩,hK6⟩;have k0:=hR6.c0;have k1:=hR6.c1;have ks:=hR6.cs))
      have f1':=hR6.fr 1;have hK7:=(hK4.drew.andBelow hb5).same hK6;clear hK6 hK4 hR4 hR5 hb5 c0 c1 cs f1 HB;go_wp2_with fail
      go_roundg (s.size - (k+1))
      case measure=>omega
      case rel=>exact⟨k+1,g,_,true,v6,rfl,by omega,by omega,hSm',aN.moveTo (.of hR6) (by go_num),hK7.setCell (fun _=>.inl rfl) _,HX⟩
  ·have hX1:=Ng ((if_pos (by omega)).symm.trans hX.out)
   rw[show decide (k<s.size)=false from by rw[decide_eq_false_iff_not];exact hlt] at HM
   have hev:=hK.cell (hE 103 9 (by decide)) (hG 103 9 (by decide))
   clear hX
   go_wp2_with (first
    | (go_at_call 133;refine (HM.out _ hR).mono ?_;rintro e w3 ⟨rfl,hb3⟩;have hev3:=aF hb3 hev)
    | (go_at_call 136;refine (oO _ _ _ _).mono ?_;rintro e w6 ⟨rfl,rfl⟩))
   go_ret;exact eF.bad hX1 rfl (by unfold bJ;(apply Blk.as);(exact Blk.newAt _ _ rfl);rfl) ((hK.andBelow hb3).alloc _)
end Go.Proofs.YtbpjobmpacjgcaaGreatDoor
