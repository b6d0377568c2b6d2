/- BparseSays. -/
import Derived.Test.YtbplbehhlbkklaaGreatDoorGZLong2
import Derived.Test.YtbplbehhlbkklaaGreatDoorGZSame
namespace Go.Proofs.YtbplbehhlbkklaaGreatDoor
open Go Go.RowKit
structure LSame (w:World) (v u ev fv:Value):Prop where
 same:∀ W,Below w.heap.size w W→Calls Tryz.prog 7 #[ev,fv] W fun e w'=>e = .returned (.bool true)∧Below W.heap.size W w'
 nodes:∀ W,Below w.heap.size w W→Calls Tryz.prog 8 #[v,u] W fun e w'=>e = .returned (.bool true)∧Below W.heap.size W w'
def RGood (r:Except (Nat×Option Nat) Prog):Prop:=match r with
 | .ok l=>l.length≤1000000
 | .error (c,_)=>101≤c∧c≤117
theorem says_same {w0 w1 w2:World}{sent:Nat→Addr}{r:Except (Nat×Option Nat) Prog}{e e':Ending}(hg:RGood r)(hS:Sents w1 sent)(h1:PaOut w0 sent r e w1)(h2:ZPOut w1 r e' w2) :
  ∃ (v u ev:Value) (c:Nat) (ao:Option Addr) (n m:Nat),e = .returned (.tuple #[v,ev])∧e' = .returned (.tuple #[u,.agg #[.int .i64 c,.slice ao n m]])∧LSame w2 v u ev (.agg #[.int .i64 c,.slice ao n m]):=by
 obtain⟨hb1,h1⟩:=h1;obtain⟨hb2,h2⟩:=h2
 cases r with
 | ok l =>
  obtain⟨v,b,rfl,hN⟩:=h1;obtain⟨u,b2,rfl,hM⟩:=h2;refine ⟨v,u,.nilIface,0,none,0,0,rfl,rfl,⟨fun W hW=>?_,fun W hW=>?_⟩⟩
  ·exact seeSame_bare W .nilIface 0 fun W' _=>seeFault_none W'
  ·exact rSameNodes_eq l b b2 v u W ((hN.below hb2).below hW) (hM.below hW) hg
 | error x =>
  obtain⟨c,q⟩:=x;obtain⟨hc1,hc2⟩:=hg
  cases q with
  | none =>
   subst h1 h2;refine ⟨_,_,_,c,none,0,0,rfl,rfl,⟨fun W hW=>?_,fun W hW=>rSameNodes_nil W⟩⟩
   exact seeSame_bare W _ c fun W' hW'=>seeFault_sent W' sent (((hS.below hb2).below hW).below hW') c hc1 hc2
  | some p =>
   obtain⟨eb,rfl,hE⟩:=h1;obtain⟨fb,rfl,hF⟩:=h2;refine ⟨_,_,_,c,_,1,1,rfl,rfl,⟨fun W hW=>?_,fun W hW=>rSameNodes_nil W⟩⟩
   have hfc:W.cell? ⟨fb,0,none⟩=some (.int .i64 p):=by
    have h9:Blk W fb [.int .i64 (p:Int)]:=⟨_,(hW.block fb (lt_of_block hF)).trans hF⟩;exact h9.cell 0 rfl
   have h:=seeSame_at W sent ((hS.below hb2).below hW) c hc1 hc2 p eb ((Blk.below hE hb2).below hW) c p fb hfc;rw[beq_self_eq_true,beq_self_eq_true] at h;exact h
section
set_option maxHeartbeats 16000000
set_option maxRecDepth 100000
theorem bparseSays_any (s:ByteArray)(w:World)(sent:Nat→Addr)(hS:Sents w sent)(hmx:∃ m,w.cell? ⟨9,0,none⟩=some (.int .i64 m))(hs:s.size≤140737488355328) :
  Calls Tryz.prog 3 #[.string s] w fun e w'=>e = .returned (.bool true)∧Below w.heap.size w w':=by
 by_cases h9:700<s.size∧s.size≤8192
 ·have h7I:(700:Int)<(s.size:Int):=by omega
  have h8I:(s.size:Int)≤8192:=by omega
  clear h9;go_enter Tryz.func3,Tryz.ntmps3
  go_wp2_with fail
  refine (first13_any _ sent hS hmx).mono ?_;rintro e w1 ⟨rfl,hb1⟩;go_wp2_with fail
  go_ret;exact⟨rfl,hb1⟩
 ·obtain⟨r,HP,HZ,HG,hD⟩:∃ r,Hid (∀ W,Sents W sent→(∃ m,W.cell? ⟨9,0,none⟩=some (.int .i64 m))→Calls Tryz.prog 5 #[.string s] W (PaOut W sent r))∧Hid (∀ W,Calls Tryz.prog 6 #[.string s] W (ZPOut W r))∧Hid (RGood r)∧(decide ((700:Int)<(s.size:Int))=false∨((700:Int)<(s.size:Int)∧decide ((s.size:Int)≤8192)=false)):=by
   by_cases h7:s.size≤700
   ·refine ⟨_,Lib.hid fun W hS9 hm9=>pParse_short s W (by omega) sent hS9 hm9,Lib.hid fun W=>z12Parse_any s W h7,Lib.hid ?_,.inl (decide_eq_false (by omega))⟩
    cases hq:parseB s.data.toList with
    | ok l =>
     obtain⟨hck,-,-⟩:=parseB_ok (L:=s.data.toList) (by rw[size_eq];omega) hq
     have:=(checkP_none hck).2.1
     show l.length≤1000000
     omega
    | error x =>
     obtain⟨c,q⟩:=x;exact (parseB_codes (L:=s.data.toList) (by rw[size_eq];omega) hq).1
   ·have h8:8192<s.size:=by omega
    exact⟨_,Lib.hid fun W hS9 _=>pParse_long s W h8 sent hS9.env,Lib.hid fun W=>z12Parse_long s W h8,Lib.hid ⟨by omega,by omega⟩,.inr ⟨by omega,decide_eq_false (by omega)⟩⟩
  clear h9
  rcases hD with h7D | ⟨h7I,h8D⟩
  all_goals
   go_enter Tryz.func3,Tryz.ntmps3
   go_wp2_with fail
   refine (first13_any _ sent hS hmx).mono ?_;rintro e w1 ⟨rfl,hb1⟩;have hS1:=hS.below hb1;have hm1:=hmx.elim fun m hm=>(⟨m,bSome hb1 hm⟩:∃ m,w1.cell? ⟨9,0,none⟩=some (.int .i64 m))
   clear hS hmx;go_upto_region 4 with fail
   go_wp2_with fail
   refine (HP.out w1 hS1 hm1).mono ?_;rintro e w2 h1;have HH1:=Lib.hid h1;have hb2:=h1.1;have hS2:=hS1.below hb2;have hB2:=bNext hb1 hb2;have hm2:=hm1.elim fun m hm=>(⟨m,bSome hb2 hm⟩:∃ m,w2.cell? ⟨9,0,none⟩=some (.int .i64 m))
   obtain⟨v,ev,he⟩:∃ v ev,e = .returned (.tuple #[v,ev]):=by
    have h9:=h1.2
    cases r with
    | ok l =>
     obtain⟨v,b,h8,-⟩:=h9;exact⟨_,_,h8⟩
    | error x =>
     obtain⟨c,q⟩:=x
     cases q with
     | none=>exact⟨_,_,h9⟩
     | some p =>
      obtain⟨eb,h8,-⟩:=h9;exact⟨_,_,h8⟩
   subst he;clear h1 hb1 hS1 hm1 hb2 HP;go_wp2_with fail
   refine (HZ.out w2).mono ?_;rintro e w3 h2;obtain⟨v9,u,ev9,c,ao,n,m,he1,rfl,hL⟩:=says_same HG.out hS2 HH1.out h2
   obtain⟨rfl,rfl⟩:v=v9∧ev=ev9:=by
    injection he1 with h9
    injection h9 with h9
    injection h9 with h9
    injection h9 with h8 h9
    injection h9 with h7 _
    exact⟨h8,h7⟩
   have hb3:=h2.1;have hB3:=bNext hB2 hb3;obtain⟨mx,hmx⟩:∃ m,w3.cell? ⟨9,0,none⟩=some (.int .i64 m):=hm2.elim fun m hm=>⟨m,bSome hb3 hm⟩
   have hbA:=(Below.refl w3.heap.size w3).alloc (Nat.le_refl _) (.cells #[.int .i64 c,.slice ao n m] 30);have HS:=Lib.hid (hL.same _ hbA);have HN:=Lib.hid hL.nodes;have hBA:=bNext hB3 hbA;have HK:=Lib.hid (fun (W:World) (h:Below w3.heap.size w3 W)=>pIsKey_big s.data.toList W (by rw[size_eq];exact hs) mx (bSome h hmx))
   have HK2:=Lib.hid (fun (W:World)=>z12Key_any s.data.toList W)
   rw[bs_of] at HK HK2;clear h2 he1 hL hB2 hS2 hm2 HH1 HG HZ hmx hb3;go_wp2_with fail
   refine HS.out.mono ?_;rintro e w4 ⟨rfl,hb4⟩;have hb5:=bNext hbA hb4;have hB5:=bNext hBA hb4;clear HS hb4 hbA hBA;go_wp2_with fail
   refine (HN.out w4 hb5).mono ?_;rintro e w5 ⟨rfl,hb6⟩;have hb7:=bNext hb5 hb6;have hB7:=bNext hB5 hb6;clear HN hb6 hb5 hB5;go_wp2_with fail
   refine (HK.out w5 hb7).mono ?_;rintro e w6 ⟨rfl,rfl⟩;go_wp2_with fail
   refine (HK2.out _).mono ?_;rintro e w7 ⟨rfl,rfl⟩;generalize keyB s.data.toList=kb at *
   cases kb
   ·go_wp2_with fail
    go_ret;exact⟨rfl,hB7⟩
   ·go_wp2_with fail
    go_ret;exact⟨rfl,hB7⟩
end
end Go.Proofs.YtbplbehhlbkklaaGreatDoor
