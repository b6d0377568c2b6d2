/- core's small functions: which kinds there are, how many children, what is to be a word. -/
import Derived.Test.YtbpjobmpacjgcaaGreatDoorGBKitG
import Derived.Test.YtbpjobmpacjgcaaGreatDoorGParseG
import Derived.Test.YtbpjobmpacjgcaaGreatDoorGBPatG
import Derived.Test.YtbpjobmpacjgcaaGreatDoorGZC
import Derived.Deep.CutBlock
import Derived.Deep.RegionHeld3
namespace Go.Proofs.YtbpjobmpacjgcaaGreatDoor
set_option maxHeartbeats 16000000
set_option maxRecDepth 100000
open Go Go.RowKit
theorem hU (a b:Int):(a==b)=decide (a=b):=by by_cases h:a=b <;> simp [h]
theorem Ke (k:Int)(w:World):Calls Tryz.prog 68 #[.int .i64 k] w fun e w'=>e = .returned (.bool (tA k))∧w'=w:=by
 unfold tA
 by_cases h:1≤k
 ·have h1:decide (1≤k)=true:=by simp [h]
  rw[h1];go_enter Tryz.func68,Tryz.ntmps68
  go_wp2
  go_ret;exact⟨by simp,rfl⟩
 ·have h1:decide (1≤k)=false:=by simp;omega
  rw[h1];go_enter Tryz.func68,Tryz.ntmps68
  go_wp2
  go_ret;exact⟨rfl,rfl⟩
theorem F1 (k:Int)(w:World):Calls Tryz.prog 69 #[.int .i64 k] w fun e w'=>e = .returned (.bool (sF k))∧w'=w:=by
 unfold sF
 by_cases h:20≤k
 ·have h1:decide (20≤k)=true:=by simp [h]
  rw[h1];go_enter Tryz.func69,Tryz.ntmps69
  go_wp2
  go_ret;exact⟨by simp,rfl⟩
 ·have h1:decide (20≤k)=false:=by simp;omega
  rw[h1];go_enter Tryz.func69,Tryz.ntmps69
  go_wp2
  go_ret;exact⟨rfl,rfl⟩
theorem Fq (x:bE)(w:World):Calls Tryz.prog 71 #[.agg #[.int .i64 x.kind,.int .i64 x.n,.int .i64 x.k,.int .i64 x.size,.string (bs x.text)]] w fun e w'=>e = .returned (.bool (bL x))∧Below w.heap.size w w':=by
 obtain⟨kd,n,k,sz,tx⟩:=x;dsimp only
 by_cases h1:kd=1
 ·subst h1;go_enter Tryz.func71,Tryz.ntmps71
  go_wp2
  go_ret;exact⟨by simp [bL,hU],(Below.refl _ _).alloc (Nat.le_refl _) _⟩
 have b1:(kd==1)=false:=by rw[beq_eq_false_iff_ne];exact h1
 by_cases h2:kd=2
 ·subst h2;go_enter Tryz.func71,Tryz.ntmps71
  go_wp2
  go_ret;exact⟨by simp [bL,hU],(Below.refl _ _).alloc (Nat.le_refl _) _⟩
 have b2:(kd==2)=false:=by rw[beq_eq_false_iff_ne];exact h2
 by_cases h20:kd=20
 ·subst h20;go_enter Tryz.func71,Tryz.ntmps71
  go_wp2
  go_ret;exact⟨by simp [bL,hU],(Below.refl _ _).alloc (Nat.le_refl _) _⟩
 have b20:(kd==20)=false:=by rw[beq_eq_false_iff_ne];exact h20
 by_cases h3:kd=3
 ·subst h3;go_enter Tryz.func71,Tryz.ntmps71
  go_wp2
  go_ret;exact⟨by simp [bL],(Below.refl _ _).alloc (Nat.le_refl _) _⟩
 have b3:(kd==3)=false:=by rw[beq_eq_false_iff_ne];exact h3
 by_cases h4:kd=4
 ·subst h4;go_enter Tryz.func71,Tryz.ntmps71
  go_wp2
  go_ret;exact⟨by simp [bL],(Below.refl _ _).alloc (Nat.le_refl _) _⟩
 have b4:(kd==4)=false:=by rw[beq_eq_false_iff_ne];exact h4
 by_cases h21:kd=21
 ·subst h21;go_enter Tryz.func71,Tryz.ntmps71
  go_wp2
  go_ret;exact⟨by simp [bL],(Below.refl _ _).alloc (Nat.le_refl _) _⟩
 have b21:(kd==21)=false:=by rw[beq_eq_false_iff_ne];exact h21
 by_cases h37:kd=37
 ·subst h37;go_enter Tryz.func71,Tryz.ntmps71
  go_wp2
  go_ret;exact⟨by simp [bL],(Below.refl _ _).alloc (Nat.le_refl _) _⟩
 have b37:(kd==37)=false:=by rw[beq_eq_false_iff_ne];exact h37
 by_cases h23:kd=23
 ·subst h23;go_enter Tryz.func71,Tryz.ntmps71
  go_wp2
  go_ret;exact⟨by simp [bL],(Below.refl _ _).alloc (Nat.le_refl _) _⟩
 have b23:(kd==23)=false:=by rw[beq_eq_false_iff_ne];exact h23
 by_cases h32:kd=32
 ·subst h32;go_enter Tryz.func71,Tryz.ntmps71
  go_wp2
  go_ret;exact⟨by simp [bL],(Below.refl _ _).alloc (Nat.le_refl _) _⟩
 have b32:(kd==32)=false:=by rw[beq_eq_false_iff_ne];exact h32
 by_cases h24:kd=24
 ·subst h24;go_enter Tryz.func71,Tryz.ntmps71
  go_wp2
  go_ret;exact⟨by simp [bL,hU],(Below.refl _ _).alloc (Nat.le_refl _) _⟩
 have b24:(kd==24)=false:=by rw[beq_eq_false_iff_ne];exact h24
 by_cases h25:kd=25
 ·subst h25;go_enter Tryz.func71,Tryz.ntmps71
  go_wp2
  go_ret;exact⟨by simp [bL,hU],(Below.refl _ _).alloc (Nat.le_refl _) _⟩
 have b25:(kd==25)=false:=by rw[beq_eq_false_iff_ne];exact h25
 by_cases h26:kd=26
 ·subst h26;go_enter Tryz.func71,Tryz.ntmps71
  go_wp2
  go_ret;exact⟨by simp [bL,hU],(Below.refl _ _).alloc (Nat.le_refl _) _⟩
 have b26:(kd==26)=false:=by rw[beq_eq_false_iff_ne];exact h26
 by_cases h28:kd=28
 ·subst h28;go_enter Tryz.func71,Tryz.ntmps71
  go_wp2
  go_ret;exact⟨by simp [bL,hU],(Below.refl _ _).alloc (Nat.le_refl _) _⟩
 have b28:(kd==28)=false:=by rw[beq_eq_false_iff_ne];exact h28
 by_cases h29:kd=29
 ·subst h29;go_enter Tryz.func71,Tryz.ntmps71
  go_wp2
  go_ret;exact⟨by simp [bL,hU],(Below.refl _ _).alloc (Nat.le_refl _) _⟩
 have b29:(kd==29)=false:=by rw[beq_eq_false_iff_ne];exact h29
 by_cases h35:kd=35
 ·subst h35;go_enter Tryz.func71,Tryz.ntmps71
  go_wp2
  go_ret;exact⟨by simp [bL,hU],(Below.refl _ _).alloc (Nat.le_refl _) _⟩
 have b35:(kd==35)=false:=by rw[beq_eq_false_iff_ne];exact h35
 by_cases h33:kd=33
 ·subst h33;go_enter Tryz.func71,Tryz.ntmps71
  go_wp2
  go_ret;exact⟨by simp [bL,hU],(Below.refl _ _).alloc (Nat.le_refl _) _⟩
 have b33:(kd==33)=false:=by rw[beq_eq_false_iff_ne];exact h33
 by_cases h34:kd=34
 ·subst h34;go_enter Tryz.func71,Tryz.ntmps71
  go_wp2
  go_ret;exact⟨by simp [bL,hU],(Below.refl _ _).alloc (Nat.le_refl _) _⟩
 have b34:(kd==34)=false:=by rw[beq_eq_false_iff_ne];exact h34
 by_cases h30:kd=30
 ·subst h30
  by_cases hk:1≤k
  ·go_enter Tryz.func71,Tryz.ntmps71
   go_wp2
   go_ret;exact⟨by first | (simp [bL,hk,hU];done) | (simp [bL,hU];intro h;omega),(Below.refl _ _).alloc (Nat.le_refl _) _⟩
  ·go_enter Tryz.func71,Tryz.ntmps71
   go_wp2
   go_ret;exact⟨by first | (simp [bL];done) | (simp [bL];intro h;omega),(Below.refl _ _).alloc (Nat.le_refl _) _⟩
 have b30:(kd==30)=false:=by rw[beq_eq_false_iff_ne];exact h30
 have HX:Hid (bL ⟨kd,n,k,sz,tx⟩=decide (k=1)):=Ng (by simp [bL,h1,h2,h20,h3,h4,h21,h37,h23,h32,h24,h25,h26,h28,h29,h35,h33,h34,h30])
 clear h1 h2 h20 h3 h4 h21 h37 h23 h32 h24 h25 h26 h28 h29 h35 h33 h34 h30;go_enter Tryz.func71,Tryz.ntmps71
 go_wp2
 go_ret;exact⟨by rw[HX.out];rfl,(Below.refl _ _).alloc (Nat.le_refl _) _⟩
theorem Jh (x:bE)(k:Nat)(w:World)(hK:0<x.k∧x.k<9223372036854775808):Calls Tryz.prog 73 #[.agg #[.int .i64 x.kind,.int .i64 x.n,.int .i64 x.k,.int .i64 x.size,.string (bs x.text)],.int .i64 k] w fun e w'=>e = .returned (.bool (dH x.kind x.k k))∧Below w.heap.size w w':=by
 obtain⟨kd,n,K,sz,tx⟩:=x;dsimp only at hK ⊢
 by_cases h12:kd=12
 ·subst h12;go_enter Tryz.func73,Tryz.ntmps73
  go_wp2
  go_ret;exact⟨by simp [dH],(Below.refl _ _).alloc (Nat.le_refl _) _⟩
 have b12:(kd==12)=false:=by rw[beq_eq_false_iff_ne];exact h12
 by_cases h23:kd=23
 ·subst h23;go_enter Tryz.func73,Tryz.ntmps73
  go_wp2
  go_ret;exact⟨by simp [dH],(Below.refl _ _).alloc (Nat.le_refl _) _⟩
 have b23:(kd==23)=false:=by rw[beq_eq_false_iff_ne];exact h23
 by_cases h32:kd=32
 ·subst h32;go_enter Tryz.func73,Tryz.ntmps73
  go_wp2
  go_ret;exact⟨by simp [dH],(Below.refl _ _).alloc (Nat.le_refl _) _⟩
 have b32:(kd==32)=false:=by rw[beq_eq_false_iff_ne];exact h32
 by_cases h24:kd=24
 ·subst h24;go_enter Tryz.func73,Tryz.ntmps73
  go_wp2
  go_ret;exact⟨by simp [dH],(Below.refl _ _).alloc (Nat.le_refl _) _⟩
 have b24:(kd==24)=false:=by rw[beq_eq_false_iff_ne];exact h24
 by_cases h25:kd=25
 ·subst h25;go_enter Tryz.func73,Tryz.ntmps73
  go_wp2
  go_ret;exact⟨by simp [dH],(Below.refl _ _).alloc (Nat.le_refl _) _⟩
 have b25:(kd==25)=false:=by rw[beq_eq_false_iff_ne];exact h25
 by_cases h26:kd=26
 ·subst h26;go_enter Tryz.func73,Tryz.ntmps73
  go_wp2
  go_ret;exact⟨by simp [dH],(Below.refl _ _).alloc (Nat.le_refl _) _⟩
 have b26:(kd==26)=false:=by rw[beq_eq_false_iff_ne];exact h26
 by_cases h28:kd=28
 ·subst h28;go_enter Tryz.func73,Tryz.ntmps73
  go_wp2
  go_ret;exact⟨by simp [dH],(Below.refl _ _).alloc (Nat.le_refl _) _⟩
 have b28:(kd==28)=false:=by rw[beq_eq_false_iff_ne];exact h28
 by_cases h27:kd=27
 ·subst h27;go_enter Tryz.func73,Tryz.ntmps73
  go_wp2
  go_ret;exact⟨by simp [dH],(Below.refl _ _).alloc (Nat.le_refl _) _⟩
 have b27:(kd==27)=false:=by rw[beq_eq_false_iff_ne];exact h27
 by_cases h31:kd=31
 ·subst h31;go_enter Tryz.func73,Tryz.ntmps73
  go_wp2
  go_ret;exact⟨by simp [dH],(Below.refl _ _).alloc (Nat.le_refl _) _⟩
 have b31:(kd==31)=false:=by rw[beq_eq_false_iff_ne];exact h31
 by_cases h29:kd=29
 ·subst h29;go_enter Tryz.func73,Tryz.ntmps73
  go_wp2
  go_ret;exact⟨by simp [dH,hU],(Below.refl _ _).alloc (Nat.le_refl _) _⟩
 have b29:(kd==29)=false:=by rw[beq_eq_false_iff_ne];exact h29
 by_cases h35:kd=35
 ·subst h35;go_enter Tryz.func73,Tryz.ntmps73
  go_wp2
  go_ret;exact⟨by simp [dH,hU],(Below.refl _ _).alloc (Nat.le_refl _) _⟩
 have b35:(kd==35)=false:=by rw[beq_eq_false_iff_ne];exact h35
 by_cases h33:kd=33
 ·subst h33;go_enter Tryz.func73,Tryz.ntmps73
  go_wp2
  go_ret;exact⟨by simp [dH,hU],(Below.refl _ _).alloc (Nat.le_refl _) _⟩
 have b33:(kd==33)=false:=by rw[beq_eq_false_iff_ne];exact h33
 by_cases h34:kd=34
 ·subst h34;go_enter Tryz.func73,Tryz.ntmps73
  go_wp2
  go_ret;exact⟨by simp [dH,hU],(Below.refl _ _).alloc (Nat.le_refl _) _⟩
 have b34:(kd==34)=false:=by rw[beq_eq_false_iff_ne];exact h34
 by_cases h30:kd=30
 ·subst h30
  by_cases hk:k=0
  ·subst hk;go_enter Tryz.func73,Tryz.ntmps73
   go_wp2
   go_ret;exact⟨by simp [dH],(Below.refl _ _).alloc (Nat.le_refl _) _⟩
  ·have hk2:((k:Int)==0)=false:=by rw[beq_eq_false_iff_ne];omega
   go_enter Tryz.func73,Tryz.ntmps73
   go_wp2
   go_ret;exact⟨by simp [dH,hU];omega,(Below.refl _ _).alloc (Nat.le_refl _) _⟩
 have b30:(kd==30)=false:=by rw[beq_eq_false_iff_ne];exact h30
 by_cases h37:kd=37
 ·subst h37;have hw1:IntKind.i64.wrap (K - 1)=K - 1:=by rw[IntKind.wrap_i64];omega
  go_enter Tryz.func73,Tryz.ntmps73
  go_wp2
  go_ret;exact⟨by simp [dH],(Below.refl _ _).alloc (Nat.le_refl _) _⟩
 have b37:(kd==37)=false:=by rw[beq_eq_false_iff_ne];exact h37
 have HX:Hid (dH kd K k=true):=Ng (by simp [dH,h12,h23,h32,h24,h25,h26,h28,h27,h31,h29,h35,h33,h34,h30,h37])
 clear h12 h23 h32 h24 h25 h26 h28 h27 h31 h29 h35 h33 h34 h30 h37;go_enter Tryz.func73,Tryz.ntmps73
 go_wp2
 go_ret;exact⟨by rw[HX.out];rfl,(Below.refl _ _).alloc (Nat.le_refl _) _⟩
theorem LW (b:ByteArray):∀ (m i:Nat)(r:List UInt8),b.size - i=m→ByteArray.toList.loop b i r=r.reverse++b.data.toList.drop i:=by
 intro m
 induction m with
 | zero =>
  intro i r h;rw[ByteArray.toList.loop,if_neg (by omega),List.drop_of_length_le (by rw[size_eq];omega)]
  simp
 | succ m ih =>
  intro i r h;have hi:i<b.size:=by omega
  rw[ByteArray.toList.loop,if_pos hi,ih _ _ (by omega),List.reverse_cons,List.append_assoc]
  congr 1
  rw[dN b i hi];have h2:i<b.data.size:=hi
  have:b.get! i=bat b i:=by
   unfold ByteArray.get! bat;simp [List.getD,Array.getElem?_eq_getElem h2,getElem!_pos b.data i h2]
  rw[this];rfl
theorem Cj (l:List UInt8):(bs l).toList=l:=by
 unfold ByteArray.toList;rw[LW _ _ _ _ rfl,List.drop_zero];exact bK l
theorem xQ (l:List UInt8):(bs l).toList.isEmpty=decide (l=[]):=by
 rw[Cj]
 cases l <;> simp
theorem IV (k:Int)(w:World):Calls Tryz.prog 121 #[.int .i64 k] w fun e w'=>e = .returned (.bool (kN k))∧Below w.heap.size w w':=by
 have HB:=Ng (show Blk (w.alloc (.cells #[Value.int .i64 2,.int .i64 22,.int .i64 29,.int .i64 31,.int .i64 35] 3)) w.heap.size ([2,22,29,31,35].map fun (k:Nat)=>Value.int .i64 (k:Int)) from Blk.new w [Value.int .i64 2,.int .i64 22,.int .i64 29,.int .i64 31,.int .i64 35] 3)
 go_enter Tryz.func121,Tryz.ntmps121
 go_wp2_with fail
 refine (Tryz.slices_Contains_int w.heap.size 0 5 5 ([2,22,29,31,35].map fun (k:Nat)=>(k:Int)) _ _ (by simp) (by omega) (xA HB.out)).mono ?_
 rintro e w2 ⟨rfl,rfl⟩;go_wp2_with fail
 go_ret;exact⟨congrArg (fun b=>Ending.returned (Value.bool b)) (by simp [kN]),(Below.refl _ _).alloc (Nat.le_refl _) _⟩
theorem vJ (i:Nat)(a:Addr)(sent:Nat→Addr)(c:Nat)(hc:sent c=a)(w:World):Calls Tryz.prog 72 #[.int .i64 i,.iface 286 (.pointer (some a))] w fun e w'=>∃ eb,e = .returned (.iface 61 (.pointer (some ⟨eb,0,none⟩)))∧bJ w' eb sent c i∧w.heap.size≤eb∧Below w.heap.size w w':=by
 subst hc;go_enter Tryz.func72,Tryz.ntmps72
 go_wp2
 go_ret;exact⟨_,rfl,Blk.new w [Value.int .i64 i,.iface 286 (.pointer (some (sent c)))] 63,Nat.le_refl _,(Below.refl _ _).alloc (Nat.le_refl _) _⟩
theorem H3 (x:bE)(w:World)(hx:x.text.length≤100000):Calls Tryz.prog 70 #[.agg #[.int .i64 x.kind,.int .i64 x.n,.int .i64 x.k,.int .i64 x.size,.string (bs x.text)]] w fun e w'=>e = .returned (.bool (eA x))∧Below w.heap.size w w':=by
 obtain⟨kd,n,k,sz,tx⟩:=x;dsimp only at hx ⊢;have hb0:=(Below.refl w.heap.size w).alloc (Nat.le_refl _) (.cells #[.int .i64 kd,.int .i64 n,.int .i64 k,.int .i64 sz,.string (bs tx)] 40)
 by_cases h1:kd=1
 ·subst h1
  by_cases hn:n=0
  ·subst hn;have HX:Hid (eA ⟨1,0,k,sz,tx⟩=decide (tx.length≤2000)):=Ng (by simp [eA,bU])
   have hle:(decide (((bs tx).size:Int)≤2000))=decide (tx.length≤2000):=by rw[aY];simp;omega
   go_enter Tryz.func70,Tryz.ntmps70
   go_wp2
   go_ret;exact⟨by rw[HX.out];rfl,hb0⟩
  ·have hn0:(n==0)=false:=by rw[beq_eq_false_iff_ne];exact hn
   by_cases hn1:n=1
   ·subst hn1;have HX:Hid (eA ⟨1,1,k,sz,tx⟩=(d9 tx&&decide (tx.length≤2000))):=Ng (by simp [eA,bU])
    go_enter Tryz.func70,Tryz.ntmps70
    go_wp2_with fail
    refine (FG (bs tx) _ (by rw[aY];omega)).mono ?_
    rintro e w1 ⟨rfl,hb1⟩;rw[bK];have hb2:=aE hb0 hb1;have hB:=(Blk.new w [Value.int .i64 1,.int .i64 1,.int .i64 k,.int .i64 sz,.string (bs tx)] 40).below hb1;have c4:=hB.cell 4 rfl
    cases hcl:d9 tx with
    | false =>
     go_wp2
     go_ret;exact⟨by rw[HX.out,hcl];rfl,hb2⟩
    | true =>
     have hle:(decide (((bs tx).size:Int)≤2000))=decide (tx.length≤2000):=by rw[aY];simp;omega
     go_wp2
     go_ret;exact⟨by rw[HX.out,hcl];rfl,hb2⟩
   ·have hn1':(n==1)=false:=by rw[beq_eq_false_iff_ne];exact hn1
    have HX:Hid (eA ⟨1,n,k,sz,tx⟩=false):=Ng (by simp [eA,bU,hn,hn1])
    go_enter Tryz.func70,Tryz.ntmps70
    go_wp2
    go_ret;exact⟨by rw[HX.out];rfl,hb0⟩
 have b1:(kd==1)=false:=by rw[beq_eq_false_iff_ne];exact h1
 by_cases h11:kd=11
 ·subst h11
  by_cases q1:1≤n
  ·by_cases q2:n≤99
   ·have HX:Hid (eA ⟨11,n,k,sz,tx⟩=decide (tx=[])):=Ng (by simp [eA,bU,q1,q2])
    go_enter Tryz.func70,Tryz.ntmps70
    go_wp2
    go_ret;exact⟨by rw[HX.out];exact congrArg (fun b=>Ending.returned (Value.bool b)) (xQ tx),hb0⟩
   ·have HX:Hid (eA ⟨11,n,k,sz,tx⟩=false):=Ng (by simp [eA,bU,q2])
    go_enter Tryz.func70,Tryz.ntmps70
    go_wp2
    go_ret;exact⟨by rw[HX.out];rfl,hb0⟩
  ·have HX:Hid (eA ⟨11,n,k,sz,tx⟩=false):=Ng (by simp [eA,bU,q1])
   go_enter Tryz.func70,Tryz.ntmps70
   go_wp2
   go_ret;exact⟨by rw[HX.out];rfl,hb0⟩
 have b11:(kd==11)=false:=by rw[beq_eq_false_iff_ne];exact h11
 by_cases h33:kd=33
 ·subst h33
  by_cases q1:1≤n
  ·by_cases q2:n≤3
   ·have HX:Hid (eA ⟨33,n,k,sz,tx⟩=decide (tx=[])):=Ng (by simp [eA,bU,q1,q2])
    go_enter Tryz.func70,Tryz.ntmps70
    go_wp2
    go_ret;exact⟨by rw[HX.out];exact congrArg (fun b=>Ending.returned (Value.bool b)) (xQ tx),hb0⟩
   ·have HX:Hid (eA ⟨33,n,k,sz,tx⟩=false):=Ng (by simp [eA,bU,q2])
    go_enter Tryz.func70,Tryz.ntmps70
    go_wp2
    go_ret;exact⟨by rw[HX.out];rfl,hb0⟩
  ·have HX:Hid (eA ⟨33,n,k,sz,tx⟩=false):=Ng (by simp [eA,bU,q1])
   go_enter Tryz.func70,Tryz.ntmps70
   go_wp2
   go_ret;exact⟨by rw[HX.out];rfl,hb0⟩
 have b33:(kd==33)=false:=by rw[beq_eq_false_iff_ne];exact h33
 by_cases hn:n=0
 ·subst hn
  by_cases h2:kd=2
  ·subst h2;have HX:Hid (eA ⟨2,0,k,sz,tx⟩=(bI tx || decide (tx=[42]))):=Ng (by simp [eA,bU])
   go_enter Tryz.func70,Tryz.ntmps70
   go_wp2_with fail
   refine (mV (bs tx) _ (by rw[aY];omega)).mono ?_
   rintro e w1 ⟨rfl,rfl⟩;rw[bK]
   cases hcl:bI tx with
   | true =>
    go_wp2
    go_ret;exact⟨by rw[HX.out,hcl];rfl,hb0⟩
   | false =>
    go_wp2
    go_ret;exact⟨by rw[HX.out,hcl];exact congrArg (fun b=>Ending.returned (Value.bool b)) (by rw[Cj,Bool.false_or];by_cases h:tx=[42] <;> simp [h]),hb0⟩
  have b2:(kd==2)=false:=by rw[beq_eq_false_iff_ne];exact h2
  have HX:Hid (eA ⟨kd,0,k,sz,tx⟩=if kN kd=true then bI tx else decide (tx=[])):=Ng (by simp [eA,bU,h1,h11,h33,h2])
  clear h1 h11 h33 h2;go_enter Tryz.func70,Tryz.ntmps70
  go_wp2_with fail
  refine (IV kd _).mono ?_;rintro e w1 ⟨rfl,hb1⟩;have hb2:=aE hb0 hb1;have hB:=(Blk.new w [Value.int .i64 kd,.int .i64 0,.int .i64 k,.int .i64 sz,.string (bs tx)] 40).below hb1;have c4:=hB.cell 4 rfl
  cases hcl:kN kd with
  | true =>
   go_wp2_with fail
   refine (mV (bs tx) _ (by rw[aY];omega)).mono ?_
   rintro e w2 ⟨rfl,rfl⟩;rw[bK];go_wp2
   go_ret;exact⟨by rw[HX.out,hcl];rfl,hb2⟩
  | false =>
   go_wp2
   go_ret;exact⟨by rw[HX.out,hcl,if_neg (by simp)];exact congrArg (fun b=>Ending.returned (Value.bool b)) (xQ tx),hb2⟩
 ·have hn0:(n==0)=false:=by rw[beq_eq_false_iff_ne];exact hn
  have HX:Hid (eA ⟨kd,n,k,sz,tx⟩=false):=Ng (by simp [eA,bU,h1,h11,h33,hn])
  go_enter Tryz.func70,Tryz.ntmps70
  go_wp2
  go_ret;exact⟨by rw[HX.out];rfl,hb0⟩
theorem Ba {l:List UInt8}(h:bI l=true):l.length≤20:=by
 cases l with
 | nil=>simp
 | cons c l =>
  rw[bI] at h;simp only[Bool.and_eq_true,decide_eq_true_eq] at h;rw[List.length_cons];omega
theorem Hy {M:Nat}{x:bE}(h:bU M x=true)(hM:M≤50000):x.text.length≤100000:=by
 unfold bU at h;split at h
 ·simp only[Bool.and_eq_true,decide_eq_true_eq] at h;omega
 split at h
 ·simp only[Bool.and_eq_true,decide_eq_true_eq] at h;rw[h.2];simp
 split at h
 ·simp only[Bool.and_eq_true,decide_eq_true_eq] at h;rw[h.2];simp
 split at h
 ·cases h
 split at h
 ·simp only[Bool.or_eq_true,decide_eq_true_eq] at h
  rcases h with h | h
  ·have:=Ba h
   omega
  ·rw[h];simp
 split at h
 ·have:=Ba h
  omega
 ·simp only[decide_eq_true_eq] at h;rw[h];simp
set_option maxHeartbeats 32000000
def k6 (w:World) (sent:Nat→Addr) (r:Option (Nat×Nat)) (e:Ending) (w':World):Prop :=
 Below w.heap.size w w'∧match r with
 | none=>e = .returned .nilIface
 | some (c,p)=>∃ eb,e = .returned (.iface 61 (.pointer (some ⟨eb,0,none⟩)))∧bJ w' eb sent c p∧w.heap.size≤eb
theorem k6.bad {w w':World}{sent:Nat→Addr}{r:Option (Nat×Nat)}{e:Ending}{c p eb:Nat}(hr:r=some (c,p))(he:e = .returned (.iface 61 (.pointer (some ⟨eb,0,none⟩))))(h1:bJ w' eb sent c p)(h2:w.heap.size≤eb)(hb:Below w.heap.size w w'):k6 w sent r e w':=by
 subst hr;exact⟨hb,eb,he,h1,h2⟩
theorem k6.ok {w w':World}{sent:Nat→Addr}{r:Option (Nat×Nat)}{e:Ending}(hr:r=none)(he:e = .returned .nilIface)(hb:Below w.heap.size w w'):k6 w sent r e w':=by
 subst hr;exact⟨hb,he⟩
theorem k6.form {w w':World}{sent:Nat→Addr}{r:Option (Nat×Nat)}{e:Ending}(h:k6 w sent r e w'):∃ v,e = .returned v∧k6 w sent r (.returned v) w':=by
 obtain⟨h1,h2⟩:=h
 cases r with
 | none=>exact⟨_,h2,h1,rfl⟩
 | some q =>
  obtain⟨eb,rfl,h3,h4⟩:=h2;exact⟨_,rfl,h1,eb,rfl,h3,h4⟩
structure lJ (l:aA):Prop where
 num:l.length≤400000
 text:∀ i,(cK l i).text.length≤100000
 k:∀ i,-9223372036854775808≤(cK l i).k∧(cK l i).k<9223372036854775808
 size:∀ i,-9223372036854775808≤(cK l i).size∧(cK l i).size<9223372036854775808
theorem mS.facts2 {w:World}{g:Nat}{l:aA}(h:mS w g l){k:Nat}{x:bE}(hx:l[k]?=some x) :
  w.cell? ⟨g,k * 5,none⟩=some (.int .i64 x.kind)∧w.cell? ⟨g,k * 5+1,none⟩=some (.int .i64 x.n)∧w.cell? ⟨g,k * 5+2,none⟩=some (.int .i64 x.k)∧w.cell? ⟨g,k * 5+3,none⟩=some (.int .i64 x.size)∧w.cell? ⟨g,k * 5+4,none⟩=some (.string (bs x.text)):=by
 have hf:∀ j u,x.cells[j]?=some u→w.cell? ⟨g,k * 5+j,none⟩=some u:=fun j u hu=>by
  have:=h _ _ (mZ bE.cells 5 qM l k j x u hx hu)
  rwa [Nat.mul_comm] at this
 exact⟨hf 0 _ rfl,hf 1 _ rfl,hf 2 _ rfl,hf 3 _ rfl,hf 4 _ rfl⟩
theorem vF {l:aA}{i:Nat}(hi:i<l.length):l[i]?=some (cK l i):=by
 unfold cK;rw[List.getD_eq_getElem?_getD,List.getElem?_eq_getElem hi];rfl
theorem Ky {l:aA}{f i e d:Nat}{w la:Bool}(h:lV l f i e d w la=some none):1≤(cK l i).size∧(cK l i).size≤(e:Int) - i:=by
 cases f with
 | zero=>rw[lV] at h;cases h
 | succ f =>
  rw[lV] at h;split at h
  ·cases h
  ·rename_i hc
   constructor
   ·by_cases h9:(cK l i).size<1
    ·exact absurd (.inr (.inr (.inr (.inl h9)))) hc
    ·omega
   ·by_cases h9:(e:Int) - i<(cK l i).size
    ·exact absurd (.inr (.inr (.inr (.inr (.inl h9))))) hc
    ·omega
theorem Ie (l:aA)(F:lJ l)(sent:Nat→Addr)(b:Nat)(f:Nat):∀ (w:World)(v:Value)(i e d:Nat)(word last:Bool)(r:Option (Nat×Nat)),NSl w b v l→Env w sent→i<l.length→i≤e→e≤l.length→d≤100→Hid (lV l f i e d word last=some r) →
  Calls Tryz.prog 31 #[v,.int .i64 i,.int .i64 e,.int .i64 d,.bool word,.bool last] w (k6 w sent r):=by
 induction f using Nat.strongRecOn with
 | _ f ih =>
  intro w v i e d word last r hN hE hi hie he hd hr;have IH:=Ng ih;clear ih;have hnum:=F.num
  obtain⟨f,rfl⟩:∃ q,f=q+1:=by
   cases f with
   | zero=>have:=hr.out;rw[lV] at this;cases this
   | succ q=>exact⟨q,rfl⟩
  have HR:=Ng hr.out;rw[lV] at HR;clear hr;obtain⟨x,hx⟩:∃ x,cK l i=x:=⟨_,rfl⟩;have HNX:=Ng hx;have hget:=vF hi;have htx:=F.text i;have hkk:=F.k i;have hsz:=F.size i;rw[hx] at HR hget htx hkk hsz;have HN:=Ng hN;have HE:=Ng hE;obtain⟨g,cap,hv,h1,h2,h3,h4,h5⟩:=hN;have hcells:=mS.facts2 h5 hget;obtain⟨n0,n1,n2,n3,n4⟩:=hcells;subst hv;have HRW:=Ng h5;generalize hln:l.length=ln at *;have HLN:=Ng hln;clear hx hget h5 hln hE
  have HR2:=Ng (show (if lI x word=false∨eA x=false∨bL x=false∨x.size<1∨((e:Int) - i)<x.size∨(last=true∧x.size≠(e:Int) - i) then some (some (110,i))
   else if x.k=0∧x.size≠1 then some (some (110,i))
   else if gF l (x.size.toNat - 1) x.k (i+1) (i+x.size.toNat)=false then some (some (110,i))
   else if 30<d then some (some (102,i))
   else jM l f 0 (i+1) (i+x.size.toNat) (d+1) x)=some r from HR.out)
  clear HR;have hb0:=(Below.refl w.heap.size w).alloc (Nat.le_refl _) (.cells #[.int .i64 x.kind,.int .i64 x.n,.int .i64 x.k,.int .i64 x.size,.string (bs x.text)] 40);have hB0:=Blk.new w [Value.int .i64 x.kind,.int .i64 x.n,.int .i64 x.k,.int .i64 x.size,.string (bs x.text)] 40;go_enter Tryz.func31,Tryz.ntmps31
  go_upto_region 2 with fail
  obtain⟨w1,hw1⟩:∃ w1,w.alloc (.cells #[.int .i64 x.kind,.int .i64 x.n,.int .i64 x.k,.int .i64 x.size,.string (bs x.text)] 40)=w1:=⟨_,rfl⟩;have hB1:Blk w1 w.heap.size [Value.int .i64 x.kind,.int .i64 x.n,.int .i64 x.k,.int .i64 x.size,.string (bs x.text)]:=by rw[← hw1];exact hB0
  rw[hw1] at hb0 ⊢;have hbl:=hB1.lt;obtain⟨tb,htb⟩:∃ tb,w.heap.size=tb:=⟨_,rfl⟩;rw[htb] at hB1 hbl ⊢;clear hw1 hB0 n0 n1 n2 n3 n4;go_cut [14] (fun s14 w2=>s14 = .bool (lI x word)∧Below w1.heap.size w1 w2)
  case first =>
   have c0:=hB1.cell 0 rfl
   cases word with
   | true =>
    go_wp2_with fail
    refine (Ke x.kind _).mono ?_;rintro ee w2 ⟨rfl,rfl⟩
    cases q0:tA x.kind with
    | true =>
     go_wp2_with fail
     go_meet
     case rel=>exact⟨by simp [lI,q0],Below.refl _ _⟩
    | false =>
     go_wp2_with fail
     go_meet
     case rel=>exact⟨by simp [lI,q0],Below.refl _ _⟩
   | false =>
    go_wp2_with fail
    refine (F1 x.kind _).mono ?_;rintro ee w2 ⟨rfl,rfl⟩
    cases q0:sF x.kind with
    | true =>
     go_wp2_with fail
     go_meet
     case rel=>exact⟨by simp [lI,q0],Below.refl _ _⟩
    | false =>
     go_wp2_with fail
     go_meet
     case rel=>exact⟨by simp [lI,q0],Below.refl _ _⟩
  case rest =>
   rename World=>w2
   obtain⟨rfl,hb1⟩:=hcut;have hb2:=aE hb0 hb1;obtain⟨kb,hkb⟩:∃ kb,lI x word=kb:=⟨_,rfl⟩;rw[hkb] at HR2 ⊢;clear hkb;have hB2:=hB1.below hb1;clear hB1 hb0 hb1;have hw1:IntKind.i64.wrap ((e:Int) - i)=(e:Int) - i:=by rw[IntKind.wrap_i64];omega
   go_upto_region 3 with fail
   go_cut [73] (fun s73 w4=>s73 = .bool (decide (kb=false∨eA x=false∨bL x=false∨x.size<1∨((e:Int) - i)<x.size∨(last=true∧x.size≠(e:Int) - i)))∧Below w2.heap.size w2 w4)
   case first =>
    cases kb with
    | false =>
     have tc0:=hB2.cell 0 rfl;have tc1:=hB2.cell 1 rfl;have tc2:=hB2.cell 2 rfl;have tc3:=hB2.cell 3 rfl;have tc4:=hB2.cell 4 rfl;have tf0:=hB2.free 0;have tf1:=hB2.free 1;have tf2:=hB2.free 2;have tf3:=hB2.free 3;have tf4:=hB2.free 4;go_wp2_with fail
     go_meet
     case rel=>exact⟨by simp,Below.refl _ _⟩
    | true =>
     have tc0:=hB2.cell 0 rfl;have tc1:=hB2.cell 1 rfl;have tc2:=hB2.cell 2 rfl;have tc3:=hB2.cell 3 rfl;have tc4:=hB2.cell 4 rfl;have tf0:=hB2.free 0;have tf1:=hB2.free 1;have tf2:=hB2.free 2;have tf3:=hB2.free 3;have tf4:=hB2.free 4;go_wp2_with fail
     refine (H3 x _ htx).mono ?_;rintro ee w3 ⟨rfl,hb3⟩;have hB3:=hB2.below hb3;clear tc0 tc1 tc2 tc3 tc4 tf0 tf1 tf2 tf3 tf4
     cases q2:eA x with
     | false =>
      have tc0:=hB3.cell 0 rfl;have tc1:=hB3.cell 1 rfl;have tc2:=hB3.cell 2 rfl;have tc3:=hB3.cell 3 rfl;have tc4:=hB3.cell 4 rfl;have tf0:=hB3.free 0;have tf1:=hB3.free 1;have tf2:=hB3.free 2;have tf3:=hB3.free 3;have tf4:=hB3.free 4;go_wp2_with fail
      go_meet
      case rel=>exact⟨by simp [q2],hb3⟩
     | true =>
      have tc0:=hB3.cell 0 rfl;have tc1:=hB3.cell 1 rfl;have tc2:=hB3.cell 2 rfl;have tc3:=hB3.cell 3 rfl;have tc4:=hB3.cell 4 rfl;have tf0:=hB3.free 0;have tf1:=hB3.free 1;have tf2:=hB3.free 2;have tf3:=hB3.free 3;have tf4:=hB3.free 4;go_wp2_with fail
      refine (Fq x _).mono ?_;rintro ee w4 ⟨rfl,hb4⟩;have hB4:=hB3.below hb4;have hb4:=aE hb3 hb4;clear tc0 tc1 tc2 tc3 tc4 tf0 tf1 tf2 tf3 tf4
      cases q3:bL x with
      | false =>
       have tc0:=hB4.cell 0 rfl;have tc1:=hB4.cell 1 rfl;have tc2:=hB4.cell 2 rfl;have tc3:=hB4.cell 3 rfl;have tc4:=hB4.cell 4 rfl;have tf0:=hB4.free 0;have tf1:=hB4.free 1;have tf2:=hB4.free 2;have tf3:=hB4.free 3;have tf4:=hB4.free 4;go_wp2_with fail
       go_meet
       case rel=>exact⟨by simp [q2,q3],hb4⟩
      | true =>
       have tc0:=hB4.cell 0 rfl;have tc1:=hB4.cell 1 rfl;have tc2:=hB4.cell 2 rfl;have tc3:=hB4.cell 3 rfl;have tc4:=hB4.cell 4 rfl;have tf0:=hB4.free 0;have tf1:=hB4.free 1;have tf2:=hB4.free 2;have tf3:=hB4.free 3;have tf4:=hB4.free 4
       by_cases q4:x.size<1
       ·go_wp2_with fail
        go_meet
        case rel=>exact⟨by simp [q4],hb4⟩
       ·by_cases q5:(e:Int) - i<x.size
        ·go_wp2_with fail
         go_meet
         case rel=>exact⟨by simp [q5],hb4⟩
        ·cases last with
         | false =>
          go_wp2_with fail
          go_meet
          case rel=>exact⟨by simp [q2,q3],hb4⟩
         | true =>
          by_cases q6:x.size=(e:Int) - i
          ·go_wp2_with fail
           go_meet
           case rel=>exact⟨by simp [q2,q3,q6],hb4⟩
          ·go_wp2_with fail
           go_meet
           case rel=>exact⟨by simp [q2,q3,q6],hb4⟩
   case rest =>
    rename World=>w4
    obtain⟨rfl,hb4⟩:=hcut;have hB4:=hB2.below hb4;have hb4:=aE hb2 hb4;clear hB2 hb2
    by_cases hP:(kb=false∨eA x=false∨bL x=false∨x.size<1∨((e:Int) - i)<x.size∨(last=true∧x.size≠(e:Int) - i))
    ·rw[decide_eq_true hP]
     have HX:=Ng (show r=some (110,i) from by
      have h:=HR2.out;rw[if_pos (hP)] at h;exact (Option.some.inj h).symm)
     clear HR2;have he9:=(HE.out.below hb4) 110 6 (by simp [cH])
     have hsz9:=(hb4).size;have tc0:=hB4.cell 0 rfl;have tc1:=hB4.cell 1 rfl;have tc2:=hB4.cell 2 rfl;have tc3:=hB4.cell 3 rfl;have tc4:=hB4.cell 4 rfl;have tf0:=hB4.free 0;have tf1:=hB4.free 1;have tf2:=hB4.free 2;have tf3:=hB4.free 3;have tf4:=hB4.free 4;go_wp2_with fail
     refine (vJ i (sent 110) sent 110 rfl _).mono ?_;rintro ee w9 ⟨eb,rfl,hE9,hl9,hb9⟩;go_wp2_with fail
     go_ret;exact k6.bad HX.out rfl hE9 (by omega) (aE hb4 hb9)
    ·rw[decide_eq_false hP]
     have HR3:=Ng (show (if x.k=0∧x.size≠1 then some (some (110,i))
       else if gF l (x.size.toNat - 1) x.k (i+1) (i+x.size.toNat)=false then some (some (110,i))
       else if 30<d then some (some (102,i))
       else jM l f 0 (i+1) (i+x.size.toNat) (d+1) x)=some r from by
        have h:=HR2.out;rwa [if_neg hP] at h)
     have q4:¬ x.size<1:=fun h=>hP (.inr (.inr (.inr (.inl h))))
     have q5:¬ (e:Int) - i<x.size:=fun h=>hP (.inr (.inr (.inr (.inr (.inl h)))))
     obtain⟨sz,hszz⟩:∃ sz:Nat,x.size=(sz:Int):=⟨x.size.toNat,by omega⟩
     have htn:x.size.toNat=sz:=by omega
     rw[htn] at HR3
     have HR4:=Ng (show (if x.k=0∧sz≠1 then some (some (110,i))
       else if gF l (sz - 1) x.k (i+1) (i+sz)=false then some (some (110,i))
       else if 30<d then some (some (102,i))
       else jM l f 0 (i+1) (i+sz) (d+1) x)=some r from by
        have h:=HR3.out;have e9:(x.k=0∧x.size≠1) ↔ (x.k=0∧sz≠1):=by omega
        simp only[e9] at h;exact h)
     rw[hszz] at hB4 q4 q5;obtain⟨E,hEE⟩:∃ E,i+sz=E:=⟨_,rfl⟩;have hEI:(i:Int)+(sz:Int)=(E:Int):=by omega
     rw[hEE] at HR4;have HSZ:=Ng hszz;clear HR2 HR3 hP hszz htn;have hw2:IntKind.i64.wrap ((i:Int)+sz)=(i:Int)+sz:=by rw[IntKind.wrap_i64];omega
     have hw3:IntKind.i64.wrap ((i:Int)+1)=(i:Int)+1:=by rw[IntKind.wrap_i64];omega
     obtain⟨t0,t1,t2,t3,t4⟩:w4.cell? ⟨tb,0,none⟩=some (.int .i64 x.kind)∧w4.cell? ⟨tb,1,none⟩=some (.int .i64 x.n)∧w4.cell? ⟨tb,2,none⟩=some (.int .i64 x.k)∧w4.cell? ⟨tb,3,none⟩=some (.int .i64 sz)∧w4.cell? ⟨tb,4,none⟩=some (.string (bs x.text)):=⟨hB4.cell 0 rfl,hB4.cell 1 rfl,hB4.cell 2 rfl,hB4.cell 3 rfl,hB4.cell 4 rfl⟩;go_upto_region 6 with fail
     go_cut [88] (fun s88 w5=>s88 = .bool (decide (x.k=0∧sz≠1))∧w5=w4)
     case first =>
      by_cases k0:x.k=0
      ·rw[k0] at t2;have k1:((sz:Int)==1)=decide (sz=1):=by rw[hU];simp;omega
       by_cases s1:sz=1
       ·subst s1;go_wp2_with fail
        go_meet
        case rel=>exact⟨by simp,rfl⟩
       ·have s2:((sz:Int)==1)=false:=by rw[beq_eq_false_iff_ne];omega
        go_wp2_with fail
        go_meet
        case rel=>exact⟨by first | (simp [k0,s1];done) | (simp [k0,s1];omega),rfl⟩
      ·have k1:(x.k==0)=false:=by rw[beq_eq_false_iff_ne];exact k0
       go_wp2_with fail
       go_meet
       case rel=>exact⟨by simp [k0],rfl⟩
     case rest =>
      obtain⟨rfl,rfl⟩:=hcut
      by_cases hP:x.k=0∧sz≠1
      ·rw[decide_eq_true hP]
       have HX:=Ng (show r=some (110,i) from by
        have h:=HR4.out;rw[if_pos hP] at h;exact (Option.some.inj h).symm)
       clear HR4 hP;have he9:=(HE.out.below hb4) 110 6 (by simp [cH])
       have hsz9:=hb4.size;go_wp2_with fail
       refine (vJ i (sent 110) sent 110 rfl _).mono ?_;rintro ee w9 ⟨eb,rfl,hE9,hl9,hb9⟩;go_wp2_with fail
       go_ret;exact k6.bad HX.out rfl hE9 (by omega) (aE hb4 hb9)
      ·rw[decide_eq_false hP]
       have HR5:=Ng (show (if gF l (sz - 1) x.k (i+1) E=false then some (some (110,i))
        else if 30<d then some (some (102,i))
        else jM l f 0 (i+1) E (d+1) x)=some r from by
         have h:=HR4.out;rwa [if_neg hP] at h)
       clear HR4 hP;obtain⟨F0,hF0⟩:∃ F0,gF l (sz - 1) x.k (i+1) E=F0:=⟨_,rfl⟩;rw[hF0] at HR5;have HF0:=Ng hF0;clear hF0;go_upto_block 0 with fail
       go_cut [15,16] (fun s15 s16 w5=>w5=wc∧F0=true)
       case first =>
        go_wp2_with fail
        go_loopg [15,16] (sz - 1) (fun m s15 s16 wr=>∃ (fu kk c:Nat),m=fu∧s15 = .int .i64 c∧s16 = .int .i64 kk∧wr=wc∧c≤E∧kk≤c∧E≤c+fu∧Hid (gF l fu (x.k - kk) c E=F0))
        case atStart=>exact⟨_,0,i+1,rfl,by simp,rfl,rfl,by omega,by omega,by omega,Ng (by simpa using HF0.out)⟩
        case round =>
         obtain⟨fu,kk,c,hm,rfl,rfl,rfl,hc1,hc2,hc3,hF⟩:=hrel;obtain rfl:=hm.symm;have hcE:(kk:Int)≤c:=by omega
         by_cases hl:(kk:Int)<x.k
         ·by_cases hc:E≤c
          ·have HX:=Ng (show r=some (110,i) from by
            have h1:F0=false:=by
             rw[← hF.out]
             cases fu with
             | zero=>rw[gF];simp;omega
             | succ fu=>rw[gF,if_neg (by omega),if_pos hc]
            have h:=HR5.out;rw[if_pos h1] at h;exact (Option.some.inj h).symm)
           clear hF HR5;have he9:=(HE.out.below hb4) 110 6 (by simp [cH])
           have hsz9:=hb4.size;go_wp2_with fail
           refine (vJ i (sent 110) sent 110 rfl _).mono ?_;rintro ee w9 ⟨eb,rfl,hE9,hl9,hb9⟩;go_wp2_with fail
           go_ret;exact k6.bad HX.out rfl hE9 (by omega) (aE hb4 hb9)
          ·obtain⟨fu,rfl⟩:∃ q,fu=q+1:=⟨fu - 1,by omega⟩
           have hF2:=Ng (show (if (cK l c).size<1∨((E:Int) - c)<(cK l c).size then true else gF l fu (x.k - kk - 1) (c+(cK l c).size.toNat) E)=F0 from by
            have h:=hF.out;rw[gF,if_neg (by omega),if_neg hc] at h
            exact h)
           have hcl:c<l.length:=by have:=HLN.out;omega
           obtain⟨-,-,-,p3,-⟩:=mS.facts2 HRW.out (vF hcl);have p3:=aF hb4 p3;have hys:=F.size c;obtain⟨y,hy⟩:∃ y,(cK l c).size=y:=⟨_,rfl⟩;rw[hy] at p3 hys hF2;clear hy hF;have hwE:IntKind.i64.wrap ((E:Int) - c)=(E:Int) - c:=by rw[IntKind.wrap_i64];omega
           by_cases b1:y<1
           ·have h1:F0=true:=by
             have h:=hF2.out;rw[if_pos (.inl b1)] at h;exact h.symm
            go_wp2_with fail
            go_meet
            case rel=>exact⟨rfl,h1⟩
           ·by_cases b2:(E:Int) - c<y
            ·have h1:F0=true:=by
              have h:=hF2.out;rw[if_pos (.inr b2)] at h;exact h.symm
             go_wp2_with fail
             go_meet
             case rel=>exact⟨rfl,h1⟩
            ·obtain⟨yn,rfl⟩:∃ q:Nat,y=(q:Int):=⟨y.toNat,by omega⟩
             have hF3:=Ng (show gF l fu (x.k - kk - 1) (c+yn) E=F0 from by
              have h:=hF2.out;rw[if_neg (fun hh=>hh.elim b1 b2),Int.toNat_natCast] at h
              exact h)
             have hwc:IntKind.i64.wrap ((c:Int)+yn)=(c:Int)+yn:=by rw[IntKind.wrap_i64];omega
             have hwk:IntKind.i64.wrap ((kk:Int)+1)=(kk:Int)+1:=by rw[IntKind.wrap_i64];omega
             clear hF2;go_wp2_with fail
             go_roundg fu
             case measure=>omega
             case rel=>exact⟨fu,kk+1,c+yn,rfl,by simp,by simp,rfl,by omega,by omega,by omega,Ng (by rw[← hF3.out];congr 1;omega)⟩
         ·have h1:F0=true:=by
           rw[← hF.out]
           cases fu with
           | zero=>rw[gF];simp;omega
           | succ fu=>rw[gF,if_pos (by omega)]
          go_wp2_with fail
          go_meet
          case rel=>exact⟨rfl,h1⟩
       case rest =>
        rename World=>w5
        obtain⟨rfl,rfl⟩:=hcut
        have HR6:=Ng (show (if 30<d then some (some (102,i)) else jM l f 0 (i+1) E (d+1) x)=some r from by
         have h:=HR5.out;rwa [if_neg (by simp)] at h)
        clear HR5
        by_cases hdd:30<d
        ·have hd2:(30:Int)<d:=by omega
         have HX:=Ng (show r=some (102,i) from by
          have h:=HR6.out;rw[if_pos hdd] at h;exact (Option.some.inj h).symm)
         clear HR6 HF0;have he9:=(HE.out.below hb4) 102 1 (by simp [cH])
         have hsz9:=hb4.size;go_wp2_with fail
         refine (vJ i (sent 102) sent 102 rfl _).mono ?_;rintro ee w9 ⟨eb,rfl,hE9,hl9,hb9⟩;go_wp2_with fail
         go_ret;exact k6.bad HX.out rfl hE9 (by omega) (aE hb4 hb9)
        ·have hd2:¬ (30:Int)<d:=by omega
         have HR7:=Ng (show jM l f 0 (i+1) E (d+1) x=some r from by
          have h:=HR6.out;rwa [if_neg hdd] at h)
         clear HR6 hdd;have hwd:IntKind.i64.wrap ((d:Int)+1)=(d:Int)+1:=by rw[IntKind.wrap_i64];omega
         go_wp2_with fail
         go_loopg [15,17,18,139] f (fun m s15 s17 s18 s139 wr=>∃ (fk kk c fu:Nat),m=fk∧s15 = .int .i64 c∧s139 = .int .i64 kk∧Below w.heap.size w wr∧Blk wr tb [.int .i64 x.kind,.int .i64 x.n,.int .i64 x.k,.int .i64 sz,.string (bs x.text)]∧c≤E∧kk≤c∧E≤c+fu∧fk≤f∧Hid (jM l fk kk c E (d+1) x=some r)∧Hid (gF l fu (x.k - kk) c E=true))
         case atStart=>exact⟨f,0,i+1,sz - 1,rfl,by simp,rfl,hb4,hB4,by omega,by omega,by omega,Nat.le_refl _,HR7,Ng (by simpa using HF0.out)⟩
         case round =>
          clear hb4 hB4 t0 t1 t2 t3 t4 HR7 HF0;obtain⟨fk,kk,c,fu,hm,rfl,rfl,hb4,hB4,hc1,hc2,hc3,hfk,hr,hF⟩:=hrel;obtain rfl:=hm.symm
          obtain⟨fk,rfl⟩:∃ q,fk=q+1:=by
           cases fk with
           | zero=>have:=hr.out;rw[jM] at this;cases this
           | succ q=>exact⟨q,rfl⟩
          have HK:=Ng hr.out;rw[jM] at HK;clear hr
          by_cases hl:x.k≤kk
          ·rw[if_pos hl] at HK;have HX:=Ng (show r=none from (Option.some.inj HK.out).symm)
           clear HK;go_wp2_with fail
           go_ret;exact k6.ok HX.out rfl hb4
          ·rw[if_neg hl] at HK
           obtain⟨fu,rfl⟩:∃ q,fu=q+1:=by
            cases fu with
            | zero=>have:=hF.out;rw[gF] at this;simp at this;omega
            | succ q=>exact⟨q,rfl⟩
           have hcE:c<E:=by
            have h:=hF.out;rw[gF,if_neg (by omega)] at h
            by_cases h9:E≤c
            ·rw[if_pos h9] at h;cases h
            ·omega
           cases hq:lV l fk c E (d+1) (dH x.kind x.k kk) (decide ((kk:Int)=x.k - 1)) with
           | none =>
            rw[hq] at HK
            cases HK.out
           | some rc =>
            rw[hq] at HK;have hcl:c<l.length:=by have:=HLN.out;omega
            obtain⟨tk,htk⟩:∃ tk,dH x.kind x.k kk=tk:=⟨_,rfl⟩;have HT:=Ng (fun (w9:World)=>Jh x kk w9 (by omega))
            rw[htk] at hq HT;rw[HSZ.out] at HT;have HD:=Ng (fun (w9:World) (hb9:Below w.heap.size w w9)=>IH.out fk (by omega) w9 _ c E (d+1) tk _ rc (HN.out.below hb9) (HE.out.below hb9) (by have:=HLN.out;omega) (by omega) (by have:=HLN.out;omega) (by omega) (Ng hq))
            rw[show ((d+1:Nat):Int)=(d:Int)+1 by omega,← hU] at HD
            obtain⟨t0,t1,t2,t3,t4⟩:wr.cell? ⟨tb,0,none⟩=some (.int .i64 x.kind)∧wr.cell? ⟨tb,1,none⟩=some (.int .i64 x.n)∧wr.cell? ⟨tb,2,none⟩=some (.int .i64 x.k)∧wr.cell? ⟨tb,3,none⟩=some (.int .i64 sz)∧wr.cell? ⟨tb,4,none⟩=some (.string (bs x.text)):=⟨hB4.cell 0 rfl,hB4.cell 1 rfl,hB4.cell 2 rfl,hB4.cell 3 rfl,hB4.cell 4 rfl⟩;have hwx:IntKind.i64.wrap (x.k - 1)=x.k - 1:=by rw[IntKind.wrap_i64];omega
            clear htk;go_wp2_with fail
            go_region_held3 (fun w'=>w'.cell? ⟨tb,0,none⟩=some (.int .i64 x.kind)∧w'.cell? ⟨tb,1,none⟩=some (.int .i64 x.n)∧w'.cell? ⟨tb,2,none⟩=some (.int .i64 x.k)∧w'.cell? ⟨tb,3,none⟩=some (.int .i64 sz)∧w'.cell? ⟨tb,4,none⟩=some (.string (bs x.text))) (first | exact⟨aF hb5 t0,aF hb5 t1,aF hb5 t2,aF hb5 t3,aF hb5 t4⟩ | exact⟨aF hb7 t0,aF hb7 t1,aF hb7 t2,aF hb7 t3,aF hb7 t4⟩ | go_keep)
             (first
              | (go_at_call 73;(with_reducible refine (HT.out _).mono ?_);rintro ee w5 ⟨rfl,hb5⟩;have hb6:=aE hb4.drew hb5)
              | (go_at_call 31;(with_reducible refine (HD.out _ hb6).mono ?_);rintro ee w6 hlo;obtain⟨v6,rfl,hv6⟩:=hlo.form;have hb7:=aE hb5 hv6.1))
            have hB6:=hB4.drew.below hb7;have hb8:=aE hb6 hv6.1;have hsz8:=hb6.size;clear hb5 hb6 hb7 hB4 t0 t1 t2 t3 t4 HT HD
            cases rc with
            | none =>
             obtain⟨-,hv⟩:=hv6;injection hv with hv
             subst hv;obtain⟨y1,y2⟩:=Ky hq;have HK2:=Ng (show jM l fk (kk+1) (c+(cK l c).size.toNat) E (d+1) x=some r from HK.out)
             have hF2:=Ng (show gF l fu (x.k - kk - 1) (c+(cK l c).size.toNat) E=true from by
              have h:=hF.out;rw[gF,if_neg (by omega),if_neg (by omega),if_neg (by omega)] at h
              exact h)
             obtain⟨-,-,-,p3,-⟩:=mS.facts2 HRW.out (vF hcl);have p3:=aF hb8 p3;obtain⟨y,hy⟩:∃ y,(cK l c).size=y:=⟨_,rfl⟩;rw[hy] at p3 hF2 HK2 y1 y2;obtain⟨yn,rfl⟩:∃ q:Nat,y=(q:Int):=⟨y.toNat,by omega⟩
             rw[Int.toNat_natCast] at hF2 HK2;have hwc:IntKind.i64.wrap ((c:Int)+yn)=(c:Int)+yn:=by rw[IntKind.wrap_i64];omega
             have hwk:IntKind.i64.wrap ((kk:Int)+1)=(kk:Int)+1:=by rw[IntKind.wrap_i64];omega
             have hcE2:(c:Int)<ln:=by have:=HLN.out;omega
             clear hy hq hF HK;go_wp2_with fail
             go_roundg fk
             case measure=>omega
             case rel=>exact⟨fk,kk+1,c+yn,fu,rfl,by simp,by simp,hb8,hB6,by omega,by omega,by omega,by omega,HK2,Ng (by rw[← hF2.out];congr 1;omega)⟩
            | some q =>
             obtain⟨cc,pp⟩:=q;have HX:=Ng (show r=some (cc,pp) from (Option.some.inj HK.out).symm)
             obtain⟨-,eb,hv,hE9,hl9⟩:=hv6;injection hv with hv
             subst hv;clear hq hF HK;go_wp2_with fail
             go_ret;exact k6.bad HX.out rfl hE9 (by omega) hb8
def MZ (w:World) (sent:Nat→Addr) (r:Option (Nat×Option Nat)) (e:Ending) (w':World):Prop :=
 Below w.heap.size w w'∧match r with
 | none=>e = .returned .nilIface
 | some (c,none)=>e = .returned (.iface 286 (.pointer (some (sent c))))
 | some (c,some p)=>∃ eb,e = .returned (.iface 61 (.pointer (some ⟨eb,0,none⟩)))∧bJ w' eb sent c p∧w.heap.size≤eb
theorem pH (l:aA)(F:lJ l)(sent:Nat→Addr)(b:Nat)(w:World)(v:Value)(hN:NSl w b v l)(hl:0<l.length)(hE:Env w sent)(h0:dB l≠some (0,none)) :
  Calls Tryz.prog 15 #[v] w (MZ w sent (dB l)):=by
 have hnum:=F.num;have HN:=Ng hN;obtain⟨g,cap,rfl,-⟩:=hN;obtain⟨r,hr⟩:∃ r,dB l=r:=⟨_,rfl⟩;rw[hr] at h0 ⊢;unfold dB at hr;obtain⟨n,hn⟩:∃ n,l.length=n:=⟨_,rfl⟩
 by_cases h3:3000<l.length
 ·rw[if_pos (.inr h3)] at hr;subst hr;have he:=hE 111 2 (by simp [cH])
  rw[hn] at h3 hl ⊢;have e1:((n:Int)==0)=false:=by rw[beq_eq_false_iff_ne];omega
  go_enter Tryz.func15,Tryz.ntmps15
  go_wp2
  go_ret;exact⟨Below.refl _ _,rfl⟩
 ·rw[if_neg (by omega)] at hr
  cases hq:lV l (3 * l.length) 0 l.length 1 false true with
  | none =>
   rw[hq] at hr;subst hr;exact absurd rfl h0
  | some rc =>
   rw[hq] at hr;have HL:=Ng (Ie l F sent b (3 * l.length) w _ 0 l.length 1 false true rc HN.out hE hl (by omega) (Nat.le_refl _) (by omega) (Ng hq))
   have HR:=Ng hr;rw[hn] at HL h3 hl ⊢;clear hq hr hn;have e1:((n:Int)==0)=false:=by rw[beq_eq_false_iff_ne];omega
   go_enter Tryz.func15,Tryz.ntmps15
   go_wp2_with fail
   refine HL.out.mono ?_;rintro e w1 hlo;obtain⟨hb,hc⟩:=hlo
   cases rc with
   | none =>
    subst hc;go_wp2_with fail
    go_ret;rw[← HR.out];exact⟨hb,rfl⟩
   | some q =>
    obtain⟨c,p⟩:=q;obtain⟨eb,rfl,h5,h6⟩:=hc;go_wp2_with fail
    go_ret;rw[← HR.out];exact⟨hb,eb,rfl,h5,h6⟩
end Go.Proofs.YtbpjobmpacjgcaaGreatDoor
