/- core's small functions: which kinds there are, how many children, what is to be a word. -/
import Derived.Test.YtnombfbpmmmoeaaGreatDoorGBKitG
import Derived.Test.YtnombfbpmmmoeaaGreatDoorGParseG
import Derived.Test.YtnombfbpmmmoeaaGreatDoorGBPatG
import Derived.Test.YtnombfbpmmmoeaaGreatDoorGZC
import Derived.Deep.CutBlock
import Derived.Deep.RegionHeld3
namespace Go.Proofs.YtnombfbpmmmoeaaGreatDoor
set_option maxHeartbeats 16000000
set_option maxRecDepth 100000
open Go Go.RowKit
theorem gP (a b:Int):(a==b)=decide (a=b):=by by_cases h:a=b <;> simp [h]
theorem IM (k:Int)(w:World):Calls Tryz.prog 101 #[.int .i64 k] w fun e w'=>e = .returned (.bool (rQ k))∧w'=w:=by
 unfold rQ
 by_cases h:1≤k
 ·have h1:decide (1≤k)=true:=by simp [h]
  rw[h1];go_enter Tryz.func101,Tryz.ntmps101
  go_wp2
  go_ret;exact⟨by simp,rfl⟩
 ·have h1:decide (1≤k)=false:=by simp;omega
  rw[h1];go_enter Tryz.func101,Tryz.ntmps101
  go_wp2
  go_ret;exact⟨rfl,rfl⟩
theorem Ex (k:Int)(w:World):Calls Tryz.prog 102 #[.int .i64 k] w fun e w'=>e = .returned (.bool (qW k))∧w'=w:=by
 unfold qW
 by_cases h:20≤k
 ·have h1:decide (20≤k)=true:=by simp [h]
  rw[h1];go_enter Tryz.func102,Tryz.ntmps102
  go_wp2
  go_ret;exact⟨by simp,rfl⟩
 ·have h1:decide (20≤k)=false:=by simp;omega
  rw[h1];go_enter Tryz.func102,Tryz.ntmps102
  go_wp2
  go_ret;exact⟨rfl,rfl⟩
theorem D0 (x:bH)(w:World):Calls Tryz.prog 104 #[.agg #[.int .i64 x.kind,.int .i64 x.n,.int .i64 x.k,.int .i64 x.size,.string (bs x.text)]] w fun e w'=>e = .returned (.bool (bJ x))∧Below w.heap.size w w':=by
 obtain⟨kd,n,k,sz,tx⟩:=x;dsimp only
 by_cases h1:kd=1
 ·subst h1;go_enter Tryz.func104,Tryz.ntmps104
  go_wp2
  go_ret;exact⟨by simp [bJ,gP],(Below.refl _ _).alloc (Nat.le_refl _) _⟩
 have b1:(kd==1)=false:=by rw[beq_eq_false_iff_ne];exact h1
 by_cases h2:kd=2
 ·subst h2;go_enter Tryz.func104,Tryz.ntmps104
  go_wp2
  go_ret;exact⟨by simp [bJ,gP],(Below.refl _ _).alloc (Nat.le_refl _) _⟩
 have b2:(kd==2)=false:=by rw[beq_eq_false_iff_ne];exact h2
 by_cases h20:kd=20
 ·subst h20;go_enter Tryz.func104,Tryz.ntmps104
  go_wp2
  go_ret;exact⟨by simp [bJ,gP],(Below.refl _ _).alloc (Nat.le_refl _) _⟩
 have b20:(kd==20)=false:=by rw[beq_eq_false_iff_ne];exact h20
 by_cases h3:kd=3
 ·subst h3;go_enter Tryz.func104,Tryz.ntmps104
  go_wp2
  go_ret;exact⟨by simp [bJ],(Below.refl _ _).alloc (Nat.le_refl _) _⟩
 have b3:(kd==3)=false:=by rw[beq_eq_false_iff_ne];exact h3
 by_cases h4:kd=4
 ·subst h4;go_enter Tryz.func104,Tryz.ntmps104
  go_wp2
  go_ret;exact⟨by simp [bJ],(Below.refl _ _).alloc (Nat.le_refl _) _⟩
 have b4:(kd==4)=false:=by rw[beq_eq_false_iff_ne];exact h4
 by_cases h21:kd=21
 ·subst h21;go_enter Tryz.func104,Tryz.ntmps104
  go_wp2
  go_ret;exact⟨by simp [bJ],(Below.refl _ _).alloc (Nat.le_refl _) _⟩
 have b21:(kd==21)=false:=by rw[beq_eq_false_iff_ne];exact h21
 by_cases h37:kd=37
 ·subst h37;go_enter Tryz.func104,Tryz.ntmps104
  go_wp2
  go_ret;exact⟨by simp [bJ],(Below.refl _ _).alloc (Nat.le_refl _) _⟩
 have b37:(kd==37)=false:=by rw[beq_eq_false_iff_ne];exact h37
 by_cases h23:kd=23
 ·subst h23;go_enter Tryz.func104,Tryz.ntmps104
  go_wp2
  go_ret;exact⟨by simp [bJ],(Below.refl _ _).alloc (Nat.le_refl _) _⟩
 have b23:(kd==23)=false:=by rw[beq_eq_false_iff_ne];exact h23
 by_cases h32:kd=32
 ·subst h32;go_enter Tryz.func104,Tryz.ntmps104
  go_wp2
  go_ret;exact⟨by simp [bJ],(Below.refl _ _).alloc (Nat.le_refl _) _⟩
 have b32:(kd==32)=false:=by rw[beq_eq_false_iff_ne];exact h32
 by_cases h24:kd=24
 ·subst h24;go_enter Tryz.func104,Tryz.ntmps104
  go_wp2
  go_ret;exact⟨by simp [bJ,gP],(Below.refl _ _).alloc (Nat.le_refl _) _⟩
 have b24:(kd==24)=false:=by rw[beq_eq_false_iff_ne];exact h24
 by_cases h25:kd=25
 ·subst h25;go_enter Tryz.func104,Tryz.ntmps104
  go_wp2
  go_ret;exact⟨by simp [bJ,gP],(Below.refl _ _).alloc (Nat.le_refl _) _⟩
 have b25:(kd==25)=false:=by rw[beq_eq_false_iff_ne];exact h25
 by_cases h26:kd=26
 ·subst h26;go_enter Tryz.func104,Tryz.ntmps104
  go_wp2
  go_ret;exact⟨by simp [bJ,gP],(Below.refl _ _).alloc (Nat.le_refl _) _⟩
 have b26:(kd==26)=false:=by rw[beq_eq_false_iff_ne];exact h26
 by_cases h28:kd=28
 ·subst h28;go_enter Tryz.func104,Tryz.ntmps104
  go_wp2
  go_ret;exact⟨by simp [bJ,gP],(Below.refl _ _).alloc (Nat.le_refl _) _⟩
 have b28:(kd==28)=false:=by rw[beq_eq_false_iff_ne];exact h28
 by_cases h29:kd=29
 ·subst h29;go_enter Tryz.func104,Tryz.ntmps104
  go_wp2
  go_ret;exact⟨by simp [bJ,gP],(Below.refl _ _).alloc (Nat.le_refl _) _⟩
 have b29:(kd==29)=false:=by rw[beq_eq_false_iff_ne];exact h29
 by_cases h35:kd=35
 ·subst h35;go_enter Tryz.func104,Tryz.ntmps104
  go_wp2
  go_ret;exact⟨by simp [bJ,gP],(Below.refl _ _).alloc (Nat.le_refl _) _⟩
 have b35:(kd==35)=false:=by rw[beq_eq_false_iff_ne];exact h35
 by_cases h33:kd=33
 ·subst h33;go_enter Tryz.func104,Tryz.ntmps104
  go_wp2
  go_ret;exact⟨by simp [bJ,gP],(Below.refl _ _).alloc (Nat.le_refl _) _⟩
 have b33:(kd==33)=false:=by rw[beq_eq_false_iff_ne];exact h33
 by_cases h34:kd=34
 ·subst h34;go_enter Tryz.func104,Tryz.ntmps104
  go_wp2
  go_ret;exact⟨by simp [bJ,gP],(Below.refl _ _).alloc (Nat.le_refl _) _⟩
 have b34:(kd==34)=false:=by rw[beq_eq_false_iff_ne];exact h34
 by_cases h30:kd=30
 ·subst h30
  by_cases hk:1≤k
  ·go_enter Tryz.func104,Tryz.ntmps104
   go_wp2
   go_ret;exact⟨by first | (simp [bJ,hk,gP];done) | (simp [bJ,gP];intro h;omega),(Below.refl _ _).alloc (Nat.le_refl _) _⟩
  ·go_enter Tryz.func104,Tryz.ntmps104
   go_wp2
   go_ret;exact⟨by first | (simp [bJ];done) | (simp [bJ];intro h;omega),(Below.refl _ _).alloc (Nat.le_refl _) _⟩
 have b30:(kd==30)=false:=by rw[beq_eq_false_iff_ne];exact h30
 have HX:Hid (bJ ⟨kd,n,k,sz,tx⟩=decide (k=1)):=LB (by simp [bJ,h1,h2,h20,h3,h4,h21,h37,h23,h32,h24,h25,h26,h28,h29,h35,h33,h34,h30])
 clear h1 h2 h20 h3 h4 h21 h37 h23 h32 h24 h25 h26 h28 h29 h35 h33 h34 h30;go_enter Tryz.func104,Tryz.ntmps104
 go_wp2
 go_ret;exact⟨by rw[HX.out];rfl,(Below.refl _ _).alloc (Nat.le_refl _) _⟩
theorem GW (x:bH)(k:Nat)(w:World)(hK:0<x.k∧x.k<9223372036854775808):Calls Tryz.prog 106 #[.agg #[.int .i64 x.kind,.int .i64 x.n,.int .i64 x.k,.int .i64 x.size,.string (bs x.text)],.int .i64 k] w fun e w'=>e = .returned (.bool (cQ x.kind x.k k))∧Below w.heap.size w w':=by
 obtain⟨kd,n,K,sz,tx⟩:=x;dsimp only at hK ⊢
 by_cases h12:kd=12
 ·subst h12;go_enter Tryz.func106,Tryz.ntmps106
  go_wp2
  go_ret;exact⟨by simp [cQ],(Below.refl _ _).alloc (Nat.le_refl _) _⟩
 have b12:(kd==12)=false:=by rw[beq_eq_false_iff_ne];exact h12
 by_cases h23:kd=23
 ·subst h23;go_enter Tryz.func106,Tryz.ntmps106
  go_wp2
  go_ret;exact⟨by simp [cQ],(Below.refl _ _).alloc (Nat.le_refl _) _⟩
 have b23:(kd==23)=false:=by rw[beq_eq_false_iff_ne];exact h23
 by_cases h32:kd=32
 ·subst h32;go_enter Tryz.func106,Tryz.ntmps106
  go_wp2
  go_ret;exact⟨by simp [cQ],(Below.refl _ _).alloc (Nat.le_refl _) _⟩
 have b32:(kd==32)=false:=by rw[beq_eq_false_iff_ne];exact h32
 by_cases h24:kd=24
 ·subst h24;go_enter Tryz.func106,Tryz.ntmps106
  go_wp2
  go_ret;exact⟨by simp [cQ],(Below.refl _ _).alloc (Nat.le_refl _) _⟩
 have b24:(kd==24)=false:=by rw[beq_eq_false_iff_ne];exact h24
 by_cases h25:kd=25
 ·subst h25;go_enter Tryz.func106,Tryz.ntmps106
  go_wp2
  go_ret;exact⟨by simp [cQ],(Below.refl _ _).alloc (Nat.le_refl _) _⟩
 have b25:(kd==25)=false:=by rw[beq_eq_false_iff_ne];exact h25
 by_cases h26:kd=26
 ·subst h26;go_enter Tryz.func106,Tryz.ntmps106
  go_wp2
  go_ret;exact⟨by simp [cQ],(Below.refl _ _).alloc (Nat.le_refl _) _⟩
 have b26:(kd==26)=false:=by rw[beq_eq_false_iff_ne];exact h26
 by_cases h28:kd=28
 ·subst h28;go_enter Tryz.func106,Tryz.ntmps106
  go_wp2
  go_ret;exact⟨by simp [cQ],(Below.refl _ _).alloc (Nat.le_refl _) _⟩
 have b28:(kd==28)=false:=by rw[beq_eq_false_iff_ne];exact h28
 by_cases h27:kd=27
 ·subst h27;go_enter Tryz.func106,Tryz.ntmps106
  go_wp2
  go_ret;exact⟨by simp [cQ],(Below.refl _ _).alloc (Nat.le_refl _) _⟩
 have b27:(kd==27)=false:=by rw[beq_eq_false_iff_ne];exact h27
 by_cases h31:kd=31
 ·subst h31;go_enter Tryz.func106,Tryz.ntmps106
  go_wp2
  go_ret;exact⟨by simp [cQ],(Below.refl _ _).alloc (Nat.le_refl _) _⟩
 have b31:(kd==31)=false:=by rw[beq_eq_false_iff_ne];exact h31
 by_cases h29:kd=29
 ·subst h29;go_enter Tryz.func106,Tryz.ntmps106
  go_wp2
  go_ret;exact⟨by simp [cQ,gP],(Below.refl _ _).alloc (Nat.le_refl _) _⟩
 have b29:(kd==29)=false:=by rw[beq_eq_false_iff_ne];exact h29
 by_cases h35:kd=35
 ·subst h35;go_enter Tryz.func106,Tryz.ntmps106
  go_wp2
  go_ret;exact⟨by simp [cQ,gP],(Below.refl _ _).alloc (Nat.le_refl _) _⟩
 have b35:(kd==35)=false:=by rw[beq_eq_false_iff_ne];exact h35
 by_cases h33:kd=33
 ·subst h33;go_enter Tryz.func106,Tryz.ntmps106
  go_wp2
  go_ret;exact⟨by simp [cQ,gP],(Below.refl _ _).alloc (Nat.le_refl _) _⟩
 have b33:(kd==33)=false:=by rw[beq_eq_false_iff_ne];exact h33
 by_cases h34:kd=34
 ·subst h34;go_enter Tryz.func106,Tryz.ntmps106
  go_wp2
  go_ret;exact⟨by simp [cQ,gP],(Below.refl _ _).alloc (Nat.le_refl _) _⟩
 have b34:(kd==34)=false:=by rw[beq_eq_false_iff_ne];exact h34
 by_cases h30:kd=30
 ·subst h30
  by_cases hk:k=0
  ·subst hk;go_enter Tryz.func106,Tryz.ntmps106
   go_wp2
   go_ret;exact⟨by simp [cQ],(Below.refl _ _).alloc (Nat.le_refl _) _⟩
  ·have hk2:((k:Int)==0)=false:=by rw[beq_eq_false_iff_ne];omega
   go_enter Tryz.func106,Tryz.ntmps106
   go_wp2
   go_ret;exact⟨by simp [cQ,gP];omega,(Below.refl _ _).alloc (Nat.le_refl _) _⟩
 have b30:(kd==30)=false:=by rw[beq_eq_false_iff_ne];exact h30
 by_cases h37:kd=37
 ·subst h37;have hw1:IntKind.i64.wrap (K - 1)=K - 1:=by rw[IntKind.wrap_i64];omega
  go_enter Tryz.func106,Tryz.ntmps106
  go_wp2
  go_ret;exact⟨by simp [cQ],(Below.refl _ _).alloc (Nat.le_refl _) _⟩
 have b37:(kd==37)=false:=by rw[beq_eq_false_iff_ne];exact h37
 have HX:Hid (cQ kd K k=true):=LB (by simp [cQ,h12,h23,h32,h24,h25,h26,h28,h27,h31,h29,h35,h33,h34,h30,h37])
 clear h12 h23 h32 h24 h25 h26 h28 h27 h31 h29 h35 h33 h34 h30 h37;go_enter Tryz.func106,Tryz.ntmps106
 go_wp2
 go_ret;exact⟨by rw[HX.out];rfl,(Below.refl _ _).alloc (Nat.le_refl _) _⟩
theorem KQ (b:ByteArray):∀ (m i:Nat)(r:List UInt8),b.size - i=m→ByteArray.toList.loop b i r=r.reverse++b.data.toList.drop i:=by
 intro m
 induction m with
 | zero =>
  intro i r h;rw[ByteArray.toList.loop,if_neg (by omega),List.drop_of_length_le (by rw[size_eq];omega)]
  simp
 | succ m ih =>
  intro i r h;have hi:i<b.size:=by omega
  rw[ByteArray.toList.loop,if_pos hi,ih _ _ (by omega),List.reverse_cons,List.append_assoc]
  congr 1
  rw[cZ b i hi];have h2:i<b.data.size:=hi
  have:b.get! i=bat b i:=by
   unfold ByteArray.get! bat;simp [List.getD,Array.getElem?_eq_getElem h2,getElem!_pos b.data i h2]
  rw[this];rfl
theorem BT (l:List UInt8):(bs l).toList=l:=by
 unfold ByteArray.toList;rw[KQ _ _ _ _ rfl,List.drop_zero];exact bI l
theorem vD (l:List UInt8):(bs l).toList.isEmpty=decide (l=[]):=by
 rw[BT]
 cases l <;> simp
theorem Ha (k:Int)(w:World):Calls Tryz.prog 157 #[.int .i64 k] w fun e w'=>e = .returned (.bool (j8 k))∧Below w.heap.size w w':=by
 have HB:=LB (show Blk (w.alloc (.cells #[Value.int .i64 2,.int .i64 22,.int .i64 29,.int .i64 31,.int .i64 35] 3)) w.heap.size ([2,22,29,31,35].map fun (k:Nat)=>Value.int .i64 (k:Int)) from Blk.new w [Value.int .i64 2,.int .i64 22,.int .i64 29,.int .i64 31,.int .i64 35] 3)
 go_enter Tryz.func157,Tryz.ntmps157
 go_wp2_with fail
 refine (Tryz.slices_Contains_int w.heap.size 0 5 5 ([2,22,29,31,35].map fun (k:Nat)=>(k:Int)) _ _ (by simp) (by omega) (vM HB.out)).mono ?_
 rintro e w2 ⟨rfl,rfl⟩;go_wp2_with fail
 go_ret;exact⟨congrArg (fun b=>Ending.returned (Value.bool b)) (by simp [j8]),(Below.refl _ _).alloc (Nat.le_refl _) _⟩
theorem t8 (i:Nat)(a:Addr)(sent:Nat→Addr)(c:Nat)(hc:sent c=a)(w:World):Calls Tryz.prog 105 #[.int .i64 i,.iface 287 (.pointer (some a))] w fun e w'=>∃ eb,e = .returned (.iface 58 (.pointer (some ⟨eb,0,none⟩)))∧bG w' eb sent c i∧w.heap.size≤eb∧Below w.heap.size w w':=by
 subst hc;go_enter Tryz.func105,Tryz.ntmps105
 go_wp2
 go_ret;exact⟨_,rfl,Blk.new w [Value.int .i64 i,.iface 287 (.pointer (some (sent c)))] 60,Nat.le_refl _,(Below.refl _ _).alloc (Nat.le_refl _) _⟩
theorem F2 (x:bH)(w:World)(hx:x.text.length≤100000):Calls Tryz.prog 103 #[.agg #[.int .i64 x.kind,.int .i64 x.n,.int .i64 x.k,.int .i64 x.size,.string (bs x.text)]] w fun e w'=>e = .returned (.bool (dQ x))∧Below w.heap.size w w':=by
 obtain⟨kd,n,k,sz,tx⟩:=x;dsimp only at hx ⊢;have hb0:=(Below.refl w.heap.size w).alloc (Nat.le_refl _) (.cells #[.int .i64 kd,.int .i64 n,.int .i64 k,.int .i64 sz,.string (bs tx)] 62)
 by_cases h1:kd=1
 ·subst h1
  by_cases hn:n=0
  ·subst hn;have HX:Hid (dQ ⟨1,0,k,sz,tx⟩=decide (tx.length≤2000)):=LB (by simp [dQ,bW])
   have hle:(decide (((bs tx).size:Int)≤2000))=decide (tx.length≤2000):=by rw[aW];simp;omega
   go_enter Tryz.func103,Tryz.ntmps103
   go_wp2
   go_ret;exact⟨by rw[HX.out];rfl,hb0⟩
  ·have hn0:(n==0)=false:=by rw[beq_eq_false_iff_ne];exact hn
   by_cases hn1:n=1
   ·subst hn1;have HX:Hid (dQ ⟨1,1,k,sz,tx⟩=(dP tx&&decide (tx.length≤2000))):=LB (by simp [dQ,bW])
    go_enter Tryz.func103,Tryz.ntmps103
    go_wp2_with fail
    refine (E5 (bs tx) _ (by rw[aW];omega)).mono ?_
    rintro e w1 ⟨rfl,hb1⟩;rw[bI];have hb2:=aD hb0 hb1;have hB:=(Blk.new w [Value.int .i64 1,.int .i64 1,.int .i64 k,.int .i64 sz,.string (bs tx)] 62).below hb1;have c4:=hB.cell 4 rfl
    cases hcl:dP tx with
    | false =>
     go_wp2
     go_ret;exact⟨by rw[HX.out,hcl];rfl,hb2⟩
    | true =>
     have hle:(decide (((bs tx).size:Int)≤2000))=decide (tx.length≤2000):=by rw[aW];simp;omega
     go_wp2
     go_ret;exact⟨by rw[HX.out,hcl];rfl,hb2⟩
   ·have hn1':(n==1)=false:=by rw[beq_eq_false_iff_ne];exact hn1
    have HX:Hid (dQ ⟨1,n,k,sz,tx⟩=false):=LB (by simp [dQ,bW,hn,hn1])
    go_enter Tryz.func103,Tryz.ntmps103
    go_wp2
    go_ret;exact⟨by rw[HX.out];rfl,hb0⟩
 have b1:(kd==1)=false:=by rw[beq_eq_false_iff_ne];exact h1
 by_cases h11:kd=11
 ·subst h11
  by_cases q1:1≤n
  ·by_cases q2:n≤99
   ·have HX:Hid (dQ ⟨11,n,k,sz,tx⟩=decide (tx=[])):=LB (by simp [dQ,bW,q1,q2])
    go_enter Tryz.func103,Tryz.ntmps103
    go_wp2
    go_ret;exact⟨by rw[HX.out];exact congrArg (fun b=>Ending.returned (Value.bool b)) (vD tx),hb0⟩
   ·have HX:Hid (dQ ⟨11,n,k,sz,tx⟩=false):=LB (by simp [dQ,bW,q2])
    go_enter Tryz.func103,Tryz.ntmps103
    go_wp2
    go_ret;exact⟨by rw[HX.out];rfl,hb0⟩
  ·have HX:Hid (dQ ⟨11,n,k,sz,tx⟩=false):=LB (by simp [dQ,bW,q1])
   go_enter Tryz.func103,Tryz.ntmps103
   go_wp2
   go_ret;exact⟨by rw[HX.out];rfl,hb0⟩
 have b11:(kd==11)=false:=by rw[beq_eq_false_iff_ne];exact h11
 by_cases h33:kd=33
 ·subst h33
  by_cases q1:1≤n
  ·by_cases q2:n≤3
   ·have HX:Hid (dQ ⟨33,n,k,sz,tx⟩=decide (tx=[])):=LB (by simp [dQ,bW,q1,q2])
    go_enter Tryz.func103,Tryz.ntmps103
    go_wp2
    go_ret;exact⟨by rw[HX.out];exact congrArg (fun b=>Ending.returned (Value.bool b)) (vD tx),hb0⟩
   ·have HX:Hid (dQ ⟨33,n,k,sz,tx⟩=false):=LB (by simp [dQ,bW,q2])
    go_enter Tryz.func103,Tryz.ntmps103
    go_wp2
    go_ret;exact⟨by rw[HX.out];rfl,hb0⟩
  ·have HX:Hid (dQ ⟨33,n,k,sz,tx⟩=false):=LB (by simp [dQ,bW,q1])
   go_enter Tryz.func103,Tryz.ntmps103
   go_wp2
   go_ret;exact⟨by rw[HX.out];rfl,hb0⟩
 have b33:(kd==33)=false:=by rw[beq_eq_false_iff_ne];exact h33
 by_cases hn:n=0
 ·subst hn
  by_cases h2:kd=2
  ·subst h2;have HX:Hid (dQ ⟨2,0,k,sz,tx⟩=(bF tx || decide (tx=[42]))):=LB (by simp [dQ,bW])
   go_enter Tryz.func103,Tryz.ntmps103
   go_wp2_with fail
   refine (lX (bs tx) _ (by rw[aW];omega)).mono ?_
   rintro e w1 ⟨rfl,rfl⟩;rw[bI]
   cases hcl:bF tx with
   | true =>
    go_wp2
    go_ret;exact⟨by rw[HX.out,hcl];rfl,hb0⟩
   | false =>
    go_wp2
    go_ret;exact⟨by rw[HX.out,hcl];exact congrArg (fun b=>Ending.returned (Value.bool b)) (by rw[BT,Bool.false_or];by_cases h:tx=[42] <;> simp [h]),hb0⟩
  have b2:(kd==2)=false:=by rw[beq_eq_false_iff_ne];exact h2
  have HX:Hid (dQ ⟨kd,0,k,sz,tx⟩=if j8 kd=true then bF tx else decide (tx=[])):=LB (by simp [dQ,bW,h1,h11,h33,h2])
  clear h1 h11 h33 h2;go_enter Tryz.func103,Tryz.ntmps103
  go_wp2_with fail
  refine (Ha kd _).mono ?_;rintro e w1 ⟨rfl,hb1⟩;have hb2:=aD hb0 hb1;have hB:=(Blk.new w [Value.int .i64 kd,.int .i64 0,.int .i64 k,.int .i64 sz,.string (bs tx)] 62).below hb1;have c4:=hB.cell 4 rfl
  cases hcl:j8 kd with
  | true =>
   go_wp2_with fail
   refine (lX (bs tx) _ (by rw[aW];omega)).mono ?_
   rintro e w2 ⟨rfl,rfl⟩;rw[bI];go_wp2
   go_ret;exact⟨by rw[HX.out,hcl];rfl,hb2⟩
  | false =>
   go_wp2
   go_ret;exact⟨by rw[HX.out,hcl,if_neg (by simp)];exact congrArg (fun b=>Ending.returned (Value.bool b)) (vD tx),hb2⟩
 ·have hn0:(n==0)=false:=by rw[beq_eq_false_iff_ne];exact hn
  have HX:Hid (dQ ⟨kd,n,k,sz,tx⟩=false):=LB (by simp [dQ,bW,h1,h11,h33,hn])
  go_enter Tryz.func103,Tryz.ntmps103
  go_wp2
  go_ret;exact⟨by rw[HX.out];rfl,hb0⟩
theorem Ad {l:List UInt8}(h:bF l=true):l.length≤20:=by
 cases l with
 | nil=>simp
 | cons c l =>
  rw[bF] at h;simp only[Bool.and_eq_true,decide_eq_true_eq] at h;rw[List.length_cons];omega
theorem FY {M:Nat}{x:bH}(h:bW M x=true)(hM:M≤50000):x.text.length≤100000:=by
 unfold bW at h;split at h
 ·simp only[Bool.and_eq_true,decide_eq_true_eq] at h;omega
 split at h
 ·simp only[Bool.and_eq_true,decide_eq_true_eq] at h;rw[h.2];simp
 split at h
 ·simp only[Bool.and_eq_true,decide_eq_true_eq] at h;rw[h.2];simp
 split at h
 ·cases h
 split at h
 ·simp only[Bool.or_eq_true,decide_eq_true_eq] at h
  rcases h with h | h
  ·have:=Ad h
   omega
  ·rw[h];simp
 split at h
 ·have:=Ad h
  omega
 ·simp only[decide_eq_true_eq] at h;rw[h];simp
set_option maxHeartbeats 32000000
def kH (w:World) (sent:Nat→Addr) (r:Option (Nat×Nat)) (e:Ending) (w':World):Prop :=
 Below w.heap.size w w'∧match r with
 | none=>e = .returned .nilIface
 | some (c,p)=>∃ eb,e = .returned (.iface 58 (.pointer (some ⟨eb,0,none⟩)))∧bG w' eb sent c p∧w.heap.size≤eb
theorem kH.bad {w w':World}{sent:Nat→Addr}{r:Option (Nat×Nat)}{e:Ending}{c p eb:Nat}(hr:r=some (c,p))(he:e = .returned (.iface 58 (.pointer (some ⟨eb,0,none⟩))))(h1:bG w' eb sent c p)(h2:w.heap.size≤eb)(hb:Below w.heap.size w w'):kH w sent r e w':=by
 subst hr;exact⟨hb,eb,he,h1,h2⟩
theorem kH.ok {w w':World}{sent:Nat→Addr}{r:Option (Nat×Nat)}{e:Ending}(hr:r=none)(he:e = .returned .nilIface)(hb:Below w.heap.size w w'):kH w sent r e w':=by
 subst hr;exact⟨hb,he⟩
theorem kH.form {w w':World}{sent:Nat→Addr}{r:Option (Nat×Nat)}{e:Ending}(h:kH w sent r e w'):∃ v,e = .returned v∧kH w sent r (.returned v) w':=by
 obtain⟨h1,h2⟩:=h
 cases r with
 | none=>exact⟨_,h2,h1,rfl⟩
 | some q =>
  obtain⟨eb,rfl,h3,h4⟩:=h2;exact⟨_,rfl,h1,eb,rfl,h3,h4⟩
structure o8 (l:aA):Prop where
 num:l.length≤400000
 text:∀ i,(cE l i).text.length≤100000
 k:∀ i,-9223372036854775808≤(cE l i).k∧(cE l i).k<9223372036854775808
 size:∀ i,-9223372036854775808≤(cE l i).size∧(cE l i).size<9223372036854775808
theorem lU.facts2 {w:World}{g:Nat}{l:aA}(h:lU w g l){k:Nat}{x:bH}(hx:l[k]?=some x) :
  w.cell? ⟨g,k * 5,none⟩=some (.int .i64 x.kind)∧w.cell? ⟨g,k * 5+1,none⟩=some (.int .i64 x.n)∧w.cell? ⟨g,k * 5+2,none⟩=some (.int .i64 x.k)∧w.cell? ⟨g,k * 5+3,none⟩=some (.int .i64 x.size)∧w.cell? ⟨g,k * 5+4,none⟩=some (.string (bs x.text)):=by
 have hf:∀ j u,x.cells[j]?=some u→w.cell? ⟨g,k * 5+j,none⟩=some u:=fun j u hu=>by
  have:=h _ _ (lI bH.cells 5 qU l k j x u hx hu)
  rwa [Nat.mul_comm] at this
 exact⟨hf 0 _ rfl,hf 1 _ rfl,hf 2 _ rfl,hf 3 _ rfl,hf 4 _ rfl⟩
theorem tR {l:aA}{i:Nat}(hi:i<l.length):l[i]?=some (cE l i):=by
 unfold cE;rw[List.getD_eq_getElem?_getD,List.getElem?_eq_getElem hi];rfl
theorem Ii {l:aA}{f i e d:Nat}{w la:Bool}(h:k7 l f i e d w la=some none):1≤(cE l i).size∧(cE l i).size≤(e:Int) - i:=by
 cases f with
 | zero=>rw[k7] at h;cases h
 | succ f =>
  rw[k7] at h;split at h
  ·cases h
  ·rename_i hc
   constructor
   ·by_cases h9:(cE l i).size<1
    ·exact absurd (.inr (.inr (.inr (.inl h9)))) hc
    ·omega
   ·by_cases h9:(e:Int) - i<(cE l i).size
    ·exact absurd (.inr (.inr (.inr (.inr (.inl h9))))) hc
    ·omega
theorem Hd (l:aA)(F:o8 l)(sent:Nat→Addr)(b:Nat)(f:Nat):∀ (w:World)(v:Value)(i e d:Nat)(word last:Bool)(r:Option (Nat×Nat)),NSl w b v l→Env w sent→i<l.length→i≤e→e≤l.length→d≤100→Hid (k7 l f i e d word last=some r) →
  Calls Tryz.prog 50 #[v,.int .i64 i,.int .i64 e,.int .i64 d,.bool word,.bool last] w (kH w sent r):=by
 induction f using Nat.strongRecOn with
 | _ f ih =>
  intro w v i e d word last r hN hE hi hie he hd hr;have IH:=LB ih;clear ih;have hnum:=F.num
  obtain⟨f,rfl⟩:∃ q,f=q+1:=by
   cases f with
   | zero=>have:=hr.out;rw[k7] at this;cases this
   | succ q=>exact⟨q,rfl⟩
  have HR:=LB hr.out;rw[k7] at HR;clear hr;obtain⟨x,hx⟩:∃ x,cE l i=x:=⟨_,rfl⟩;have HNX:=LB hx;have hget:=tR hi;have htx:=F.text i;have hkk:=F.k i;have hsz:=F.size i;rw[hx] at HR hget htx hkk hsz;have HN:=LB hN;have HE:=LB hE;obtain⟨g,cap,hv,h1,h2,h3,h4,h5⟩:=hN;have hcells:=lU.facts2 h5 hget;obtain⟨n0,n1,n2,n3,n4⟩:=hcells;subst hv;have HRW:=LB h5;generalize hln:l.length=ln at *;have HLN:=LB hln;clear hx hget h5 hln hE
  have HR2:=LB (show (if kS x word=false∨dQ x=false∨bJ x=false∨x.size<1∨((e:Int) - i)<x.size∨(last=true∧x.size≠(e:Int) - i) then some (some (110,i))
   else if x.k=0∧x.size≠1 then some (some (110,i))
   else if fS l (x.size.toNat - 1) x.k (i+1) (i+x.size.toNat)=false then some (some (110,i))
   else if 30<d then some (some (102,i))
   else i7 l f 0 (i+1) (i+x.size.toNat) (d+1) x)=some r from HR.out)
  clear HR;have hb0:=(Below.refl w.heap.size w).alloc (Nat.le_refl _) (.cells #[.int .i64 x.kind,.int .i64 x.n,.int .i64 x.k,.int .i64 x.size,.string (bs x.text)] 62);have hB0:=Blk.new w [Value.int .i64 x.kind,.int .i64 x.n,.int .i64 x.k,.int .i64 x.size,.string (bs x.text)] 62;go_enter Tryz.func50,Tryz.ntmps50
  go_upto_region 2 with fail
  obtain⟨w1,hw1⟩:∃ w1,w.alloc (.cells #[.int .i64 x.kind,.int .i64 x.n,.int .i64 x.k,.int .i64 x.size,.string (bs x.text)] 62)=w1:=⟨_,rfl⟩;have hB1:Blk w1 w.heap.size [Value.int .i64 x.kind,.int .i64 x.n,.int .i64 x.k,.int .i64 x.size,.string (bs x.text)]:=by rw[← hw1];exact hB0
  rw[hw1] at hb0 ⊢;have hbl:=hB1.lt;obtain⟨tb,htb⟩:∃ tb,w.heap.size=tb:=⟨_,rfl⟩;rw[htb] at hB1 hbl ⊢;clear hw1 hB0 n0 n1 n2 n3 n4;go_cut [14] (fun s14 w2=>s14 = .bool (kS x word)∧Below w1.heap.size w1 w2)
  case first =>
   have c0:=hB1.cell 0 rfl
   cases word with
   | true =>
    go_wp2_with fail
    refine (IM x.kind _).mono ?_;rintro ee w2 ⟨rfl,rfl⟩
    cases q0:rQ x.kind with
    | true =>
     go_wp2_with fail
     go_meet
     case rel=>exact⟨by simp [kS,q0],Below.refl _ _⟩
    | false =>
     go_wp2_with fail
     go_meet
     case rel=>exact⟨by simp [kS,q0],Below.refl _ _⟩
   | false =>
    go_wp2_with fail
    refine (Ex x.kind _).mono ?_;rintro ee w2 ⟨rfl,rfl⟩
    cases q0:qW x.kind with
    | true =>
     go_wp2_with fail
     go_meet
     case rel=>exact⟨by simp [kS,q0],Below.refl _ _⟩
    | false =>
     go_wp2_with fail
     go_meet
     case rel=>exact⟨by simp [kS,q0],Below.refl _ _⟩
  case rest =>
   rename World=>w2
   obtain⟨rfl,hb1⟩:=hcut;have hb2:=aD hb0 hb1;obtain⟨kb,hkb⟩:∃ kb,kS x word=kb:=⟨_,rfl⟩;rw[hkb] at HR2 ⊢;clear hkb;have hB2:=hB1.below hb1;clear hB1 hb0 hb1;have hw1:IntKind.i64.wrap ((e:Int) - i)=(e:Int) - i:=by rw[IntKind.wrap_i64];omega
   go_upto_region 3 with fail
   go_cut [73] (fun s73 w4=>s73 = .bool (decide (kb=false∨dQ x=false∨bJ x=false∨x.size<1∨((e:Int) - i)<x.size∨(last=true∧x.size≠(e:Int) - i)))∧Below w2.heap.size w2 w4)
   case first =>
    cases kb with
    | false =>
     have tc0:=hB2.cell 0 rfl;have tc1:=hB2.cell 1 rfl;have tc2:=hB2.cell 2 rfl;have tc3:=hB2.cell 3 rfl;have tc4:=hB2.cell 4 rfl;have tf0:=hB2.free 0;have tf1:=hB2.free 1;have tf2:=hB2.free 2;have tf3:=hB2.free 3;have tf4:=hB2.free 4;go_wp2_with fail
     go_meet
     case rel=>exact⟨by simp,Below.refl _ _⟩
    | true =>
     have tc0:=hB2.cell 0 rfl;have tc1:=hB2.cell 1 rfl;have tc2:=hB2.cell 2 rfl;have tc3:=hB2.cell 3 rfl;have tc4:=hB2.cell 4 rfl;have tf0:=hB2.free 0;have tf1:=hB2.free 1;have tf2:=hB2.free 2;have tf3:=hB2.free 3;have tf4:=hB2.free 4;go_wp2_with fail
     refine (F2 x _ htx).mono ?_;rintro ee w3 ⟨rfl,hb3⟩;have hB3:=hB2.below hb3;clear tc0 tc1 tc2 tc3 tc4 tf0 tf1 tf2 tf3 tf4
     cases q2:dQ x with
     | false =>
      have tc0:=hB3.cell 0 rfl;have tc1:=hB3.cell 1 rfl;have tc2:=hB3.cell 2 rfl;have tc3:=hB3.cell 3 rfl;have tc4:=hB3.cell 4 rfl;have tf0:=hB3.free 0;have tf1:=hB3.free 1;have tf2:=hB3.free 2;have tf3:=hB3.free 3;have tf4:=hB3.free 4;go_wp2_with fail
      go_meet
      case rel=>exact⟨by simp [q2],hb3⟩
     | true =>
      have tc0:=hB3.cell 0 rfl;have tc1:=hB3.cell 1 rfl;have tc2:=hB3.cell 2 rfl;have tc3:=hB3.cell 3 rfl;have tc4:=hB3.cell 4 rfl;have tf0:=hB3.free 0;have tf1:=hB3.free 1;have tf2:=hB3.free 2;have tf3:=hB3.free 3;have tf4:=hB3.free 4;go_wp2_with fail
      refine (D0 x _).mono ?_;rintro ee w4 ⟨rfl,hb4⟩;have hB4:=hB3.below hb4;have hb4:=aD hb3 hb4;clear tc0 tc1 tc2 tc3 tc4 tf0 tf1 tf2 tf3 tf4
      cases q3:bJ x with
      | false =>
       have tc0:=hB4.cell 0 rfl;have tc1:=hB4.cell 1 rfl;have tc2:=hB4.cell 2 rfl;have tc3:=hB4.cell 3 rfl;have tc4:=hB4.cell 4 rfl;have tf0:=hB4.free 0;have tf1:=hB4.free 1;have tf2:=hB4.free 2;have tf3:=hB4.free 3;have tf4:=hB4.free 4;go_wp2_with fail
       go_meet
       case rel=>exact⟨by simp [q2,q3],hb4⟩
      | true =>
       have tc0:=hB4.cell 0 rfl;have tc1:=hB4.cell 1 rfl;have tc2:=hB4.cell 2 rfl;have tc3:=hB4.cell 3 rfl;have tc4:=hB4.cell 4 rfl;have tf0:=hB4.free 0;have tf1:=hB4.free 1;have tf2:=hB4.free 2;have tf3:=hB4.free 3;have tf4:=hB4.free 4
       by_cases q4:x.size<1
       ·go_wp2_with fail
        go_meet
        case rel=>exact⟨by simp [q4],hb4⟩
       ·by_cases q5:(e:Int) - i<x.size
        ·go_wp2_with fail
         go_meet
         case rel=>exact⟨by simp [q5],hb4⟩
        ·cases last with
         | false =>
          go_wp2_with fail
          go_meet
          case rel=>exact⟨by simp [q2,q3],hb4⟩
         | true =>
          by_cases q6:x.size=(e:Int) - i
          ·go_wp2_with fail
           go_meet
           case rel=>exact⟨by simp [q2,q3,q6],hb4⟩
          ·go_wp2_with fail
           go_meet
           case rel=>exact⟨by simp [q2,q3,q6],hb4⟩
   case rest =>
    rename World=>w4
    obtain⟨rfl,hb4⟩:=hcut;have hB4:=hB2.below hb4;have hb4:=aD hb2 hb4;clear hB2 hb2
    by_cases hP:(kb=false∨dQ x=false∨bJ x=false∨x.size<1∨((e:Int) - i)<x.size∨(last=true∧x.size≠(e:Int) - i))
    ·rw[decide_eq_true hP]
     have HX:=LB (show r=some (110,i) from by
      have h:=HR2.out;rw[if_pos (hP)] at h;exact (Option.some.inj h).symm)
     clear HR2;have he9:=(HE.out.below hb4) 110 7 (by simp [cC])
     have hsz9:=(hb4).size;have tc0:=hB4.cell 0 rfl;have tc1:=hB4.cell 1 rfl;have tc2:=hB4.cell 2 rfl;have tc3:=hB4.cell 3 rfl;have tc4:=hB4.cell 4 rfl;have tf0:=hB4.free 0;have tf1:=hB4.free 1;have tf2:=hB4.free 2;have tf3:=hB4.free 3;have tf4:=hB4.free 4;go_wp2_with fail
     refine (t8 i (sent 110) sent 110 rfl _).mono ?_;rintro ee w9 ⟨eb,rfl,hE9,hl9,hb9⟩;go_wp2_with fail
     go_ret;exact kH.bad HX.out rfl hE9 (by omega) (aD hb4 hb9)
    ·rw[decide_eq_false hP]
     have HR3:=LB (show (if x.k=0∧x.size≠1 then some (some (110,i))
       else if fS l (x.size.toNat - 1) x.k (i+1) (i+x.size.toNat)=false then some (some (110,i))
       else if 30<d then some (some (102,i))
       else i7 l f 0 (i+1) (i+x.size.toNat) (d+1) x)=some r from by
        have h:=HR2.out;rwa [if_neg hP] at h)
     have q4:¬ x.size<1:=fun h=>hP (.inr (.inr (.inr (.inl h))))
     have q5:¬ (e:Int) - i<x.size:=fun h=>hP (.inr (.inr (.inr (.inr (.inl h)))))
     obtain⟨sz,hszz⟩:∃ sz:Nat,x.size=(sz:Int):=⟨x.size.toNat,by omega⟩
     have htn:x.size.toNat=sz:=by omega
     rw[htn] at HR3
     have HR4:=LB (show (if x.k=0∧sz≠1 then some (some (110,i))
       else if fS l (sz - 1) x.k (i+1) (i+sz)=false then some (some (110,i))
       else if 30<d then some (some (102,i))
       else i7 l f 0 (i+1) (i+sz) (d+1) x)=some r from by
        have h:=HR3.out;have e9:(x.k=0∧x.size≠1) ↔ (x.k=0∧sz≠1):=by omega
        simp only[e9] at h;exact h)
     rw[hszz] at hB4 q4 q5;obtain⟨E,hEE⟩:∃ E,i+sz=E:=⟨_,rfl⟩;have hEI:(i:Int)+(sz:Int)=(E:Int):=by omega
     rw[hEE] at HR4;have HSZ:=LB hszz;clear HR2 HR3 hP hszz htn;have hw2:IntKind.i64.wrap ((i:Int)+sz)=(i:Int)+sz:=by rw[IntKind.wrap_i64];omega
     have hw3:IntKind.i64.wrap ((i:Int)+1)=(i:Int)+1:=by rw[IntKind.wrap_i64];omega
     obtain⟨t0,t1,t2,t3,t4⟩:w4.cell? ⟨tb,0,none⟩=some (.int .i64 x.kind)∧w4.cell? ⟨tb,1,none⟩=some (.int .i64 x.n)∧w4.cell? ⟨tb,2,none⟩=some (.int .i64 x.k)∧w4.cell? ⟨tb,3,none⟩=some (.int .i64 sz)∧w4.cell? ⟨tb,4,none⟩=some (.string (bs x.text)):=⟨hB4.cell 0 rfl,hB4.cell 1 rfl,hB4.cell 2 rfl,hB4.cell 3 rfl,hB4.cell 4 rfl⟩;go_upto_region 6 with fail
     go_cut [88] (fun s88 w5=>s88 = .bool (decide (x.k=0∧sz≠1))∧w5=w4)
     case first =>
      by_cases k0:x.k=0
      ·rw[k0] at t2;have k1:((sz:Int)==1)=decide (sz=1):=by rw[gP];simp;omega
       by_cases s1:sz=1
       ·subst s1;go_wp2_with fail
        go_meet
        case rel=>exact⟨by simp,rfl⟩
       ·have s2:((sz:Int)==1)=false:=by rw[beq_eq_false_iff_ne];omega
        go_wp2_with fail
        go_meet
        case rel=>exact⟨by first | (simp [k0,s1];done) | (simp [k0,s1];omega),rfl⟩
      ·have k1:(x.k==0)=false:=by rw[beq_eq_false_iff_ne];exact k0
       go_wp2_with fail
       go_meet
       case rel=>exact⟨by simp [k0],rfl⟩
     case rest =>
      obtain⟨rfl,rfl⟩:=hcut
      by_cases hP:x.k=0∧sz≠1
      ·rw[decide_eq_true hP]
       have HX:=LB (show r=some (110,i) from by
        have h:=HR4.out;rw[if_pos hP] at h;exact (Option.some.inj h).symm)
       clear HR4 hP;have he9:=(HE.out.below hb4) 110 7 (by simp [cC])
       have hsz9:=hb4.size;go_wp2_with fail
       refine (t8 i (sent 110) sent 110 rfl _).mono ?_;rintro ee w9 ⟨eb,rfl,hE9,hl9,hb9⟩;go_wp2_with fail
       go_ret;exact kH.bad HX.out rfl hE9 (by omega) (aD hb4 hb9)
      ·rw[decide_eq_false hP]
       have HR5:=LB (show (if fS l (sz - 1) x.k (i+1) E=false then some (some (110,i))
        else if 30<d then some (some (102,i))
        else i7 l f 0 (i+1) E (d+1) x)=some r from by
         have h:=HR4.out;rwa [if_neg hP] at h)
       clear HR4 hP;obtain⟨F0,hF0⟩:∃ F0,fS l (sz - 1) x.k (i+1) E=F0:=⟨_,rfl⟩;rw[hF0] at HR5;have HF0:=LB hF0;clear hF0;go_upto_block 0 with fail
       go_cut [15,16] (fun s15 s16 w5=>w5=wc∧F0=true)
       case first =>
        go_wp2_with fail
        go_loopg [15,16] (sz - 1) (fun m s15 s16 wr=>∃ (fu kk c:Nat),m=fu∧s15 = .int .i64 c∧s16 = .int .i64 kk∧wr=wc∧c≤E∧kk≤c∧E≤c+fu∧Hid (fS l fu (x.k - kk) c E=F0))
        case atStart=>exact⟨_,0,i+1,rfl,by simp,rfl,rfl,by omega,by omega,by omega,LB (by simpa using HF0.out)⟩
        case round =>
         obtain⟨fu,kk,c,hm,rfl,rfl,rfl,hc1,hc2,hc3,hF⟩:=hrel;obtain rfl:=hm.symm;have hcE:(kk:Int)≤c:=by omega
         by_cases hl:(kk:Int)<x.k
         ·by_cases hc:E≤c
          ·have HX:=LB (show r=some (110,i) from by
            have h1:F0=false:=by
             rw[← hF.out]
             cases fu with
             | zero=>rw[fS];simp;omega
             | succ fu=>rw[fS,if_neg (by omega),if_pos hc]
            have h:=HR5.out;rw[if_pos h1] at h;exact (Option.some.inj h).symm)
           clear hF HR5;have he9:=(HE.out.below hb4) 110 7 (by simp [cC])
           have hsz9:=hb4.size;go_wp2_with fail
           refine (t8 i (sent 110) sent 110 rfl _).mono ?_;rintro ee w9 ⟨eb,rfl,hE9,hl9,hb9⟩;go_wp2_with fail
           go_ret;exact kH.bad HX.out rfl hE9 (by omega) (aD hb4 hb9)
          ·obtain⟨fu,rfl⟩:∃ q,fu=q+1:=⟨fu - 1,by omega⟩
           have hF2:=LB (show (if (cE l c).size<1∨((E:Int) - c)<(cE l c).size then true else fS l fu (x.k - kk - 1) (c+(cE l c).size.toNat) E)=F0 from by
            have h:=hF.out;rw[fS,if_neg (by omega),if_neg hc] at h
            exact h)
           have hcl:c<l.length:=by have:=HLN.out;omega
           obtain⟨-,-,-,p3,-⟩:=lU.facts2 HRW.out (tR hcl);have p3:=aG hb4 p3;have hys:=F.size c;obtain⟨y,hy⟩:∃ y,(cE l c).size=y:=⟨_,rfl⟩;rw[hy] at p3 hys hF2;clear hy hF;have hwE:IntKind.i64.wrap ((E:Int) - c)=(E:Int) - c:=by rw[IntKind.wrap_i64];omega
           by_cases b1:y<1
           ·have h1:F0=true:=by
             have h:=hF2.out;rw[if_pos (.inl b1)] at h;exact h.symm
            go_wp2_with fail
            go_meet
            case rel=>exact⟨rfl,h1⟩
           ·by_cases b2:(E:Int) - c<y
            ·have h1:F0=true:=by
              have h:=hF2.out;rw[if_pos (.inr b2)] at h;exact h.symm
             go_wp2_with fail
             go_meet
             case rel=>exact⟨rfl,h1⟩
            ·obtain⟨yn,rfl⟩:∃ q:Nat,y=(q:Int):=⟨y.toNat,by omega⟩
             have hF3:=LB (show fS l fu (x.k - kk - 1) (c+yn) E=F0 from by
              have h:=hF2.out;rw[if_neg (fun hh=>hh.elim b1 b2),Int.toNat_natCast] at h
              exact h)
             have hwc:IntKind.i64.wrap ((c:Int)+yn)=(c:Int)+yn:=by rw[IntKind.wrap_i64];omega
             have hwk:IntKind.i64.wrap ((kk:Int)+1)=(kk:Int)+1:=by rw[IntKind.wrap_i64];omega
             clear hF2;go_wp2_with fail
             go_roundg fu
             case measure=>omega
             case rel=>exact⟨fu,kk+1,c+yn,rfl,by simp,by simp,rfl,by omega,by omega,by omega,LB (by rw[← hF3.out];congr 1;omega)⟩
         ·have h1:F0=true:=by
           rw[← hF.out]
           cases fu with
           | zero=>rw[fS];simp;omega
           | succ fu=>rw[fS,if_pos (by omega)]
          go_wp2_with fail
          go_meet
          case rel=>exact⟨rfl,h1⟩
       case rest =>
        rename World=>w5
        obtain⟨rfl,rfl⟩:=hcut
        have HR6:=LB (show (if 30<d then some (some (102,i)) else i7 l f 0 (i+1) E (d+1) x)=some r from by
         have h:=HR5.out;rwa [if_neg (by simp)] at h)
        clear HR5
        by_cases hdd:30<d
        ·have hd2:(30:Int)<d:=by omega
         have HX:=LB (show r=some (102,i) from by
          have h:=HR6.out;rw[if_pos hdd] at h;exact (Option.some.inj h).symm)
         clear HR6 HF0;have he9:=(HE.out.below hb4) 102 1 (by simp [cC])
         have hsz9:=hb4.size;go_wp2_with fail
         refine (t8 i (sent 102) sent 102 rfl _).mono ?_;rintro ee w9 ⟨eb,rfl,hE9,hl9,hb9⟩;go_wp2_with fail
         go_ret;exact kH.bad HX.out rfl hE9 (by omega) (aD hb4 hb9)
        ·have hd2:¬ (30:Int)<d:=by omega
         have HR7:=LB (show i7 l f 0 (i+1) E (d+1) x=some r from by
          have h:=HR6.out;rwa [if_neg hdd] at h)
         clear HR6 hdd;have hwd:IntKind.i64.wrap ((d:Int)+1)=(d:Int)+1:=by rw[IntKind.wrap_i64];omega
         go_wp2_with fail
         go_loopg [15,17,18,139] f (fun m s15 s17 s18 s139 wr=>∃ (fk kk c fu:Nat),m=fk∧s15 = .int .i64 c∧s139 = .int .i64 kk∧Below w.heap.size w wr∧Blk wr tb [.int .i64 x.kind,.int .i64 x.n,.int .i64 x.k,.int .i64 sz,.string (bs x.text)]∧c≤E∧kk≤c∧E≤c+fu∧fk≤f∧Hid (i7 l fk kk c E (d+1) x=some r)∧Hid (fS l fu (x.k - kk) c E=true))
         case atStart=>exact⟨f,0,i+1,sz - 1,rfl,by simp,rfl,hb4,hB4,by omega,by omega,by omega,Nat.le_refl _,HR7,LB (by simpa using HF0.out)⟩
         case round =>
          clear hb4 hB4 t0 t1 t2 t3 t4 HR7 HF0;obtain⟨fk,kk,c,fu,hm,rfl,rfl,hb4,hB4,hc1,hc2,hc3,hfk,hr,hF⟩:=hrel;obtain rfl:=hm.symm
          obtain⟨fk,rfl⟩:∃ q,fk=q+1:=by
           cases fk with
           | zero=>have:=hr.out;rw[i7] at this;cases this
           | succ q=>exact⟨q,rfl⟩
          have HK:=LB hr.out;rw[i7] at HK;clear hr
          by_cases hl:x.k≤kk
          ·rw[if_pos hl] at HK;have HX:=LB (show r=none from (Option.some.inj HK.out).symm)
           clear HK;go_wp2_with fail
           go_ret;exact kH.ok HX.out rfl hb4
          ·rw[if_neg hl] at HK
           obtain⟨fu,rfl⟩:∃ q,fu=q+1:=by
            cases fu with
            | zero=>have:=hF.out;rw[fS] at this;simp at this;omega
            | succ q=>exact⟨q,rfl⟩
           have hcE:c<E:=by
            have h:=hF.out;rw[fS,if_neg (by omega)] at h
            by_cases h9:E≤c
            ·rw[if_pos h9] at h;cases h
            ·omega
           cases hq:k7 l fk c E (d+1) (cQ x.kind x.k kk) (decide ((kk:Int)=x.k - 1)) with
           | none =>
            rw[hq] at HK
            cases HK.out
           | some rc =>
            rw[hq] at HK;have hcl:c<l.length:=by have:=HLN.out;omega
            obtain⟨tk,htk⟩:∃ tk,cQ x.kind x.k kk=tk:=⟨_,rfl⟩;have HT:=LB (fun (w9:World)=>GW x kk w9 (by omega))
            rw[htk] at hq HT;rw[HSZ.out] at HT;have HD:=LB (fun (w9:World) (hb9:Below w.heap.size w w9)=>IH.out fk (by omega) w9 _ c E (d+1) tk _ rc (HN.out.below hb9) (HE.out.below hb9) (by have:=HLN.out;omega) (by omega) (by have:=HLN.out;omega) (by omega) (LB hq))
            rw[show ((d+1:Nat):Int)=(d:Int)+1 by omega,← gP] at HD
            obtain⟨t0,t1,t2,t3,t4⟩:wr.cell? ⟨tb,0,none⟩=some (.int .i64 x.kind)∧wr.cell? ⟨tb,1,none⟩=some (.int .i64 x.n)∧wr.cell? ⟨tb,2,none⟩=some (.int .i64 x.k)∧wr.cell? ⟨tb,3,none⟩=some (.int .i64 sz)∧wr.cell? ⟨tb,4,none⟩=some (.string (bs x.text)):=⟨hB4.cell 0 rfl,hB4.cell 1 rfl,hB4.cell 2 rfl,hB4.cell 3 rfl,hB4.cell 4 rfl⟩;have hwx:IntKind.i64.wrap (x.k - 1)=x.k - 1:=by rw[IntKind.wrap_i64];omega
            clear htk;go_wp2_with fail
            go_region_held3 (fun w'=>w'.cell? ⟨tb,0,none⟩=some (.int .i64 x.kind)∧w'.cell? ⟨tb,1,none⟩=some (.int .i64 x.n)∧w'.cell? ⟨tb,2,none⟩=some (.int .i64 x.k)∧w'.cell? ⟨tb,3,none⟩=some (.int .i64 sz)∧w'.cell? ⟨tb,4,none⟩=some (.string (bs x.text))) (first | exact⟨aG hb5 t0,aG hb5 t1,aG hb5 t2,aG hb5 t3,aG hb5 t4⟩ | exact⟨aG hb7 t0,aG hb7 t1,aG hb7 t2,aG hb7 t3,aG hb7 t4⟩ | go_keep)
             (first
              | (go_at_call 106;(with_reducible refine (HT.out _).mono ?_);rintro ee w5 ⟨rfl,hb5⟩;have hb6:=aD hb4.drew hb5)
              | (go_at_call 50;(with_reducible refine (HD.out _ hb6).mono ?_);rintro ee w6 hlo;obtain⟨v6,rfl,hv6⟩:=hlo.form;have hb7:=aD hb5 hv6.1))
            have hB6:=hB4.drew.below hb7;have hb8:=aD hb6 hv6.1;have hsz8:=hb6.size;clear hb5 hb6 hb7 hB4 t0 t1 t2 t3 t4 HT HD
            cases rc with
            | none =>
             obtain⟨-,hv⟩:=hv6;injection hv with hv
             subst hv;obtain⟨y1,y2⟩:=Ii hq;have HK2:=LB (show i7 l fk (kk+1) (c+(cE l c).size.toNat) E (d+1) x=some r from HK.out)
             have hF2:=LB (show fS l fu (x.k - kk - 1) (c+(cE l c).size.toNat) E=true from by
              have h:=hF.out;rw[fS,if_neg (by omega),if_neg (by omega),if_neg (by omega)] at h
              exact h)
             obtain⟨-,-,-,p3,-⟩:=lU.facts2 HRW.out (tR hcl);have p3:=aG hb8 p3;obtain⟨y,hy⟩:∃ y,(cE l c).size=y:=⟨_,rfl⟩;rw[hy] at p3 hF2 HK2 y1 y2;obtain⟨yn,rfl⟩:∃ q:Nat,y=(q:Int):=⟨y.toNat,by omega⟩
             rw[Int.toNat_natCast] at hF2 HK2;have hwc:IntKind.i64.wrap ((c:Int)+yn)=(c:Int)+yn:=by rw[IntKind.wrap_i64];omega
             have hwk:IntKind.i64.wrap ((kk:Int)+1)=(kk:Int)+1:=by rw[IntKind.wrap_i64];omega
             have hcE2:(c:Int)<ln:=by have:=HLN.out;omega
             clear hy hq hF HK;go_wp2_with fail
             go_roundg fk
             case measure=>omega
             case rel=>exact⟨fk,kk+1,c+yn,fu,rfl,by simp,by simp,hb8,hB6,by omega,by omega,by omega,by omega,HK2,LB (by rw[← hF2.out];congr 1;omega)⟩
            | some q =>
             obtain⟨cc,pp⟩:=q;have HX:=LB (show r=some (cc,pp) from (Option.some.inj HK.out).symm)
             obtain⟨-,eb,hv,hE9,hl9⟩:=hv6;injection hv with hv
             subst hv;clear hq hF HK;go_wp2_with fail
             go_ret;exact kH.bad HX.out rfl hE9 (by omega) hb8
def Lo (w:World) (sent:Nat→Addr) (r:Option (Nat×Option Nat)) (e:Ending) (w':World):Prop :=
 Below w.heap.size w w'∧match r with
 | none=>e = .returned .nilIface
 | some (c,none)=>e = .returned (.iface 287 (.pointer (some (sent c))))
 | some (c,some p)=>∃ eb,e = .returned (.iface 58 (.pointer (some ⟨eb,0,none⟩)))∧bG w' eb sent c p∧w.heap.size≤eb
theorem nX (l:aA)(F:o8 l)(sent:Nat→Addr)(b:Nat)(w:World)(v:Value)(hN:NSl w b v l)(hl:0<l.length)(hE:Env w sent)(h0:dA l≠some (0,none)) :
  Calls Tryz.prog 26 #[v] w (Lo w sent (dA l)):=by
 have hnum:=F.num;have HN:=LB hN;obtain⟨g,cap,rfl,-⟩:=hN;obtain⟨r,hr⟩:∃ r,dA l=r:=⟨_,rfl⟩;rw[hr] at h0 ⊢;unfold dA at hr;obtain⟨n,hn⟩:∃ n,l.length=n:=⟨_,rfl⟩
 by_cases h3:3000<l.length
 ·rw[if_pos (.inr h3)] at hr;subst hr;have he:=hE 111 4 (by simp [cC])
  rw[hn] at h3 hl ⊢;have e1:((n:Int)==0)=false:=by rw[beq_eq_false_iff_ne];omega
  go_enter Tryz.func26,Tryz.ntmps26
  go_wp2
  go_ret;exact⟨Below.refl _ _,rfl⟩
 ·rw[if_neg (by omega)] at hr
  cases hq:k7 l (3 * l.length) 0 l.length 1 false true with
  | none =>
   rw[hq] at hr;subst hr;exact absurd rfl h0
  | some rc =>
   rw[hq] at hr;have HL:=LB (Hd l F sent b (3 * l.length) w _ 0 l.length 1 false true rc HN.out hE hl (by omega) (Nat.le_refl _) (by omega) (LB hq))
   have HR:=LB hr;rw[hn] at HL h3 hl ⊢;clear hq hr hn;have e1:((n:Int)==0)=false:=by rw[beq_eq_false_iff_ne];omega
   go_enter Tryz.func26,Tryz.ntmps26
   go_wp2_with fail
   refine HL.out.mono ?_;rintro e w1 hlo;obtain⟨hb,hc⟩:=hlo
   cases rc with
   | none =>
    subst hc;go_wp2_with fail
    go_ret;rw[← HR.out];exact⟨hb,rfl⟩
   | some q =>
    obtain⟨c,p⟩:=q;obtain⟨eb,rfl,h5,h6⟩:=hc;go_wp2_with fail
    go_ret;rw[← HR.out];exact⟨hb,eb,rfl,h5,h6⟩
end Go.Proofs.YtnombfbpmmmoeaaGreatDoor
