/- Live text: its bytes, and whether it is closed. -/
import Derived.Test.YtbpjobmpacjgcaaGreatDoorGZC
import Derived.Deep.CutBlock
namespace Go.Proofs.YtbpjobmpacjgcaaGreatDoor
set_option maxHeartbeats 8000000
set_option maxRecDepth 100000
open Go Go.RowKit
abbrev kU:=UInt8×Bool×Nat
def zG (p:kU):List Value:=[.int .u8 p.1.toNat,.bool p.2.1,.int .i64 p.2.2]
theorem JW:(Tryz.prog.info? 176).map (fun i=>(i.zero,i.size,i.bytes))=some (some (.agg #[.int .u8 0,.bool false,.int .i64 0]),3,16):=by kernel_rfl
def kS (w:World) (B:Nat) (v:Value) (l:List kU):Prop:=w.ownsRow B 176 3 v l.length (l.flatMap zG)
theorem kS.form {w:World}{B:Nat}{v:Value}{l:List kU}(h:kS w B v l):∃ ao cap,v = .slice ao l.length cap:=by
 rcases h.2 with ⟨hv,h0⟩ | ⟨g,cap,cur,hv,_⟩
 ·exact⟨none,0,by rw[hv,h0]⟩
 ·exact⟨_,_,hv⟩
theorem GD (s:ByteArray)(i:Nat)(h:i<s.size)(hc:(bat s i).toNat≠92):bP i (s.data.toList.drop i)=((bat s i,false,i) :: (bP (i+1) (s.data.toList.drop (i+1))).1,(bP (i+1) (s.data.toList.drop (i+1))).2):=by
 rw[dN s i h]
 cases hd:s.data.toList.drop (i+1) with
 | nil=>simp [bP,hc]
 | cons d l=>simp only[bP];rw[if_neg hc]
theorem Hh (s:ByteArray)(i:Nat)(h:i+1=s.size)(hc:(bat s i).toNat=92):bP i (s.data.toList.drop i)=([(bat s i,true,i)],true):=by
 rw[dN s i (by omega),List.drop_eq_nil_of_le (by rw[size_eq];omega)]
 simp [bP,hc]
theorem I4 (s:ByteArray)(i:Nat)(h:i+1<s.size)(hc:(bat s i).toNat=92):bP i (s.data.toList.drop i)=((bat s (i+1),true,i) :: (bP (i+2) (s.data.toList.drop (i+2))).1,(bP (i+2) (s.data.toList.drop (i+2))).2):=by
 rw[dN s i (by omega),dN s (i+1) (by omega)]
 simp only[bP];rw[if_pos hc]
theorem GE (s:ByteArray)(i:Nat)(h:s.size≤i):bP i (s.data.toList.drop i)=([],false):=by
 rw[List.drop_eq_nil_of_le (by rw[size_eq];omega)]
 rfl
theorem AM (s:ByteArray)(w:World)(hs:s.size≤1000000) :
  Calls Tryz.prog 153 #[.string s] w fun e w'=>∃ v,e = .returned (.tuple #[v,.bool (bP 0 s.data.toList).2])∧kS w' w.heap.size v (bP 0 s.data.toList).1∧Below w.heap.size w w':=by
 obtain⟨k0,hk0,hk1,hk2,hk3⟩:=info_parts JW;obtain⟨P,hP⟩:∃ P,(bP 0 s.data.toList).1=P:=⟨_,rfl⟩;obtain⟨q,hq⟩:∃ q,(bP 0 s.data.toList).2=q:=⟨_,rfl⟩;have HP:=Ng hP;have HQ:=Ng hq;rw[hP,hq];clear hP hq;go_enter Tryz.func153,Tryz.ntmps153
 go_wp2_with fail
 go_loopg [4,5] (s.size+1) (fun m v c wr=>∃ (k:Nat) (D:List kU),m=s.size+1 - k∧k≤s.size∧c = .int .i64 k∧D.length≤k∧kS wr w.heap.size v D∧Below w.heap.size w wr∧Hid (D++(bP k (s.data.toList.drop k)).1=P)∧Hid ((bP k (s.data.toList.drop k)).2=q))
 case atStart=>exact⟨0,[],rfl,Nat.zero_le _,rfl,Nat.le_refl _,World.ownsRow_nil _ _ _ _,Below.refl _ _,Ng (by rw[List.drop_zero,List.nil_append];exact HP.out),Ng (by rw[List.drop_zero];exact HQ.out)⟩
 case round =>
  clear HP HQ;obtain⟨k,D,rfl,hk,rfl,hDk,hO,hb,HP,HQ⟩:=hrel;obtain⟨ao,acap,rfl⟩:=hO.form;have hsz:=hb.size
  by_cases hlt:k<s.size
  ·have hOA:∀ o,(wr.alloc o).ownsRow w.heap.size 176 3 _ D.length (D.flatMap zG):=fun o=>bM hO (aB.ofBelow (S:=bW) ((Below.refl _ wr).alloc (Nat.le_refl _) o)) (fun _ _ _ e=>e)
   have hlt4:=World.ownsRow.lt hO;have hge:=oL s k hlt
   by_cases hc:(bat s k).toNat=92
   ·have hc1:(((bat s k).toNat:Int) != 92)=false:=by rw[hc];rfl
    by_cases h1:k+1=s.size
    ·rw[Hh s k h1 hc] at HP HQ;have h2:(((k:Int)+1)==(s.size:Int))=true:=by rw[beq_iff_eq];omega
     rw[← hge] at hc1 HP;clear hc hge;go_wp2_with (at_builtin;refine wpList_append_own _ rfl _ _ 172 rfl w.heap.size 176 k0 _ 3 16 Tryz.underlying172 hk0 hk1 hk2 hk3 rfl (by decide) _ _ _ rfl (hOA _) ⟨wr.heap.size,0,none⟩ 1 1 [.int .u8 s[k].toNat,.bool true,.int .i64 k] rfl rfl (cL (by simp)) (by intro u hu;simp at hu;rcases hu with rfl | rfl | rfl <;> rfl) (by unfold maxLen;omega) (by omega) (by simp;omega) ?_;intro v' w5 hown' hgrow _)
     have hO5:kS w5 w.heap.size v' (D++[(s[k],true,k)]):=by
      unfold kS;rw[List.length_append,List.flatMap_append];exact hown'
     have hK5:aB (fun k'=>some k'=(Value.slice ao D.length acap).ownBlock) wr w5:=((aB.refl _ _).alloc _).grown hgrow (fun k' h _=>h.symm)
     have hb5:Below w.heap.size w w5:=hb.trans (hK5.below hb.size (fun i hi e=>by have:=hlt4 _ e.symm;omega))
     have HV:=Ng (show kS w5 w.heap.size v' P from by rw[← HP.out];exact hO5)
     have HB:=Ng hb5;have HT:=Ng (show true=q from HQ.out)
     go_wp2_with fail
     go_ret2;exact⟨_,by rw[← HT.out];rfl,HV.out,HB.out⟩
    ·rw[I4 s k (by omega) hc] at HP HQ
     have h2:(((k:Int)+1)==(s.size:Int))=false:=by rw[beq_eq_false_iff_ne];omega
     have hlt2:k+1<s.size:=by omega
     have hge2:=oL s (k+1) hlt2;have hw1:IntKind.i64.wrap ((k:Int)+1)=(k:Int)+1:=by rw[IntKind.wrap_i64];omega
     rw[← hge] at hc1;rw[← hge2] at HP;clear hc hge hge2 h1;go_wp2_with (at_builtin;refine wpList_append_own _ rfl _ _ 172 rfl w.heap.size 176 k0 _ 3 16 Tryz.underlying172 hk0 hk1 hk2 hk3 rfl (by decide) _ _ _ rfl (hOA _) ⟨wr.heap.size,0,none⟩ 1 1 [.int .u8 s[k+1].toNat,.bool true,.int .i64 k] rfl rfl (cL (by simp)) (by intro u hu;simp at hu;rcases hu with rfl | rfl | rfl <;> rfl) (by unfold maxLen;omega) (by omega) (by simp;omega) ?_;intro v' w5 hown' hgrow _)
     have hO5:kS w5 w.heap.size v' (D++[(s[k+1],true,k)]):=by
      unfold kS;rw[List.length_append,List.flatMap_append];exact hown'
     have hK5:aB (fun k'=>some k'=(Value.slice ao D.length acap).ownBlock) wr w5:=((aB.refl _ _).alloc _).grown hgrow (fun k' h _=>h.symm)
     have hb5:Below w.heap.size w w5:=hb.trans (hK5.below hb.size (fun i hi e=>by have:=hlt4 _ e.symm;omega))
     have HP2:=Ng (show (D++[(s[k+1],true,k)])++(bP (k+2) (s.data.toList.drop (k+2))).1=P from by rw[List.append_assoc];exact HP.out)
     clear HP;go_wp2_with fail
     go_roundg (s.size+1 - (k+2))
     case measure=>omega
     case rel=>exact⟨k+2,_,rfl,by omega,by go_num,by rw[List.length_append,List.length_cons,List.length_nil];omega,hO5,hb5,HP2,HQ⟩
   ·rw[GD s k hlt hc] at HP HQ;have hc1:(((bat s k).toNat:Int) != 92)=true:=by rw[bne_iff_ne];omega
    rw[← hge] at hc1 HP;clear hc hge;go_wp2_with (at_builtin;refine wpList_append_own _ rfl _ _ 172 rfl w.heap.size 176 k0 _ 3 16 Tryz.underlying172 hk0 hk1 hk2 hk3 rfl (by decide) _ _ _ rfl (hOA _) ⟨wr.heap.size,0,none⟩ 1 1 [.int .u8 s[k].toNat,.bool false,.int .i64 k] rfl rfl (cL (by simp)) (by intro u hu;simp at hu;rcases hu with rfl | rfl | rfl <;> rfl) (by unfold maxLen;omega) (by omega) (by simp;omega) ?_;intro v' w5 hown' hgrow _)
    have hO5:kS w5 w.heap.size v' (D++[(s[k],false,k)]):=by
     unfold kS;rw[List.length_append,List.flatMap_append];exact hown'
    have hK5:aB (fun k'=>some k'=(Value.slice ao D.length acap).ownBlock) wr w5:=((aB.refl _ _).alloc _).grown hgrow (fun k' h _=>h.symm)
    have hb5:Below w.heap.size w w5:=hb.trans (hK5.below hb.size (fun i hi e=>by have:=hlt4 _ e.symm;omega))
    have HP2:=Ng (show (D++[(s[k],false,k)])++(bP (k+1) (s.data.toList.drop (k+1))).1=P from by rw[List.append_assoc];exact HP.out)
    clear HP;go_wp2_with fail
    go_roundg (s.size+1 - (k+1))
    case measure=>omega
    case rel=>exact⟨k+1,_,rfl,by omega,by go_num,by rw[List.length_append,List.length_cons,List.length_nil];omega,hO5,hb5,HP2,HQ⟩
  ·rw[GE s k (by omega)] at HP HQ
   have HV:=Ng (show kS wr w.heap.size (.slice ao D.length acap) P from by rw[← HP.out,List.append_nil];exact hO)
   have HT:=Ng (show false=q from HQ.out)
   clear HP HQ hO;go_wp2_with fail
   go_ret2;exact⟨_,by rw[← HT.out];rfl,HV.out,hb⟩
theorem FG (s:ByteArray)(w:World)(hs:s.size≤1000000) :
  Calls Tryz.prog 119 #[.string s] w fun e w'=>e = .returned (.bool (d9 s.data.toList))∧Below w.heap.size w w':=by
 have HI:=Ng (show d9 s.data.toList=!(bP 0 s.data.toList).2 from rfl)
 go_enter Tryz.func119,Tryz.ntmps119
 go_wp2_with fail
 refine (AM s w hs).mono ?_;rintro e w1 ⟨v,rfl,hO,hb⟩;obtain⟨ao,cap,rfl⟩:=hO.form;go_wp2_with fail
 go_ret;exact⟨by rw[HI.out];rfl,hb⟩
theorem Le (c:UInt8)(w:World) :
  Calls Tryz.prog 186 #[.int .u8 c.toNat] w fun e w'=>e = .returned (.bool (c.toNat==32 || c.toNat==9 || c.toNat==10))∧w'=w:=by
 go_enter Tryz.func186,Tryz.ntmps186
 go_wp2
 all_goals go_ret
 all_goals exact⟨mY (by rw[Bool.eq_iff_iff];simp only[Bool.or_eq_true,beq_iff_eq,eq_self,true_iff];omega),rfl⟩
def Ak (c:UInt8):Bool:=[42,63,91,93,92,32,9,10].contains c.toNat
theorem Mh (c:UInt8):Ak c=(decide (0≤Lib.indexByte [42,63,91,93,92] c) || (c.toNat==32 || c.toNat==9 || c.toNat==10)):=by
 have h:∀ n:Fin 256,Ak (UInt8.ofNat n.val)=(decide (0≤Lib.indexByte [42,63,91,93,92] (UInt8.ofNat n.val)) || ((UInt8.ofNat n.val).toNat==32 || (UInt8.ofNat n.val).toNat==9 || (UInt8.ofNat n.val).toNat==10)):=by decide +kernel
 have h1:=h ⟨c.toNat,c.toNat_lt⟩;simpa using h1
theorem G6 (s:ByteArray)(i:Nat)(h:i<s.size):cC (s.data.toList.drop i)=(if Ak (bat s i)=true then [92,bat s i] else [bat s i])++cC (s.data.toList.drop (i+1)):=by
 rw[dN s i h,cC];rfl
theorem Io (s:ByteArray)(i:Nat)(h:s.size≤i):cC (s.data.toList.drop i)=[]:=by
 rw[List.drop_eq_nil_of_le (by rw[size_eq];omega)]
 rfl
theorem DI (b:Nat)(l:List UInt8)(w:World)(h:Bld w b l)(hlen:l.length≤100000000) :
  Calls Tryz.prog 146 #[.pointer (some ⟨b,0,none⟩),.int .u8 92] w fun e w'=>e = .returned .nilIface∧Bld w' b (l++[92])∧Below b w w':=by
 have h1:=Bld.writeByte b l 92 w h hlen;rw[show (((92:UInt8).toNat:Nat):Int)=92 by decide] at h1
 exact h1
theorem AY (s:ByteArray)(w:World)(hs:s.size≤1000000) :
  Calls Tryz.prog 254 #[.string s] w fun e w'=>e = .returned (.string (bs (cC s.data.toList)))∧Below w.heap.size w w':=by
 obtain⟨T,hT⟩:∃ T,cC s.data.toList=T:=⟨_,rfl⟩;have HT:=Ng hT;rw[hT];clear hT;go_enter Tryz.func254,Tryz.ntmps254
 go_wp2_with fail
 go_loopg [4,7] (s.size) (fun m v c wr=>∃ (k:Nat) (acc:List UInt8),m=s.size - k∧k≤s.size∧c = .int .i64 k∧acc.length≤2 * k∧Bld wr w.heap.size acc∧Below w.heap.size w wr∧Hid (acc++cC (s.data.toList.drop k)=T))
 case atStart=>exact⟨0,[],rfl,Nat.zero_le _,rfl,Nat.le_refl _,Bld.new w,(Below.refl _ _).alloc (Nat.le_refl _) _,Ng (by rw[List.drop_zero];exact HT.out)⟩
 case round =>
  clear HT;obtain⟨k,acc,rfl,hk,rfl,hacc,hO,hb,HT⟩:=hrel
  by_cases hlt:k<s.size
  ·have hge:=oL s k hlt;rw[G6 s k hlt,Mh] at HT;go_wp2_with fail
   refine (Tryz.strings_IndexByte _ _ _).mono ?_;rintro e w1 ⟨rfl,rfl⟩;have hu:((((bat s k).toNat:Nat):Int).toNat).toUInt8=bat s k:=by simp
   rw[hu];obtain⟨z,hz⟩:∃ z,Lib.indexByte [42,63,91,93,92] (bat s k)=z:=⟨_,rfl⟩;rw[show (Lib.indexByte (⟨#[42,63,91,93,92]⟩:ByteArray).data.toList (bat s k))=z from hz]
   rw[hz] at HT;clear hz
   by_cases h0:0≤z
   ·have HT2:=Ng (show acc++([92,bat s k]++cC (s.data.toList.drop (k+1)))=T by
     have:=HT.out
     rw[decide_eq_true h0,Bool.true_or,if_pos rfl] at this;exact this)
    have h1:decide ((0:Int)≤z)=true:=decide_eq_true h0;clear HT hu;go_wp2_with fail
    refine (DI w.heap.size acc _ hO (by omega)).mono ?_
    rintro e w4 ⟨rfl,hO4,hb4⟩;have hb5:=hb.trans hb4;clear hO hb hb4;go_wp2_with fail
    refine (Bld.writeByte w.heap.size (acc++[92]) (bat s k) w4 hO4 (by simp;omega)).mono ?_
    rintro e w5 ⟨rfl,hO5,hb6⟩;have hb7:=hb5.trans hb6;go_wp2_with fail
    go_roundg (s.size - (k+1))
    case measure=>omega
    case rel=>exact⟨k+1,_,rfl,by omega,by go_num,by simp;omega,hO5,hb7,Ng (by rw[← HT2.out];simp)⟩
   ·have h1:decide ((0:Int)≤z)=false:=decide_eq_false h0;clear hu;go_wp2_with fail
    refine (Le (bat s k) _).mono ?_;rintro e w2 ⟨rfl,rfl⟩
    cases hbl:((bat s k).toNat==32 || (bat s k).toNat==9 || (bat s k).toNat==10) with
    | true =>
     have HT2:=Ng (show acc++([92,bat s k]++cC (s.data.toList.drop (k+1)))=T by
      have:=HT.out
      rw[h1,hbl,Bool.false_or,if_pos rfl] at this;exact this)
     clear HT hbl;go_wp2_with fail
     refine (DI w.heap.size acc _ hO (by omega)).mono ?_
     rintro e w4 ⟨rfl,hO4,hb4⟩;have hb5:=hb.trans hb4;clear hO hb hb4;go_wp2_with fail
     refine (Bld.writeByte w.heap.size (acc++[92]) (bat s k) w4 hO4 (by simp;omega)).mono ?_
     rintro e w5 ⟨rfl,hO5,hb6⟩;have hb7:=hb5.trans hb6;go_wp2_with fail
     go_roundg (s.size - (k+1))
     case measure=>omega
     case rel=>exact⟨k+1,_,rfl,by omega,by go_num,by simp;omega,hO5,hb7,Ng (by rw[← HT2.out];simp)⟩
    | false =>
     have HT2:=Ng (show acc++([bat s k]++cC (s.data.toList.drop (k+1)))=T by
      have:=HT.out
      rw[h1,hbl,Bool.false_or,if_neg (by simp)] at this
      exact this)
     clear HT hbl;go_wp2_with fail
     refine (Bld.writeByte w.heap.size acc (bat s k) _ hO (by omega)).mono ?_
     rintro e w5 ⟨rfl,hO5,hb6⟩;have hb7:=hb.trans hb6;go_wp2_with fail
     go_roundg (s.size - (k+1))
     case measure=>omega
     case rel=>exact⟨k+1,_,rfl,by omega,by go_num,by simp;omega,hO5,hb7,Ng (by rw[← HT2.out];simp)⟩
  ·rw[Io s k (by omega),List.append_nil] at HT
   go_wp2_with fail
   refine (Bld.string _ acc wr hO).mono ?_;rintro e w2 ⟨rfl,hb2⟩;have hb3:=hb.trans hb2;go_wp2_with fail
   go_ret;exact⟨by rw[← HT.out];rfl,hb3⟩
theorem vH (c:UInt8)(dead:Bool)(n x:Nat)(w:World) :
  Calls Tryz.prog 154 #[.agg #[.int .u8 c.toNat,.bool dead,.int .i64 n],.int .u8 x] w fun e w'=>e = .returned (.bool (iR (c,dead,n) x))∧Below w.heap.size w w':=by
 obtain⟨r,hr⟩:∃ r,iR (c,dead,n) x=r:=⟨_,rfl⟩;have HR:=Ng hr;rw[hr];clear hr;have hB:=Blk.new w [Value.int .u8 c.toNat,.bool dead,.int .i64 n] 176;have hb:Below w.heap.size w (w.alloc (.cells #[Value.int .u8 c.toNat,.bool dead,.int .i64 n] 176)):=(Below.refl _ _).alloc (Nat.le_refl _) _
 by_cases hc:c.toNat=x
 ·have h1:((c.toNat:Int)==(x:Int))=true:=by rw[beq_iff_eq];omega
  have HX:=Ng (show (!dead)=r by rw[← HR.out];simp [iR,hc])
  clear hc;have tc0:=hB.cell 0 rfl;have tc1:=hB.cell 1 rfl;have tc2:=hB.cell 2 rfl;have tf0:=hB.free 0;have tf1:=hB.free 1;have tf2:=hB.free 2;go_enter Tryz.func154,Tryz.ntmps154
  go_wp2_with fail
  go_ret;exact⟨by rw[← HX.out];rfl,hb⟩
 ·have h1:((c.toNat:Int)==(x:Int))=false:=by rw[beq_eq_false_iff_ne];omega
  have HX:=Ng (show false=r by rw[← HR.out];simp [iR,hc])
  clear hc;have tc0:=hB.cell 0 rfl;have tc1:=hB.cell 1 rfl;have tc2:=hB.cell 2 rfl;have tf0:=hB.free 0;have tf1:=hB.free 1;have tf2:=hB.free 2;go_enter Tryz.func154,Tryz.ntmps154
  go_wp2_with fail
  go_ret;exact⟨by rw[← HX.out];rfl,hb⟩
def qB (w:World) (g:Nat) (l:List kU):Prop:=∀ (i:Nat) (p:kU),l[i]?=some p→w.cell? ⟨g,i * 3,none⟩=some (.int .u8 p.1.toNat)∧w.cell? ⟨g,i * 3+1,none⟩=some (.bool p.2.1)∧w.cell? ⟨g,i * 3+2,none⟩=some (.int .i64 p.2.2)
theorem qB.below {w w':World}{g:Nat}{l:List kU}(h:qB w g l)(hb:Below w.heap.size w w'):qB w' g l:=fun i p hp=>⟨aF hb (h i p hp).1,aF hb (h i p hp).2.1,aF hb (h i p hp).2.2⟩
theorem kS.row {w:World}{B:Nat}{v:Value}{l:List kU}(h:kS w B v l)(hl:0<l.length):∃ g cap,v = .slice (some ⟨g,0,none⟩) l.length cap∧l.length≤cap∧qB w g l:=by
 obtain⟨g,cap,h1,h2,_,_,_,h6⟩:=kE h hl;refine ⟨g,cap,h1,h2,fun i p hp=>?_⟩
 have hg:=fun j u hu=>h6 _ u (mZ zG 3 (fun _=>rfl) l i j p u hp hu)
 have h0:=hg 0 _ rfl;have h1:=hg 1 _ rfl;have h2:=hg 2 _ rfl;rw[Nat.mul_comm] at h0 h1 h2;exact⟨h0,h1,h2⟩
theorem xL:∀ (l:List UInt8)(i:Nat),(bP i l).1.length≤l.length
 | [],_=>Nat.le_refl _
 | [c],_=>by simp only[bP];split <;> simp
 | c :: d :: l,i=>by
  have h1:=xL l (i+2);have h2:=xL (d :: l) (i+1);simp only[bP];split
  ·simp only[List.length_cons];omega
  ·simp only[List.length_cons] at h2 ⊢;omega
def mD (l:List kU) (k:Nat):Bool:=(l.drop k).any fun p=>iR p 93
theorem FA (l:List kU)(k:Nat)(p:kU)(h:l[k]?=some p):mD l k=(iR p 93 || mD l (k+1)):=by
 obtain⟨hk,e⟩:=List.getElem?_eq_some_iff.1 h;unfold mD;rw[List.drop_eq_getElem_cons hk,e,List.any_cons]
theorem JZ (l:List kU)(g cap i:Nat)(w:World)(hi:i<l.length)(hn:l.length≤1000000)(_hc:l.length≤cap)(hR:qB w g l) :
  Calls Tryz.prog 155 #[.slice (some ⟨g,0,none⟩) l.length cap,.int .i64 i] w fun e w'=>∃ z:Int,e = .returned (.int .i64 z)∧decide (0<z)=mD l (i+2)∧Below w.heap.size w w':=by
 obtain⟨n,hN⟩:∃ n,l.length=n:=⟨_,rfl⟩;have HN:=Ng hN;rw[hN] at hi hn ⊢;clear hN;obtain⟨T,hT⟩:∃ T,mD l (i+2)=T:=⟨_,rfl⟩;have HT:=Ng hT;rw[hT];clear hT;go_enter Tryz.func155,Tryz.ntmps155
 go_wp2_with fail
 go_loopg [5] (n+2 - i) (fun m c wr=>∃ k:Nat,m=n+4 - k∧i+2≤k∧k≤n+2∧c = .int .i64 k∧Below w.heap.size w wr∧Hid (mD l k=T))
 case atStart=>exact⟨i+2,by omega,Nat.le_refl _,by omega,by go_num,Below.refl _ _,HT⟩
 case round =>
  clear HT;obtain⟨k,rfl,hk1,hk2,rfl,hb,HT⟩:=hrel
  by_cases hlt:k<n
  ·obtain⟨p,hp⟩:∃ p,l[k]?=some p:=⟨_,List.getElem?_eq_getElem (by have:=HN.out;omega)⟩
   obtain⟨x0,x1,x2⟩:=(hR.below hb) k p hp;obtain⟨pc,pd,pn⟩:=p;rw[FA l k _ hp] at HT;dsimp only at x0 x1 x2;go_wp2_with fail
   refine (vH pc pd pn 93 wr).mono ?_;rintro e w2 ⟨rfl,hb2⟩;have hb3:=aE hb hb2
   cases hx:iR (pc,pd,pn) 93 with
   | true =>
    rw[hx] at HT;have HX:=Ng (show true=T from HT.out)
    clear hx HT;go_wp2_with fail
    go_ret;exact⟨_,rfl,by rw[← HX.out];simp;omega,hb3⟩
   | false =>
    rw[hx,Bool.false_or] at HT;clear hx;go_wp2_with fail
    go_roundg (n+4 - (k+1))
    case measure=>omega
    case rel=>exact⟨k+1,rfl,by omega,by omega,by go_num,hb3,HT⟩
  ·have HX:=Ng (show false=T by
    rw[← HT.out,mD,List.drop_eq_nil_of_le (by have:=HN.out;omega)]
    rfl)
   go_wp2_with fail
   go_ret;exact⟨-1,rfl,by rw[← HX.out];rfl,hb⟩
theorem JS (l:List kU)(k:Nat)(p:kU)(h:l[k]?=some p):o6 (l.drop k)=(iR p 42 || iR p 63 || (iR p 91&&mD l (k+2)) || o6 (l.drop (k+1))):=by
 obtain⟨hk,e⟩:=List.getElem?_eq_some_iff.1 h;have hd:l.drop k=p :: l.drop (k+1):=by rw[List.drop_eq_getElem_cons hk,e]
 have hs:zM (p :: l.drop (k+1))=mD l (k+2):=by
  unfold zM mD;rw[← hd,List.drop_drop]
 rw[hd,o6,hs]
theorem IX (s:List UInt8)(w:World)(hs:s.length≤100000) :
  Calls Tryz.prog 107 #[.string (bs s)] w fun e w'=>e = .returned (.bool (oB s))∧Below w.heap.size w w':=by
 obtain⟨T,hT⟩:∃ T,oB s=T:=⟨_,rfl⟩;have HT:=Ng hT;rw[hT];clear hT;unfold oB at HT;have hpl:=xL s 0;go_enter Tryz.func107,Tryz.ntmps107
 go_wp2_with fail
 refine (AM (bs s) w (by rw[aY];omega)).mono ?_
 rw[bK];rintro e w1 ⟨v,rfl,hO,hb1⟩;obtain⟨l,hl⟩:∃ l,(bP 0 s).1=l:=⟨_,rfl⟩;rw[hl] at hO HT hpl;clear hl
 by_cases hz:0<l.length
 ·obtain⟨g,cap,rfl,hcap,hR⟩:=hO.row hz;obtain⟨n,hN⟩:∃ n,l.length=n:=⟨_,rfl⟩;have HN:=Ng hN;have HE:=Ng fun (w5:World) (k:Nat) (hk:k<n) (h5:qB w5 g l)=>JZ l g cap k w5 (by omega) (by omega) hcap h5
  rw[hN] at hcap hpl HE ⊢;clear hN hO hz;go_wp2_with fail
  go_loopg [5,6,14] n (fun m a c x wr=>∃ k:Nat,m=n - k∧k≤n∧x = .int .i64 k∧qB wr g l∧Below w.heap.size w wr∧Hid (o6 (l.drop k)=T))
  case atStart=>exact⟨0,rfl,Nat.zero_le _,rfl,hR,hb1,Ng (by rw[List.drop_zero];exact HT.out)⟩
  case round =>
   clear HT hR hb1;obtain⟨k,rfl,hk,rfl,hR,hb,HT⟩:=hrel
   by_cases hlt:k<n
   ·obtain⟨p,hp⟩:∃ p,l[k]?=some p:=⟨_,List.getElem?_eq_getElem (by have:=HN.out;omega)⟩
    obtain⟨x0,x1,x2⟩:=hR k p hp;rw[JS l k p hp] at HT;obtain⟨pc,pd,pn⟩:=p;dsimp only at x0 x1 x2;have hB:=Blk.new wr [Value.int .u8 pc.toNat,.bool pd,.int .i64 pn] 176;have hb2:=(Below.refl wr.heap.size wr).alloc (Nat.le_refl _) (.cells #[Value.int .u8 pc.toNat,.bool pd,.int .i64 pn] 176);have hR2:=hR.below hb2;have hb3:=aE hb hb2;clear hp hR hb;go_wp2_with fail
    refine (vH pc pd pn 42 _).mono ?_;rintro e w3 ⟨rfl,hb4⟩;have hB3:=hB.below hb4;have hR3:=hR2.below hb4;have hb5:=aE (aE hb3 (Below.refl _ _)) hb4
    cases h42:iR (pc,pd,pn) 42 with
    | true =>
     have HX:=Ng (show true=T by have:=HT.out;rw[h42] at this;simpa using this)
     clear h42 HT;go_wp2_with fail
     go_ret;exact⟨by rw[← HX.out];rfl,hb5⟩
    | false =>
     rw[h42,Bool.false_or] at HT;have tc0:=hB3.cell 0 rfl;have tc1:=hB3.cell 1 rfl;have tc2:=hB3.cell 2 rfl;have tf0:=hB3.free 0;have tf1:=hB3.free 1;have tf2:=hB3.free 2;clear hB hR2 h42;go_wp2_with fail
     refine (vH pc pd pn 63 _).mono ?_;rintro e w4 ⟨rfl,hb6⟩;have hB4:=hB3.below hb6;have hR4:=hR3.below hb6;have hb7:=aE hb5 hb6;clear tc0 tc1 tc2 tf0 tf1 tf2 hB3 hR3
     cases h63:iR (pc,pd,pn) 63 with
     | true =>
      have HX:=Ng (show true=T by have:=HT.out;rw[h63] at this;simpa using this)
      clear h63 HT;go_wp2_with fail
      go_ret;exact⟨by rw[← HX.out];rfl,hb7⟩
     | false =>
      rw[h63,Bool.false_or] at HT;have tc0:=hB4.cell 0 rfl;have tc1:=hB4.cell 1 rfl;have tc2:=hB4.cell 2 rfl;have tf0:=hB4.free 0;have tf1:=hB4.free 1;have tf2:=hB4.free 2;clear h63;go_wp2_with fail
      refine (vH pc pd pn 91 _).mono ?_;rintro e w5 ⟨rfl,hb8⟩;have hR5:=hR4.below hb8;have hb9:=aE hb7 hb8;clear tc0 tc1 tc2 tf0 tf1 tf2 hB4 hR4
      cases h91:iR (pc,pd,pn) 91 with
      | false =>
       rw[h91,Bool.false_and,Bool.false_or] at HT;clear h91;go_wp2_with fail
       go_roundg (n - (k+1))
       case measure=>omega
       case rel=>exact⟨k+1,rfl,by omega,by go_num,hR5,hb9,HT⟩
      | true =>
       rw[h91,Bool.true_and] at HT;clear h91;go_wp2_with fail
       refine (HE.out w5 k hlt hR5).mono ?_;rintro e w6 ⟨z,rfl,hz,hba⟩;have hR6:=hR5.below hba;have hbb:=aE hb9 hba
       cases he:mD l (k+2) with
       | true =>
        have HX:=Ng (show true=T by have:=HT.out;rw[he] at this;simpa using this)
        rw[he] at hz;clear he HT;go_wp2_with fail
        go_ret;exact⟨by rw[← HX.out];rfl,hbb⟩
       | false =>
        rw[he,Bool.false_or] at HT;rw[he] at hz;clear he;go_wp2_with fail
        go_roundg (n - (k+1))
        case measure=>omega
        case rel=>exact⟨k+1,rfl,by omega,by go_num,hR6,hbb,HT⟩
   ·have HX:=Ng (show false=T by
     rw[← HT.out,List.drop_eq_nil_of_le (by have:=HN.out;omega)]
     rfl)
    go_wp2_with fail
    go_ret;exact⟨by rw[← HX.out];rfl,hb⟩
 ·obtain⟨ao,cap,rfl⟩:=hO.form;obtain rfl:l=[]:=List.length_eq_zero_iff.1 (by omega)
  have HX:=Ng (show false=T from HT.out)
  simp only[List.length_nil];go_wp2_with fail
  go_loopg [14] 0 (fun m x wr=>m=0∧x = .int .i64 0∧Below w.heap.size w wr)
  case atStart=>exact⟨rfl,rfl,hb1⟩
  case round =>
   obtain⟨rfl,rfl,hb⟩:=hrel;go_wp2_with fail
   go_ret;exact⟨by rw[← HX.out];rfl,hb⟩
end Go.Proofs.YtbpjobmpacjgcaaGreatDoor
