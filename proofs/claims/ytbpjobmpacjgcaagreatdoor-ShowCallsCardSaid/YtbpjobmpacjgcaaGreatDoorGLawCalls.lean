/- ShowCalls: the law. -/
import Derived.Test.YtbpjobmpacjgcaaGreatDoorGShowCZ
import Derived.Test.YtbpjobmpacjgcaaGreatDoorGZQ
import Derived.Test.YtbpjobmpacjgcaaGreatDoorGZF
namespace Go.Proofs.YtbpjobmpacjgcaaGreatDoor
set_option maxHeartbeats 16000000
set_option maxRecDepth 100000
open Go Go.RowKit
def dL (Z:Nat→ByteArray) (n:Nat):List (List UInt8):=(List.range n).map fun i=>(Z i).data.toList
theorem oQ (Z:Nat→ByteArray)(n:Nat):(dL Z n).length=n:=by simp [dL]
theorem B4 (Z:Nat→ByteArray)(n:Nat):dL Z (n+1)=dL Z n++[(Z n).data.toList]:=by simp [dL,List.range_succ]
def kZ (Z:Nat→ByteArray):Nat→Nat
 | 0=>0
 | n+1=>kZ Z n+(Z n).size
theorem yX (Z:Nat→ByteArray):∀ n i,i<n→(Z i).size≤kZ Z n
 | 0,i,h=>absurd h (by omega)
 | n+1,i,h=>by
  show _≤kZ Z n+(Z n).size
  by_cases e:i=n
  ·subst e;omega
  ·have:=yX Z n i (by omega)
   omega
theorem Ki (Z:Nat→ByteArray)(n M:Nat)(h:kZ Z n≤M):∀ s∈dL Z n,s.length≤M:=by
 intro s hs;obtain⟨i,hi,rfl⟩:=List.mem_map.1 hs;have:=yX Z n i (List.mem_range.1 hi)
 rw[size_eq];omega
theorem CA (Z:Nat→ByteArray):∀ n,((dL Z n).map List.length).sum=kZ Z n
 | 0=>rfl
 | n+1=>by
  rw[B4,List.map_append,List.sum_append,CA Z n];simp [kZ]
def tJ (z:Int):Nat:=(z % 3).toNat+1
theorem IC (z:Int):∃ u:Nat,u≤2∧-2≤Int.tmod z 3∧Int.tmod z 3≤2∧Int.tmod (Int.tmod z 3+3) 3=u∧tJ z=u+1:=by
 have h1:=Int.tmod_lt_of_pos z (show (0:Int)<3 by omega)
 have h2:=Int.lt_tmod_of_pos z (show (0:Int)<3 by omega)
 have h3:=Int.tmod_def z 3;have h4:Int.tmod (Int.tmod z 3+3) 3=(Int.tmod z 3+3) % 3:=Int.tmod_eq_emod_of_nonneg (by omega)
 exact⟨(z % 3).toNat,by omega,by omega,by omega,by rw[h4];omega,rfl⟩
def fY (Z:Nat→ByteArray) (M:Nat→Int) (n:Nat):Nat→List (Nat×List UInt8)
 | 0=>[]
 | k+1=>(tJ (M k),(Z (k % n)).data.toList) :: fY Z M n k
theorem sN (Z:Nat→ByteArray)(M:Nat→Int)(n:Nat):∀ k,(fY Z M n k).length=k
 | 0=>rfl
 | k+1=>by rw[fY,List.length_cons,sN Z M n k]
theorem xB (Z:Nat→ByteArray)(M:Nat→Int)(n:Nat)(hn:0<n)(h:kZ Z n≤100):∀ k,∀ x∈fY Z M n k,1≤x.1∧x.1≤3∧x.2.length≤100
 | 0,x,hx=>nomatch hx
 | k+1,x,hx=>by
  rw[fY,List.mem_cons] at hx
  rcases hx with rfl | hx
  ·have:=yX Z n (k % n) (Nat.mod_lt k hn)
   refine ⟨by unfold tJ;omega,by show tJ _≤3;unfold tJ;omega,?_⟩
   show (Z (k % n)).data.toList.length≤100
   rw[size_eq];omega
  ·exact xB Z M n hn h k x hx
theorem CZ (q:List UInt8→List UInt8)(hq:∀ s,(q s).length≤4 * s.length+2):∀ l:List (List UInt8),(iI q l).length≤4 * (l.map List.length).sum+3 * l.length
 | []=>by simp [iI]
 | [s]=>by have:=hq s;simp [iI];omega
 | s :: t :: l=>by
  have h1:=hq s;have h2:=CZ q hq (t :: l);rw[iI]
  ·simp only[List.length_append,List.length_cons,List.map_cons,List.sum_cons] at h2 ⊢;omega
  ·exact fun h=>nomatch h
theorem DE (q:List UInt8→List UInt8)(hq:∀ s,(q s).length≤4 * s.length+2)(l:List (List UInt8)):∀ xs:List (Nat×List UInt8),(∀ x∈xs,1≤x.1∧x.1≤3∧x.2.length≤100)→(bG q l xs).length≤(iI q l).length+411 * xs.length
 | [],_=>Nat.le_refl _
 | (m,s) :: xs,h=>by
  have h1:=DE q hq l xs fun x hx=>h x (by simp [hx])
  have h2:=hq s;have h3:=(h (m,s) (by simp)).2.2
  have h4:(opR m).length≤4:=by unfold opR;split <;> (try split) <;> simp
  have h3:s.length≤100:=h3;simp only[bG,blk,List.length_append,List.length_cons,List.length_nil];omega
theorem Er (Z:Nat→ByteArray)(M:Nat→Int)(n:Nat)(hn:0<n)(h10:n≤10)(h:kZ Z n≤100)(q:List UInt8→List UInt8)(hq:∀ s,(q s).length≤4 * s.length+2)(k:Nat)(hk:k≤6):(fN (bG q (dL Z n) (fY Z M n k))).length≤8192:=by
 have h1:=DE q hq (dL Z n) _ (xB Z M n hn h k);have h2:=CZ q hq (dL Z n);rw[CA,oQ] at h2;rw[sN] at h1;simp only[fN,blk,List.length_append,List.length_cons,List.length_nil];omega
theorem H5 (ao:Option Addr)(n cap:Nat)(Z:Nat→ByteArray)(bo:Option Addr)(nm capm:Nat)(M:Nat→Int)(pipe:Bool)(sent:Nat→Addr)(w:World)(hS:kA w sent)(hmx:∃ m,w.cell? ⟨12,0,none⟩=some (.int .i64 m))(het:w.cell? ⟨8,0,none⟩=some (.iface 134 (.agg #[.pointer (some ⟨18,31,none⟩)])))
  (_hln:n≤cap) (_hcap:cap≤maxLen) (hB:Ni w ao n Z) (_hlm:nm≤capm) (_hcapm:capm≤maxLen) (hM:Nh w bo nm M) (h10:n≤10) (hn0:0<n) (h6:nm≤6) :
  Calls Tryz.prog 3 #[.slice ao n cap,.slice bo nm capm,.bool pipe] w fun e w'=>e = .returned (.bool true)∧Below w.heap.size w w':=by
 obtain⟨k0,hk0,hk1,hk2,hk3⟩:=info_parts jB;have hg:12<w.heap.size:=hmx.elim fun m hm=>block_lt_of_cell hm
 have HF:=Ng (A5 sent w hS hmx het);have HB:=Ng hB;have HM:=Ng hM;have HSay:=Ng fun (w1:World) (h:Below w.heap.size w w1) (ht:kZ Z n≤100)=>DK pipe (dL Z n) (by intro e;have:=oQ Z n;rw[e] at this;simp at this;omega) (fun s hs=>Nat.le_trans (Ki Z n 100 ht s hs) (by omega)) (by rw[oQ];omega) (fY Z M n nm) (fun x hx=>by have:=xB Z M n hn0 ht nm x hx;omega) (by rw[sN];omega) (Er Z M n hn0 h10 ht cS Cx nm h6) (Er Z M n hn0 h10 ht cE (fun s=>by have:=Cm s;omega) nm h6) sent w1 (hS.below h) (hmx.elim fun m hm=>⟨m,aF h hm⟩) (aF h het)
 have hne:((n:Int)==0)=false:=by rw[beq_eq_false_iff_ne];omega
 clear hB hM hS hmx het;go_enter Tryz.func3,Tryz.ntmps3
 go_wp2_with fail
 refine HF.out.mono ?_;rintro e w1 ⟨rfl,hb1⟩;have HB1:=Ng (HB.out.below hb1);have hgm:=Nat.lt_of_lt_of_le hg hb1.size;clear HF HB;go_wp2_with fail
 go_loopg [8,9,10] n (fun m v t i wr=>∃ k:Nat,m=n - k∧k≤n∧aO wr w1.heap.size 12 v ((dL Z k).map aR)∧t = .int .i64 (kZ Z k)∧i = .int .i64 k∧Below w1.heap.size w1 wr∧kZ Z k≤100)
 case atStart=>exact⟨0,rfl,Nat.zero_le _,aO.nil _ _ _,rfl,rfl,Below.refl _ _,Nat.zero_le _⟩
 case round =>
  obtain⟨k,rfl,hk,hO,rfl,rfl,hbr,ht⟩:=hrel;have HO:=Ng hO;obtain⟨va,vc,rfl⟩:=hO.form;rw[List.length_map,oQ] at HO ⊢;clear hO
  by_cases hlt:k<n
  ·obtain⟨a,rfl,hz,hzm⟩:=HB1.out k hlt;have hz:=aF hbr hz;have HTK:=Ng (show kZ Z (k+1)=kZ Z k+(Z k).size from rfl)
   have EM:=Ng (show (dL Z k).map aR++[aR (Z k).data.toList]=(dL Z (k+1)).map aR from by rw[B4];simp)
   obtain⟨s,hs⟩:∃ s,Z k=s:=⟨_,rfl⟩;rw[hs] at hz hzm HTK EM;unfold maxLen at hzm;have HML:=Ng (show ((dL Z k).map aR).length=k from by rw[List.length_map,oQ])
   clear hs;generalize (dL Z k).map aR=LM at *;generalize kZ Z k=tk at *
   by_cases hbig:100<tk+s.size
   ·go_wp2_with fail
    go_ret;exact⟨rfl,aE hb1 (hbr.mono (Nat.le_refl _))⟩
   ·have hmin:min (s.size:Int) 999=s.size:=by omega
    have zr:12<wr.heap.size:=Nat.lt_of_lt_of_le hgm hbr.size
    have HCL:=Ng (show Calls Tryz.prog 5 #[.string s] wr fun e w'=>∃ v',e = .returned v'∧NSl w' 12 v' (aR s.data.toList)∧Below wr.heap.size wr w' from by
     have:=qW s.data.toList 12 wr zr
     rwa [tI] at this)
    go_wp2_with fail
    refine HCL.out.mono ?_;rintro e w5 ⟨v5,rfl,hv5,hb5⟩;have HV5:=Ng hv5;obtain⟨g5,c5,rfl,-⟩:=id hv5;have hl1:(aR s.data.toList).length=1:=rfl;rw[hl1] at HV5 ⊢;have hbr5:=aE hbr hb5;obtain⟨us,u1,u2,u3⟩:=HO.out.below hgm hb5
    have hOA:∀ o,(w5.alloc o).ownsRow w1.heap.size 26 1 _ k us:=fun o=>by
     have:=bM u2 (aB.ofBelow (S:=bW) ((Below.refl _ w5).alloc (Nat.le_refl _) o)) (fun _ _ _ e=>e)
     rw[HML.out] at this;exact this
    have hsz5:=hbr5.size;clear hv5 hb5 hl1;go_wp2_with (at_builtin;refine wpList_append_own _ rfl _ _ 25 rfl w1.heap.size 26 k0 _ 1 24 Tryz.underlying25 hk0 hk1 hk2 hk3 rfl (by decide) _ _ _ rfl (hOA _) ⟨w5.heap.size,0,none⟩ 1 1 [.slice (some ⟨g5,0,none⟩) 1 c5] rfl rfl ?c1 ?c2 ?c3 ?c4 ?c5 ?_)
    case c1=>exact cL (by simp)
    case c2 =>
     intro x hx;simp at hx
     subst hx;rfl
    case c3=>unfold maxLen;omega
    case c4=>omega
    case c5=>simp;omega
    intro v6 w6 hown' hgrow _;obtain⟨hO6,hb6⟩:=aO.grown hsz5 u1 u2 u3 HV5.out (by rw[HML.out];exact hown') hgrow
    rw[EM.out] at hO6;have hB6:=hbr5.trans hb6;go_wp2_with fail
    go_roundg (n - (k+1))
    case measure=>omega
    case rel=>exact⟨k+1,rfl,by omega,hO6,by rw[HTK.out];go_num,by go_num,hB6,by rw[HTK.out];omega⟩
  ·obtain rfl:n=k:=by omega
   obtain⟨w8,rfl⟩:∃ w8,w8=wr:=⟨_,rfl⟩;obtain⟨HRed,HSay⟩:=HSay.out w8 (aE hb1 hbr) ht;have HRed:=Ng HRed;have HSay:=Ng HSay;have hLN:(dL Z n).length=n:=oQ Z n;obtain⟨ao8,cap8,hv8,q81,-,q83⟩:=HO.out.ksl hgm;obtain⟨gw,hgw,hgw1,-,hgw3⟩:=q83 (by rw[List.length_map,hLN];omega)
   rw[List.length_map,hLN] at hv8 q81;injection hv8 with hv81 hv82 hv83
   subst hv81 hv83 hgw
   have HEL:Hid (∀ k,k<n→∃ gu cu,w8.cell? ⟨gw,k,none⟩=some (.slice (some ⟨gu,0,none⟩) 1 cu)∧NSl w8 12 (.slice (some ⟨gu,0,none⟩) 1 cu) (aR (Z k).data.toList)):=Ng fun k hk=>by
    obtain⟨u,hu,hul⟩:=hgw3 k (aR (Z k).data.toList) (by rw[List.getElem?_map];unfold dL;rw[List.getElem?_map,List.getElem?_range hk];rfl)
    rcases hul with hul | ⟨_,hul⟩
    ·obtain⟨gu,cu,rfl,-⟩:=id hul;exact⟨gu,cu,hu,hul⟩
    ·simp [aR,aC] at hul
   have zr:12<w8.heap.size:=Nat.lt_of_lt_of_le hgm hbr.size;have HC:=Ng (wZ ((dL Z n).map aR) 12 _ w8 zr (HO.out.ksl hgm) (by rw[sL,hLN];omega) (by rw[List.length_map,hLN];omega))
   have hB8:=aE hb1 hbr;clear hgw3 HO hLN hbr;go_wp2_with fail
   refine HC.out.mono ?_;rintro e w2 ⟨v2,rfl,h2,hb2⟩;have HV2:=Ng (show NSl w2 12 v2 (rdP (dL Z n) (fY Z M n 0)) from h2)
   obtain⟨g2,c2,rfl,-⟩:=id h2;have hzz:(aC 21 0 [] ((dL Z n).map aR)).length=(rdP (dL Z n) (fY Z M n 0)).length:=rfl;rw[hzz] at HV2 ⊢;clear h2 HC hzz;go_upto_block 2 with fail
   go_cut [11] (fun v w9=>∃ g c,v = .slice (some ⟨g,0,none⟩) (rdP (dL Z n) (fY Z M n nm)).length c∧NSl w9 12 (.slice (some ⟨g,0,none⟩) (rdP (dL Z n) (fY Z M n nm)).length c) (rdP (dL Z n) (fY Z M n nm))∧Below w8.heap.size w8 w9)
   case first =>
    go_wp2_with fail
    go_loopg [11,12] nm (fun m p i w9=>∃ k:Nat,m=nm - k∧k≤nm∧i = .int .i64 k∧NSl w9 12 p (rdP (dL Z n) (fY Z M n k))∧Below w8.heap.size w8 w9)
    case atStart=>exact⟨0,rfl,Nat.zero_le _,rfl,HV2.out,hb2⟩
    case round =>
     obtain⟨k,rfl,hk,rfl,hp,hbk⟩:=hrel;have HP:=Ng hp;obtain⟨gp,cp,rfl,-⟩:=id hp;clear hp
     by_cases hlt:k<nm
     ·obtain⟨b,rfl,hz,-,-⟩:=HM.out k hlt;have hz:=aF (aE hB8 hbk) hz;obtain⟨j,hj⟩:∃ j,k % n=j:=⟨_,rfl⟩;have hjn:j<n:=by rw[← hj];exact Nat.mod_lt k hn0
      obtain⟨gu,cu,hc,hu⟩:=HEL.out j hjn;have hc:=aF hbk hc;have HU:=Ng (hu.below hbk);obtain⟨u,hu2,hy1,hy2,hyu,hmo⟩:=IC (M k);obtain⟨y,hy⟩:∃ y,Int.tmod (M k) 3=y:=⟨_,rfl⟩;rw[hy] at hy1 hy2 hyu;have hw1:IntKind.i64.wrap (y+3)=y+3:=by rw[IntKind.wrap_i64];omega
      have hw2:IntKind.i64.wrap y=y:=by rw[IntKind.wrap_i64];omega
      have hw3:IntKind.i64.wrap (u:Int)=u:=by rw[IntKind.wrap_i64];omega
      have hw4:IntKind.i64.wrap ((u:Int)+1)=u+1:=by rw[IntKind.wrap_i64];omega
      have hkj:Int.tmod (k:Int) (n:Int)=j:=by rw[Int.tmod_eq_emod_of_nonneg (by omega),← hj];rfl
      have hw5:IntKind.i64.wrap (j:Int)=j:=by rw[IntKind.wrap_i64];omega
      have hj0:(0:Int)≤j:=by omega
      have hj1:(j:Int)<n:=by omega
      have hn9:¬ (n:Int)=0:=by omega
      have hn8:¬ n=0:=by omega
      have hn7:¬ (n:Int) = -1:=by omega
      have hMk:=Ng (show fY Z M n (k+1)=(u+1,(Z j).data.toList) :: fY Z M n k from by rw[fY,hmo,hj])
      have hrl:=nC (dL Z n) (fY Z M n k);rw[oQ,sN] at hrl;clear hu hj hmo;generalize hzk:(rdP (dL Z n) (fY Z M n k)).length=zk at *;generalize M k=mk at *;have hg9:=Nat.lt_of_lt_of_le zr hbk.size;have hb4:=(Below.refl _ wr).alloc (Nat.le_refl _) (.cells #[.slice (some ⟨gu,0,none⟩) 1 cu,.slice (some ⟨gp,0,none⟩) zk cp] 26);have HN:=Ng (bT 33 ((u:Int)+1) [] [aR (Z j).data.toList,rdP (dL Z n) (fY Z M n k)] 12 _ (wr.alloc (.cells #[.slice (some ⟨gu,0,none⟩) 1 cu,.slice (some ⟨gp,0,none⟩) zk cp] 26)).drew (Nat.lt_of_lt_of_le hg9 hb4.drew.size) ((KSl.new2 hg9 (.inl HU.out) (.inl HP.out)).below (Below.refl _ _).drew) (by simp [aR,aC];omega) (by simp))
      replace hrl:=Ng hrl;go_wp2_with fail
      go_region_held3 (fun w'=>w'.cell? (b.add k)=some (.int .i64 mk)∧w'.cell? ⟨gw,j,none⟩=some (.slice (some ⟨gu,0,none⟩) 1 cu)) (first | exact⟨aF hb6 hz,aF hb6 hc⟩ | go_keep)
       ((go_at_call 7;(refine HN.out.mono ?_);rintro ee w5 ⟨v5,rfl,h5,hb5⟩;obtain⟨g5,c5,rfl,-⟩:=id h5;have hb6:=aE hb4.drew hb5))
      all_goals (
       go_wp2_with fail
       go_roundg (nm - (k+1))
       case measure=>omega
       case rel=>exact⟨k+1,rfl,by omega,by go_num,by rw[hMk.out];exact h5,aE hbk hb6⟩)
     ·obtain rfl:nm=k:=by omega
      go_wp2_with fail
      go_meet
      case rel=>exact⟨_,_,rfl,HP.out,hbk⟩
   case rest =>
    obtain⟨g9,c9,rfl,h9,hb9⟩:=hcut;have H9:=Ng h9;have hp1:=nC (dL Z n) (fY Z M n nm);rw[oQ,sN] at hp1;have hpl:(rdP (dL Z n) (fY Z M n nm)).length≤1000:=by omega
    clear h9 hp1 HEL HV2 HM;generalize rdP (dL Z n) (fY Z M n nm)=p at *;obtain⟨w10,rfl⟩:∃ w10,w10=wc:=⟨_,rfl⟩;have hg10:=Nat.lt_of_lt_of_le zr hb9.size;go_upto_if 90 with fail
    go_cut [11] (fun v w9=>∃ g c,v = .slice (some ⟨g,0,none⟩) (pE pipe p).length c∧NSl w9 12 (.slice (some ⟨g,0,none⟩) (pE pipe p).length c) (pE pipe p)∧Below w8.heap.size w8 w9)
    case first =>
     cases pipe with
     | false =>
      go_wp2_with fail
      go_meet
      case rel=>exact⟨_,_,rfl,H9.out,hb9⟩
     | true =>
      generalize hzl:p.length=z9 at *;go_wp2_with fail
      refine (bT 20 0 [] [] 12 _ w10 hg10 (KSl.nil _ _) (by simp) (by simp)).mono ?_
      rintro e w11 ⟨v11,rfl,h11,hb11⟩;obtain⟨g11,c11,rfl,-⟩:=id h11;have hg11:=Nat.lt_of_lt_of_le hg10 hb11.size;have h9:=H9.out.below hb11;have hK3:=Ng (KSl.new3 hg11 (.inl h9) (.inl h11) (.inl h9));go_wp2_with fail
      refine (bT 32 0 [] [p,aC 20 0 [] [],p] 12 _ _ (by simp;omega) hK3.out (by simp [aC];omega) (by simp)).mono ?_
      rintro e w12 ⟨v12,rfl,h12,hb12⟩;obtain⟨g12,c12,rfl,-⟩:=id h12;have hb12:=aE ((Below.refl _ w11).alloc (Nat.le_refl _) _) hb12;have hg12:=Nat.lt_of_lt_of_le hg11 hb12.size;go_wp2_with fail
      refine (Nn 27 0 [] (aC 32 0 [] [p,aC 20 0 [] [],p]) 12 _ w12 hg12 h12 (by simp [aC];omega)).mono ?_
      rintro e w13 ⟨v13,rfl,h13,hb13⟩;obtain⟨g13,c13,rfl,-⟩:=id h13;go_wp2_with fail
      go_meet
      case rel=>exact⟨_,_,rfl,h13,aE hb9 (aE hb11 (aE hb12 hb13))⟩
    case rest =>
     obtain⟨g14,c14,rfl,h14,hb14⟩:=hcut;obtain⟨w14,rfl⟩:∃ w14,w14=wc:=⟨_,rfl⟩;have H14:=Ng h14;have hfl:(pE pipe p).length≤3000:=by cases pipe <;> simp [pE,iV,aC] <;> omega
     clear h14 H9 hpl hb9;generalize pE pipe p=pf at *;generalize rU pipe (bG cS (dL Z n) (fY Z M n nm))=zA at *;generalize rU pipe (bG cE (dL Z n) (fY Z M n nm))=zB at *;generalize hzf:pf.length=zf at *;have HZF:=Ng hzf;clear hzf;go_wp2_with fail
     refine ((HSay.out w14 _ hb14 H14.out).1).mono ?_;rintro e w15 ⟨rfl,hb15⟩;have s15:=aE hb14 hb15;go_wp2_with fail
     refine ((HSay.out w15 _ s15 (H14.out.below hb15)).2.1).mono ?_;rintro e w16 ⟨rfl,hb16⟩;have s16:=aE s15 hb16;go_wp2_with fail
     refine ((HRed.out w16 s16).1).mono ?_;rintro e w17 ⟨g17,c17,b17,rfl,q17,hb17⟩;have s17:=aE s16 hb17;go_wp2_with fail
     refine ((HRed.out w17 s17).2).mono ?_;rintro e w18 ⟨g18,c18,b18,rfl,q18,hb18⟩;have s18:=aE s17 hb18;have hv18:=Ng (H14.out.below (aE (aE hb15 hb16) (aE hb17 hb18)));have S1:=Ng (sR pf b17 12 _ _ w18 (q17.below hb18) hv18.out (by rw[HZF.out];omega))
     have S2:=Ng fun (w':World) (h:Below w18.heap.size w18 w')=>sR pf b18 12 _ _ w' (q18.below h) (hv18.out.below h) (by rw[HZF.out];omega)
     have HE:=Ng fun (w':World) (h:Below w18.heap.size w18 w')=>(HSay.out w' _ (aE s18 h) (hv18.out.below h)).2.2
     clear H14 HSay HRed q17 q18 hb15 hb16 hb17 hb18 s15 s16 s17 hb14;go_wp2_with fail
     refine S1.out.mono ?_;rintro e w19 ⟨rfl,hb19⟩;go_wp2_with fail
     refine (S2.out w19 hb19).mono ?_;rintro e w20 ⟨rfl,hb20⟩;have hb21:=aE hb19 hb20;go_wp2_with fail
     refine ((HE.out w20 hb21).1).mono ?_;rintro e w22 ⟨rfl,hb22⟩;have hb23:=aE hb21 hb22;go_wp2_with fail
     refine ((HE.out w22 hb23).2).mono ?_;rintro e w24 ⟨rfl,hb24⟩;go_wp2_with fail
     go_ret;exact⟨rfl,aE hB8 (aE s18 (aE hb23 hb24))⟩
theorem FH (ao:Option Addr)(n cap:Nat)(bo:Option Addr)(nm capm:Nat)(pipe:Bool)(sent:Nat→Addr)(w:World)(hS:kA w sent)(hmx:∃ m,w.cell? ⟨12,0,none⟩=some (.int .i64 m))(het:w.cell? ⟨8,0,none⟩=some (.iface 134 (.agg #[.pointer (some ⟨18,31,none⟩)])))
  (hln:n≤cap) (hcap:cap≤maxLen) (hB:Nj w ao n) (hlm:nm≤capm) (hcapm:capm≤maxLen) (hM:Nk w bo nm) :
  Calls Tryz.prog 3 #[.slice ao n cap,.slice bo nm capm,.bool pipe] w fun e w'=>e = .returned (.bool true)∧Below w.heap.size w w':=by
 have HF:=Ng (A5 sent w hS hmx het)
 by_cases h10:10<n
 ·have h1:(10:Int)<n:=by omega
  clear hB hM hS hmx het;go_enter Tryz.func3,Tryz.ntmps3
  go_wp2_with fail
  refine HF.out.mono ?_;rintro e w1 ⟨rfl,hb1⟩;go_wp2_with fail
  go_ret;exact⟨rfl,hb1⟩
 by_cases h0:n=0
 ·subst h0;clear hB hM hS hmx het;go_enter Tryz.func3,Tryz.ntmps3
  go_wp2_with fail
  refine HF.out.mono ?_;rintro e w1 ⟨rfl,hb1⟩;go_wp2_with fail
  go_ret;exact⟨rfl,hb1⟩
 by_cases h6:6<nm
 ·have h1:(6:Int)<nm:=by omega
  clear hB hM hS hmx het;go_enter Tryz.func3,Tryz.ntmps3
  go_wp2_with fail
  refine HF.out.mono ?_;rintro e w1 ⟨rfl,hb1⟩;go_wp2_with fail
  go_ret;exact⟨rfl,hb1⟩
 obtain⟨Z,hZ⟩:=hB.of;obtain⟨M,hM⟩:=hM.of;exact H5 ao n cap Z bo nm capm M pipe sent w hS hmx het hln hcap hZ hlm hcapm hM (by omega) (by omega) (by omega)
end Go.Proofs.YtbpjobmpacjgcaaGreatDoor
