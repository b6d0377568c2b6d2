/- The document's parser of dialect B: what it asks of the token it stands at. -/
import Derived.Test.YtbplbehhlbkklaaGreatDoorGZKit
import Derived.Test.YtbplbehhlbkklaaGreatDoorGRef5G
import Derived.Test.YtbplbehhlbkklaaGreatDoorGBKitG
namespace Go.Proofs.YtbplbehhlbkklaaGreatDoor
open Go Go.RowKit
theorem isK_two (ts:List BTok)(i k j:Nat)(ks:List Nat):isK ts i (k :: j :: ks)=(isK ts i [k] || isK ts i (j :: ks)):=by
 unfold isK;rw[Bool.eq_iff_iff,Bool.or_eq_true,List.contains_iff_mem,List.contains_iff_mem,List.contains_iff_mem,List.mem_cons (a:=(tkAt ts i).kind) (b:=k) (l:=j :: ks),List.mem_singleton]
theorem isK_one (ts:List BTok)(i k:Nat):isK ts i [k]=decide ((tkAt ts i).kind=k):=by
 unfold isK;rw[Bool.eq_iff_iff,List.contains_iff_mem,List.mem_singleton,decide_eq_true_eq]
section
variable {w:World} {b g cap:Nat} {ts:List BTok} {i:Nat} {f:Option (Nat×Nat)}
set_option maxHeartbeats 4000000
set_option maxRecDepth 100000
theorem zturning_any (F:ZFix cap ts)(h:ZIn w b g cap ts i f)(hi:i<ts.length) :
  Calls Tryz.prog 137 #[.pointer (some ⟨b,0,none⟩)] w fun e w'=>e = .returned (.bool (f.isNone&&turningP ts i))∧Below w.heap.size w w':=by
 have HX:=Lib.hid (show (f.isNone&&turningP ts i)=(f.isNone&&isK ts i [11] || (f.isNone&&isK ts i [12] || (f.isNone&&isK ts i [13] || f.isNone&&isK ts i [14]))) from by
  unfold turningP;simp only[isK_two]
  cases f.isNone <;> simp)
 rw[HX.out];go_enter Tryz.func137,Tryz.ntmps137
 go_wp2_with fail
 refine (zkind_any F h hi 11 _ rfl).mono ?_;rintro e w1 ⟨rfl,hb1⟩;have h1:=h.below hb1
 by_cases hq:(f.isNone&&isK ts i [11])=true
 ·have HQ:=Lib.hid hq;rw[hq];clear hq;go_wp2_with fail
  go_ret;exact⟨by simp only[HQ.out, *,Bool.true_or] <;> rfl,hb1⟩
 have hq11:(f.isNone&&isK ts i [11])=false:=by simpa using hq
 clear hq;rw[hq11];go_wp2_with fail
 refine (zkind_any F h1 hi 12 _ rfl).mono ?_;rintro e w2 ⟨rfl,hb2⟩;have h2:=h1.below hb2
 by_cases hq:(f.isNone&&isK ts i [12])=true
 ·have HQ:=Lib.hid hq;rw[hq];clear hq;go_wp2_with fail
  go_ret;exact⟨by simp only[HQ.out, *,Bool.true_or,Bool.false_or] <;> rfl,bNext hb1 hb2⟩
 have hq12:(f.isNone&&isK ts i [12])=false:=by simpa using hq
 clear hq;rw[hq12];go_wp2_with fail
 refine (zkind_any F h2 hi 13 _ rfl).mono ?_;rintro e w3 ⟨rfl,hb3⟩;have h3:=h2.below hb3
 by_cases hq:(f.isNone&&isK ts i [13])=true
 ·have HQ:=Lib.hid hq;rw[hq];clear hq;go_wp2_with fail
  go_ret;exact⟨by simp only[HQ.out, *,Bool.true_or,Bool.false_or] <;> rfl,bNext (bNext hb1 hb2) hb3⟩
 have hq13:(f.isNone&&isK ts i [13])=false:=by simpa using hq
 clear hq;rw[hq13];go_wp2_with fail
 refine (zkind_any F h3 hi 14 _ rfl).mono ?_;rintro e w4 ⟨rfl,hb4⟩;go_wp2_with fail
 go_ret;exact⟨by simp only[*,Bool.false_or] <;> rfl,bNext (bNext (bNext hb1 hb2) hb3) hb4⟩
theorem zover_any (F:ZFix cap ts)(h:ZIn w b g cap ts i f)(hi:i<ts.length) :
  Calls Tryz.prog 49 #[.pointer (some ⟨b,0,none⟩)] w fun e w'=>e = .returned (.bool (f.isSome || (isK ts i [0,7,9] || keyAt ts i [99,97,115,101])))∧Below w.heap.size w w':=by
 by_cases hf:f.isSome=true
 ·rw[hf];go_enter Tryz.func49,Tryz.ntmps49
  go_wp2_with fail
  refine (zbad_any h).mono ?_;rintro e w1 ⟨rfl,rfl⟩;rw[hf];go_wp2_with fail
  go_ret;exact⟨rfl,Below.refl _ _⟩
 ·have hf:f.isSome=false:=by simpa using hf
  have HX:=Lib.hid (show (f.isSome || (isK ts i [0,7,9] || keyAt ts i [99,97,115,101]))=(f.isNone&&isK ts i [0] || (f.isNone&&isK ts i [7] || (f.isNone&&isK ts i [9] || (f.isNone&&keyAt ts i [99,97,115,101])))) from by
   simp only[isK_two]
   cases f with
   | none=>simp [Bool.or_assoc]
   | some x=>simp at hf)
  rw[HX.out];go_enter Tryz.func49,Tryz.ntmps49
  go_wp2_with fail
  refine (zbad_any h).mono ?_;rintro e w0 ⟨rfl,rfl⟩;rw[hf];go_wp2_with fail
  refine (zkind_any F h hi 0 _ rfl).mono ?_;rintro e w1 ⟨rfl,hb1⟩;have h1:=h.below hb1
  by_cases hq:(f.isNone&&isK ts i [0])=true
  ·have HQ:=Lib.hid hq;rw[hq];clear hq;go_wp2_with fail
   go_ret;exact⟨by simp only[HQ.out, *,Bool.true_or] <;> rfl,hb1⟩
  have hq0:(f.isNone&&isK ts i [0])=false:=by simpa using hq
  clear hq;rw[hq0];go_wp2_with fail
  refine (zkind_any F h1 hi 7 _ rfl).mono ?_;rintro e w2 ⟨rfl,hb2⟩;have h2:=h1.below hb2
  by_cases hq:(f.isNone&&isK ts i [7])=true
  ·have HQ:=Lib.hid hq;rw[hq];clear hq;go_wp2_with fail
   go_ret;exact⟨by simp only[HQ.out, *,Bool.true_or,Bool.false_or] <;> rfl,bNext hb1 hb2⟩
  have hq7:(f.isNone&&isK ts i [7])=false:=by simpa using hq
  clear hq;rw[hq7];go_wp2_with fail
  refine (zkind_any F h2 hi 9 _ rfl).mono ?_;rintro e w3 ⟨rfl,hb3⟩;have h3:=h2.below hb3
  by_cases hq:(f.isNone&&isK ts i [9])=true
  ·have HQ:=Lib.hid hq;rw[hq];clear hq;go_wp2_with fail
   go_ret;exact⟨by simp only[HQ.out, *,Bool.true_or,Bool.false_or] <;> rfl,bNext (bNext hb1 hb2) hb3⟩
  have hq9:(f.isNone&&isK ts i [9])=false:=by simpa using hq
  clear hq;rw[hq9];go_wp2_with fail
  refine (zkey_any F h3 hi [99,97,115,101]).mono ?_;rintro e w4 ⟨rfl,hb4⟩;go_wp2_with fail
  go_ret;exact⟨by simp only[*,Bool.false_or] <;> rfl,bNext (bNext (bNext hb1 hb2) hb3) hb4⟩
theorem zitem_any (F:ZFix cap ts)(h:ZIn w b g cap ts i f)(hi:i<ts.length) :
  Calls Tryz.prog 140 #[.pointer (some ⟨b,0,none⟩)] w fun e w'=>e = .returned (.bool (f.isNone&&itemP ts i))∧Below w.heap.size w w':=by
 have hf0:=ztok_f0
 have hX:itemP ts i=decide ((18≤(tkAt ts i).kind∧(tkAt ts i).kind≤23)∨(tkAt ts i).kind=6∨(tkAt ts i).kind=10):=by
  unfold itemP;simp only[isK_two,isK_one];rw[Bool.eq_iff_iff];simp only[Bool.or_eq_true,decide_eq_true_eq];omega
 obtain⟨r,hr⟩:∃ r,itemP ts i=r:=⟨_,rfl⟩;rw[hr] at hX ⊢;have HX:=Lib.hid hX;clear hr hX;go_enter Tryz.func140,Tryz.ntmps140
 go_wp2_with fail
 refine (znow_any F h hi).mono ?_;rintro e w1 ⟨rfl,hb1⟩;have h1:=h.below hb1;unfold BTok.cells;generalize (tkAt ts i).kind=tk at *;go_wp2_with fail
 refine (zbad_any h1).mono ?_;rintro e w2 ⟨rfl,rfl⟩
 cases f with
 | some x =>
  go_wp2_with fail
  go_ret;exact⟨rfl,hb1⟩
 | none =>
  have hc:tk<18∧tk≠6∧tk≠10∨tk=6∨tk=10∨18≤tk∧tk≤23∨23<tk:=by omega
  rcases hc with ⟨q1,q2,q3⟩ | rfl | rfl | ⟨q1,q2⟩ | q1
  ·have e1:decide ((18:Int)≤(tk:Int))=false:=by rw[decide_eq_false_iff_not];omega
   have e2:((tk:Int)==6)=false:=by rw[beq_eq_false_iff_ne];omega
   have e3:((tk:Int)==10)=false:=by rw[beq_eq_false_iff_ne];omega
   have hr:r=false:=by rw[HX.out,decide_eq_false_iff_not];omega
   have HR:=Lib.hid hr;clear hr;go_wp2_with fail
   go_ret;exact⟨by rw[HR.out];rfl,hb1⟩
  ·have hr:r=true:=by rw[HX.out];decide
   have HR:=Lib.hid hr;clear hr;go_wp2_with fail
   go_ret;exact⟨by rw[HR.out];rfl,hb1⟩
  ·have hr:r=true:=by rw[HX.out];decide
   have HR:=Lib.hid hr;clear hr;go_wp2_with fail
   go_ret;exact⟨by rw[HR.out];rfl,hb1⟩
  ·have e1:decide ((18:Int)≤(tk:Int))=true:=by rw[decide_eq_true_eq];omega
   have e2:decide ((tk:Int)≤23)=true:=by rw[decide_eq_true_eq];omega
   have hr:r=true:=by rw[HX.out,decide_eq_true_eq];omega
   have HR:=Lib.hid hr;clear hr;go_wp2_with fail
   go_ret;exact⟨by rw[HR.out];rfl,hb1⟩
  ·have e1:decide ((18:Int)≤(tk:Int))=true:=by rw[decide_eq_true_eq];omega
   have e2:decide ((tk:Int)≤23)=false:=by rw[decide_eq_false_iff_not];omega
   have e3:((tk:Int)==6)=false:=by rw[beq_eq_false_iff_ne];omega
   have e4:((tk:Int)==10)=false:=by rw[beq_eq_false_iff_ne];omega
   have hr:r=false:=by rw[HX.out,decide_eq_false_iff_not];omega
   have HR:=Lib.hid hr;clear hr;go_wp2_with fail
   go_ret;exact⟨by rw[HR.out];rfl,hb1⟩
def wantI (ts:List BTok) (i:Nat) (f:Option (Nat×Nat)) (k:Nat):Nat:=if (f.isNone&&isK ts i [k])=true then skP ts i else i
def wantF (ts:List BTok) (i:Nat) (f:Option (Nat×Nat)) (k:Nat):Option (Nat×Nat):=if (f.isNone&&isK ts i [k])=true then none else f.or (some (formF ts i))
theorem zwant_any (F:ZFix cap ts)(h:ZIn w b g cap ts i f)(hi:i<ts.length)(k:Nat)(kz:Int)(hk:kz=(k:Int)) :
  Calls Tryz.prog 117 #[.pointer (some ⟨b,0,none⟩),.int .i64 kz] w fun e w'=>e = .returned (.tuple #[])∧ZIn w' b g cap ts (wantI ts i f k) (wantF ts i f k)∧Kept (At b) w w':=by
 subst hk;unfold wantI wantF
 by_cases hx:(f.isNone&&isK ts i [k])=true
 ·rw[if_pos hx,if_pos hx];have HF:=Lib.hid (show f=none from by cases f with | none=>rfl | some x=>simp at hx)
  go_enter Tryz.func117,Tryz.ntmps117
  go_wp2_with fail
  refine (zkind_any F h hi k _ rfl).mono ?_;rintro e w1 ⟨rfl,hb1⟩;rw[hx];have h1:=h.below hb1;clear h hx;go_wp2_with fail
  refine (znext_any F h1 hi).mono ?_;rintro e w2 ⟨rfl,h2,hk2⟩;rw[HF.out] at h2;go_wp2_with fail
  refine bodyPost_end (results_none rfl _ _ _) rfl ?_;exact⟨rfl,h2,(Kept.ofBelow hb1).same hk2⟩
 ·rw[if_neg hx,if_neg hx];have hx:(f.isNone&&isK ts i [k])=false:=by simpa using hx
  go_enter Tryz.func117,Tryz.ntmps117
  go_wp2_with fail
  refine (zkind_any F h hi k _ rfl).mono ?_;rintro e w1 ⟨rfl,hb1⟩;rw[hx];have h1:=h.below hb1;clear h hx;go_wp2_with fail
  refine (zwrong_any F h1 hi).mono ?_;rintro e w2 ⟨rfl,h2,hk2⟩;go_wp2_with fail
  refine bodyPost_ret (results_none rfl _ _ _) rfl ?_;exact⟨rfl,h2,(Kept.ofBelow hb1).same hk2⟩
def deepF (ts:List BTok) (i d:Nat) (f:Option (Nat×Nat)):Option (Nat×Nat):=match f with | some x=>some x | none=>if 30<d then some (102,(tkAt ts i).place) else none
theorem zdeep_any (F:ZFix cap ts)(h:ZIn w b g cap ts i f)(hi:i<ts.length)(d:Nat)(dz:Int)(hd:f=none→dz=(d:Int)) :
  Calls Tryz.prog 47 #[.pointer (some ⟨b,0,none⟩),.int .i64 dz] w fun e w'=>e = .returned (.tuple #[])∧ZIn w' b g cap ts i (deepF ts i d f)∧Kept (At b) w w':=by
 have hf1:=ztok_f1;have HP:=Lib.hid (F.place i);obtain⟨q,hq⟩:∃ q,deepF ts i d f=q:=⟨_,rfl⟩;have HQ:=Lib.hid hq;rw[hq];clear hq;have HD:=Lib.hid hd;clear hd
 by_cases h30:(30:Int)<dz
 ·have e1:decide ((30:Int)<dz)=true:=by rw[decide_eq_true_eq];exact h30
  have HE:=Lib.hid (show f.or (some (102,(tkAt ts i).place))=q from by
   rw[← HQ.out]
   cases f with
   | some x=>rfl
   | none =>
    have:=HD.out rfl
    unfold deepF;dsimp only;rw[if_pos (by omega)]
    rfl)
  clear h30;go_enter Tryz.func47,Tryz.ntmps47
  go_wp2_with fail
  refine (znow_any F h hi).mono ?_;rintro e w1 ⟨rfl,hb1⟩;have h1:=h.below hb1;unfold BTok.cells;go_wp2_with fail
  refine (zfail_any h1 102 (tkAt ts i).place _ _ rfl rfl (by omega) (by omega) HP.out).mono ?_
  rintro e w2 ⟨rfl,h2,hk2⟩;rw[HE.out] at h2;go_wp2_with fail
  refine bodyPost_end (results_none rfl _ _ _) rfl ?_;exact⟨rfl,h2,(Kept.ofBelow hb1).same hk2⟩
 ·have e1:decide ((30:Int)<dz)=false:=by rw[decide_eq_false_iff_not];exact h30
  have HE:=Lib.hid (show f=q from by
   rw[← HQ.out]
   cases f with
   | some x=>rfl
   | none =>
    have:=HD.out rfl
    unfold deepF;dsimp only;rw[if_neg (by omega)])
  clear h30;go_enter Tryz.func47,Tryz.ntmps47
  go_wp2_with fail
  refine bodyPost_end (results_none rfl _ _ _) rfl ?_;exact⟨rfl,by rw[← HE.out];exact h,Kept.refl _ _⟩
def linesI (ts:List BTok) (i:Nat) (f:Option (Nat×Nat)) (ks:List Nat):Nat:=if f.isNone=true then passT ts ks i else i
theorem zlines_any (F:ZFix cap ts)(h:ZIn w b g cap ts i f)(hi:i<ts.length)(q:Bool) :
  Calls Tryz.prog 48 #[.pointer (some ⟨b,0,none⟩),.bool q] w fun e w'=>e = .returned (.tuple #[])∧ZIn w' b g cap ts (linesI ts i f (if q=true then [1,2] else [1])) f∧Kept (At b) w w':=by
 unfold linesI
 cases f with
 | some x =>
  go_enter Tryz.func48,Tryz.ntmps48
  go_wp2_with fail
  go_loopg [] 0 (fun m wr=>m=0∧wr=w)
  case atStart=>exact⟨rfl,rfl⟩
  case round =>
   obtain⟨rfl,rfl⟩:=hrel;rename World=>w
   cases q with
   | true =>
    go_wp2_with fail
    refine (zkind_any F h hi 1 _ rfl).mono ?_;rintro e w1 ⟨rfl,hb1⟩;have h1:=h.below hb1;go_wp2_with fail
    refine (zkind_any F h1 hi 2 _ rfl).mono ?_;rintro e w2 ⟨rfl,hb2⟩;have h2:=h1.below hb2;go_wp2_with fail
    refine bodyPost_end (results_none rfl _ _ _) rfl ?_;exact⟨rfl,h2,Kept.ofBelow (bNext hb1 hb2)⟩
   | false =>
    go_wp2_with fail
    refine (zkind_any F h hi 1 _ rfl).mono ?_;rintro e w1 ⟨rfl,hb1⟩;have h1:=h.below hb1;go_wp2_with fail
    refine bodyPost_end (results_none rfl _ _ _) rfl ?_;exact⟨rfl,h1,Kept.ofBelow hb1⟩
 | none =>
  obtain⟨ks,hks⟩:∃ ks,(if q=true then [1,2] else [1])=ks:=⟨_,rfl⟩
  have HKS:=Lib.hid hks;have h0:0 ∉ ks:=by rw[← hks];cases q <;> simp
  obtain⟨T,hT⟩:∃ T,passT ts ks i=T:=⟨_,rfl⟩;have HT:=Lib.hid hT;rw[hks,hT,show (if (none:Option (Nat×Nat)).isNone=true then T else i)=T from rfl]
  clear hT hks;go_enter Tryz.func48,Tryz.ntmps48
  go_wp2_with fail
  go_loopg [] (ts.length - i) (fun m wr=>∃ k f,m=ts.length - k∧k<ts.length∧ts.length - k≤f∧ZIn wr b g cap ts k none∧Kept (At b) w wr∧Hid (passP ts ks f k=T))
  case atStart=>exact⟨i,ts.length,rfl,hi,by omega,h,Kept.refl _ _,HT⟩
  case round =>
   clear h hi HT;obtain⟨k,f,rfl,hkn,hf,hS,hK,HT⟩:=hrel;obtain⟨f,rfl⟩:∃ g,f=g+1:=⟨f - 1,by omega⟩
   have hX:isK ts k ks=(isK ts k [1] || (q&&isK ts k [2])):=by
    rw[← HKS.out]
    cases q <;> simp [isK_two]
   go_wp2_with fail
   refine (zkind_any F hS hkn 1 _ rfl).mono ?_;rintro e w1 ⟨rfl,hb1⟩;have hS1:=hS.below hb1;have hK1:=hK.andBelow hb1;clear hS hK hb1
   cases x1:isK ts k [1] with
   | true =>
    have hX2:isK ts k ks=true:=by rw[hX];simp [*]
    have HT2:=Lib.hid (show passP ts ks f (skP ts k)=T by rw[← HT.out,passP,hX2,if_pos rfl])
    obtain⟨e1,e2⟩:=skip_of F.T.fix.good hkn h0 hX2;rw[e1] at HT2;clear HT hX hX2;go_wp2_with fail
    refine (znext_any F hS1 hkn).mono ?_;rintro e w9 ⟨rfl,hS9,hK9⟩;rw[e1] at hS9;have hK8:=hK1.same hK9;go_wp2_with fail
    go_roundg (ts.length - (k+1))
    case measure=>omega
    case rel=>exact⟨k+1,f,rfl,e2,by omega,hS9,hK8,HT2⟩
   | false =>
    cases q with
    | false =>
     have hX2:isK ts k ks=false:=by rw[hX];simp [*]
     have HT2:k=T:=by rw[← HT.out,passP,hX2,if_neg (by simp)]
     subst HT2;clear HT hX hX2;go_wp2_with fail
     refine bodyPost_end (results_none rfl _ _ _) rfl ?_;exact⟨rfl,hS1,hK1⟩
    | true =>
     go_wp2_with fail
     refine (zkind_any F hS1 hkn 2 _ rfl).mono ?_;rintro e w2 ⟨rfl,hb2⟩;have hS2:=hS1.below hb2;have hK2:=hK1.andBelow hb2;clear hS1 hK1 hb2
     cases x2:isK ts k [2] with
     | true =>
      have hX2:isK ts k ks=true:=by rw[hX];simp [*]
      have HT2:=Lib.hid (show passP ts ks f (skP ts k)=T by rw[← HT.out,passP,hX2,if_pos rfl])
      obtain⟨e1,e2⟩:=skip_of F.T.fix.good hkn h0 hX2;rw[e1] at HT2;clear HT hX hX2;go_wp2_with fail
      refine (znext_any F hS2 hkn).mono ?_;rintro e w9 ⟨rfl,hS9,hK9⟩;rw[e1] at hS9;have hK8:=hK2.same hK9;go_wp2_with fail
      go_roundg (ts.length - (k+1))
      case measure=>omega
      case rel=>exact⟨k+1,f,rfl,e2,by omega,hS9,hK8,HT2⟩
     | false =>
      have hX2:isK ts k ks=false:=by rw[hX];simp [*]
      have HT2:k=T:=by rw[← HT.out,passP,hX2,if_neg (by simp)]
      subst HT2;clear HT hX hX2;go_wp2_with fail
      refine bodyPost_end (results_none rfl _ _ _) rfl ?_;exact⟨rfl,hS2,hK2⟩
def namedC (ts:List BTok) (i:Nat) (f:Option (Nat×Nat)):Bool:=f.isNone&&(isK ts i [18]&&nameB (tkAt ts i).text)
def namedS (ts:List BTok) (i:Nat) (f:Option (Nat×Nat)):List UInt8:=if namedC ts i f=true then (tkAt ts i).text else []
def namedI (ts:List BTok) (i:Nat) (f:Option (Nat×Nat)):Nat:=if namedC ts i f=true then skP ts i else i
def namedF (ts:List BTok) (i:Nat) (f:Option (Nat×Nat)):Option (Nat×Nat):=if namedC ts i f=true then none else f.or (some (formF ts i))
theorem named_parts (ts:List BTok)(i:Nat)(f:Option (Nat×Nat)):(namedC ts i f=true→namedS ts i f=(tkAt ts i).text∧namedI ts i f=skP ts i∧namedF ts i f=none)∧(namedC ts i f=false→namedS ts i f=[]∧namedI ts i f=i∧namedF ts i f=f.or (some (formF ts i))):=by
 unfold namedS namedI namedF;constructor
 ·intro h;rw[if_pos h,if_pos h,if_pos h];exact⟨rfl,rfl,rfl⟩
 ·intro h;rw[h];exact⟨rfl,rfl,rfl⟩
theorem znamed_any (F:ZFix cap ts)(h:ZIn w b g cap ts i f)(hi:i<ts.length) :
  Calls Tryz.prog 118 #[.pointer (some ⟨b,0,none⟩)] w fun e w'=>e = .returned (.string (bs (namedS ts i f)))∧ZIn w' b g cap ts (namedI ts i f) (namedF ts i f)∧Kept (At b) w w':=by
 have HRS:=Lib.hid (named_parts ts i f);have hf3:=ztok_f3;have HT:=Lib.hid (Nat.le_trans (F.T.fix.good.text i) (show 8192≤1000000 by omega))
 obtain⟨r,hr⟩:∃ r,namedC ts i f=r:=⟨_,rfl⟩;have HR:=Lib.hid hr;clear hr;go_enter Tryz.func118,Tryz.ntmps118
 go_wp2_with fail
 refine (zkind_any F h hi 18 _ rfl).mono ?_;rintro e w1 ⟨rfl,hb1⟩;have h1:=h.below hb1
 cases hx:(f.isNone&&isK ts i [18]) with
 | false =>
  have HR2:=Lib.hid (show r=false from by rw[← HR.out,namedC,← Bool.and_assoc,hx];rfl)
  clear hx;go_wp2_with fail
  refine (zwrong_any F h1 hi).mono ?_;rintro e w2 ⟨rfl,h2,hk2⟩;go_wp2_with fail
  go_ret;obtain⟨q1,q2,q3⟩:=HRS.out.2 (by rw[HR.out];exact HR2.out)
  rw[q1,q2,q3];exact⟨rfl,h2,(Kept.ofBelow hb1).same hk2⟩
 | true =>
  have HF:=Lib.hid (show f=none from by cases f with | none=>rfl | some x=>simp at hx)
  have HR2:=Lib.hid (show r=nameB (tkAt ts i).text from by rw[← HR.out,namedC,← Bool.and_assoc,hx];rfl)
  clear hx;go_wp2_with fail
  refine (znow_any F h1 hi).mono ?_;rintro e w2 ⟨rfl,hb2⟩;have h2:=h1.below hb2;unfold BTok.cells;go_wp2_with fail
  refine (rName_any _ _ (by rw[bs_size];exact HT.out)).mono ?_
  rintro e w3 ⟨rfl,rfl⟩;rw[bs_list]
  cases hn:nameB (tkAt ts i).text with
  | false =>
   rw[hn] at HR2;go_wp2_with fail
   refine (zwrong_any F h2 hi).mono ?_;rintro e w4 ⟨rfl,h4,hk4⟩;go_wp2_with fail
   go_ret;obtain⟨q1,q2,q3⟩:=HRS.out.2 (by rw[HR.out];exact HR2.out)
   rw[q1,q2,q3];exact⟨rfl,h4,(Kept.ofBelow (bNext hb1 hb2)).same hk4⟩
  | true =>
   rw[hn] at HR2;go_wp2_with fail
   refine (znow_any F h2 hi).mono ?_;rintro e w4 ⟨rfl,hb4⟩;have h4:=h2.below hb4;unfold BTok.cells;go_wp2_with fail
   refine (znext_any F h4 hi).mono ?_;rintro e w5 ⟨rfl,h5,hk5⟩;go_wp2_with fail
   go_ret;obtain⟨q1,q2,q3⟩:=HRS.out.1 (by rw[HR.out];exact HR2.out)
   rw[q1,q2,q3];rw[HF.out] at h5;exact⟨rfl,h5,(Kept.ofBelow (bNext (bNext hb1 hb2) hb4)).same hk5⟩
end
end Go.Proofs.YtbplbehhlbkklaaGreatDoor

namespace Go.Proofs.YtbplbehhlbkklaaGreatDoor
set_option maxHeartbeats 4000000
set_option maxRecDepth 100000
open Go Go.RowKit
theorem r5NodeO_any (kind n:Int)(s:List UInt8)(L:List Prog)(b:Nat)(v:Value)(w:World)(hK:KSl w b v L)(hsz:L.flatten.length≤1000000000000)(hnum:L.length≤100000000) :
  Calls Tryz.prog 88 #[.int .i64 kind,.int .i64 n,.string (bs s),v] w fun e w'=>∃ v',e = .returned v'∧NOwn w' w.heap.size v' (newP kind n s L)∧Below w.heap.size w w':=by
 obtain⟨i0,hi0,hz0,hz1,hz2⟩:=info_parts infoNode;have HK:=Lib.hid hK;obtain⟨ao,cap,hv,hc1,hc2,hc3⟩:=hK;subst hv;obtain⟨N,hN⟩:∃ N,L.length=N:=⟨_,rfl⟩;have HN:=Lib.hid hN;rw[hN] at hc1 hc3 hnum ⊢;have HC:=Lib.hid hc3;clear hN hc3;have hO:=NOwn.one (w:=w) (B:=w.heap.size) (b:=w.heap.size) ⟨kind,n,N,1,s⟩ (Nat.le_refl _) rfl;unfold PNode.cells at hO;go_enter Tryz.func88,Tryz.ntmps88
 go_wp2_with fail
 go_loopg [9,10] N (fun m o c wr=>∃ k:Nat,m=N - k∧k≤N∧c = .int .i64 k∧NOwn wr w.heap.size o (⟨kind,n,N,1,s⟩ :: (L.take k).flatten)∧Below w.heap.size w wr)
 case atStart=>exact⟨0,rfl,Nat.zero_le _,rfl,hO,(Below.refl _ _).alloc (Nat.le_refl _) _⟩
 case round =>
  clear hO;obtain⟨k,rfl,hkn,rfl,hOw,hb⟩:=hrel
  by_cases hlt:k<N
  ·obtain⟨g,rfl,hg1,hg2,hg3⟩:=HC.out (by omega)
   obtain⟨l,hl⟩:∃ l,L[k]?=some l:=⟨_,List.getElem?_eq_getElem (by have:=HN.out;omega)⟩
   obtain⟨u,hu,hul⟩:=hg3 k l hl;have hu':=bSome hb hu;have HF:=Lib.hid (take_flat L k l hl)
   rcases hul.below hb with hN0 | ⟨rfl,rfl⟩
   ·obtain⟨g',cap',rfl,d1,d2,d3,d4,d5⟩:=hN0;obtain⟨o1,o2,rfl,o3,o4,o5⟩:=hOw.form (by simp)
    have HF:=Lib.hid (take_flat L k l hl);have hlen:=take_len L (k+1);rw[HF.out,List.length_append] at hlen;obtain⟨m1,hm1⟩:∃ m,(⟨kind,n,N,1,s⟩ :: (L.take k).flatten:Prog).length=m:=⟨_,rfl⟩;have hm2:m1≤1000000000001:=by rw[← hm1,List.length_cons];omega
    have hm3:m1+l.length≤1000000000001:=by rw[← hm1,List.length_cons];omega
    have HM:=Lib.hid hm1;have HO:=Lib.hid hOw;rw[hm1] at HO ⊢;clear hm1 hlen hl hu hg3 hul;go_wp2_with (at_builtin;refine wpList_append_own _ rfl _ _ 23 rfl w.heap.size 67 i0 _ 5 48 Tryz.underlying23 hi0 hz0 hz1 hz2 rfl (by decide) _ m1 _ rfl (by have:=HO.out;unfold NOwn at this;rw[HM.out] at this;exact this) ⟨g',0,none⟩ l.length cap' (l.flatMap PNode.cells) rfl (nodes_len l) ?c1 ?c2 ?c3 ?c4 ?c5 ?_)
    case c1 =>
     intro j u h;have:=d5 j u h
     cases j <;> simpa [Addr.add] using this
    case c2=>exact nodes_one l
    case c3=>unfold maxLen;omega
    case c4=>omega
    case c5=>exact hb.size
    intro v' w5 hown' hgrow _
    have hO5:NOwn w5 w.heap.size v' (⟨kind,n,N,1,s⟩ :: (L.take (k+1)).flatten):=by
     rw[HF.out,← List.cons_append];unfold NOwn;rw[List.length_append,List.flatMap_append,HM.out];exact hown'
    have hlt5:=HO.out;have hK5:Kept (fun k'=>some k'=(Value.slice (some ⟨o1,0,none⟩) m1 o2).ownBlock) wr w5:=(Kept.refl _ _).grown hgrow (fun k' h _=>h.symm)
    have hb5:Below w.heap.size w w5:=hb.trans (hK5.below hb.size (fun i hi e=>by have:=hlt5.lt _ e.symm;omega))
    go_wp2_with fail
    go_roundg (N - (k+1))
    case measure=>omega
    case rel=>exact⟨k+1,rfl,by omega,by go_num,hO5,hb5⟩
   ·obtain⟨o1,o2,rfl,o3,o4,o5⟩:=hOw.form (by simp)
    have HO:=Lib.hid (show NOwn wr w.heap.size (.slice (some ⟨o1,0,none⟩) (⟨kind,n,N,1,s⟩ :: (L.take k).flatten:Prog).length o2) (⟨kind,n,N,1,s⟩ :: (L.take (k+1)).flatten) from by rw[HF.out,List.append_nil];exact hOw)
    generalize (⟨kind,n,N,1,s⟩ :: (L.take k).flatten:Prog).length=m1 at *;clear hOw hl hu hg3 hul;go_wp2_with fail
    go_roundg (N - (k+1))
    case measure=>omega
    case rel=>exact⟨k+1,rfl,by omega,by go_num,HO.out,hb⟩
  ·obtain rfl:k=N:=by omega
   obtain⟨o1,o2,rfl,o3,o4,o5⟩:=hOw.form (by simp)
   have hT:(L.take k).flatten=L.flatten:=by rw[List.take_of_length_le (by have:=HN.out;omega)]
   rw[hT] at hOw o3 ⊢
   have HO:=Lib.hid (show NOwn (wr.setCell ⟨o1,3,none⟩ (.int .i64 ((L.flatten.length:Int)+1))) w.heap.size (.slice (some ⟨o1,0,none⟩) (L.flatten.length+1) o2) (newP kind n s L) from by
    have h:=hOw.setSize ((L.flatten.length:Int)+1);have e:=HN.out;subst e;exact h)
   have hfz:wr.frozen? ⟨o1,3,none⟩=false:=by
    rcases hOw.2 with ⟨_,h0⟩ | ⟨g',cap',cur,hv,_,hh,_⟩
    ·simp at h0
    ·injection hv with e1 _ _
     injection e1 with e1
     injection e1 with e1
     subst e1;simp [World.frozen?,hh]
   obtain⟨g',cap',hv,_,_,_,_,hcell⟩:=row_cell hOw (by simp)
   injection hv with e1 _ e3
   injection e1 with e1
   injection e1 with e1
   subst e1 e3;have c3:=hcell 3 (.int .i64 1) (by simp [PNode.cells])
   have hwr:IntKind.i64.wrap ((L.flatten.length:Int)+1)=(L.flatten.length:Int)+1:=by rw[IntKind.wrap_i64];omega
   simp only[List.length_cons] at o3 ⊢;have HB:=Lib.hid (hb.setCell (p:=⟨o1,3,none⟩) o4 (.int .i64 ((L.flatten.length:Int)+1)));clear hOw hcell hb hT;generalize L.flatten.length=q at *;go_wp2_with fail
   go_ret;exact⟨_,rfl,HO.out,HB.out⟩
section
variable {w:World} {b:Nat}
set_option maxHeartbeats 4000000
set_option maxRecDepth 100000
theorem r5Node_any (kind n:Int)(s:List UInt8)(L:List Prog)(v:Value)(hb:b<w.heap.size)(hK:KSl w b v L)(hsz:L.flatten.length≤1000000000000)(hnum:L.length≤100000000) :
  Calls Tryz.prog 88 #[.int .i64 kind,.int .i64 n,.string (bs s),v] w fun e w'=>∃ v',e = .returned v'∧NSl w' b v' (newP kind n s L)∧Below w.heap.size w w':=by
 refine (r5NodeO_any kind n s L b v w hK hsz hnum).mono ?_;rintro e w' ⟨v',rfl,h1,h2⟩;exact⟨v',rfl,h1.nsl (newP_pos _ _ _ _) hb,h2⟩
theorem z12node_any (kind n:Int)(s:List UInt8)(L:List Prog)(v:Value)(hb:b<w.heap.size)(hK:KSl w b v L)(hsz:L.flatten.length≤1000000000000)(hnum:L.length≤100000000) :
  Calls Tryz.prog 52 #[.int .i64 kind,.int .i64 n,.string (bs s),v] w fun e w'=>∃ v',e = .returned v'∧NSl w' b v' (newP kind n s L)∧Below w.heap.size w w':=by
 have H:=Lib.hid (r5Node_any kind n s L v hb hK hsz hnum);go_enter Tryz.func52,Tryz.ntmps52
 go_wp2_with fail
 refine H.out.mono ?_;rintro e w1 ⟨v1,rfl,h1,h2⟩;go_wp2_with fail
 go_ret;exact⟨_,rfl,h1,h2⟩
theorem r10node_any (kind n:Int)(s:List UInt8)(L:List Prog)(v:Value)(hb:b<w.heap.size)(hK:KSl w b v L)(hsz:L.flatten.length≤1000000000000)(hnum:L.length≤100000000) :
  Calls Tryz.prog 161 #[.int .i64 kind,.int .i64 n,.string (bs s),v] w fun e w'=>∃ v',e = .returned v'∧NSl w' b v' (newP kind n s L)∧Below w.heap.size w w':=by
 have H:=Lib.hid (r5Node_any kind n s L v hb hK hsz hnum);go_enter Tryz.func161,Tryz.ntmps161
 go_wp2_with fail
 refine H.out.mono ?_;rintro e w1 ⟨v1,rfl,h1,h2⟩;go_wp2_with fail
 go_ret;exact⟨_,rfl,h1,h2⟩
theorem z12nop_any (hb:b<w.heap.size) :
  Calls Tryz.prog 111 #[] w fun e w'=>∃ v',e = .returned v'∧NSl w' b v' (newP 20 0 [] [])∧Below w.heap.size w w':=by
 go_enter Tryz.func111,Tryz.ntmps111
 go_wp2_with fail
 refine (z12node_any 20 0 [] [] _ hb (KSl.nil _ _) (by simp) (by simp)).mono ?_
 rintro e w1 ⟨v1,rfl,h1,h2⟩;go_wp2_with fail
 go_ret;exact⟨_,rfl,h1,h2⟩
theorem r5Lit_any (s:List UInt8)(hb:b<w.heap.size) :
  Calls Tryz.prog 157 #[.string (bs s)] w fun e w'=>∃ v',e = .returned v'∧NSl w' b v' (litP s)∧Below w.heap.size w w':=by
 go_enter Tryz.func157,Tryz.ntmps157
 go_wp2_with fail
 refine (r5Node_any 1 0 s [] _ hb (KSl.nil _ _) (by simp) (by simp)).mono ?_
 rintro e w1 ⟨v1,rfl,h1,h2⟩;go_wp2_with fail
 go_ret;exact⟨_,rfl,h1,h2⟩
theorem r5Seq_any (L:List Prog)(v:Value)(hb:b<w.heap.size)(hne:∀ l∈L,0<l.length)(hsz:L.flatten.length≤100000000)(hnum:L.length≤100000000)(h:KSl w b v L) :
  Calls Tryz.prog 53 #[v] w fun e w'=>∃ v',e = .returned v'∧NSl w' b v' (seqP L)∧Below w.heap.size w w':=by
 match L,hne,hsz,hnum,h with
 | [],_,_,_,h =>
  obtain⟨ao,cap,rfl,_⟩:=h;go_enter Tryz.func53,Tryz.ntmps53
  go_wp2_with fail
  refine (r5Node_any 20 0 [] [] _ hb (KSl.nil _ _) (by simp) (by simp)).mono ?_
  rintro e w1 ⟨v1,rfl,h1,h2⟩;go_wp2_with fail
  go_ret;exact⟨_,rfl,h1,h2⟩
 | [l],hne,hsz,_,h =>
  obtain⟨g,cap,u,rfl,hc,hu,hul⟩:=h.one (hne l (by simp))
  have HU:=Lib.hid hul;obtain⟨g',cap',rfl,-⟩:=hul;go_enter Tryz.func53,Tryz.ntmps53
  go_wp2_with fail
  go_ret;exact⟨_,rfl,HU.out,Below.refl _ _⟩
 | l :: m :: r,_,hsz,hnum,h =>
  have HC:=Lib.hid (r5Node_any 23 0 [] (l :: m :: r) v hb h (by omega) hnum)
  obtain⟨ao,cap,rfl,-⟩:=h;obtain⟨n,hn⟩:∃ n,(l :: m :: r).length=n+2:=⟨r.length,rfl⟩;rw[hn] at HC ⊢;have k0:(((n+2:Nat):Int)==0)=false:=by rw[beq_eq_false_iff_ne];omega
  have k1:(((n+2:Nat):Int)==1)=false:=by rw[beq_eq_false_iff_ne];omega
  show Calls Tryz.prog 53 _ w fun e w'=>∃ v',e = .returned v'∧NSl w' b v' (newP 23 0 [] (l :: m :: r))∧Below w.heap.size w w'
  clear hn hnum hsz;go_enter Tryz.func53,Tryz.ntmps53
  go_wp2_with fail
  refine HC.out.mono ?_;rintro e w1 ⟨v1,rfl,h1,h2⟩;go_wp2_with fail
  go_ret;exact⟨_,rfl,h1,h2⟩
end
end Go.Proofs.YtbplbehhlbkklaaGreatDoor

namespace Go.Proofs.YtbplbehhlbkklaaGreatDoor
open Go Go.RowKit
inductive Tree:Prog→Prop
 | node (kind n:Int) (s:List UInt8) (kids:List Prog) (h:∀ kid∈kids,Tree kid):Tree (newP kind n s kids)
theorem Tree.pos {l:Prog}(h:Tree l):0<l.length:=by
 cases h
 exact newP_pos _ _ _ _
theorem Tree.leaf (kind n:Int)(s:List UInt8):Tree (newP kind n s []):=.node _ _ _ _ fun _ h=>by cases h
theorem Tree.one {kind n:Int}{s:List UInt8}{a:Prog}(h:Tree a):Tree (newP kind n s [a]):=.node _ _ _ _ fun x hx=>by
 rw[List.mem_singleton] at hx;subst hx;exact h
theorem Tree.two {kind n:Int}{s:List UInt8}{a b:Prog}(h:Tree a)(h2:Tree b):Tree (newP kind n s [a,b]):=.node _ _ _ _ fun x hx=>by
 simp only[List.mem_cons,List.not_mem_nil,or_false] at hx
 rcases hx with rfl | rfl
 ·exact h
 ·exact h2
theorem Tree.three {kind n:Int}{s:List UInt8}{a b c:Prog}(h:Tree a)(h2:Tree b)(h3:Tree c):Tree (newP kind n s [a,b,c]):=.node _ _ _ _ fun x hx=>by
 simp only[List.mem_cons,List.not_mem_nil,or_false] at hx
 rcases hx with rfl | rfl | rfl
 ·exact h
 ·exact h2
 ·exact h3
def ZRel (i:Nat) (f:Option (Nat×Nat)) (s:Nat) (X:PRes Prog) (i':Nat) (f':Option (Nat×Nat)) (l:Prog):Prop :=
 match f with
 | some x=>f'=some x∧l.length≤1∧(ndAt l 0).kind≠1
 | none=>match X with
  | none=>False
  | some (.ok (a,j))=>f'=none∧i'=j∧l=a
  | some (.error x)=>f'=some x∧l.length≤6 * (i' - i)+s∧(ndAt l 0).kind≠1
theorem ZRel.bad {i s i':Nat}{x:Nat×Nat}{X:PRes Prog}{f':Option (Nat×Nat)}{l:Prog}(h:ZRel i (some x) s X i' f' l):f'=some x∧l.length≤1∧(ndAt l 0).kind≠1:=h
theorem ZRel.mono {i s s' i':Nat}{f:Option (Nat×Nat)}{X:PRes Prog}{f':Option (Nat×Nat)}{l:Prog}(h:ZRel i f s X i' f' l)(hs:s≤s'):ZRel i f s' X i' f' l:=by
 unfold ZRel at h ⊢;split
 ·exact h
 ·split
  ·exact h
  ·exact h
  ·exact⟨h.1,by have:=h.2.1;omega,h.2.2⟩
theorem ZRel.from {i j s i':Nat}{X:PRes Prog}{f':Option (Nat×Nat)}{l:Prog}(h:ZRel j none s X i' f' l)(hj:i≤j)(_hi:j≤i'):ZRel i none s X i' f' l:=by
 unfold ZRel at h ⊢;dsimp only at h ⊢;split
 ·exact h
 ·exact h
 ·exact⟨h.1,by have:=h.2.1;omega,h.2.2⟩
def ZOut (w:World) (b g cap:Nat) (ts:List BTok) (i:Nat) (f:Option (Nat×Nat)) (s:Nat) (X:PRes Prog) (e:Ending) (w':World):Prop :=
 ∃ v l i' f',e = .returned v∧NSl w' b v l∧Tree l∧ZIn w' b g cap ts i' f'∧i≤i'∧i'<ts.length∧Kept (At b) w w'∧ZRel i f s X i' f' l
theorem ZOut.mk {w w':World}{b g cap:Nat}{ts:List BTok}{i:Nat}{f:Option (Nat×Nat)}{s:Nat}{X:PRes Prog}{e:Ending}{v:Value}{l:Prog}{i':Nat}{f':Option (Nat×Nat)}(he:e = .returned v)(h1:NSl w' b v l)(h2:Tree l)(h3:ZIn w' b g cap ts i' f')(h4:i≤i')(h5:i'<ts.length)(h6:Kept (At b) w w')(h7:ZRel i f s X i' f' l):ZOut w b g cap ts i f s X e w':=⟨v,l,i',f',he,h1,h2,h3,h4,h5,h6,h7⟩
def ZRelW (i:Nat) (f:Option (Nat×Nat)) (s:Nat) (X:PRes Prog) (i':Nat) (f':Option (Nat×Nat)) (l:Prog):Prop :=
 match f with
 | some x=>f'=some x∧l.length≤1
 | none=>match X with
  | none=>False
  | some (.ok (a,j))=>f'=none∧i'=j∧l=a
  | some (.error x)=>f'=some x∧l.length≤6 * (i' - i)+s
def ZOutW (w:World) (b g cap:Nat) (ts:List BTok) (i:Nat) (f:Option (Nat×Nat)) (s:Nat) (X:PRes Prog) (e:Ending) (w':World):Prop :=
 ∃ v l i' f',e = .returned v∧NSl w' b v l∧Tree l∧ZIn w' b g cap ts i' f'∧i≤i'∧i'<ts.length∧Kept (At b) w w'∧ZRelW i f s X i' f' l
theorem ZOutW.mk {w w':World}{b g cap:Nat}{ts:List BTok}{i:Nat}{f:Option (Nat×Nat)}{s:Nat}{X:PRes Prog}{e:Ending}{v:Value}{l:Prog}{i':Nat}{f':Option (Nat×Nat)}(he:e = .returned v)(h1:NSl w' b v l)(h2:Tree l)(h3:ZIn w' b g cap ts i' f')(h4:i≤i')(h5:i'<ts.length)(h6:Kept (At b) w w')(h7:ZRelW i f s X i' f' l):ZOutW w b g cap ts i f s X e w':=⟨v,l,i',f',he,h1,h2,h3,h4,h5,h6,h7⟩
theorem ZRelW.mono {i s s' i':Nat}{f:Option (Nat×Nat)}{X:PRes Prog}{f':Option (Nat×Nat)}{l:Prog}(h:ZRelW i f s X i' f' l)(hs:s≤s'):ZRelW i f s' X i' f' l:=by
 unfold ZRelW at h ⊢;split
 ·exact h
 ·split
  ·exact h
  ·exact h
  ·exact⟨h.1,by have:=h.2;omega⟩
theorem ZRelW.from {i j s i':Nat}{X:PRes Prog}{f':Option (Nat×Nat)}{l:Prog}(h:ZRelW j none s X i' f' l)(hj:i≤j)(_hi:j≤i'):ZRelW i none s X i' f' l:=by
 unfold ZRelW at h ⊢;dsimp only at h ⊢;split
 ·exact h
 ·exact h
 ·exact⟨h.1,by have:=h.2;omega⟩
def ZDoes (b g cap:Nat) (ts:List BTok) (fn:FuncId) (up:Int) (s:Nat→Nat) (x:Nat→Nat→PRes Prog):Prop :=
 ∀ (w:World) (i d:Nat) (dz:Int) (f:Option (Nat×Nat)),(f=none→dz=(d:Int)+up∧d≤30)→i<ts.length→ZIn w b g cap ts i f→Hid (f=none→x d i≠none)→Calls Tryz.prog fn #[.pointer (some ⟨b,0,none⟩),.int .i64 dz] w (ZOutW w b g cap ts i f (s d) (x d i))
theorem go_ne {α β:Type}{x:PRes α}{k:α→Nat→PRes β}(h:x.go k≠none):x≠none:=fun e=>h (by rw[e];rfl)
theorem take_ne {α:Type}{ts:List BTok}{i k:Nat}{c:Nat→PRes α}(h:takeP ts i [k] c≠none)(hx:isK ts i [k]=true):c (skP ts i)≠none:=by
 unfold takeP at h;rw[if_pos hx] at h;exact h
theorem take_yes {α:Type}{ts:List BTok}{i k:Nat}{c:Nat→PRes α}(hx:isK ts i [k]=true):takeP ts i [k] c=c (skP ts i):=by
 unfold takeP;rw[if_pos hx]
theorem take_no {α:Type}{ts:List BTok}{i k:Nat}{c:Nat→PRes α}(hx:isK ts i [k]=false):takeP ts i [k] c=some (.error (formF ts i)):=by
 unfold takeP;rw[if_neg (by rw[hx];simp)]
 rfl
theorem want_bad (ts:List BTok)(i k:Nat)(x:Nat×Nat):wantF ts i (some x) k=some x∧wantI ts i (some x) k=i:=⟨rfl,rfl⟩
theorem want_yes {ts:List BTok}{i k:Nat}(h:isK ts i [k]=true):wantF ts i none k=none∧wantI ts i none k=skP ts i:=by
 unfold wantF wantI;rw[h];exact⟨rfl,rfl⟩
theorem want_no {ts:List BTok}{i k:Nat}(h:isK ts i [k]=false):wantF ts i none k=some (formF ts i)∧wantI ts i none k=i:=by
 unfold wantF wantI;rw[h];exact⟨rfl,rfl⟩
theorem wantI_le {cap:Nat}{ts:List BTok}(_F:ZFix cap ts){i:Nat}(hi:i<ts.length)(f:Option (Nat×Nat))(k:Nat):i≤wantI ts i f k∧wantI ts i f k<ts.length:=by
 unfold wantI;split
 ·have:=skP_le hi
  unfold skP at this ⊢;omega
 ·exact⟨Nat.le_refl _,hi⟩
theorem wantF_none {ts:List BTok}{i k:Nat}{f:Option (Nat×Nat)}(h:wantF ts i f k=none):f=none∧isK ts i [k]=true∧wantI ts i f k=skP ts i:=by
 cases f with
 | some x=>cases h
 | none =>
  cases hk:isK ts i [k] with
  | false=>rw[(want_no hk).1] at h;cases h
  | true=>exact⟨rfl,rfl,(want_yes hk).2⟩
end Go.Proofs.YtbplbehhlbkklaaGreatDoor

namespace Go.Proofs.YtbplbehhlbkklaaGreatDoor
open Go Go.RowKit
def zS (d:Nat):Nat:=20 * (33 - d)
theorem around_rel {cap:Nat}{ts:List BTok}(F:ZFix cap ts){i d s k1 k2:Nat}{f:Option (Nat×Nat)}{x:Nat→Nat→PRes Prog}{i1:Nat}{f1:Option (Nat×Nat)}{l:Prog}(hi:i<ts.length)(hle:wantI ts i f k1≤i1)(hlt:i1<ts.length)
  (h:ZRelW (wantI ts i f k1) (wantF ts i f k1) s (x d (wantI ts i f k1)) i1 f1 l) (hs:f=none→1≤s) (hA:f=none→∀ l j,x d (skP ts i)=some (.ok (l,j))→l.length≤6 * (j - i)+s) :
  ZRelW i f s (takeP ts i [k1] fun a=>(x d a).go fun l j=>takeP ts j [k2] fun e=>pOk l e) (wantI ts i1 f1 k2) (wantF ts i1 f1 k2) l:=by
 have hw:=wantI_le F hi f k1;have hw2:=wantI_le F hlt f1 k2
 cases f with
 | some y =>
  rw[(want_bad ts i k1 y).1] at h;obtain⟨rfl,h2⟩:=h;exact⟨rfl,h2⟩
 | none =>
  cases hk:isK ts i [k1] with
  | false =>
   rw[(want_no hk).1] at h;obtain⟨rfl,h2⟩:=h;rw[take_no hk];exact⟨rfl,by have:=hs rfl;omega⟩
  | true =>
   rw[(want_yes hk).1,(want_yes hk).2] at h;rw[(want_yes hk).2] at hle hw;rw[take_yes hk]
   cases hq:x d (skP ts i) with
   | none=>rw[hq] at h;exact h.elim
   | some r =>
    rw[hq] at h
    cases r with
    | error y =>
     obtain⟨rfl,h2⟩:=h;exact⟨rfl,by rw[(want_bad ts i1 k2 y).2];omega⟩
    | ok q =>
     obtain⟨a,j⟩:=q;obtain⟨rfl,rfl,rfl⟩:=h;show ZRelW i none s (takeP ts i1 [k2] fun e=>pOk l e) _ _ l
     cases hk2:isK ts i1 [k2] with
     | false =>
      rw[take_no hk2,(want_no hk2).1,(want_no hk2).2];exact⟨rfl,by have:=hA rfl l i1 hq;omega⟩
     | true =>
      rw[take_yes hk2,(want_yes hk2).1,(want_yes hk2).2];exact⟨rfl,rfl,rfl⟩
theorem list_small {cap:Nat}{ts:List BTok}(F:ZFix cap ts)(f0 d:Nat){i:Nat}(hd:d≤31)(hi:i<ts.length):∀ l j,pList ts f0 d (skP ts i)=some (.ok (l,j))→l.length≤6 * (j - i)+(zS d - 14):=fun l j h=>by
 have h1:=((postAll F.T.fix.good f0).list d (skP ts i) (by have:=skP_le hi;unfold skP at this ⊢;omega)).1 l j h
 have h2:i≤skP ts i:=by have:=skP_le hi;unfold skP at this ⊢;omega
 unfold zS;omega
section
variable {b g cap:Nat} {ts:List BTok}
set_option maxHeartbeats 4000000
set_option maxRecDepth 100000
def pBetw (ts:List BTok) (f d i:Nat):PRes Prog:=takeP ts i [6] fun a=>(pList ts f d a).go fun l j=>takeP ts j [7] fun e=>pOk l e
theorem pTest_eq (ts:List BTok)(f d i:Nat):pTest ts (f+1) d i=pBetw ts f d (skP ts i):=by
 rw[pTest];rfl
theorem zblock_walk (F:ZFix cap ts)(f0:Nat)(hL:ZDoes b g cap ts 20 1 (fun d=>zS d - 14) (pList ts f0)):ZDoes b g cap ts 112 0 (fun d=>zS d - 14) (pBlock ts (f0+1)):=by
 have HU:=Lib.hid (fun d i=>show pBlock ts (f0+1) d i=takeP ts i [8] fun a=>(pList ts f0 d a).go fun l j=>takeP ts j [9] fun e=>pOk l e from by rw[pBlock])
 intro w i d dz f hdz hi hS hX
 have HX:=Lib.hid (fun (e:wantF ts i f 8=none)=>show pList ts f0 d (wantI ts i f 8)≠none from by
  obtain⟨e1,e2,e3⟩:=wantF_none e;have h:=hX.out e1;rw[HU.out] at h;rw[e3];exact go_ne (take_ne h e2))
 clear hX
 have HD:=Lib.hid (show wantF ts i f 8=none→IntKind.i64.wrap (dz+1)=(d:Int)+1∧d≤30 from fun e=>by
  have:=hdz (wantF_none e).1
  rw[IntKind.wrap_i64];omega)
 have hd31:f=none→d≤31:=fun e=>by have:=hdz e;omega
 have HRL:=Lib.hid (fun i1 f1 l h1 h2 h3=>around_rel (f:=f) (k1:=8) (d:=d) (k2:=9) (s:=zS d - 14) (x:=pList ts f0) (i1:=i1) (f1:=f1) (l:=l) F hi h1 h2 h3 (fun e=>by have:=hd31 e;unfold zS;omega) (fun e=>list_small F f0 d (hd31 e) hi))
 have HL:=Lib.hid hL;generalize hz:IntKind.i64.wrap (dz+1)=dz1 at *;clear hL hdz hd31;have hw:=wantI_le F hi f 8;go_enter Tryz.func112,Tryz.ntmps112
 go_wp2_with fail
 refine (zwant_any F hS hi 8 _ rfl).mono ?_;rintro e w1 ⟨rfl,hS1,hK1⟩;clear hS;go_wp2_with fail
 refine (HL.out _ _ d _ _ HD.out hw.2 hS1 (Lib.hid HX.out)).mono ?_;rintro e w2 ⟨v,l,i1,f1,rfl,hN2,hT2,hS2,hle2,hlt2,hK2,hR2⟩;obtain⟨gv,cv,rfl,-⟩:=id hN2;have HT:=Lib.hid hT2;have HN:=Lib.hid hN2;have HR:=Lib.hid (HRL.out i1 f1 l hle2 hlt2 hR2);have hK12:=hK1.same hK2;have hw9:=wantI_le F hlt2 f1 9;clear hN2 hT2 hR2 hS1 HRL HL HX hK1 hK2;go_wp2_with fail
 refine (zwant_any F hS2 hlt2 9 _ rfl).mono ?_;rintro e w3 ⟨rfl,hS3,hK3⟩;go_wp2_with fail
 go_ret;exact ZOutW.mk rfl (HN.out.kept hK3) HT.out hS3 (by omega) hw9.2 (hK12.same hK3) (by rw[HU.out];exact HR.out)
theorem zbetween_walk (F:ZFix cap ts)(f0:Nat)(hL:ZDoes b g cap ts 20 1 (fun d=>zS d - 14) (pList ts f0)):ZDoes b g cap ts 115 0 (fun d=>zS d - 14) (pBetw ts f0):=by
 have HU:=Lib.hid (fun d i=>show pBetw ts f0 d i=takeP ts i [6] fun a=>(pList ts f0 d a).go fun l j=>takeP ts j [7] fun e=>pOk l e from rfl)
 intro w i d dz f hdz hi hS hX
 have HX:=Lib.hid (fun (e:wantF ts i f 6=none)=>show pList ts f0 d (wantI ts i f 6)≠none from by
  obtain⟨e1,e2,e3⟩:=wantF_none e;have h:=hX.out e1;rw[HU.out] at h;rw[e3];exact go_ne (take_ne h e2))
 clear hX
 have HD:=Lib.hid (show wantF ts i f 6=none→IntKind.i64.wrap (dz+1)=(d:Int)+1∧d≤30 from fun e=>by
  have:=hdz (wantF_none e).1
  rw[IntKind.wrap_i64];omega)
 have hd31:f=none→d≤31:=fun e=>by have:=hdz e;omega
 have HRL:=Lib.hid (fun i1 f1 l h1 h2 h3=>around_rel (f:=f) (k1:=6) (d:=d) (k2:=7) (s:=zS d - 14) (x:=pList ts f0) (i1:=i1) (f1:=f1) (l:=l) F hi h1 h2 h3 (fun e=>by have:=hd31 e;unfold zS;omega) (fun e=>list_small F f0 d (hd31 e) hi))
 have HL:=Lib.hid hL;generalize hz:IntKind.i64.wrap (dz+1)=dz1 at *;clear hL hdz hd31;have hw:=wantI_le F hi f 6;go_enter Tryz.func115,Tryz.ntmps115
 go_wp2_with fail
 refine (zwant_any F hS hi 6 _ rfl).mono ?_;rintro e w1 ⟨rfl,hS1,hK1⟩;clear hS;go_wp2_with fail
 refine (HL.out _ _ d _ _ HD.out hw.2 hS1 (Lib.hid HX.out)).mono ?_;rintro e w2 ⟨v,l,i1,f1,rfl,hN2,hT2,hS2,hle2,hlt2,hK2,hR2⟩;obtain⟨gv,cv,rfl,-⟩:=id hN2;have HT:=Lib.hid hT2;have HN:=Lib.hid hN2;have HR:=Lib.hid (HRL.out i1 f1 l hle2 hlt2 hR2);have hK12:=hK1.same hK2;have hw9:=wantI_le F hlt2 f1 7;clear hN2 hT2 hR2 hS1 HRL HL HX hK1 hK2;go_wp2_with fail
 refine (zwant_any F hS2 hlt2 7 _ rfl).mono ?_;rintro e w3 ⟨rfl,hS3,hK3⟩;go_wp2_with fail
 go_ret;exact ZOutW.mk rfl (HN.out.kept hK3) HT.out hS3 (by omega) hw9.2 (hK12.same hK3) (by rw[HU.out];exact HR.out)
theorem passT_lt {cap:Nat}{ts:List BTok}(_F:ZFix cap ts){i:Nat}(hi:i<ts.length)(f:Option (Nat×Nat))(k:Nat)(_h0:0 ∉ [k]):i≤linesI ts i f [k]∧linesI ts i f [k]<ts.length:=by
 unfold linesI;split
 ·exact passT_le [k] hi
 ·exact⟨Nat.le_refl _,hi⟩
theorem zbelow_walk (F:ZFix cap ts)(f0:Nat)(hC:ZDoes b g cap ts 87 0 zS (pCommand ts f0)):ZDoes b g cap ts 116 0 (fun d=>zS d - 19) (pBody ts (f0+1)):=by
 intro w i d dz f hdz hi hS hX;have hw:=passT_lt F hi f 1 (by simp)
 obtain⟨j,hj⟩:∃ j,linesI ts i f [1]=j:=⟨_,rfl⟩;rw[hj] at hw;obtain⟨f1,hf1⟩:∃ f1,deepF ts j (d+1) f=f1:=⟨_,rfl⟩
 have HJ:=Lib.hid (show f=none→pBody ts (f0+1) d i=if 30<d+1 then nestP ts j else pCommand ts f0 (d+1) j from fun e=>by
  subst e;rw[pBody,← hj];rfl)
 have HF:=Lib.hid (show f1=none→f=none∧d+1≤30 from fun e=>by
  rw[← hf1] at e
  cases f with
  | some x=>cases e
  | none =>
   unfold deepF at e;dsimp only at e;split at e
   ·cases e
   ·exact⟨rfl,by omega⟩)
 have HX:=Lib.hid (show f1=none→pCommand ts f0 (d+1) j≠none from fun e=>by
  obtain⟨e1,e2⟩:=HF.out e;have h:=hX.out e1;rw[HJ.out e1,if_neg (by omega)] at h
  exact h)
 have HR:=Lib.hid (show ∀ i1 f2 l,j≤i1→ZRelW j f1 (zS (d+1)) (pCommand ts f0 (d+1) j) i1 f2 l→ZRelW i f (zS d - 19) (pBody ts (f0+1) d i) i1 f2 l from fun i1 f2 l h1 h=>by
  cases f with
  | some x =>
   have e:f1=some x:=by rw[← hf1];rfl
   rw[e] at h;exact h
  | none =>
   rw[HJ.out rfl];have hd:=(hdz rfl).2
   by_cases h30:30<d+1
   ·have e:f1=some (102,(tkAt ts j).place):=by rw[← hf1];unfold deepF;dsimp only;rw[if_pos h30]
    rw[e] at h;rw[if_pos h30];exact⟨h.1,by have:=h.2;unfold zS;omega⟩
   ·have e:f1=none:=by rw[← hf1];unfold deepF;dsimp only;rw[if_neg h30]
    rw[e] at h;rw[if_neg h30];refine (ZRelW.from h hw.1 h1).mono ?_
    unfold zS;omega)
 have HD:=Lib.hid (show f1=none→IntKind.i64.wrap (dz+1)=((d+1:Nat):Int)+0∧d+1≤30 from fun e=>by
  obtain⟨e1,e2⟩:=HF.out e;have:=(hdz e1).1
  rw[IntKind.wrap_i64];omega)
 have HD2:=Lib.hid (show f=none→IntKind.i64.wrap (dz+1)=((d+1:Nat):Int) from fun e=>by
  have:=(hdz e)
  rw[IntKind.wrap_i64];omega)
 have HF1:=Lib.hid hf1;have HJJ:=Lib.hid hj;have HC:=Lib.hid hC;generalize hz:IntKind.i64.wrap (dz+1)=dz1 at *;clear hX hC hf1 hj hdz;go_enter Tryz.func116,Tryz.ntmps116
 go_wp2_with fail
 refine (zlines_any F hS hi false).mono ?_;rintro e w1 ⟨rfl,hS1,hK1⟩;have hS1:ZIn w1 b g cap ts j f:=by have h:=hS1;rw[if_neg (by simp),HJJ.out] at h;exact h
 clear hS;go_wp2_with fail
 refine (zdeep_any F hS1 hw.2 (d+1) dz1 HD2.out).mono ?_;rintro e w2 ⟨rfl,hS2,hK2⟩;rw[HF1.out] at hS2;have hK12:=hK1.same hK2;clear hS1 hK1 hK2;go_wp2_with fail
 refine (HC.out _ _ (d+1) _ _ HD.out hw.2 hS2 (Lib.hid HX.out)).mono ?_;rintro e w3 ⟨v,l,i1,f2,rfl,hN,hT,hS3,hle,hlt,hK3,hR⟩;obtain⟨gv,cv,rfl,-⟩:=id hN;have HR3:=Lib.hid (HR.out i1 f2 l hle hR);clear hR HR;go_wp2_with fail
 go_ret;exact ZOutW.mk rfl hN hT hS3 (by omega) hlt (hK12.same hK3) HR3.out
end
end Go.Proofs.YtbplbehhlbkklaaGreatDoor
