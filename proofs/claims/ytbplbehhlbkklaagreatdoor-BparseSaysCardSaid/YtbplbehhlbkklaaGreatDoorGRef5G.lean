/- Names and letters, as the document has them: contracts. -/
import Derived.Test.YtbplbehhlbkklaaGreatDoorGZA
import Derived.Test.YtbplbehhlbkklaaGreatDoorGZK
namespace Go.Proofs.YtbplbehhlbkklaaGreatDoor
set_option maxHeartbeats 32000000
set_option maxRecDepth 100000
open Go Go.RowKit
theorem rLetter_any (c:UInt8)(w:World) :
  Calls Tryz.prog 84 #[.int .u8 c.toNat] w fun e w'=>e = .returned (.bool (isGo c))∧w=w':=by
 go_enter Tryz.func84,Tryz.ntmps84
 go_wp2
 all_goals go_ret
 all_goals exact⟨ret_bool (by rw[isGo,isBegin,isLetter,isDigit,Bool.eq_iff_iff];simp only[Bool.or_eq_true,Bool.and_eq_true,decide_eq_true_eq,beq_iff_eq,eq_self,true_iff];omega),rfl⟩
theorem rBlank_any (c:UInt8)(w:World) :
  Calls Tryz.prog 85 #[.int .u8 c.toNat] w fun e w'=>e = .returned (.bool (c.toNat==32 || c.toNat==9 || c.toNat==10))∧w=w':=by
 go_enter Tryz.func85,Tryz.ntmps85
 go_wp2
 all_goals go_ret
 all_goals exact⟨ret_bool (by rw[Bool.eq_iff_iff];simp only[Bool.or_eq_true,beq_iff_eq,eq_self,true_iff];omega),rfl⟩
theorem digit_begin (c:UInt8):isBegin c=(isGo c&&!isDigit c):=by
 have h:∀ n:Fin 256,isBegin (UInt8.ofNat n.val)=(isGo (UInt8.ofNat n.val)&&!isDigit (UInt8.ofNat n.val)):=by decide +kernel
 have h1:=h ⟨c.toNat,c.toNat_lt⟩;simpa using h1
theorem nameB_alt (s:ByteArray)(h0:0<s.size)(h20:s.size≤20):nameB s.data.toList=(!isDigit (bat s 0)&&s.data.toList.all isGo):=by
 rw[nameB_cons s h0 h20,digit_begin];have h:=drop_bat s 0 h0;rw[List.drop_zero] at h;rw[h,List.all_cons]
 cases isGo (bat s 0) <;> simp
theorem rName_empty (s:ByteArray)(w:World)(h:s.size=0) :
  Calls Tryz.prog 128 #[.string s] w fun e w'=>e = .returned (.bool false)∧w=w':=by
 go_enter Tryz.func128,Tryz.ntmps128
 go_wp2
 go_ret;exact⟨rfl,rfl⟩
theorem rName_long (s:ByteArray)(w:World)(h:20<s.size)(hs:s.size≤1000000) :
  Calls Tryz.prog 128 #[.string s] w fun e w'=>e = .returned (.bool false)∧w=w':=by
 go_enter Tryz.func128,Tryz.ntmps128
 go_wp2
 go_ret;exact⟨rfl,rfl⟩
theorem rName_digit (s:ByteArray)(w:World)(h0:0<s.size)(h20:s.size≤20)(h1:decide ((48:Int)≤s[0].toNat)=true)(h2:decide ((s[0].toNat:Int)≤57)=true) :
  Calls Tryz.prog 128 #[.string s] w fun e w'=>e = .returned (.bool false)∧w=w':=by
 go_enter Tryz.func128,Tryz.ntmps128
 go_wp2
 go_ret;exact⟨rfl,rfl⟩
theorem rName_loop (s:ByteArray)(w:World)(h0:0<s.size)(h20:s.size≤20)(hd:decide ((48:Int)≤s[0].toNat)=false∨(decide ((48:Int)≤s[0].toNat)=true∧decide ((s[0].toNat:Int)≤57)=false))(b:Bool)(hB:Hid (s.data.toList.all isGo=b)) :
  Calls Tryz.prog 128 #[.string s] w fun e w'=>e = .returned (.bool b)∧w=w':=by
 go_enter Tryz.func128,Tryz.ntmps128
 rcases hd with hd | ⟨hd,he⟩
 all_goals
  go_wp2
  go_loopg [3] (s.size) (fun m c wr=>∃ k:Nat,m=s.size - k∧k≤s.size∧c = .int .i64 k∧wr=w∧Hid ((s.data.toList.take k).all isGo=true))
  case atStart=>exact⟨0,rfl,Nat.zero_le _,rfl,rfl,Lib.hid rfl⟩
  case round =>
   obtain⟨k,rfl,hk,rfl,rfl,hall⟩:=hrel
   by_cases hlt:k<s.size
   ·by_cases hg:isGo s[k]=true
    ·have HG:=Lib.hid hg;have HN:=Lib.hid (show (s.data.toList.take (k+1)).all isGo=true by rw[all_take_succ s k hlt,hall.out,← getElem_bat s k hlt,hg];rfl)
     clear hg;go_wp2_with (go_at_call 84;refine (rLetter_any _ _).mono ?_;rintro e w' ⟨rfl,rfl⟩;rw[HG.out])
     go_roundg (s.size - (k+1))
     case measure=>omega
     case rel=>exact⟨k+1,rfl,by omega,by go_num,rfl,HN⟩
    ·have HG:=Lib.hid (show isGo s[k]=false by simpa using hg)
     have HB:=Lib.hid (show b=false by rw[← hB.out,all_false s k hlt (by rw[← getElem_bat s k hlt];exact HG.out)])
     clear hg;go_wp2_with (go_at_call 84;refine (rLetter_any _ _).mono ?_;rintro e w' ⟨rfl,rfl⟩;rw[HG.out])
     go_ret;exact⟨by rw[HB.out];rfl,rfl⟩
   ·have HB:=Lib.hid (show b=true by rw[← hB.out,← hall.out,List.take_of_length_le (by rw[size_eq];omega)])
    go_wp2
    go_ret;exact⟨by rw[HB.out];rfl,rfl⟩
theorem rName_any (s:ByteArray)(w:World)(hs:s.size≤1000000) :
  Calls Tryz.prog 128 #[.string s] w fun e w'=>e = .returned (.bool (nameB s.data.toList))∧w=w':=by
 by_cases h0:s.size=0
 ·have h:=rName_empty s w h0;rw[empty_of_size s h0] at h ⊢;exact h
 ·by_cases h20:20<s.size
  ·rw[nameB_long s h20];exact rName_long s w h20 hs
  ·rw[nameB_alt s (by omega) (by omega),← getElem_bat s 0 (by omega)]
   by_cases h1:(48:Int)≤s[0].toNat
   ·by_cases h2:(s[0].toNat:Int)≤57
    ·have e:isDigit s[0]=true:=by unfold isDigit;rw[Bool.and_eq_true,decide_eq_true_eq,decide_eq_true_eq];omega
     rw[e];exact rName_digit s w (by omega) (by omega) (decide_eq_true h1) (decide_eq_true h2)
    ·have e:isDigit s[0]=false:=by unfold isDigit;rw[Bool.and_eq_false_iff,decide_eq_false_iff_not,decide_eq_false_iff_not];omega
     rw[e];exact rName_loop s w (by omega) (by omega) (.inr ⟨decide_eq_true h1,decide_eq_false h2⟩) _ (Lib.hid (by rw[Bool.not_false,Bool.true_and]))
   ·have e:isDigit s[0]=false:=by unfold isDigit;rw[Bool.and_eq_false_iff,decide_eq_false_iff_not,decide_eq_false_iff_not];omega
    rw[e];exact rName_loop s w (by omega) (by omega) (.inl (decide_eq_false h1)) _ (Lib.hid (by rw[Bool.not_false,Bool.true_and]))
end Go.Proofs.YtbplbehhlbkklaaGreatDoor
namespace Go.Proofs.YtbplbehhlbkklaaGreatDoor
set_option maxHeartbeats 32000000
set_option maxRecDepth 100000
open Go Go.RowKit
theorem r5Word_any (k:Int)(w:World):Calls Tryz.prog 92 #[.int .i64 k] w fun e w'=>e = .returned (.bool (isWord k))∧w'=w:=by
 unfold isWord
 by_cases h:1≤k
 ·have h1:decide (1≤k)=true:=by simp [h]
  rw[h1];go_enter Tryz.func92,Tryz.ntmps92
  go_wp2
  go_ret;exact⟨by simp,rfl⟩
 ·have h1:decide (1≤k)=false:=by simp;omega
  rw[h1];go_enter Tryz.func92,Tryz.ntmps92
  go_wp2
  go_ret;exact⟨rfl,rfl⟩
theorem r5Command_any (k:Int)(w:World):Calls Tryz.prog 93 #[.int .i64 k] w fun e w'=>e = .returned (.bool (isCommand k))∧w'=w:=by
 unfold isCommand
 by_cases h:20≤k
 ·have h1:decide (20≤k)=true:=by simp [h]
  rw[h1];go_enter Tryz.func93,Tryz.ntmps93
  go_wp2
  go_ret;exact⟨by simp,rfl⟩
 ·have h1:decide (20≤k)=false:=by simp;omega
  rw[h1];go_enter Tryz.func93,Tryz.ntmps93
  go_wp2
  go_ret;exact⟨rfl,rfl⟩
def kindOk (k:Int):Bool:=isWord k || isCommand k
theorem kind_cases {k:Int}(h:kindOk k=true):k=1∨k=2∨k=3∨k=4∨k=5∨k=6∨k=7∨k=8∨k=9∨k=10∨k=11∨k=12∨k=20∨k=21∨k=22∨k=23∨k=24∨k=25∨k=26∨k=27∨k=28∨k=29∨k=30∨k=31∨k=32∨k=33∨k=34∨k=35∨k=36∨k=37:=by
 simp only[kindOk,isWord,isCommand,Bool.or_eq_true,Bool.and_eq_true,decide_eq_true_eq] at h;omega
theorem r5count_any (x:PNode)(w:World)(hk:kindOk x.kind=true)(hc:childrenB x=true):Calls Tryz.prog 129 #[.int .i64 x.kind,.int .i64 x.k] w fun e w'=>e = .returned (.bool true)∧w'=w:=by
 obtain⟨kd,n,k,sz,tx⟩:=x;dsimp only at hk ⊢
 rcases kind_cases hk with rfl | rfl | rfl | rfl | rfl | rfl | rfl | rfl | rfl | rfl | rfl | rfl | rfl | rfl | rfl | rfl | rfl | rfl | rfl | rfl | rfl | rfl | rfl | rfl | rfl | rfl | rfl | rfl | rfl | rfl
 ·have h0:k=0:=by simpa [childrenB] using hc
  clear hc hk;subst h0;go_enter Tryz.func129,Tryz.ntmps129
  go_wp2
  go_ret;exact⟨by rfl,rfl⟩
 ·have h0:k=0:=by simpa [childrenB] using hc
  clear hc hk;subst h0;go_enter Tryz.func129,Tryz.ntmps129
  go_wp2
  go_ret;exact⟨by rfl,rfl⟩
 ·have h0:0≤k:=by simpa [childrenB] using hc
  clear hc hk;go_enter Tryz.func129,Tryz.ntmps129
  go_wp2
  go_ret;exact⟨by first | rfl | (simp [h0];done) | (simp;omega),rfl⟩
 ·have h0:1≤k:=by simpa [childrenB] using hc
  clear hc hk;go_enter Tryz.func129,Tryz.ntmps129
  go_wp2
  go_ret;exact⟨by first | rfl | (simp [h0];done) | (simp;omega),rfl⟩
 ·have h0:k=1:=by simpa [childrenB] using hc
  clear hc hk;subst h0;go_enter Tryz.func129,Tryz.ntmps129
  go_wp2
  go_ret;exact⟨by rfl,rfl⟩
 ·have h0:k=1:=by simpa [childrenB] using hc
  clear hc hk;subst h0;go_enter Tryz.func129,Tryz.ntmps129
  go_wp2
  go_ret;exact⟨by rfl,rfl⟩
 ·have h0:k=1:=by simpa [childrenB] using hc
  clear hc hk;subst h0;go_enter Tryz.func129,Tryz.ntmps129
  go_wp2
  go_ret;exact⟨by rfl,rfl⟩
 ·have h0:k=1:=by simpa [childrenB] using hc
  clear hc hk;subst h0;go_enter Tryz.func129,Tryz.ntmps129
  go_wp2
  go_ret;exact⟨by rfl,rfl⟩
 ·have h0:k=1:=by simpa [childrenB] using hc
  clear hc hk;subst h0;go_enter Tryz.func129,Tryz.ntmps129
  go_wp2
  go_ret;exact⟨by rfl,rfl⟩
 ·have h0:k=1:=by simpa [childrenB] using hc
  clear hc hk;subst h0;go_enter Tryz.func129,Tryz.ntmps129
  go_wp2
  go_ret;exact⟨by rfl,rfl⟩
 ·have h0:k=1:=by simpa [childrenB] using hc
  clear hc hk;subst h0;go_enter Tryz.func129,Tryz.ntmps129
  go_wp2
  go_ret;exact⟨by rfl,rfl⟩
 ·have h0:k=1:=by simpa [childrenB] using hc
  clear hc hk;subst h0;go_enter Tryz.func129,Tryz.ntmps129
  go_wp2
  go_ret;exact⟨by rfl,rfl⟩
 ·have h0:k=0:=by simpa [childrenB] using hc
  clear hc hk;subst h0;go_enter Tryz.func129,Tryz.ntmps129
  go_wp2
  go_ret;exact⟨by rfl,rfl⟩
 ·have h0:1≤k:=by simpa [childrenB] using hc
  clear hc hk;go_enter Tryz.func129,Tryz.ntmps129
  go_wp2
  go_ret;exact⟨by first | rfl | (simp [h0];done) | (simp;omega),rfl⟩
 ·have h0:k=1:=by simpa [childrenB] using hc
  clear hc hk;subst h0;go_enter Tryz.func129,Tryz.ntmps129
  go_wp2
  go_ret;exact⟨by rfl,rfl⟩
 ·have h0:2≤k:=by simpa [childrenB] using hc
  clear hc hk;go_enter Tryz.func129,Tryz.ntmps129
  go_wp2
  go_ret;exact⟨by first | rfl | (simp [h0];done) | (simp;omega),rfl⟩
 ·have h0:k=3:=by simpa [childrenB] using hc
  clear hc hk;subst h0;go_enter Tryz.func129,Tryz.ntmps129
  go_wp2
  go_ret;exact⟨by rfl,rfl⟩
 ·have h0:k=2:=by simpa [childrenB] using hc
  clear hc hk;subst h0;go_enter Tryz.func129,Tryz.ntmps129
  go_wp2
  go_ret;exact⟨by rfl,rfl⟩
 ·have h0:k=2:=by simpa [childrenB] using hc
  clear hc hk;subst h0;go_enter Tryz.func129,Tryz.ntmps129
  go_wp2
  go_ret;exact⟨by rfl,rfl⟩
 ·have h0:k=1:=by simpa [childrenB] using hc
  clear hc hk;subst h0;go_enter Tryz.func129,Tryz.ntmps129
  go_wp2
  go_ret;exact⟨by rfl,rfl⟩
 ·have h0:k=2:=by simpa [childrenB] using hc
  clear hc hk;subst h0;go_enter Tryz.func129,Tryz.ntmps129
  go_wp2
  go_ret;exact⟨by rfl,rfl⟩
 ·have h0:k=2:=by simpa [childrenB] using hc
  clear hc hk;subst h0;go_enter Tryz.func129,Tryz.ntmps129
  go_wp2
  go_ret;exact⟨by rfl,rfl⟩
 ·have h0:1≤k∧k % 2=1:=by simpa [childrenB] using hc
  clear hc hk;obtain⟨h0,h1⟩:=h0;go_enter Tryz.func129,Tryz.ntmps129
  go_wp2
  go_ret;exact⟨by first | rfl | (simp [h0];done) | (simp;omega),rfl⟩
 ·have h0:k=1:=by simpa [childrenB] using hc
  clear hc hk;subst h0;go_enter Tryz.func129,Tryz.ntmps129
  go_wp2
  go_ret;exact⟨by rfl,rfl⟩
 ·have h0:2≤k:=by simpa [childrenB] using hc
  clear hc hk;go_enter Tryz.func129,Tryz.ntmps129
  go_wp2
  go_ret;exact⟨by first | rfl | (simp [h0];done) | (simp;omega),rfl⟩
 ·have h0:k=2:=by simpa [childrenB] using hc
  clear hc hk;subst h0;go_enter Tryz.func129,Tryz.ntmps129
  go_wp2
  go_ret;exact⟨by rfl,rfl⟩
 ·have h0:k=2:=by simpa [childrenB] using hc
  clear hc hk;subst h0;go_enter Tryz.func129,Tryz.ntmps129
  go_wp2
  go_ret;exact⟨by rfl,rfl⟩
 ·have h0:k=2:=by simpa [childrenB] using hc
  clear hc hk;subst h0;go_enter Tryz.func129,Tryz.ntmps129
  go_wp2
  go_ret;exact⟨by rfl,rfl⟩
 ·have h0:k=1:=by simpa [childrenB] using hc
  clear hc hk;subst h0;go_enter Tryz.func129,Tryz.ntmps129
  go_wp2
  go_ret;exact⟨by rfl,rfl⟩
 ·have h0:1≤k:=by simpa [childrenB] using hc
  clear hc hk;go_enter Tryz.func129,Tryz.ntmps129
  go_wp2
  go_ret;exact⟨by first | rfl | (simp [h0];done) | (simp;omega),rfl⟩
end Go.Proofs.YtbplbehhlbkklaaGreatDoor
namespace Go.Proofs.YtbplbehhlbkklaaGreatDoor
set_option maxHeartbeats 32000000
set_option maxRecDepth 100000
open Go Go.RowKit
def openP:Bool→List UInt8→Bool
 | b,[]=>b
 | b,c :: l=>openP (decide (c.toNat=92)&&!b) l
theorem open_pieces:∀ (n i:Nat)(l:List UInt8),l.length≤n→openP false l=(piecesP i l).2:=by
 intro n
 induction n with
 | zero =>
  intro i l h;obtain rfl:l=[]:=List.length_eq_zero_iff.1 (by omega)
  rfl
 | succ n ih =>
  intro i l h
  match l,h with
  | [],_=>rfl
  | [c],_ =>
   rw[piecesP]
   by_cases hc:c.toNat=92
   ·simp [openP,hc]
   ·simp [openP,hc]
  | c :: d :: l,h =>
   simp only[List.length_cons] at h;rw[piecesP]
   by_cases hc:c.toNat=92
   ·rw[if_pos hc,openP,hc];have h1:=ih (i+2) l (by omega)
    rw[← h1];simp [openP]
   ·rw[if_neg hc,openP];have h1:=ih (i+1) (d :: l) (by simp;omega)
    rw[← h1];simp [hc]
theorem open_closed (l:List UInt8):isClosed l=!(openP false l):=by
 unfold isClosed;rw[open_pieces _ 0 l (Nat.le_refl _)]
theorem r2Closed_any (s:ByteArray)(w:World)(hs:s.size≤1000000):Calls Tryz.prog 127 #[.string s] w fun e w'=>e = .returned (.bool (isClosed s.data.toList))∧w'=w:=by
 have HC:=Lib.hid (open_closed s.data.toList);go_enter Tryz.func127,Tryz.ntmps127
 go_wp2_with fail
 go_loopg [3,4] s.size (fun m s3 s4 wr=>∃ (k:Nat) (o:Bool),m=s.size - k∧k≤s.size∧s3 = .bool o∧s4 = .int .i64 k∧wr=w∧Hid (openP o (s.data.toList.drop k)=openP false s.data.toList))
 case atStart=>exact⟨0,false,rfl,Nat.zero_le _,rfl,rfl,rfl,Lib.hid rfl⟩
 case round =>
  obtain⟨k,o,rfl,hk,rfl,rfl,rfl,hO⟩:=hrel
  by_cases hlt:k<s.size
  ·have hg:=getElem_bat s k hlt
   have hO2:=Lib.hid (show openP (decide ((bat s k).toNat=92)&&!o) (s.data.toList.drop (k+1))=openP false s.data.toList from by
    have h:=hO.out;rw[drop_bat s k hlt,openP] at h;exact h)
   have hwk:IntKind.i64.wrap ((k:Int)+1)=(k:Int)+1:=by rw[IntKind.wrap_i64];omega
   clear hO
   by_cases hc:(bat s k).toNat=92
   ·have hc2:(((bat s k).toNat:Int)==92)=true:=by rw[beq_iff_eq];omega
    cases o with
    | true =>
     go_wp2_with fail
     go_roundg (s.size - (k+1))
     case measure=>omega
     case rel=>exact⟨k+1,false,rfl,by omega,rfl,by simp,rfl,Lib.hid (by have h:=hO2.out;simpa [hc] using h)⟩
    | false =>
     go_wp2_with fail
     go_roundg (s.size - (k+1))
     case measure=>omega
     case rel=>exact⟨k+1,true,rfl,by omega,rfl,by simp,rfl,Lib.hid (by have h:=hO2.out;simpa [hc] using h)⟩
   ·have hc2:(((bat s k).toNat:Int)==92)=false:=by rw[beq_eq_false_iff_ne];omega
    go_wp2_with fail
    go_roundg (s.size - (k+1))
    case measure=>omega
    case rel=>exact⟨k+1,false,rfl,by omega,rfl,by simp,rfl,Lib.hid (by have h:=hO2.out;simpa [hc] using h)⟩
  ·obtain rfl:k=s.size:=by omega
   have hO2:=Lib.hid (show o=openP false s.data.toList from by
    have h:=hO.out;rw[List.drop_of_length_le (by rw[size_eq];omega)] at h
    exact h)
   clear hO;go_wp2_with fail
   go_ret;exact⟨by rw[HC.out,← hO2.out];rfl,rfl⟩
theorem r5alone_any (x:PNode)(w:World)(hk:kindOk x.kind=true)(hc:childrenB x=true)(hf:fieldsB x=true):Calls Tryz.prog 94 #[.agg #[.int .i64 x.kind,.int .i64 x.n,.int .i64 x.k,.int .i64 x.size,.string (bs x.text)]] w fun e w'=>e = .returned (.bool true)∧Below w.heap.size w w':=by
 have htx:=fieldsM_len (x:=x) hf (by omega)
 obtain⟨kd,n,k,sz,tx⟩:=x;dsimp only at hk htx ⊢;have hb0:=(Below.refl w.heap.size w).alloc (Nat.le_refl _) (.cells #[.int .i64 kd,.int .i64 n,.int .i64 k,.int .i64 sz,.string (bs tx)] 67);have HCT:=Lib.hid (fun w=>r5count_any ⟨kd,n,k,sz,tx⟩ w hk hc)
 dsimp only at HCT;have hE0:(bs []).toList.isEmpty=true:=by rw[bs_isEmpty];rfl
 have hE42:((bs [42]).toList==[42])=true:=by rw[bs_toList];rfl
 by_cases h1:kd=1
 ·subst h1;simp only[fieldsB,fieldsM,if_true,Bool.and_eq_true,Bool.or_eq_true,decide_eq_true_eq] at hf;obtain⟨hf1,hf2⟩:=hf;have hle:(((bs tx).size:Int)≤2000):=by rw[bs_size];omega
  clear hk hc
  rcases hf1 with rfl | ⟨rfl,hcl⟩
  ·go_enter Tryz.func94,Tryz.ntmps94
   go_wp2_with fail
   refine (HCT.out _).mono ?_;rintro e w2 ⟨rfl,rfl⟩;go_wp2
   go_ret;exact⟨rfl,hb0⟩
  ·have hcl2:isClosed (bs tx).data.toList=true:=by rw[bs_list];exact hcl
   go_enter Tryz.func94,Tryz.ntmps94
   go_wp2_with fail
   refine (r2Closed_any (bs tx) _ (by rw[bs_size];omega)).mono ?_
   rintro e w1 ⟨rfl,rfl⟩;rw[hcl2];go_wp2_with fail
   refine (HCT.out _).mono ?_;rintro e w2 ⟨rfl,rfl⟩;go_wp2
   go_ret;exact⟨rfl,hb0⟩
 have b1:(kd==1)=false:=by rw[beq_eq_false_iff_ne];exact h1
 by_cases h2:kd=2
 ·subst h2
  have hf':n=0∧(nameB tx=true∨tx=[42]):=by
   simp only[fieldsB,fieldsM] at hf;simpa using hf
  obtain⟨rfl,hf2⟩:=hf';clear hf hk hc;go_enter Tryz.func94,Tryz.ntmps94
  go_wp2_with fail
  refine (rName_any (bs tx) _ (by rw[bs_size];omega)).mono ?_
  rintro e w1 ⟨rfl,rfl⟩;rw[bs_list]
  cases hnm:nameB tx with
  | true =>
   go_wp2_with fail
   refine (HCT.out _).mono ?_;rintro e w2 ⟨rfl,rfl⟩;go_wp2
   go_ret;exact⟨rfl,hb0⟩
  | false =>
   rcases hf2 with hf2 | rfl
   ·rw[hnm] at hf2;cases hf2
   ·go_wp2_with fail
    refine (HCT.out _).mono ?_;rintro e w2 ⟨rfl,rfl⟩;go_wp2
    go_ret;exact⟨rfl,hb0⟩
 have b2:(kd==2)=false:=by rw[beq_eq_false_iff_ne];exact h2
 by_cases h11:kd=11
 ·subst h11
  have hf':(1≤n∧n≤99)∧tx=[]:=by
   simp only[fieldsB,fieldsM] at hf;simpa using hf
  obtain⟨⟨q1,q2⟩,rfl⟩:=hf';clear hf hk hc;go_enter Tryz.func94,Tryz.ntmps94
  go_wp2_with fail
  refine (HCT.out _).mono ?_;rintro e w2 ⟨rfl,rfl⟩;go_wp2
  go_ret;exact⟨rfl,hb0⟩
 have b11:(kd==11)=false:=by rw[beq_eq_false_iff_ne];exact h11
 by_cases h33:kd=33
 ·subst h33
  have hf':(1≤n∧n≤3)∧tx=[]:=by
   simp only[fieldsB,fieldsM] at hf;simpa using hf
  obtain⟨⟨q1,q2⟩,rfl⟩:=hf';clear hf hk hc;go_enter Tryz.func94,Tryz.ntmps94
  go_wp2_with fail
  refine (HCT.out _).mono ?_;rintro e w2 ⟨rfl,rfl⟩;go_wp2
  go_ret;exact⟨rfl,hb0⟩
 have b33:(kd==33)=false:=by rw[beq_eq_false_iff_ne];exact h33
 have hn0:n=0:=by
  by_cases h:n=0
  ·exact h
  ·simp [fieldsB,fieldsM,h1,h11,h33,h] at hf
 subst hn0
 by_cases h22:kd=22
 ·subst h22
  have hf':nameB tx=true:=by
   simpa [fieldsB,fieldsM,namedB] using hf
  clear hf hk hc;go_enter Tryz.func94,Tryz.ntmps94
  go_wp2_with fail
  refine (rName_any (bs tx) _ (by rw[bs_size];omega)).mono ?_
  rintro e w1 ⟨rfl,rfl⟩;rw[bs_list,hf'];go_wp2_with fail
  refine (HCT.out _).mono ?_;rintro e w2 ⟨rfl,rfl⟩;go_wp2
  go_ret;exact⟨rfl,hb0⟩
 have b22:(kd==22)=false:=by rw[beq_eq_false_iff_ne];exact h22
 by_cases h29:kd=29
 ·subst h29
  have hf':nameB tx=true:=by
   simpa [fieldsB,fieldsM,namedB] using hf
  clear hf hk hc;go_enter Tryz.func94,Tryz.ntmps94
  go_wp2_with fail
  refine (rName_any (bs tx) _ (by rw[bs_size];omega)).mono ?_
  rintro e w1 ⟨rfl,rfl⟩;rw[bs_list,hf'];go_wp2_with fail
  refine (HCT.out _).mono ?_;rintro e w2 ⟨rfl,rfl⟩;go_wp2
  go_ret;exact⟨rfl,hb0⟩
 have b29:(kd==29)=false:=by rw[beq_eq_false_iff_ne];exact h29
 by_cases h35:kd=35
 ·subst h35
  have hf':nameB tx=true:=by
   simpa [fieldsB,fieldsM,namedB] using hf
  clear hf hk hc;go_enter Tryz.func94,Tryz.ntmps94
  go_wp2_with fail
  refine (rName_any (bs tx) _ (by rw[bs_size];omega)).mono ?_
  rintro e w1 ⟨rfl,rfl⟩;rw[bs_list,hf'];go_wp2_with fail
  refine (HCT.out _).mono ?_;rintro e w2 ⟨rfl,rfl⟩;go_wp2
  go_ret;exact⟨rfl,hb0⟩
 have b35:(kd==35)=false:=by rw[beq_eq_false_iff_ne];exact h35
 by_cases h31:kd=31
 ·subst h31
  have hf':nameB tx=true:=by
   simpa [fieldsB,fieldsM,namedB] using hf
  clear hf hk hc;go_enter Tryz.func94,Tryz.ntmps94
  go_wp2_with fail
  refine (rName_any (bs tx) _ (by rw[bs_size];omega)).mono ?_
  rintro e w1 ⟨rfl,rfl⟩;rw[bs_list,hf'];go_wp2_with fail
  refine (HCT.out _).mono ?_;rintro e w2 ⟨rfl,rfl⟩;go_wp2
  go_ret;exact⟨rfl,hb0⟩
 have b31:(kd==31)=false:=by rw[beq_eq_false_iff_ne];exact h31
 have htx0:tx=[]:=by
  simpa [fieldsB,fieldsM,h1,h2,h11,h33,namedB,h22,h29,h35,h31] using hf
 subst htx0;clear hf hk hc h1 h2 h11 h33 h22 h29 h35 h31;go_enter Tryz.func94,Tryz.ntmps94
 go_wp2_with fail
 refine (HCT.out _).mono ?_;rintro e w2 ⟨rfl,rfl⟩;go_wp2
 go_ret;exact⟨rfl,hb0⟩
end Go.Proofs.YtbplbehhlbkklaaGreatDoor
namespace Go.Proofs.YtbplbehhlbkklaaGreatDoor
set_option maxHeartbeats 32000000
set_option maxRecDepth 100000
open Go Go.RowKit
theorem r5command_any (x:PNode)(i:Nat)(w:World)(hc:childrenB x=true)(hi:(i:Int)<x.k)(hK:x.k<9223372036854775808):Calls Tryz.prog 96 #[.int .i64 x.kind,.int .i64 i,.int .i64 x.k] w fun e w'=>e = .returned (.bool (!takesB x.kind x.k i))∧w'=w:=by
 obtain⟨kd,n,k,sz,tx⟩:=x;dsimp only at hi hK ⊢
 by_cases h12:kd=12
 ·subst h12;clear hc;go_enter Tryz.func96,Tryz.ntmps96
  go_wp2
  go_ret;exact⟨by simp [takesB],rfl⟩
 have b12:(kd==12)=false:=by rw[beq_eq_false_iff_ne];exact h12
 by_cases h23:kd=23
 ·subst h23;clear hc;go_enter Tryz.func96,Tryz.ntmps96
  go_wp2
  go_ret;exact⟨by simp [takesB],rfl⟩
 have b23:(kd==23)=false:=by rw[beq_eq_false_iff_ne];exact h23
 by_cases h32:kd=32
 ·subst h32;clear hc;go_enter Tryz.func96,Tryz.ntmps96
  go_wp2
  go_ret;exact⟨by simp [takesB],rfl⟩
 have b32:(kd==32)=false:=by rw[beq_eq_false_iff_ne];exact h32
 by_cases h24:kd=24
 ·subst h24;clear hc;go_enter Tryz.func96,Tryz.ntmps96
  go_wp2
  go_ret;exact⟨by simp [takesB],rfl⟩
 have b24:(kd==24)=false:=by rw[beq_eq_false_iff_ne];exact h24
 by_cases h25:kd=25
 ·subst h25;clear hc;go_enter Tryz.func96,Tryz.ntmps96
  go_wp2
  go_ret;exact⟨by simp [takesB],rfl⟩
 have b25:(kd==25)=false:=by rw[beq_eq_false_iff_ne];exact h25
 by_cases h26:kd=26
 ·subst h26;clear hc;go_enter Tryz.func96,Tryz.ntmps96
  go_wp2
  go_ret;exact⟨by simp [takesB],rfl⟩
 have b26:(kd==26)=false:=by rw[beq_eq_false_iff_ne];exact h26
 by_cases h28:kd=28
 ·subst h28;clear hc;go_enter Tryz.func96,Tryz.ntmps96
  go_wp2
  go_ret;exact⟨by simp [takesB],rfl⟩
 have b28:(kd==28)=false:=by rw[beq_eq_false_iff_ne];exact h28
 by_cases h27:kd=27
 ·subst h27;clear hc;go_enter Tryz.func96,Tryz.ntmps96
  go_wp2
  go_ret;exact⟨by simp [takesB],rfl⟩
 have b27:(kd==27)=false:=by rw[beq_eq_false_iff_ne];exact h27
 by_cases h31:kd=31
 ·subst h31;clear hc;go_enter Tryz.func96,Tryz.ntmps96
  go_wp2
  go_ret;exact⟨by simp [takesB],rfl⟩
 have b31:(kd==31)=false:=by rw[beq_eq_false_iff_ne];exact h31
 by_cases h29:kd=29
 ·subst h29;have hk2:k=2:=by simpa [childrenB] using hc
  subst hk2;clear hc;have hi2:i=0∨i=1:=by omega
  rcases hi2 with rfl | rfl
  ·go_enter Tryz.func96,Tryz.ntmps96
   go_wp2
   go_ret;exact⟨by simp [takesB],rfl⟩
  ·go_enter Tryz.func96,Tryz.ntmps96
   go_wp2
   go_ret;exact⟨by simp [takesB],rfl⟩
 have b29:(kd==29)=false:=by rw[beq_eq_false_iff_ne];exact h29
 by_cases h35:kd=35
 ·subst h35;have hk2:k=2:=by simpa [childrenB] using hc
  subst hk2;clear hc;have hi2:i=0∨i=1:=by omega
  rcases hi2 with rfl | rfl
  ·go_enter Tryz.func96,Tryz.ntmps96
   go_wp2
   go_ret;exact⟨by simp [takesB],rfl⟩
  ·go_enter Tryz.func96,Tryz.ntmps96
   go_wp2
   go_ret;exact⟨by simp [takesB],rfl⟩
 have b35:(kd==35)=false:=by rw[beq_eq_false_iff_ne];exact h35
 by_cases h33:kd=33
 ·subst h33;have hk2:k=2:=by simpa [childrenB] using hc
  subst hk2;clear hc;have hi2:i=0∨i=1:=by omega
  rcases hi2 with rfl | rfl
  ·go_enter Tryz.func96,Tryz.ntmps96
   go_wp2
   go_ret;exact⟨by simp [takesB],rfl⟩
  ·go_enter Tryz.func96,Tryz.ntmps96
   go_wp2
   go_ret;exact⟨by simp [takesB],rfl⟩
 have b33:(kd==33)=false:=by rw[beq_eq_false_iff_ne];exact h33
 by_cases h34:kd=34
 ·subst h34;have hk2:k=2:=by simpa [childrenB] using hc
  subst hk2;clear hc;have hi2:i=0∨i=1:=by omega
  rcases hi2 with rfl | rfl
  ·go_enter Tryz.func96,Tryz.ntmps96
   go_wp2
   go_ret;exact⟨by simp [takesB],rfl⟩
  ·go_enter Tryz.func96,Tryz.ntmps96
   go_wp2
   go_ret;exact⟨by simp [takesB],rfl⟩
 have b34:(kd==34)=false:=by rw[beq_eq_false_iff_ne];exact h34
 by_cases h30:kd=30
 ·subst h30;clear hc
  by_cases h0:i=0
  ·subst h0;go_enter Tryz.func96,Tryz.ntmps96
   go_wp2
   go_ret;exact⟨by simp [takesB],rfl⟩
  ·have hp:(0:Int)<i:=by omega
   by_cases h1:i % 2=0
   ·have h2:((i:Int) % 2)=0:=by omega
    go_enter Tryz.func96,Tryz.ntmps96
    go_wp2
    go_ret;exact⟨by simp [takesB];omega,rfl⟩
   ·have h2:((i:Int) % 2)=1:=by omega
    go_enter Tryz.func96,Tryz.ntmps96
    go_wp2
    go_ret;exact⟨by simp [takesB];omega,rfl⟩
 have b30:(kd==30)=false:=by rw[beq_eq_false_iff_ne];exact h30
 by_cases h37:kd=37
 ·subst h37;clear hc;have hw1:IntKind.i64.wrap (k - 1)=k - 1:=by rw[IntKind.wrap_i64];omega
  by_cases hik:(i:Int)=k - 1
  ·have k1:((i:Int)==k - 1)=true:=by rw[beq_iff_eq];exact hik
   have HX:Hid (takesB 37 k i=false):=Lib.hid (by simp [takesB];omega)
   clear hik;go_enter Tryz.func96,Tryz.ntmps96
   go_wp2
   go_ret;exact⟨by rw[HX.out];rfl,rfl⟩
  ·have k1:((i:Int)==k - 1)=false:=by rw[beq_eq_false_iff_ne];exact hik
   have HX:Hid (takesB 37 k i=true):=Lib.hid (by simp [takesB];omega)
   clear hik;go_enter Tryz.func96,Tryz.ntmps96
   go_wp2
   go_ret;exact⟨by rw[HX.out];rfl,rfl⟩
 have b37:(kd==37)=false:=by rw[beq_eq_false_iff_ne];exact h37
 have HX:Hid (takesB kd k i=true):=Lib.hid (by simp [takesB,h12,h23,h32,h24,h25,h26,h28,h27,h31,h29,h35,h33,h34,h30,h37])
 clear h12 h23 h32 h24 h25 h26 h28 h27 h31 h29 h35 h33 h34 h30 h37 hc;go_enter Tryz.func96,Tryz.ntmps96
 go_wp2
 go_ret;exact⟨by rw[HX.out];rfl,rfl⟩
theorem rNone_any9 (w:World):Calls Tryz.prog 31 #[] w fun e w'=>e = .returned (.agg #[.int .i64 0,.slice none 0 0])∧Below w.heap.size w w':=by
 go_enter Tryz.func31,Tryz.ntmps31
 go_wp2
 refine bodyPost_ret (results_blk1 (p:=0) (g:=w.heap.size) (cs:=[.int .i64 0,.slice none 0 0]) rfl _ _ _ rfl (Blk.newAt _ _ rfl) Tryz.underlying30 rfl (by kernel_rfl)) rfl ?_
 exact⟨rfl,(Below.refl _ _).alloc (Nat.le_refl _) _⟩
theorem lookK_child {l:Prog}{f kk c E d:Nat}{x:PNode}(h:lookK l f kk c E d x=some none)(hk:(kk:Int)<x.k):∃ g,f=g+1∧lookP l g c E d (takesB x.kind x.k kk) (decide ((kk:Int)=x.k - 1))=some none∧lookK l g (kk+1) (c+(ndAt l c).size.toNat) E d x=some none:=by
 cases f with
 | zero=>rw[lookK] at h;cases h
 | succ g =>
  rw[lookK,if_neg (by omega)] at h
  refine ⟨g,rfl,?_⟩
  cases hq:lookP l g c E d (takesB x.kind x.k kk) (decide ((kk:Int)=x.k - 1)) with
  | none=>rw[hq] at h;cases h
  | some rc =>
   rw[hq] at h
   cases rc with
   | some q=>cases h
   | none=>exact⟨rfl,h⟩
theorem lookP_parts {l:Prog}{f i e d:Nat}{word last:Bool}(h:lookP l f i e d word last=some none):∃ g,f=g+1∧kindB (ndAt l i) word=true∧fieldsB (ndAt l i)=true∧childrenB (ndAt l i)=true∧1≤(ndAt l i).size∧(ndAt l i).size≤(e:Int) - i∧(last=true→(ndAt l i).size=(e:Int) - i)∧((ndAt l i).k=0→(ndAt l i).size=1)∧d≤30∧lookK l g 0 (i+1) (i+(ndAt l i).size.toNat) (d+1) (ndAt l i)=some none:=by
 cases f with
 | zero=>rw[lookP] at h;cases h
 | succ g =>
  rw[lookP] at h
  by_cases h1:kindB (ndAt l i) word=false∨fieldsB (ndAt l i)=false∨childrenB (ndAt l i)=false∨(ndAt l i).size<1∨((e:Int) - i)<(ndAt l i).size∨(last=true∧(ndAt l i).size≠(e:Int) - i)
  ·rw[if_pos h1] at h;cases h
  ·rw[if_neg h1] at h
   by_cases h2:(ndAt l i).k=0∧(ndAt l i).size≠1
   ·rw[if_pos h2] at h;cases h
   ·rw[if_neg h2] at h
    by_cases h3:fitP l ((ndAt l i).size.toNat - 1) (ndAt l i).k (i+1) (i+(ndAt l i).size.toNat)=false
    ·rw[if_pos h3] at h;cases h
    ·rw[if_neg h3] at h
     by_cases h4:30<d
     ·rw[if_pos h4] at h;cases h
     ·rw[if_neg h4] at h;refine ⟨g,rfl,?_,?_,?_,?_,?_,?_,?_,by omega,h⟩
      ·cases hq:kindB (ndAt l i) word with
       | true=>rfl
       | false=>exact absurd (.inl hq) h1
      ·cases hq:fieldsB (ndAt l i) with
       | true=>rfl
       | false=>exact absurd (.inr (.inl hq)) h1
      ·cases hq:childrenB (ndAt l i) with
       | true=>rfl
       | false=>exact absurd (.inr (.inr (.inl hq))) h1
      ·by_cases h9:(ndAt l i).size<1
       ·exact absurd (.inr (.inr (.inr (.inl h9)))) h1
       ·omega
      ·by_cases h9:(e:Int) - i<(ndAt l i).size
       ·exact absurd (.inr (.inr (.inr (.inr (.inl h9))))) h1
       ·omega
      ·intro hl
       by_cases h9:(ndAt l i).size=(e:Int) - i
       ·exact h9
       ·exact absurd (.inr (.inr (.inr (.inr (.inr ⟨hl,h9⟩))))) h1
      ·intro hk
       by_cases h9:(ndAt l i).size=1
       ·exact h9
       ·exact absurd ⟨hk,h9⟩ h2
theorem kindB_ok {x:PNode}{word:Bool}(h:kindB x word=true):kindOk x.kind=true∧isWord x.kind=word∧isCommand x.kind=!word:=by
 unfold kindB at h;unfold kindOk
 have hx:¬ (isWord x.kind=true∧isCommand x.kind=true):=by
  unfold isWord isCommand;simp only[Bool.and_eq_true,decide_eq_true_eq];omega
 cases word <;> cases h1:isWord x.kind <;> cases h2:isCommand x.kind <;> simp_all
end Go.Proofs.YtbplbehhlbkklaaGreatDoor
