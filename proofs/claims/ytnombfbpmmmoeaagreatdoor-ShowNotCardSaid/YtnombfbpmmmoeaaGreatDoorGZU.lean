/- alex.shown: a part as a source has it. -/
import Derived.Test.YtnombfbpmmmoeaaGreatDoorGAlexI
import Derived.Test.YtnombfbpmmmoeaaGreatDoorGZB
import Derived.Test.YtnombfbpmmmoeaaGreatDoorGZA
import Derived.Test.YtnombfbpmmmoeaaGreatDoorGBKitG
import Derived.Test.YtnombfbpmmmoeaaGreatDoorGZH
import Derived.Lib.SplitLaws
import Derived.Lib.Replace
import Derived.Lib.IndexBytes
import Derived.Lib.ItoaNum
namespace Go.Proofs.YtnombfbpmmmoeaaGreatDoor
open Go Go.RowKit
theorem I6 (b c:UInt8)(l:List UInt8)(h:b≠c)(i:Nat)(hi:Lib.index l [c]=i):Lib.index (b :: l) [c]=((i+1:Nat):Int):=by
 rw[Lib.index_one] at hi ⊢;unfold Lib.indexByte;have h1:(b==c)=false:=beq_false_of_ne h;rw[hi];simp [h1] <;> omega
theorem Iu (c:UInt8)(l:List UInt8):Lib.index (c :: l) [c]=((0:Nat):Int):=by
 rw[Lib.index_one];unfold Lib.indexByte;simp
theorem E8 (l:List UInt8):Lib.replaceK [39] [39,92,39,39] (Lib.count l [39]) l=eJ l:=by
 induction l with
 | nil=>rfl
 | cons c l ih =>
  by_cases hc:c=39
  ·subst hc;rw[Lib.count_cons_eq,Nat.add_comm,Lib.replaceK_hit _ _ _ _ 0 (Iu 39 l),eJ,if_pos (by decide)]
   simp only[List.take_zero,List.nil_append,Nat.zero_add,List.length_cons,List.length_nil,List.drop_succ_cons,List.drop_zero];rw[ih];rfl
  ·have hc':¬ c.toNat=39:=fun e=>hc (UInt8.toNat_inj.1 e)
   rw[Lib.count_cons_ne c 39 l hc,eJ,if_neg hc',← ih]
   cases hn:Lib.count l [39] with
   | zero=>rfl
   | succ m =>
    obtain⟨i,hi⟩:=Lib.index_of_count (s:=l) (old:=[39]) (by omega)
    rw[Lib.replaceK_hit _ _ _ _ (i+1) (I6 c 39 l hc i hi),Lib.replaceK_hit _ _ _ _ i hi];simp
theorem DJ (l:List UInt8):Lib.replaceAll l [39] [39,92,39,39]=eJ l:=by
 rw[Lib.replaceAll,Lib.replace,if_neg (by decide),Lib.replaceNum,if_pos (.inl (by decide))]
 exact E8 l
theorem xV (c:UInt8)(l:List UInt8):(⟨#[c]⟩:ByteArray)++bs l=bs (c :: l):=by
 rw[show (⟨#[c]⟩:ByteArray)=bs [c] from rfl,nP]
 rfl
def uG (r:List UInt8):Prop:=∀ c m,r=c :: m→c=32∨c=9∨c=35
theorem uG.nil:uG []:=fun c m h=>by cases h
theorem uG.blank (m:List UInt8):uG (32 :: m):=fun c n h=>by injection h with h1 _;exact .inl h1.symm
theorem El (b c:UInt8)(l:List UInt8)(h:b≠c)(i:Nat)(hi:Lib.index l [c]=i):Lib.index (b :: l) [c]=((i+1:Nat):Int):=by
 rw[Lib.index_one] at hi ⊢;unfold Lib.indexByte;have h1:(b==c)=false:=beq_false_of_ne h;rw[hi];simp [h1] <;> omega
theorem Ea (c:UInt8)(l:List UInt8):Lib.index (c :: l) [c]=((0:Nat):Int):=by
 rw[Lib.index_one];unfold Lib.indexByte;simp
theorem Fk (l:List UInt8):Lib.replaceK [39] [39,39] (Lib.count l [39]) l=dM l:=by
 induction l with
 | nil=>rfl
 | cons c l ih =>
  by_cases hc:c=39
  ·subst hc;rw[Lib.count_cons_eq,Nat.add_comm,Lib.replaceK_hit _ _ _ _ 0 (Ea 39 l),dM,if_pos (by decide)]
   simp only[List.take_zero,List.nil_append,Nat.zero_add,List.length_cons,List.length_nil,List.drop_succ_cons,List.drop_zero];rw[ih];rfl
  ·have hc':¬ c.toNat=39:=fun e=>hc (UInt8.toNat_inj.1 e)
   rw[Lib.count_cons_ne c 39 l hc,dM,if_neg hc',← ih]
   cases hn:Lib.count l [39] with
   | zero=>rfl
   | succ m =>
    obtain⟨i,hi⟩:=Lib.index_of_count (s:=l) (old:=[39]) (by omega)
    rw[Lib.replaceK_hit _ _ _ _ (i+1) (El c 39 l hc i hi),Lib.replaceK_hit _ _ _ _ i hi];simp
theorem DM (l:List UInt8):Lib.replaceAll l [39] [39,39]=dM l:=by
 rw[Lib.replaceAll,Lib.replace,if_neg (by decide),Lib.replaceNum,if_pos (.inl (by decide))]
 exact Fk l
end Go.Proofs.YtnombfbpmmmoeaaGreatDoor
