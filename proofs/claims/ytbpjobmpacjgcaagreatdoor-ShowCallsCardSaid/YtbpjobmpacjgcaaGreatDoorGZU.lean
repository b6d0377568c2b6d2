/- alex.shown: a part as a source has it. -/
import Derived.Test.YtbpjobmpacjgcaaGreatDoorGAlexI
import Derived.Test.YtbpjobmpacjgcaaGreatDoorGZB
import Derived.Test.YtbpjobmpacjgcaaGreatDoorGZA
import Derived.Test.YtbpjobmpacjgcaaGreatDoorGBKitG
import Derived.Test.YtbpjobmpacjgcaaGreatDoorGZH
import Derived.Lib.SplitLaws
import Derived.Lib.Replace
import Derived.Lib.IndexBytes
import Derived.Lib.ItoaNum
namespace Go.Proofs.YtbpjobmpacjgcaaGreatDoor
open Go Go.RowKit
theorem JX (b c:UInt8)(l:List UInt8)(h:b≠c)(i:Nat)(hi:Lib.index l [c]=i):Lib.index (b :: l) [c]=((i+1:Nat):Int):=by
 rw[Lib.index_one] at hi ⊢;unfold Lib.indexByte;have h1:(b==c)=false:=beq_false_of_ne h;rw[hi];simp [h1] <;> omega
theorem J2 (c:UInt8)(l:List UInt8):Lib.index (c :: l) [c]=((0:Nat):Int):=by
 rw[Lib.index_one];unfold Lib.indexByte;simp
theorem Gq (l:List UInt8):Lib.replaceK [39] [39,92,39,39] (Lib.count l [39]) l=fC l:=by
 induction l with
 | nil=>rfl
 | cons c l ih =>
  by_cases hc:c=39
  ·subst hc;rw[Lib.count_cons_eq,Nat.add_comm,Lib.replaceK_hit _ _ _ _ 0 (J2 39 l),fC,if_pos (by decide)]
   simp only[List.take_zero,List.nil_append,Nat.zero_add,List.length_cons,List.length_nil,List.drop_succ_cons,List.drop_zero];rw[ih];rfl
  ·have hc':¬ c.toNat=39:=fun e=>hc (UInt8.toNat_inj.1 e)
   rw[Lib.count_cons_ne c 39 l hc,fC,if_neg hc',← ih]
   cases hn:Lib.count l [39] with
   | zero=>rfl
   | succ m =>
    obtain⟨i,hi⟩:=Lib.index_of_count (s:=l) (old:=[39]) (by omega)
    rw[Lib.replaceK_hit _ _ _ _ (i+1) (JX c 39 l hc i hi),Lib.replaceK_hit _ _ _ _ i hi];simp
theorem E6 (l:List UInt8):Lib.replaceAll l [39] [39,92,39,39]=fC l:=by
 rw[Lib.replaceAll,Lib.replace,if_neg (by decide),Lib.replaceNum,if_pos (.inl (by decide))]
 exact Gq l
theorem zJ (c:UInt8)(l:List UInt8):(⟨#[c]⟩:ByteArray)++bs l=bs (c :: l):=by
 rw[show (⟨#[c]⟩:ByteArray)=bs [c] from rfl,nH]
 rfl
def vY (r:List UInt8):Prop:=∀ c m,r=c :: m→c=32∨c=9∨c=35
theorem vY.nil:vY []:=fun c m h=>by cases h
theorem vY.blank (m:List UInt8):vY (32 :: m):=fun c n h=>by injection h with h1 _;exact .inl h1.symm
theorem Fh (b c:UInt8)(l:List UInt8)(h:b≠c)(i:Nat)(hi:Lib.index l [c]=i):Lib.index (b :: l) [c]=((i+1:Nat):Int):=by
 rw[Lib.index_one] at hi ⊢;unfold Lib.indexByte;have h1:(b==c)=false:=beq_false_of_ne h;rw[hi];simp [h1] <;> omega
theorem Fv (c:UInt8)(l:List UInt8):Lib.index (c :: l) [c]=((0:Nat):Int):=by
 rw[Lib.index_one];unfold Lib.indexByte;simp
theorem Gj (l:List UInt8):Lib.replaceK [39] [39,39] (Lib.count l [39]) l=d8 l:=by
 induction l with
 | nil=>rfl
 | cons c l ih =>
  by_cases hc:c=39
  ·subst hc;rw[Lib.count_cons_eq,Nat.add_comm,Lib.replaceK_hit _ _ _ _ 0 (Fv 39 l),d8,if_pos (by decide)]
   simp only[List.take_zero,List.nil_append,Nat.zero_add,List.length_cons,List.length_nil,List.drop_succ_cons,List.drop_zero];rw[ih];rfl
  ·have hc':¬ c.toNat=39:=fun e=>hc (UInt8.toNat_inj.1 e)
   rw[Lib.count_cons_ne c 39 l hc,d8,if_neg hc',← ih]
   cases hn:Lib.count l [39] with
   | zero=>rfl
   | succ m =>
    obtain⟨i,hi⟩:=Lib.index_of_count (s:=l) (old:=[39]) (by omega)
    rw[Lib.replaceK_hit _ _ _ _ (i+1) (Fh c 39 l hc i hi),Lib.replaceK_hit _ _ _ _ i hi];simp
theorem E8 (l:List UInt8):Lib.replaceAll l [39] [39,39]=d8 l:=by
 rw[Lib.replaceAll,Lib.replace,if_neg (by decide),Lib.replaceNum,if_pos (.inl (by decide))]
 exact Gj l
end Go.Proofs.YtbpjobmpacjgcaaGreatDoor
