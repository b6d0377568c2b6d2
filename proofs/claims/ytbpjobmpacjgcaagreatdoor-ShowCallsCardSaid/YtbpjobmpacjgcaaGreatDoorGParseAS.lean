/- Dialect A's tokens: the texts of a word's parts together are no longer than the source. No program stands in it. -/
import Derived.Test.YtbpjobmpacjgcaaGreatDoorGZJ
namespace Go.Proofs.YtbpjobmpacjgcaaGreatDoor
open Go Go.RowKit
def txS (P:List aD):Nat:=(P.map fun x=>x.text.length).sum
theorem lA (P:List aD)(x:aD):txS (P++[x])=txS P+x.text.length:=by simp [txS]
theorem yJ (x:aD)(P:List aD):txS (x :: P)=x.text.length+txS P:=by simp [txS]
theorem uK (P:List aD)(j:Bool)(kind i:Nat)(s:List UInt8):txS (bQ P j kind i s)=txS P+s.length:=by
 unfold bQ;split
 ·rename_i q hq
  obtain⟨Q,rfl⟩:=List.getLast?_eq_some_iff.1 hq;split
  ·rw[List.dropLast_concat,lA,lA,List.length_append];omega
  ·rw[lA]
 ·rw[lA]
theorem CK (L:List UInt8)(q:Bool)(i:Nat)(P:List aD)(j:Bool)(i':Nat)(P':List aD)(j':Bool)(_hi:i<L.length)(h:e8 L q i P j = .ok (i',P',j')) :
  i<i'∧txS P'≤txS P+(i' - i):=by
 unfold e8 at h;simp only[] at h;split at h
 ·split at h
  ·cases h
   rw[lA];dsimp only;omega
  ·cases h
 split at h
 ·split at h
  ·cases h
  ·rename_i n hn
   split at h
   ·cases h
    have h2:=m8 L (i+2) (i+2+n);rw[lA];simp only[Int.natCast_add,Int.cast_ofNat_Int] at h2 ⊢;omega
   ·cases h
 split at h
 ·cases h
  rw[lA];simp only[List.length_cons,List.length_nil];omega
 split at h
 ·cases h
  rw[lA];simp only[List.length_nil];omega
 split at h
 ·cases h
  rw[lA];simp only[List.length_nil];omega
 split at h
 ·split at h
  ·cases h
  ·rename_i t ht
   cases h
   have h1:=iH _ _ _ _ _ _ ht;have h2:=m8 L (i+2) t;rw[lA];simp only[Int.natCast_add,Int.cast_ofNat_Int] at h2 ⊢;omega
 ·cases h
  rw[uK];simp only[List.length_cons,List.length_nil];omega
theorem JD (L:List UInt8)(b:Nat):∀ (f i:Nat)(P:List aD)(j:Bool)(i':Nat)(P':List aD)(j':Bool),dR L b f i P j = .ok (i',P',j')→i<i'∧txS P'≤txS P+(i' - i):=by
 intro f
 induction f with
 | zero=>intro i P j i' P' j' h;cases h
 | succ f ih =>
  intro i P j i' P' j' h;simp only[dR] at h;split at h
  ·cases h
  rename_i hlt
  split at h
  ·cases h
   omega
  split at h
  ·have h1:=ih _ _ _ _ _ _ h;have h2:(if [36,34,92].contains (L.getD (i+1) 0).toNat then [L.getD (i+1) 0] else [L.getD i 0,L.getD (i+1) 0]).length≤2:=by split <;> simp
   rw[uK] at h1;omega
  split at h
  ·split at h
   ·cases h
   ·rename_i i2 P2 j2 hd
    have h1:=CK L true i P j i2 P2 j2 (by omega) hd
    have h2:=ih _ _ _ _ _ _ h;omega
  ·have h1:=ih _ _ _ _ _ _ h;rw[uK] at h1;simp only[List.length_cons,List.length_nil] at h1;omega
theorem L3 (L:List UInt8):∀ (f i:Nat)(P:List aD)(j:Bool)(i':Nat)(P':List aD),i≤L.length→bO L f i P j = .ok (i',P')→i≤i'∧i'≤L.length∧txS P'≤txS P+(i' - i):=by
 intro f
 induction f with
 | zero=>intro i P j i' P' hi h;cases h;omega
 | succ f ih =>
  intro i P j i' P' hi h;rw[bO] at h;split at h
  ·cases h
   omega
  rename_i hlt
  split at h
  ·cases h
   omega
  split at h
  ·have h1:=ih _ _ _ _ _ (Nat.min_le_right _ _) h;have h2:(if i+1<L.length then [L.getD (i+1) 0] else [92]).length=1:=by split <;> rfl
   rw[lA] at h1;dsimp only at h1;rw[h2] at h1;omega
  split at h
  ·split at h
   ·cases h
   ·rename_i m hm
    have hl:=lD _ _ _ hm;rw[List.length_drop] at hl;have h1:=ih _ _ _ _ _ (by omega) h
    have h2:=m8 L (i+1) (i+1+m);rw[lA] at h1;simp only[Int.natCast_add,Int.cast_ofNat_Int] at h1 h2;omega
  split at h
  ·split at h
   ·cases h
   ·rename_i i2 P2 j2 hd
    have h0:=JD _ _ _ _ _ _ _ _ _ hd;have h3:=B8 _ _ _ _ _ _ _ _ _ (by omega) hd
    have h1:=ih _ _ _ _ _ h3 h;rw[lA] at h0;simp only[List.length_nil] at h0;omega
  split at h
  ·split at h
   ·cases h
   ·rename_i i2 P2 j2 hd
    have h0:=CK L false i P j i2 P2 j2 (by omega) hd
    have h3:=xO L false i P j i2 P2 j2 (by omega) hd
    have h1:=ih _ _ _ _ _ h3 h;omega
  ·have h1:=ih _ _ _ _ _ (by omega) h
   rw[uK] at h1;simp only[List.length_cons,List.length_nil] at h1;omega
theorem Lt (L:List UInt8)(i:Nat)(t:aG)(n:Nat)(hi:i≤L.length)(h:gA L i = .ok (t,n)):txS t.parts≤L.length:=by
 unfold gA at h;split at h
 ·cases h
  simp [txS]
 ·simp only[] at h;split at h
  ·cases h
   simp [txS]
  split at h
  ·cases h
  split at h
  ·cases h
  ·rename_i k P hw
   cases h
   have h1:=L3 L _ _ _ _ _ _ hi hw;simp only[txS,List.map_nil,List.sum_nil] at h1 ⊢;omega
theorem Mn (L:List UInt8):∀ (f k:Nat)(ts:List aG),k≤L.length→L.length - k<f→dA L f k = .ok ts→∀ t∈ts,txS t.parts≤L.length:=by
 intro f
 induction f with
 | zero=>intro k ts _ h;omega
 | succ f ih =>
  intro k ts hk hf h;rw[dA] at h;have hs:=pQ false (L.drop k);have hfront:=nM false (L.drop k);rw[List.length_drop] at hs;rw[List.drop_drop] at hfront;obtain⟨j,hj⟩:∃ j,k+aU false (L.drop k)=j:=⟨_,rfl⟩;rw[hj] at h hfront
  cases ht:gA L j with
  | error e=>rw[ht] at h;cases h
  | ok y =>
   obtain⟨t,n⟩:=y;rw[ht] at h;obtain⟨n1,n2,n3,n4,n5⟩:=uQ L j t n (by omega) hfront ht
   have hT:=Lt L j t n (by omega) ht
   by_cases hk0:t.kind=0
   ·simp only[hk0,if_true] at h
    cases h
    intro u hu;rw[List.mem_singleton] at hu;subst hu;exact hT
   ·simp only[hk0,if_false] at h;have hn1:=n4 hk0
    cases hl:dA L f n with
    | error e=>rw[hl] at h;cases h
    | ok us =>
     rw[hl] at h
     cases h
     intro u hu
     rcases List.mem_cons.1 hu with rfl | hu
     ·exact hT
     ·exact ih n us n3 (by omega) hl u hu
theorem Lf (L:List UInt8)(ts:List aG)(h:dA L (L.length+1) 0 = .ok ts)(i:Nat):txS (aM ts i).parts≤L.length:=by
 by_cases hi:i<ts.length
 ·rw[rF hi];exact Mn L _ 0 ts (Nat.zero_le _) (by omega) h _ (List.getElem_mem hi)
 ·rw[Et (by omega)]
  exact Nat.zero_le _
theorem wY:∀ (s:List UInt8),(cC s).length≤2 * s.length
 | []=>by simp [cC]
 | c :: s=>by
  have h:=wY s;rw[cC,List.length_append,List.length_cons];split <;> simp <;> omega
theorem DB:∀ (P:List aD),(eT P).length≤2 * txS P
 | []=>by simp [eT,txS]
 | x :: P=>by
  have h:=DB P;unfold eT at h ⊢;rw[List.flatMap_cons,List.length_append,yJ];have h2:=wY x.text;split
  ·omega
  ·split
   ·omega
   ·simp only[List.length_nil];omega
theorem Iw {t t':aG}{s:List UInt8}(h:eZ t=some (s,t')):txS t'.parts≤txS t.parts:=by
 obtain⟨_,_,_,p,ps,r,h1,_,h2,h3⟩:=lZ h;rw[h1,h2,yJ,yJ];dsimp only;rw[h3,List.length_append,List.length_append];omega
end Go.Proofs.YtbpjobmpacjgcaaGreatDoor
