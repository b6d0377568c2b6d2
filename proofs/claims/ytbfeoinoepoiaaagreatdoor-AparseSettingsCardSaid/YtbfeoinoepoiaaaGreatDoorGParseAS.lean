/- Dialect A's tokens: the texts of a word's parts together are no longer than the source. No program stands in it. -/
import Derived.Test.YtbfeoinoepoiaaaGreatDoorGZJ
namespace Go.Proofs.YtbfeoinoepoiaaaGreatDoor
open Go Go.RowKit
def txS (P:List APart):Nat:=(P.map fun x=>x.text.length).sum
theorem txS_snoc (P:List APart) (x:APart):txS (P++[x])=txS P+x.text.length:=by simp [txS]
theorem txS_cons (x:APart) (P:List APart):txS (x :: P)=x.text.length+txS P:=by simp [txS]
theorem txS_bytes (P:List APart) (j:Bool) (kind i:Nat) (s:List UInt8):txS (bytesA P j kind i s)=txS P+s.length:=by
 unfold bytesA
 split
 ·rename_i q hq
  obtain ⟨Q,rfl⟩:=List.getLast?_eq_some_iff.1 hq
  split
  ·rw [List.dropLast_concat,txS_snoc,txS_snoc,List.length_append]
   omega
  ·rw [txS_snoc]
 ·rw [txS_snoc]
theorem tx_dollar (L:List UInt8) (q:Bool) (i:Nat) (P:List APart) (j:Bool) (i':Nat) (P':List APart) (j':Bool) (_hi:i<L.length) (h:dollarA L q i P j = .ok (i',P',j')) :
  i<i'∧txS P'≤txS P+(i' - i):=by
 unfold dollarA at h
 simp only [] at h
 split at h
 ·split at h
  ·cases h
   rw [txS_snoc]
   dsimp only
   omega
  ·cases h
 split at h
 ·split at h
  ·cases h
  ·rename_i n hn
   split at h
   ·cases h
    have h2:=subs_le L (i+2) (i+2+n)
    rw [txS_snoc]
    simp only [Int.natCast_add,Int.cast_ofNat_Int] at h2 ⊢
    omega
   ·cases h
 split at h
 ·cases h
  rw [txS_snoc]
  simp only [List.length_cons,List.length_nil]
  omega
 split at h
 ·cases h
  rw [txS_snoc]
  simp only [List.length_nil]
  omega
 split at h
 ·cases h
  rw [txS_snoc]
  simp only [List.length_nil]
  omega
 split at h
 ·split at h
  ·cases h
  ·rename_i t ht
   cases h
   have h1:=scanA_lt _ _ _ _ _ _ ht
   have h2:=subs_le L (i+2) t
   rw [txS_snoc]
   simp only [Int.natCast_add,Int.cast_ofNat_Int] at h2 ⊢
   omega
 ·cases h
  rw [txS_bytes]
  simp only [List.length_cons,List.length_nil]
  omega
theorem tx_double (L:List UInt8) (b:Nat):∀ (f i:Nat) (P:List APart) (j:Bool) (i':Nat) (P':List APart) (j':Bool),doubleA L b f i P j = .ok (i',P',j')→i<i'∧txS P'≤txS P+(i' - i):=by
 intro f
 induction f with
 | zero=>intro i P j i' P' j' h; cases h
 | succ f ih =>
  intro i P j i' P' j' h
  simp only [doubleA] at h
  split at h
  ·cases h
  rename_i hlt
  split at h
  ·cases h
   omega
  split at h
  ·have h1:=ih _ _ _ _ _ _ h
   have h2:(if [36,34,92].contains (L.getD (i+1) 0).toNat then [L.getD (i+1) 0] else [L.getD i 0,L.getD (i+1) 0]).length≤2:=by split <;> simp
   rw [txS_bytes] at h1
   omega
  split at h
  ·split at h
   ·cases h
   ·rename_i i2 P2 j2 hd
    have h1:=tx_dollar L true i P j i2 P2 j2 (by omega) hd
    have h2:=ih _ _ _ _ _ _ h
    omega
  ·have h1:=ih _ _ _ _ _ _ h
   rw [txS_bytes] at h1
   simp only [List.length_cons,List.length_nil] at h1
   omega
theorem tx_word (L:List UInt8):∀ (f i:Nat) (P:List APart) (j:Bool) (i':Nat) (P':List APart),i≤L.length→wordA L f i P j = .ok (i',P')→i≤i'∧i'≤L.length∧txS P'≤txS P+(i' - i):=by
 intro f
 induction f with
 | zero=>intro i P j i' P' hi h; cases h; omega
 | succ f ih =>
  intro i P j i' P' hi h
  rw [wordA] at h
  split at h
  ·cases h
   omega
  rename_i hlt
  split at h
  ·cases h
   omega
  split at h
  ·have h1:=ih _ _ _ _ _ (Nat.min_le_right _ _) h
   have h2:(if i+1<L.length then [L.getD (i+1) 0] else [92]).length=1:=by split <;> rfl
   rw [txS_snoc] at h1
   dsimp only at h1
   rw [h2] at h1
   omega
  split at h
  ·split at h
   ·cases h
   ·rename_i m hm
    have hl:=idxA_lt _ _ _ hm
    rw [List.length_drop] at hl
    have h1:=ih _ _ _ _ _ (by omega) h
    have h2:=subs_le L (i+1) (i+1+m)
    rw [txS_snoc] at h1
    simp only [Int.natCast_add,Int.cast_ofNat_Int] at h1 h2
    omega
  split at h
  ·split at h
   ·cases h
   ·rename_i i2 P2 j2 hd
    have h0:=tx_double _ _ _ _ _ _ _ _ _ hd
    have h3:=doubleA_le _ _ _ _ _ _ _ _ _ (by omega) hd
    have h1:=ih _ _ _ _ _ h3 h
    rw [txS_snoc] at h0
    simp only [List.length_nil] at h0
    omega
  split at h
  ·split at h
   ·cases h
   ·rename_i i2 P2 j2 hd
    have h0:=tx_dollar L false i P j i2 P2 j2 (by omega) hd
    have h3:=dollarA_le L false i P j i2 P2 j2 (by omega) hd
    have h1:=ih _ _ _ _ _ h3 h
    omega
  ·have h1:=ih _ _ _ _ _ (by omega) h
   rw [txS_bytes] at h1
   simp only [List.length_cons,List.length_nil] at h1
   omega
theorem token_tx (L:List UInt8) (i:Nat) (t:ATok) (n:Nat) (hi:i≤L.length) (h:tokenA L i = .ok (t,n)):txS t.parts≤L.length:=by
 unfold tokenA at h
 split at h
 ·cases h
  simp [txS]
 ·simp only [] at h
  split at h
  ·cases h
   simp [txS]
  split at h
  ·cases h
  split at h
  ·cases h
  ·rename_i k P hw
   cases h
   have h1:=tx_word L _ _ _ _ _ _ hi hw
   simp only [txS,List.map_nil,List.sum_nil] at h1 ⊢
   omega
theorem lexA_tx (L:List UInt8):∀ (f k:Nat) (ts:List ATok),k≤L.length→L.length - k<f→lexA L f k = .ok ts→∀ t∈ts,txS t.parts≤L.length:=by
 intro f
 induction f with
 | zero=>intro k ts _ h; omega
 | succ f ih =>
  intro k ts hk hf h
  rw [lexA] at h
  have hs:=skipN_le false (L.drop k)
  have hfront:=skip_front false (L.drop k)
  rw [List.length_drop] at hs
  rw [List.drop_drop] at hfront
  obtain ⟨j,hj⟩:∃ j,k+skipN false (L.drop k)=j:=⟨_,rfl⟩
  rw [hj] at h hfront
  cases ht:tokenA L j with
  | error e=>rw [ht] at h; cases h
  | ok y =>
   obtain ⟨t,n⟩:=y
   rw [ht] at h
   obtain ⟨n1,n2,n3,n4,n5⟩:=tokenA_ok L j t n (by omega) hfront ht
   have hT:=token_tx L j t n (by omega) ht
   by_cases hk0:t.kind=0
   ·simp only [hk0,if_true] at h
    cases h
    intro u hu
    rw [List.mem_singleton] at hu
    subst hu
    exact hT
   ·simp only [hk0,if_false] at h
    have hn1:=n4 hk0
    cases hl:lexA L f n with
    | error e=>rw [hl] at h; cases h
    | ok us =>
     rw [hl] at h
     cases h
     intro u hu
     rcases List.mem_cons.1 hu with rfl | hu
     ·exact hT
     ·exact ih n us n3 (by omega) hl u hu
theorem lexA_txs (L:List UInt8) (ts:List ATok) (h:lexA L (L.length+1) 0 = .ok ts) (i:Nat):txS (akAt ts i).parts≤L.length:=by
 by_cases hi:i<ts.length
 ·rw [ak_get hi]
  exact lexA_tx L _ 0 ts (Nat.zero_le _) (by omega) h _ (List.getElem_mem hi)
 ·rw [ak_out (by omega)]
  exact Nat.zero_le _
theorem escape_len2:∀ (s:List UInt8),(escapeP s).length≤2 * s.length
 | []=>by simp [escapeP]
 | c :: s=>by
  have h:=escape_len2 s
  rw [escapeP,List.length_append,List.length_cons]
  split <;> simp <;> omega
theorem fText_tx:∀ (P:List APart),(fText P).length≤2 * txS P
 | []=>by simp [fText,txS]
 | x :: P=>by
  have h:=fText_tx P
  unfold fText at h ⊢
  rw [List.flatMap_cons,List.length_append,txS_cons]
  have h2:=escape_len2 x.text
  split
  ·omega
  ·split
   ·omega
   ·simp only [List.length_nil]
    omega
theorem setting_tx {t t':ATok} {s:List UInt8} (h:settingA t=some (s,t')):txS t'.parts≤txS t.parts:=by
 obtain ⟨_,_,_,p,ps,r,h1,_,h2,h3⟩:=setting_in h
 rw [h1,h2,txS_cons,txS_cons]
 dsimp only
 rw [h3,List.length_append,List.length_append]
 omega
end Go.Proofs.YtbfeoinoepoiaaaGreatDoor
