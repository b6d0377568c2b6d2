/- Dialect A's parser: of so many bytes, without backslashes, come no more than twice as many nodes, and one. No program stands in it. -/
import Derived.Test.YtepebnblbheegaaGreatDoorGZJ
namespace Go.Proofs.YtepebnblbheegaaGreatDoor
open Go Go.RowKit
def cP (x:APart):Nat:=if x.kind=4 then 2 * x.text.length+6 else if x.kind=1 then 2 else if x.kind=2 then 1 else 4
def cPs (P:List APart):Nat:=(P.map cP).sum
def qB (x:APart):Bool:=decide (x.kind=2) || x.quoted
def bP (P:List APart):Nat:=if P.any qB=true then 3 else 0
def N92 (P:List APart):Prop:=∀ x∈P,x.kind=4→∀ c∈x.text,c.toNat≠92
theorem cPs_cons (x:APart) (P:List APart):cPs (x :: P)=cP x+cPs P:=by simp [cPs]
theorem cPs_snoc (P:List APart) (x:APart):cPs (P++[x])=cPs P+cP x:=by simp [cPs]
theorem any_snoc (P:List APart) (x:APart):(P++[x]).any qB=(P.any qB || qB x):=by simp
theorem N92.snoc {P:List APart} (h:N92 P) (x:APart) (hx:x.kind=4→∀ c∈x.text,c.toNat≠92):N92 (P++[x]):=fun y hy=>by
 rcases List.mem_append.1 hy with hy | hy
 ·exact h y hy
 ·rw [List.mem_singleton] at hy
  subst hy
  exact hx
theorem c_bytes1 {P:List APart} (j:Bool) (i:Nat) (s:List UInt8) (h:N92 P):cPs (bytesA P j 1 i s)≤cPs P+2∧(bytesA P j 1 i s).any qB=P.any qB∧N92 (bytesA P j 1 i s):=by
 unfold bytesA
 split
 ·rename_i q hq
  obtain ⟨Q,rfl⟩:=List.getLast?_eq_some_iff.1 hq
  split
  ·rename_i hk
   rw [List.dropLast_concat,cPs_snoc,cPs_snoc,any_snoc,any_snoc]
   have e1:cP { q with text:=q.text++s }=cP q:=by unfold cP; dsimp only; rw [hk.2]; rfl
   exact ⟨by omega,rfl,N92.snoc (fun x hx=>h x (by simp [hx])) _ (fun e=>by dsimp only at e; omega)⟩
  ·rw [cPs_snoc,any_snoc]
   exact ⟨Nat.le_refl _,by simp [qB],h.snoc _ (fun e=>by cases e)⟩
 ·rw [cPs_snoc,any_snoc]
  exact ⟨Nat.le_refl _,by simp [qB],h.snoc _ (fun e=>by cases e)⟩
theorem c_bytes2 {P:List APart} (j:Bool) (i:Nat) (s:List UInt8) (h:N92 P):cPs (bytesA P j 2 i s)≤cPs P+1∧(bytesA P j 2 i s).any qB=true∧N92 (bytesA P j 2 i s):=by
 unfold bytesA
 split
 ·rename_i q hq
  obtain ⟨Q,rfl⟩:=List.getLast?_eq_some_iff.1 hq
  split
  ·rename_i hk
   rw [List.dropLast_concat,cPs_snoc,cPs_snoc,any_snoc]
   have e1:cP { q with text:=q.text++s }=cP q:=by unfold cP; dsimp only; rw [hk.2]; rfl
   exact ⟨by omega,by simp [qB,hk.2],N92.snoc (fun x hx=>h x (by simp [hx])) _ (fun e=>by dsimp only at e; omega)⟩
  ·rw [cPs_snoc,any_snoc]
   exact ⟨Nat.le_refl _,by simp [qB],h.snoc _ (fun e=>by cases e)⟩
 ·rw [cPs_snoc,any_snoc]
  exact ⟨Nat.le_refl _,by simp [qB],h.snoc _ (fun e=>by cases e)⟩
theorem subs_mem (L:List UInt8) (a b:Int):∀ c∈subs L a b,c∈L:=fun c hc=>by
 unfold subs at hc
 exact List.mem_of_mem_take (List.mem_of_mem_drop hc)
section
variable {L:List UInt8} (h92:∀ c∈L,c.toNat≠92)
include h92
theorem c_dollar (q:Bool) (i:Nat) (P:List APart) (j:Bool) (i':Nat) (P':List APart) (j':Bool) (hP:N92 P) (_hi:i<L.length) (h:dollarA L q i P j = .ok (i',P',j')) :
  i<i'∧cPs P'≤cPs P+2 * (i' - i)∧(q=false→P'.any qB=P.any qB)∧(P.any qB=true→P'.any qB=true)∧N92 P':=by
 have one:∀ (k n a:Nat) (s:List UInt8),k≠4→k≠1→k≠2→cPs (P++[(⟨k,n,a,q,s⟩:APart)])=cPs P+4∧(q=false→(P++[(⟨k,n,a,q,s⟩:APart)]).any qB=P.any qB)∧(P.any qB=true→(P++[(⟨k,n,a,q,s⟩:APart)]).any qB=true)∧N92 (P++[(⟨k,n,a,q,s⟩:APart)]):=fun k n a s h4 h1 h2=>by
  refine ⟨?_,fun e=>?_,fun e=>?_,hP.snoc _ (fun e=>absurd e h4)⟩
  ·rw [cPs_snoc]
   unfold cP
   dsimp only
   rw [if_neg h4,if_neg h1,if_neg h2]
  ·rw [any_snoc,e]
   simp [qB,h2]
  ·rw [any_snoc,e,Bool.true_or]
 unfold dollarA at h
 simp only [] at h
 split at h
 ·rename_i hn
  split at h
  ·cases h
   obtain ⟨o1,o2,o3,o4⟩:=one 3 i 0 (runName (L.drop (i+1))) (by decide) (by decide) (by decide)
   have:0<(runName (L.drop (i+1))).length:=List.length_pos_iff.2 hn
   exact ⟨by omega,by omega,o2,o3,o4⟩
  ·cases h
 split at h
 ·split at h
  ·cases h
  ·split at h
   ·cases h
    have o:=fun s=>one 3 i 0 s (by decide) (by decide) (by decide)
    exact ⟨by omega,by rw [(o _).1]; omega,(o _).2.1,(o _).2.2.1,(o _).2.2.2⟩
   ·cases h
 split at h
 ·cases h
  obtain ⟨o1,o2,o3,o4⟩:=one 3 i 0 [42] (by decide) (by decide) (by decide)
  exact ⟨by omega,by omega,o2,o3,o4⟩
 split at h
 ·cases h
  obtain ⟨o1,o2,o3,o4⟩:=one 5 i ((L.getD (i+1) 0).toNat - 48) [] (by decide) (by decide) (by decide)
  exact ⟨by omega,by omega,o2,o3,o4⟩
 split at h
 ·cases h
  obtain ⟨o1,o2,o3,o4⟩:=one 6 i 0 [] (by decide) (by decide) (by decide)
  exact ⟨by omega,by omega,o2,o3,o4⟩
 split at h
 ·split at h
  ·cases h
  ·rename_i t ht
   cases h
   have h1:=scanA_lt _ _ _ _ _ _ ht
   have h2:=subs_le L (i+2) t
   refine ⟨by omega,?_,fun e=>?_,fun e=>by rw [any_snoc,e,Bool.true_or],hP.snoc _ fun _ c hc=>h92 c (subs_mem _ _ _ c hc)⟩
   ·have h3:cP ⟨4,i,0,q,subs L (i+2) t⟩=2 * (subs L (i+2) t).length+6:=rfl
    rw [cPs_snoc]
    simp only [Int.natCast_add,Int.cast_ofNat_Int] at h2 h3 ⊢
    rw [h3]
    omega
   ·rw [any_snoc,e]
    simp [qB]
 ·cases h
  cases q with
  | true =>
   obtain ⟨b1,b2,b3⟩:=c_bytes2 j i [36] hP
   exact ⟨by omega,by simp only [if_true] at b1 ⊢; omega,fun e=>by (cases e),fun _=>b2,b3⟩
  | false =>
   obtain ⟨b1,b2,b3⟩:=c_bytes1 j i [36] hP
   refine ⟨by omega,?_,fun _=>?_,fun e=>?_,?_⟩
   ·show cPs (bytesA P j 1 i [36])≤_
    omega
   ·exact b2
   ·exact b2.trans e
   ·exact b3
theorem c_double (b:Nat):∀ (f i:Nat) (P:List APart) (j:Bool) (i':Nat) (P':List APart) (j':Bool),N92 P→P.any qB=true→doubleA L b f i P j = .ok (i',P',j')→i<i'∧cPs P'+2≤cPs P+2 * (i' - i)∧P'.any qB=true∧N92 P':=by
 intro f
 induction f with
 | zero=>intro i P j i' P' j' _ _ h; cases h
 | succ f ih =>
  intro i P j i' P' j' hP hq h
  simp only [doubleA] at h
  split at h
  ·cases h
  rename_i hlt
  split at h
  ·cases h
   exact ⟨by omega,by omega,hq,hP⟩
  split at h
  ·rename_i h9
   exfalso
   refine h92 _ ?_ h9.1
   rw [List.getD_eq_getElem?_getD,List.getElem?_eq_getElem (by omega),Option.getD_some]
   exact List.getElem_mem _
  split at h
  ·split at h
   ·cases h
   ·rename_i i2 P2 j2 hd
    obtain ⟨a1,a2,-,a4,a5⟩:=c_dollar h92 true i P j i2 P2 j2 hP (by omega) hd
    obtain ⟨b1,b2,b3,b4⟩:=ih _ _ _ _ _ _ a5 (a4 hq) h
    exact ⟨by omega,by omega,b3,b4⟩
  ·obtain ⟨a1,a2,a3⟩:=c_bytes2 (P:=P) j i [L.getD i 0] hP
   obtain ⟨b1,b2,b3,b4⟩:=ih _ _ _ _ _ _ a3 a2 h
   exact ⟨by omega,by omega,b3,b4⟩
theorem c_word:∀ (f i:Nat) (P:List APart) (j:Bool) (i':Nat) (P':List APart),N92 P→i≤L.length→wordA L f i P j = .ok (i',P')→i≤i'∧cPs P'+bP P'≤cPs P+bP P+2 * (i' - i)∧N92 P':=by
 have b3:∀ P:List APart,bP P≤3:=fun P=>by unfold bP; split <;> omega
 have bt:∀ P:List APart,P.any qB=true→bP P=3:=fun P h=>by unfold bP; rw [if_pos h]
 intro f
 induction f with
 | zero=>intro i P j i' P' hP hi h; cases h; exact ⟨Nat.le_refl _,by omega,hP⟩
 | succ f ih =>
  intro i P j i' P' hP hi h
  rw [wordA] at h
  split at h
  ·cases h; exact ⟨Nat.le_refl _,by omega,hP⟩
  rename_i hlt
  split at h
  ·cases h; exact ⟨Nat.le_refl _,by omega,hP⟩
  split at h
  ·rename_i h9
   exfalso
   refine h92 _ ?_ h9
   rw [List.getD_eq_getElem?_getD,List.getElem?_eq_getElem (by omega),Option.getD_some]
   exact List.getElem_mem _
  split at h
  ·split at h
   ·cases h
   ·rename_i m hm
    have hl:=idxA_lt _ _ _ hm
    rw [List.length_drop] at hl
    obtain ⟨c1,c2,c3⟩:=ih _ _ _ _ _ (hP.snoc _ (fun e=>by cases e)) (by omega) h
    rw [cPs_snoc,bt (P++[_]) (by rw [any_snoc]; simp [qB])] at c2
    have e:∀ s:List UInt8,cP ⟨2,i,0,false,s⟩=1:=fun s=>rfl
    rw [e] at c2
    exact ⟨by omega,by omega,c3⟩
  split at h
  ·split at h
   ·cases h
   ·rename_i i2 P2 j2 hd
    obtain ⟨a1,a2,a3,a4⟩:=c_double h92 _ _ _ _ _ _ _ _ (hP.snoc _ (fun e=>by cases e)) (by rw [any_snoc]; simp [qB]) hd
    have h3:=doubleA_le _ _ _ _ _ _ _ _ _ (by omega) hd
    obtain ⟨c1,c2,c3⟩:=ih _ _ _ _ _ a4 h3 h
    rw [bt P2 a3] at c2
    rw [cPs_snoc] at a2
    have e:cP ⟨2,i,0,false,[]⟩=1:=rfl
    rw [e] at a2
    exact ⟨by omega,by omega,c3⟩
  split at h
  ·split at h
   ·cases h
   ·rename_i i2 P2 j2 hd
    obtain ⟨a1,a2,a3,-,a5⟩:=c_dollar h92 false i P j i2 P2 j2 hP (by omega) hd
    have h3:=dollarA_le L false i P j i2 P2 j2 (by omega) hd
    obtain ⟨c1,c2,c3⟩:=ih _ _ _ _ _ a5 h3 h
    have e:bP P2=bP P:=by unfold bP; rw [a3 rfl]
    exact ⟨by omega,by omega,c3⟩
  ·obtain ⟨a1,a2,a3⟩:=c_bytes1 (P:=P) j i [L.getD i 0] hP
   obtain ⟨c1,c2,c3⟩:=ih _ _ _ _ _ a3 (by omega) h
   have e:bP (bytesA P j 1 i [L.getD i 0])=bP P:=by unfold bP; rw [a2]
   exact ⟨by omega,by omega,c3⟩
end
def wd (t:ATok):Nat:=if t.kind=0 then 0 else if t.kind=13 then cPs t.parts+bP t.parts else 2
def sumW (ts:List ATok):Nat:=(ts.map wd).sum
def remW (ts:List ATok) (i:Nat):Nat:=sumW (ts.drop i)
theorem sumW_cons (t:ATok) (ts:List ATok):sumW (t :: ts)=wd t+sumW ts:=by simp [sumW]
theorem c_token {L:List UInt8} (h92:∀ c∈L,c.toNat≠92) {i n:Nat} {t:ATok} (hi:i<L.length) (h:tokenA L i = .ok (t,n)):wd t≤2 * (n - i)∧N92 t.parts:=by
 unfold tokenA at h
 rw [if_neg (by omega)] at h
 simp only [] at h
 split at h
 ·rename_i hb
  cases h
  refine ⟨?_,fun x hx=>by simp at hx⟩
  have:0<(bestOp (L.drop i) opsA 0 [] 0).1.length:=List.length_pos_iff.2 hb
  have h13:(bestOp (L.drop i) opsA 0 [] 0).2≠13:=by
   rcases bestA_is (L.drop i) with e | ⟨e,-,-⟩
   ·rw [e]; decide
   ·intro e2
    rw [e2] at e
    cases e
  unfold wd
  dsimp only
  rw [if_neg h13]
  split <;> omega
 split at h
 ·cases h
 split at h
 ·cases h
 ·rename_i k P hw
  cases h
  obtain ⟨c1,c2,c3⟩:=c_word h92 _ _ _ _ _ _ (fun x hx=>by cases hx) (by omega) hw
  refine ⟨?_,c3⟩
  unfold wd
  dsimp only
  rw [if_neg (by decide),if_pos rfl]
  have:cPs ([]:List APart)+bP []=0:=rfl
  omega
theorem c_lex {L:List UInt8} (h92:∀ c∈L,c.toNat≠92):∀ (f k:Nat) (ts:List ATok),k≤L.length→L.length - k<f→lexA L f k = .ok ts→sumW ts≤2 * (L.length - k)∧∀ t∈ts,N92 t.parts:=by
 intro f
 induction f with
 | zero=>intro k ts _ h; omega
 | succ f ih =>
  intro k ts hk hf h
  rw [lexA] at h
  have hs:=skipN_le false (L.drop k)
  have hfront:=skip_front false (L.drop k)
  rw [List.length_drop] at hs
  rw [List.drop_drop] at hfront
  obtain ⟨j,hj⟩:∃ j,k+skipN false (L.drop k)=j:=⟨_,rfl⟩
  rw [hj] at h hfront
  cases ht:tokenA L j with
  | error e=>rw [ht] at h; cases h
  | ok y =>
   obtain ⟨t,n⟩:=y
   rw [ht] at h
   obtain ⟨n1,n2,n3,n4,n5⟩:=tokenA_ok L j t n (by omega) hfront ht
   by_cases hk0:t.kind=0
   ·simp only [hk0,if_true] at h
    cases h
    have hv:=tokenA_valid L j t n (by omega) hfront ht
    have hp:t.parts=[]:=by
     rcases hv with h1 | h1
     ·exact h1.2
     ·rw [hk0] at h1; cases h1.1
    refine ⟨by simp [sumW,wd,hk0],fun u hu=>?_⟩
    rw [List.mem_singleton] at hu
    subst hu
    rw [hp]
    exact fun x hx=>by cases hx
   ·simp only [hk0,if_false] at h
    have hn1:=n4 hk0
    cases hl:lexA L f n with
    | error e=>rw [hl] at h; cases h
    | ok us =>
     rw [hl] at h
     cases h
     obtain ⟨i1,i2⟩:=ih n us n3 (by omega) hl
     obtain ⟨q1,q2⟩:=c_token h92 (show j<L.length from by
      apply Classical.byContradiction
      intro hge
      exact hk0 (n2.2 (by omega))) ht
     refine ⟨by rw [sumW_cons]; omega,fun u hu=>?_⟩
     rcases List.mem_cons.1 hu with rfl | hu
     ·exact q2
     ·exact i2 u hu
structure GoodN (n:Nat) (ts:List ATok):Prop where
 good:GoodA n ts
 w:sumW ts≤2 * n
 n92:∀ i,N92 (akAt ts i).parts
theorem lexA_goodN (L:List UInt8) (hL:L.length≤8192) (h92:∀ c∈L,c.toNat≠92) (ts:List ATok) (h:lexA L (L.length+1) 0 = .ok ts):GoodN L.length ts:=by
 obtain ⟨h1,h2⟩:=c_lex h92 _ 0 ts (Nat.zero_le _) (by omega) h
 refine ⟨lexA_good L hL ts h,by omega,fun i=>?_⟩
 by_cases hi:i<ts.length
 ·rw [ak_get hi]; exact h2 _ (List.getElem_mem hi)
 ·rw [ak_out (by omega)]; exact fun x hx=>by cases hx
theorem remW_step {ts:List ATok} {i:Nat} (h:i<ts.length):remW ts i=wd (akAt ts i)+remW ts (i+1):=by
 unfold remW
 rw [List.drop_eq_getElem_cons h,sumW_cons,ak_get h]
theorem remW_le {ts:List ATok} {i e:Nat} (h:i≤e):remW ts e≤remW ts i:=by
 obtain ⟨k,rfl⟩:=Nat.exists_eq_add_of_le h
 induction k with
 | zero=>exact Nat.le_refl _
 | succ k ih =>
  have:=ih (by omega)
  by_cases hk:i+k<ts.length
  ·have:=remW_step hk
   rw [← Nat.add_assoc]
   omega
  ·have e:remW ts (i+(k+1))=0:=by
    unfold remW
    rw [List.drop_of_length_le (by omega)]
    rfl
   omega
theorem word_two {t:ATok} (hv:TokVA t) (hk:t.kind=13):2≤wd t:=by
 rcases hv with h | h
 ·omega
 ·unfold wd
  rw [if_neg (by omega),if_pos hk]
  obtain ⟨-,h2,-⟩:=h
  cases hp:t.parts with
  | nil=>exact absurd hp h2
  | cons x P =>
   rw [cPs_cons]
   unfold bP
   by_cases hx:x.kind=2
   ·rw [if_pos (by simp [qB,hx])]
    omega
   ·have:2≤cP x:=by
     unfold cP
     split
     ·omega
     split
     ·omega
     first | omega | (rw [if_neg hx]; omega)
    omega
theorem wd_two {t:ATok} (hv:TokVA t) (hk:t.kind≠0):2≤wd t:=by
 by_cases h:t.kind=13
 ·exact word_two hv h
 ·unfold wd
  rw [if_neg hk,if_neg h]
  exact Nat.le_refl _
def OkE {α:Type} (x:PRes α) (Q:α→Nat→Prop):Prop:=∀ a e,x=some (.ok (a,e))→Q a e
section
variable {α β:Type}
theorem OkE.ok {Q:α→Nat→Prop} {a:α} {e:Nat} (h:Q a e):OkE (pOk a e) Q:=fun _ _ h'=>by cases h'; exact h
theorem OkE.err {Q:α→Nat→Prop} {c p:Nat}:OkE (pErr c p:PRes α) Q:=fun _ _ h=>by cases h
theorem OkE.none {Q:α→Nat→Prop}:OkE (none:PRes α) Q:=fun _ _ h=>by cases h
theorem OkE.form {Q:α→Nat→Prop} {ts:List ATok} {b i:Nat}:OkE (formA ts b i:PRes α) Q:=.err
theorem OkE.mono {x:PRes α} {Q R:α→Nat→Prop} (h:OkE x Q) (hR:∀ a e,Q a e→R a e):OkE x R:=fun a e hx=>hR a e (h a e hx)
theorem OkE.go {x:PRes α} {k:α→Nat→PRes β} {Q:α→Nat→Prop} {R:β→Nat→Prop} (h:OkE x Q) (hk:∀ a e,Q a e→OkE (k a e) R):OkE (x.go k) R:=by
 intro a e hx
 match x,h with
 | .none,_=>cases hx
 | some (.error _),_=>cases hx
 | some (.ok (c,i)),h=>exact hk c i (h c i rfl) a e hx
theorem OkO.atE {x:POne α} {Q:α→Prop} {i:Nat} (h:OkO x Q):OkE (x.at i) fun a e=>Q a∧e=i:=by
 intro a e hx
 match x,h with
 | .none,_=>cases hx
 | some (.error _),_=>cases hx
 | some (.ok c),h=>cases hx; exact ⟨h _ rfl,rfl⟩
end
def SubC (sub:APart→POne Prog) (P:List APart):Prop:=∀ x∈P,x.kind=4→OkO (sub x) fun l=>0<l.length∧l.length≤2 * x.text.length+2
def ndV (x:APart):Nat:=if x.kind=4 then 2 * x.text.length+2 else if x.kind=1∨x.kind=2 then 1 else if x.kind=5 then 3 else 2
def ndL (x:APart):Nat:=if x.kind=1∨x.kind=2 then 1 else if x.quoted=true then ndV x+1 else ndV x
def ndF (x:APart):Nat:=if x.kind=1∨x.kind=2 then 1 else if x.quoted=true then ndV x+1 else if x.kind=4 then 2 * x.text.length+2 else if x.kind=3 then 1 else 2
section
variable {sub:APart→POne Prog} {P:List APart} (hs:SubC sub P) {x:APart} (hx:x∈P) (hv:PartW x)
include hs hx hv
theorem items_nd (h1:x.kind≠1) (h2:x.kind≠2):OkO (itemsA sub x) fun l=>0<l.length∧l.length≤(if x.kind=4 then 2 * x.text.length+2 else if x.kind=3 then 1 else 2):=by
 unfold itemsA
 split
 ·rename_i h
  refine .ok ?_
  have:=(len_none 2 0 x.text).1
  rw [if_neg (show ¬ x.kind=4 by omega)]
  omega
 split
 ·rename_i h3 h
  refine .ok ?_
  have:=(len_one 11 x.num [] allA).1
  have h5:=(len_none 2 0 [42]).1
  rw [if_neg (show ¬ x.kind=4 by omega)]
  unfold allA at *
  omega
 split
 ·rename_i h3 h5 h
  refine .ok ?_
  have:=(len_one 10 0 [] allA).1
  have h5:=(len_none 2 0 [42]).1
  rw [if_neg (show ¬ x.kind=4 by omega)]
  unfold allA at *
  omega
 ·rename_i h3 h5 h6
  have h4:=partV_kind hv h1 h2 h3 h5 h6
  rw [if_pos h4]
  exact hs x hx h4
theorem piece_nd:OkO (pieceA sub x) fun l=>0<l.length∧l.length≤ndV x:=by
 unfold pieceA
 split
 ·rename_i h
  refine .ok ?_
  have:=(len_none 1 0 x.text).1
  unfold ndV litP
  rw [if_neg (by omega),if_pos h]
  omega
 ·rename_i h
  refine (items_nd hs hx hv (fun e=>h (.inl e)) (fun e=>h (.inr e))).go fun l hl=>.ok ?_
  unfold ndV
  rw [if_neg h]
  have:=(len_one 9 0 [] l).1
  by_cases h4:x.kind=4
  ·rw [if_pos h4] at hl ⊢
   rw [if_neg (by omega)]
   exact hl
  ·rw [if_neg h4] at hl ⊢
   by_cases h3:x.kind=3
   ·rw [if_pos h3] at hl
    rw [if_pos (.inl h3),if_neg (by omega)]
    omega
   ·rw [if_neg h3] at hl
    by_cases h5:x.kind=5
    ·rw [if_pos (.inr h5),if_pos h5]
     omega
    ·rw [if_neg (by omega),if_neg h5]
     exact hl
theorem alive_nd {bare:APart→POne Prog} {N:Nat} (hN1:x.kind≠1→x.kind≠2→OkO (bare x) fun l=>0<l.length∧l.length≤N):OkO (aliveA sub bare x) fun l=>0<l.length∧l.length≤(if x.kind=1∨x.kind=2 then 1 else if x.quoted=true then ndV x+1 else N):=by
 unfold aliveA
 split
 ·rename_i h
  have:=(len_none 1 1 x.text).1
  exact .ok (by rw [if_pos (.inl h)]; omega)
 split
 ·rename_i h1 h
  have:=(len_none 1 1 (escapeP x.text)).1
  exact .ok (by rw [if_pos (.inr h)]; omega)
 rename_i h1 h2
 rw [if_neg (show ¬ (x.kind=1∨x.kind=2) by omega)]
 split
 ·rename_i hq
  rw [if_neg (by rw [hq]; decide)]
  exact hN1 h1 h2
 ·rename_i hq
  rw [if_pos (by simpa using hq)]
  refine (piece_nd hs hx hv).go fun l hl=>.ok ?_
  have:=(len_one 8 0 [] l).1
  omega
end
theorem parts_nd {tq:APart→POne Prog} (N:APart→Nat):∀ (P:List APart),(∀ x∈P,OkO (tq x) fun l=>0<l.length∧l.length≤N x)→OkO (partsA tq P) fun l=>l.length=P.length∧(∀ x∈l,0<x.length)∧l.flatten.length≤(P.map N).sum
 | [],_=>.ok ⟨rfl,(fun x hx=>by cases hx),Nat.le_refl _⟩
 | x :: P,h=>by
  rw [partsA]
  refine (h x (by simp)).go fun n hn=>(parts_nd N P fun y hy=>h y (by simp [hy])).go fun l hl=>.ok ?_
  obtain ⟨n1,n2⟩:=hn
  obtain ⟨l0,l1,l2⟩:=hl
  rw [List.flatten_cons,List.length_append,List.map_cons,List.sum_cons]
  simp only [List.length_cons]
  refine ⟨by omega,fun y hy=>?_,by omega⟩
  rcases List.mem_cons.1 hy with rfl | hy
  ·exact n1
  ·exact l1 y hy
theorem joinA_one (x:Prog):joinA [x]=x:=by
 have h:[x].foldl joinStep []=[x]:=rfl
 unfold joinA
 dsimp only
 rw [h]
 by_cases hf:fullA x=true
 ·simp [hf]
 ·simp [hf]
theorem joinA_nd (l:List Prog) (hp:∀ y∈l,0<y.length) (hne:l≠[]):0<(joinA l).length∧(joinA l).length≤l.flatten.length+(if 2≤l.length then 1 else 0):=by
 match l with
 | []=>exact absurd rfl hne
 | [x]=>rw [joinA_one]; exact ⟨hp x (by simp),by simp⟩
 | x :: y :: l =>
  obtain ⟨h1,h2,-⟩:=len_joinA (x :: y :: l) hp
  rw [if_pos (by simp)]
  exact ⟨h1,h2⟩
theorem fits_nd {b:Nat} {t:ATok} {l:Prog} {Q:Prog→Prop} (h:Q l):OkO (fitsA b t l) Q:=by
 unfold fitsA
 split
 ·exact .err
 ·exact .ok h
theorem joined_nd {tq:APart→POne Prog} (N:APart→Nat) {b:Nat} {t:ATok} (hne:t.parts≠[]) (h:∀ x∈t.parts,OkO (tq x) fun l=>0<l.length∧l.length≤N x):OkO (joinedA tq b t) fun l=>0<l.length∧l.length≤(t.parts.map N).sum+(if 2≤t.parts.length then 1 else 0):=by
 unfold joinedA
 refine (parts_nd N t.parts h).go fun l ⟨l0,l1,l2⟩=>fits_nd ?_
 have:=joinA_nd l l1 (by rintro rfl; simp at l0; exact hne (List.length_eq_zero_iff.1 l0.symm))
 rw [l0] at this
 omega
theorem part_six {x:APart} (hv:PartW x):x.kind=1∨x.kind=2∨x.kind=3∨x.kind=4∨x.kind=5∨x.kind=6:=by
 by_cases h1:x.kind=1
 ·exact .inl h1
 by_cases h2:x.kind=2
 ·exact .inr (.inl h2)
 by_cases h3:x.kind=3
 ·exact .inr (.inr (.inl h3))
 by_cases h5:x.kind=5
 ·omega
 by_cases h6:x.kind=6
 ·omega
 have:=partV_kind hv h1 h2 h3 h5 h6
 omega
theorem nd_c {x:APart} (hv:PartW x):(ndV x≤cP x∧(qB x=false→ndV x+1≤cP x))∧(ndL x≤cP x∧(qB x=false→ndL x+1≤cP x))∧(ndF x≤cP x∧(qB x=false→ndF x+1≤cP x)∧(qB x=false→x.kind≠1→x.kind≠2→ndF x+2≤cP x)):=by
 have h:=part_six hv
 obtain ⟨kd,pl,nm,qd,tx⟩:=x
 dsimp only at h
 rcases h with rfl | rfl | rfl | rfl | rfl | rfl <;> cases qd <;> simp [ndV,ndL,ndF,cP,qB] <;> omega
theorem sum_v:∀ (P:List APart),(∀ x∈P,PartW x)→(P.map ndV).sum≤cPs P∧(P.any qB=false→(P.map ndV).sum+P.length≤cPs P)
 | [],_=>⟨Nat.le_refl _,fun _=>Nat.le_refl _⟩
 | x :: P,h=>by
  obtain ⟨h1,h2⟩:=sum_v P fun y hy=>h y (by simp [hy])
  rw [List.map_cons,List.sum_cons,cPs_cons,List.any_cons,List.length_cons]
  have hx:=(nd_c (h x (by simp))).1
  refine ⟨by omega,fun e=>?_⟩
  rw [Bool.or_eq_false_iff] at e
  have:=hx.2 e.1
  have:=h2 e.2
  omega
theorem sum_l:∀ (P:List APart),(∀ x∈P,PartW x)→(P.map ndL).sum≤cPs P∧(P.any qB=false→(P.map ndL).sum+P.length≤cPs P)
 | [],_=>⟨Nat.le_refl _,fun _=>Nat.le_refl _⟩
 | x :: P,h=>by
  obtain ⟨h1,h2⟩:=sum_l P fun y hy=>h y (by simp [hy])
  rw [List.map_cons,List.sum_cons,cPs_cons,List.any_cons,List.length_cons]
  have hx:=(nd_c (h x (by simp))).2.1
  refine ⟨by omega,fun e=>?_⟩
  rw [Bool.or_eq_false_iff] at e
  have:=hx.2 e.1
  have:=h2 e.2
  omega
theorem sum_f:∀ (P:List APart),(∀ x∈P,PartW x)→(P.map ndF).sum≤cPs P∧(P.any qB=false→(P.map ndF).sum+P.length≤cPs P)∧(P.any qB=false→fDollars P=true→(P.map ndF).sum+P.length+1≤cPs P)
 | [],_=>⟨Nat.le_refl _,fun _=>Nat.le_refl _,fun _ e=>by cases e⟩
 | x :: P,h=>by
  obtain ⟨h1,h2,h3⟩:=sum_f P fun y hy=>h y (by simp [hy])
  have hw:=h x (by simp)
  rw [List.map_cons,List.sum_cons,cPs_cons,List.any_cons,List.length_cons]
  have hx:=(nd_c (h x (by simp))).2.2
  refine ⟨by omega,fun e=>?_,fun e ed=>?_⟩
  ·rw [Bool.or_eq_false_iff] at e
   have:=hx.2.1 e.1
   have:=h2 e.2
   omega
  ·rw [Bool.or_eq_false_iff] at e
   have:=hx.2.1 e.1
   have:=h2 e.2
   by_cases hk:x.kind=1∨x.kind=2
   ·have hd:fDollars P=true:=by
     unfold fDollars at ed ⊢
     rw [List.any_cons,Bool.or_eq_true] at ed
     rcases ed with ed | ed
     ·simp at ed
      omega
     ·exact ed
    have:=h3 e.2 hd
    omega
   ·have:=hx.2.2 e.1 (fun e=>hk (.inl e)) (fun e=>hk (.inr e))
    omega
section
variable {sub:APart→POne Prog} {t:ATok} {b:Nat} (hP:∀ x∈t.parts,PartW x) (hne:t.parts≠[]) (hs:SubC sub t.parts)
include hP hne hs
theorem value_nd:OkO (valueA sub b t) fun l=>0<l.length∧l.length≤cPs t.parts+bP t.parts:=by
 unfold valueA
 refine (joined_nd ndV hne fun x hx=>piece_nd hs hx (hP x hx)).mono fun l ⟨h1,h2⟩=>⟨h1,?_⟩
 obtain ⟨s1,s2⟩:=sum_v t.parts hP
 unfold bP
 split at h2
 ·split
  ·omega
  ·rename_i hq
   have:=s2 (by simpa using hq)
   omega
 ·omega
theorem value_nd1 (h1:∀ x,t.parts.head?=some x→x.kind=1):OkO (valueA sub b t) fun l=>0<l.length∧l.length+1≤cPs t.parts+bP t.parts:=by
 unfold valueA
 refine (joined_nd ndV hne fun x hx=>piece_nd hs hx (hP x hx)).mono fun l ⟨g1,g2⟩=>⟨g1,?_⟩
 cases hp:t.parts with
 | nil=>exact absurd hp hne
 | cons x P =>
  rw [hp] at h1 g2 hP
  have hx:=h1 x rfl
  obtain ⟨s1,s2⟩:=sum_v P fun y hy=>hP y (by simp [hy])
  rw [List.map_cons,List.sum_cons] at g2
  rw [cPs_cons]
  have e1:ndV x=1:=by unfold ndV; rw [if_neg (by omega),if_pos (.inl hx)]
  have e2:cP x=2:=by unfold cP; rw [if_neg (by omega),if_pos hx]
  unfold bP
  rw [List.length_cons] at g2
  split at g2
  ·split
   ·omega
   ·rename_i hq
    rw [List.any_cons,Bool.not_eq_true,Bool.or_eq_false_iff] at hq
    have:=s2 hq.2
    omega
  ·omega
theorem lives_nd:OkO (livesA sub b t) fun l=>0<l.length∧l.length≤cPs t.parts+bP t.parts:=by
 unfold livesA
 rw [if_neg hne]
 refine (joined_nd ndL hne fun x hx=>(alive_nd hs hx (hP x hx) (N:=ndV x) fun _ _=>piece_nd hs hx (hP x hx)).mono fun l h=>h).mono fun l ⟨h1,h2⟩=>⟨h1,?_⟩
 obtain ⟨s1,s2⟩:=sum_l t.parts hP
 unfold bP
 split at h2
 ·split
  ·omega
  ·rename_i hq
   have:=s2 (by simpa using hq)
   omega
 ·omega
theorem field_nd:OkO (fieldA sub b t) fun l=>0<l.length∧l.length≤cPs t.parts+bP t.parts:=by
 have hc:2≤cPs t.parts+bP t.parts:=by
  cases hp:t.parts with
  | nil=>exact absurd hp hne
  | cons x P =>
   rw [cPs_cons]
   unfold bP
   by_cases hx:x.kind=2
   ·rw [if_pos (by simp [qB,hx])]
    omega
   ·have:2≤cP x:=by
     unfold cP
     split
     ·omega
     split
     ·omega
     first | omega | (rw [if_neg hx]; omega)
    omega
 unfold fieldA
 split
 ·refine fits_nd ?_
  have h1:=(len_one 6 0 [] (newP 1 1 (fText t.parts) [])).1
  have h2:=(len_none 1 1 (fText t.parts)).1
  omega
 rename_i hn1
 split
 ·exact value_nd hP hne hs
 rename_i hn2
 refine (joined_nd ndF hne fun x hx=>(alive_nd hs hx (hP x hx) (N:=if x.kind=4 then 2 * x.text.length+2 else if x.kind=3 then 1 else 2) fun h1 h2=>items_nd hs hx (hP x hx) h1 h2).mono fun l h=>h).go fun l ⟨g1,g2⟩=>.ok ?_
 have h1:=(len_one 6 0 [] (newP 5 0 [] [l])).1
 have h2:=(len_one 5 0 [] l).1
 refine ⟨by omega,?_⟩
 obtain ⟨s1,s2,s3⟩:=sum_f t.parts hP
 have hd:fDollars t.parts=true:=by
  cases h:fDollars t.parts with
  | true=>rfl
  | false=>exact absurd (.inl h) hn2
 have hl:0<t.parts.length:=List.length_pos_iff.2 hne
 unfold bP
 by_cases hq:t.parts.any qB=true
 ·rw [if_pos hq]
  split at g2 <;> omega
 ·rw [if_neg hq]
  have:=s3 (by simpa using hq) hd
  split at g2 <;> omega
end
end Go.Proofs.YtepebnblbheegaaGreatDoor
