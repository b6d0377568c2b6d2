/- AparseSettings: what its loops hold. No program stands in it. -/
import Derived.Test.YtbfeoinoepoiaaaGreatDoorGParseSA
import Derived.Lib.ItoaNum
namespace Go.Proofs.YtbfeoinoepoiaaaGreatDoor
open Go Go.RowKit
def varA (i:Nat):List UInt8:=118 :: Lib.decDigits i
theorem dec_one (i:Nat) (h:i<8):Lib.decDigits i=[UInt8.ofNat (48+i)]:=Lib.decDigits_one (by omega)
theorem varsA:NamesA varA 8:=by
 have h8:∀ i,i<8→i=0∨i=1∨i=2∨i=3∨i=4∨i=5∨i=6∨i=7:=fun i h=>by omega
 have hp:∀ c∈([118,48,49,50,51,52,53,54,55,61]:List UInt8),PlainC c:=by
  intro c hc
  unfold PlainC PlainA
  simp at hc
  rcases hc with rfl | rfl | rfl | rfl | rfl | rfl | rfl | rfl | rfl | rfl <;> exact ⟨⟨by decide,by decide,by decide,by decide⟩,by decide⟩
 refine ⟨fun i hi=>?_,fun i hi c hc=>?_,fun i hi=>?_,fun i hi c hc=>?_⟩
 ·unfold varA
  rw [dec_one i hi]
  rcases h8 i hi with rfl | rfl | rfl | rfl | rfl | rfl | rfl | rfl <;> decide
 ·unfold varA at hc
  rw [dec_one i hi] at hc
  refine hp c ?_
  rcases h8 i hi with rfl | rfl | rfl | rfl | rfl | rfl | rfl | rfl <;> revert c <;> decide
 ·unfold varA
  rw [List.cons_append,List.headD_cons]
  decide
 ·unfold varA at hc
  rw [dec_one i hi] at hc
  rcases h8 i hi with rfl | rfl | rfl | rfl | rfl | rfl | rfl | rfl <;> revert c <;> decide
theorem NamesA.less {V:Nat→List UInt8} {N M:Nat} (h:NamesA V N) (hM:M≤N):NamesA V M :=
 ⟨fun i hi=>h.name i (by omega),fun i hi=>h.plain i (by omega),fun i hi=>h.head i (by omega),fun i hi=>h.eq i (by omega)⟩
theorem setsSrcA_snoc (V:Nat→List UInt8):∀ (qs:List (List UInt8)) (i k:Nat) (q:List UInt8),qs[k]?=some q→setsSrcA V i (qs.take k)++(32 :: (V (i+k)++(61 :: 39 :: (q++[39]))))=setsSrcA V i (qs.take (k+1))
 | [],i,k,q,h=>by simp at h
 | a :: qs,i,0,q,h=>by
  simp only [List.getElem?_cons_zero,Option.some.injEq] at h
  subst h
  simp [setsSrcA]
 | a :: qs,i,k+1,q,h=>by
  have ih:=setsSrcA_snoc V qs (i+1) k q (by simpa using h)
  rw [List.take_succ_cons,List.take_succ_cons,setsSrcA,setsSrcA,← ih,show i+1+k=i+(k+1) by omega]
  simp
theorem setsSrcA_size:∀ (qs:List (List UInt8)) (i:Nat),i+qs.length≤8→(∀ q∈qs,q.length≤60)→(setsSrcA varA i qs).length≤66 * qs.length
 | [],i,_,_=>by simp [setsSrcA]
 | q :: qs,i,hi,h=>by
  simp only [List.length_cons] at hi
  have h1:=setsSrcA_size qs (i+1) (by omega) (fun x hx=>h x (by simp [hx]))
  have h2:=h q (by simp)
  have h3:(varA i).length=2:=by unfold varA; rw [dec_one i (by omega)]; rfl
  simp [setsSrcA]
  omega
theorem setsLA_get (V:Nat→List UInt8):∀ (qs:List (List UInt8)) (i k:Nat) (q:List UInt8),qs[k]?=some q→(setsLA V i qs)[k]?=some (V (i+k),litP q)
 | [],i,k,q,h=>by simp at h
 | a :: qs,i,0,q,h=>by
  simp only [List.getElem?_cons_zero,Option.some.injEq] at h
  subst h
  rfl
 | a :: qs,i,k+1,q,h=>by
  have ih:=setsLA_get V qs (i+1) k q (by simpa using h)
  rw [setsLA,List.getElem?_cons_succ,ih,show i+1+k=i+(k+1) by omega]
def setsP (L:List (List UInt8 × Prog)) (k:Nat):List Prog:=(L.take k).map fun x=>newP 22 0 x.1 [x.2]
theorem setsP_snoc {L:List (List UInt8 × Prog)} {k:Nat} {x:List UInt8 × Prog} (h:L[k]?=some x):setsP L k++[newP 22 0 x.1 [x.2]]=setsP L (k+1):=by
 obtain ⟨hk,e⟩:=List.getElem?_eq_some_iff.1 h
 unfold setsP
 rw [List.take_succ_eq_append_getElem hk,List.map_append,e]
 rfl
theorem setsP_len {L:List (List UInt8 × Prog)} {k:Nat} (h:k≤L.length):(setsP L k).length=k:=by
 unfold setsP
 rw [List.length_map,List.length_take]
 omega
theorem setsP_flat {L:List (List UInt8 × Prog)} (hL:∀ x∈L,x.2.length=1):∀ {k:Nat},(setsP L k).flatten.length≤2 * L.length:=by
 intro k
 have h:∀ (M:List (List UInt8 × Prog)),(∀ x∈M,x.2.length=1)→(M.map fun x=>newP 22 0 x.1 [x.2]).flatten.length=2 * M.length:=by
  intro M
  induction M with
  | nil=>intro _; rfl
  | cons x M ih =>
   intro h
   rw [List.map_cons,List.flatten_cons,List.length_append,ih fun y hy=>h y (by simp [hy]),(len_one _ _ _ _).1,h x (by simp),List.length_cons]
   omega
 unfold setsP
 rw [h _ fun x hx=>hL x (List.mem_of_mem_take hx),List.length_take]
 omega
theorem setsP_all {L:List (List UInt8 × Prog)} {k:Nat}:∀ l∈setsP L k,0<l.length:=fun l hl=>by
 obtain ⟨x,_,rfl⟩:=List.mem_map.1 hl
 exact newP_pos' _ _ _ _
theorem setsLA_one (V:Nat→List UInt8):∀ (qs:List (List UInt8)) (i:Nat),∀ x∈setsLA V i qs,x.2.length=1
 | [],i,x,h=>by cases h
 | q :: qs,i,x,h=>by
  rw [setsLA] at h
  rcases List.mem_cons.1 h with rfl | h
  ·rfl
  ·exact setsLA_one V qs (i+1) x h
def locsP (L:List (List UInt8 × Prog)) (c:Prog) (k:Nat):Prog:=(L.drop k).foldr (fun x c=>newP 35 0 x.1 [x.2,c]) c
theorem locsP_step {L:List (List UInt8 × Prog)} {c:Prog} {k:Nat} {x:List UInt8 × Prog} (h:L[k]?=some x):locsP L c k=newP 35 0 x.1 [x.2,locsP L c (k+1)]:=by
 obtain ⟨hk,e⟩:=List.getElem?_eq_some_iff.1 h
 unfold locsP
 rw [List.drop_eq_getElem_cons hk,e]
 rfl
theorem locsP_end {L:List (List UInt8 × Prog)} {c:Prog}:locsP L c L.length=c:=by
 unfold locsP
 rw [List.drop_length]
 rfl
theorem locsP_len {L:List (List UInt8 × Prog)} (hL:∀ x∈L,x.2.length=1) (c:Prog) (k:Nat):(locsP L c k).length≤2 * L.length+c.length:=by
 have h:∀ (M:List (List UInt8 × Prog)),(∀ x∈M,x.2.length=1)→(M.foldr (fun x c=>newP 35 0 x.1 [x.2,c]) c).length=2 * M.length+c.length:=by
  intro M
  induction M with
  | nil=>intro _; simp
  | cons x M ih =>
   intro h
   rw [List.foldr_cons,(len_two _ _ _ _ _).1,ih fun y hy=>h y (by simp [hy]),h x (by simp),List.length_cons]
   omega
 unfold locsP
 rw [h _ fun x hx=>hL x (List.mem_of_mem_drop hx),List.length_drop]
 omega
theorem wsSrc_snoc (n:Nat):wsSrc n++(if n=0 then [32,119] else [32,119,61,49])=wsSrc (n+1):=by
 cases n with
 | zero=>rfl
 | succ n =>
  rw [if_neg (by omega)]
  show _++_=[32,119]++(List.replicate (n+1) ([32,119,61,49]:List UInt8)).flatten
  rw [List.replicate_succ',List.flatten_append,wsSrc]
  simp
theorem wsP_snoc (n:Nat):wsP n++[litP (if n=0 then [119] else [119,61,49])]=wsP (n+1):=by
 cases n with
 | zero=>rfl
 | succ n =>
  rw [if_neg (by omega)]
  show _++_=litP [119] :: List.replicate (n+1) (litP [119,61,49])
  rw [List.replicate_succ',wsP]
  simp
theorem wsP_len (n:Nat):(wsP n).length=n:=by
 cases n with
 | zero=>rfl
 | succ n=>simp [wsP]
theorem wsP_one (n:Nat):∀ l∈wsP n,l.length=1:=by
 cases n with
 | zero=>intro l h; cases h
 | succ n =>
  intro l h
  rw [wsP] at h
  rcases List.mem_cons.1 h with rfl | h
  ·rfl
  ·rw [List.eq_of_mem_replicate h]; rfl
theorem flat_one:∀ (l:List Prog),(∀ x∈l,x.length=1)→l.flatten.length=l.length
 | [],_=>rfl
 | x :: l,h=>by
  rw [List.flatten_cons,List.length_append,flat_one l fun y hy=>h y (by simp [hy]),h x (by simp),List.length_cons]
  omega
theorem sets_want (qs:List (List UInt8)) (n:Nat):madeP (setsLA varA 0 qs) (wsP n)=if n=0 then seqP (setsP (setsLA varA 0 qs) qs.length) else locsP (setsLA varA 0 qs) (newP 21 0 [] (wsP n)) 0:=by
 unfold madeP
 rw [wsP_len]
 split
 ·unfold setsP
  rw [List.take_of_length_le (by rw [(setsLA_map varA 0 qs).1]; exact Nat.le_refl _)]
 ·rfl
theorem parse_sets8 {qs:List (List UInt8)} (hq:∀ q∈qs,q.length≤60∧∀ c∈q,c.toNat≠39) (h0:qs≠[]) (hl:qs.length≤8) (n:Nat) (hn:n≤3):parseA (setsSrcA varA 0 qs++wsSrc n) = .ok (madeP (setsLA varA 0 qs) (wsP n)):=by
 have hq':QuotesA qs:=fun q h=>⟨by have:=(hq q h).1; omega,(hq q h).2⟩
 have hV:=varsA.less hl
 refine parseA_of (sets_lex hV hq' n) (sets_par hV hq' h0 n) ?_ (sets_check hV hq' h0 hl n hn)
 have h1:=setsSrcA_size qs 0 (by omega) (fun q h=>(hq q h).1)
 have h2:(wsSrc n).length≤20:=by
  have:n=0∨n=1∨n=2∨n=3:=by omega
  rcases this with rfl | rfl | rfl | rfl <;> decide
 rw [List.length_append]
 omega
end Go.Proofs.YtbfeoinoepoiaaaGreatDoor
