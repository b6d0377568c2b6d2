/- AparseGroups: what a source between braces, behind blank lines, in an if or beside another is parsed as. No program stands in it. -/
import Derived.Test.YtepebnblbheegaaGreatDoorGParE
import Derived.Test.YtepebnblbheegaaGreatDoorGNodesB
namespace Go.Proofs.YtepebnblbheegaaGreatDoor
open Go Go.RowKit
theorem parseA_inv {s:List UInt8} (hs:s.length≤8192) {a:Prog} (h:parseA s = .ok a):∃ us F j,lexA s (s.length+1) 0 = .ok us∧aList F us 0 0 0=some (.ok (a,j))∧aIs us j [0]=true∧checkP a=none∧VF false a:=by
 unfold parseA at h
 cases hq:lexA s (s.length+1) 0 with
 | error e=>rw [hq] at h; cases h
 | ok ts =>
  rw [hq] at h
  dsimp only at h
  have g:=lexA_good s hs ts hq
  have hw:=(vAllA (36 * s.length+23)).list g 0 0 0
  cases hx:aList (36 * s.length+23) ts 0 0 0 with
  | none=>rw [hx] at h; cases h
  | some r =>
   rw [hx] at h
   cases r with
   | error e=>cases h
   | ok y =>
    obtain ⟨m,i⟩:=y
    dsimp only at h
    split at h
    ·cases h
    ·rename_i h0
     split at h
     ·rename_i hc
      cases h
      exact ⟨ts,_,i,rfl,hx,by simpa using h0,hc,hw _ i hx⟩
     ·cases h
theorem Lx.line {S:List UInt8} {T:List ATok} (h:Lx S T):Lx (10 :: S) (⟨1,0,[]⟩ :: T) :=
 Lx.op (o:=[10]) (q:=1) h (by decide) (by simp [skipN]) (by simp [bestOp,opsA,Lib.hasPrefix,List.isPrefixOf]) (by simp)
theorem Lx.semi {S:List UInt8} {T:List ATok} (h:Lx (10 :: S) T):Lx (59 :: 10 :: S) (⟨2,0,[]⟩ :: T) :=
 Lx.op (o:=[59]) (q:=2) h (by decide) (by simp [skipN]) (by simp [bestOp,opsA,Lib.hasPrefix,List.isPrefixOf]) (by simp)
theorem Lx.jump {S:List UInt8} {T:List ATok} (n:Nat) (hn:skipN false S=n) (h0:skipN false (S.drop n)=0) (_hl:n≤S.length) (h:Lx (S.drop n) T):Lx S T:=fun L k f hd hf=>by
 obtain ⟨f,rfl⟩:∃ g,f=g+1:=⟨f - 1,by omega⟩
 have hd2:L.drop (k+n)=S.drop n:=by rw [← List.drop_drop,hd]
 obtain ⟨us,h1,h2⟩:=h L (k+n) (f+1) hd2 (by omega)
 refine ⟨us,?_,h2⟩
 rw [lexA] at h1 ⊢
 rw [hd2,h0,Nat.add_zero] at h1
 rw [hd,hn]
 exact h1
theorem Lx.key {S:List UInt8} {T:List ATok} (l:List UInt8) (h:Lx S T) (hl:l=[123]∨l=[125]∨l=[105,102]∨l=[116,104,101,110]∨l=[102,105]) (hS:Stop S):Lx (l++S) (wordT l :: T):=by
 have hp:∀ c:UInt8,c∈([123,125,105,102,116,104,101,110]:List UInt8)→PlainC c:=by
  intro c hc
  unfold PlainC PlainA
  simp at hc
  rcases hc with rfl | rfl | rfl | rfl | rfl | rfl | rfl | rfl <;> exact ⟨⟨by decide,by decide,by decide,by decide⟩,by decide⟩
 have hsub:∀ c∈l,c∈([123,125,105,102,116,104,101,110]:List UInt8):=by
  rcases hl with rfl | rfl | rfl | rfl | rfl <;> decide
 have h1:l≠[]∧(l.headD 0).toNat≠35:=by
  rcases hl with rfl | rfl | rfl | rfl | rfl <;> decide
 exact h.plain h1.1 (fun c hc=>hp c (hsub c hc)) h1.2 hS
theorem embed {s:List UInt8} (hs:s.length≤8192) (h92:∀ c∈s,c.toNat≠92∧c.toNat≠35) {a:Prog} (h:parseA s = .ok a) {X:List UInt8} {C:ATok} {R:List ATok} (hX:Behind X) (hx:Lx X (⟨1,0,[]⟩ :: C :: R)) (hC:C.kind=0∨C.kind=13) (hE:endsS (C :: R)=true) :
  ∃ T,Lx (s++X) T∧passS [1,2] T≠[]∧T≠[]∧∀ d,ParE (xList d) T a (C :: R):=by
 obtain ⟨us,F,j,h1,h2,h3,h4,h5⟩:=parseA_inv hs h
 obtain ⟨vs,e,rfl,e2,e3,e4⟩:=Lx.source hX h92 hx (s.length+1) 0 us (Nat.zero_le _) (by omega) h1
 rw [List.drop_zero] at e4
 refine ⟨_,e4,?_,by simp,fun d=>ParE.of e2 e3 h2 h3 d hC hE⟩
 have hp:∀ (V:List ATok),passS [1,2] (V++⟨1,0,[]⟩ :: C :: R)≠[]:=by
  intro V
  induction V with
  | nil =>
   show passS [1,2] (C :: R)≠[]
   unfold passS
   rw [List.dropWhile_cons,if_neg (by rcases hC with h | h <;> rw [h] <;> decide)]
   simp
  | cons v V ih =>
   unfold passS at ih ⊢
   rw [List.cons_append,List.dropWhile_cons]
   split
   ·exact ih
   ·simp
 exact hp _
theorem chain_end {d:Nat} {S S1:List ATok} {c:Prog} (hk:keyS S [[33]]=false) (h:ParE (xCommand d) S c S1) (h6:isS S1 [6]=false) (h4:isS S1 [4,5]=false):ParE (xChain d) S c S1 :=
 ParE.chain (ParE.pipe hk (ParE.pipeREnd (L:=[]) h h6)) (Par.chainREnd _ h4).e
theorem check_vf2 {l:Prog} (h:VF false l) (hl:l.length≤3000):checkP l=none∨∃ p,checkP l=some (102,p):=by
 rcases check_vf h with h1 | h1 | ⟨p,h1⟩
 ·exact .inl h1
 ·exfalso
  obtain ⟨D,h⟩:=h
  have hp:=h.pos.1
  unfold checkP at h1
  rw [if_neg (by omega)] at h1
  obtain ⟨r,h2,h3,-⟩:=look_wf h l 0 l.length 1 true [] (3 * l.length) (by simp) (by omega) (fun _=>by omega) (Nat.le_refl _)
  rw [h2] at h1
  rcases h3 with rfl | ⟨p,rfl⟩ <;> cases h1
 ·exact .inr ⟨_,h1⟩
def OkOr102 (s:List UInt8) (l:Prog):Prop:=parseA s = .ok l∨∃ p,parseA s = .error (102,some p)
section
variable {s t:List UInt8} (hs:s.length≤700) (hs9:∀ c∈s,c.toNat≠92∧c.toNat≠35) {a:Prog} (ha:parseA s = .ok a)
include hs hs9 ha
theorem brace_lx {Y:List UInt8} {R:List ATok} (hY:Lx Y R) (hR:R≠[]) (hS:Stop Y):∃ T,Lx ([123,10]++(s++([10,125]++Y))) (wordT [123] :: T)∧T≠[]∧∀ d,turningS R=false→ParE (xCommand d) (wordT [123] :: T) a R:=by
 have hx:Lx ([10,125]++Y) (⟨1,0,[]⟩ :: wordT [125] :: R):=(hY.key [125] (by simp) hS).line
 obtain ⟨T,t1,t2,t3,t4⟩:=embed (by omega) hs9 ha ⟨10,_,rfl,.inl rfl⟩ hx (.inr rfl) rfl
 refine ⟨⟨1,0,[]⟩ :: T,?_,by simp,fun d hr=>?_⟩
 ·exact (t1.line).key [123] (by simp) (.inr ⟨10,_,rfl,rfl⟩)
 ·exact ParE.commandBrace rfl (by simp) (ParE.line (.inl rfl) t2 (t4 d)) rfl hR (Par.turnsEnd a [] hr).e
theorem group_one:OkOr102 ([123,10]++(s++[10,125])) a:=by
 obtain ⟨T,t1,t2,t3⟩:=brace_lx hs hs9 ha Lx.nil (by simp) (.inl rfl)
 rw [List.append_nil] at t1
 obtain ⟨us,F,j,h1,h2,h3,h4,h5⟩:=parseA_inv (by omega) ha
 refine parseA_ofE t1 (ParE.list (ParE.chainsStep ?_ ?_ (.inl rfl) (chain_end ?_ (t3 1 rfl) rfl rfl) (Par.chainsEnd [a] (S:=[⟨0,0,[]⟩]) (by decide) (.inl rfl)).e)) ?_ (.inl h4)
 ·simp [passS,wordT]
 ·rfl
 ·rfl
 ·simp only [List.length_append,List.length_cons,List.length_nil]; omega
theorem group_two:OkOr102 ([10,59,10]++(s++[32,35,32,102,105,32,100,111,110,101,10])) a:=by
 have hx:Lx [32,35,32,102,105,32,100,111,110,101,10] [⟨1,0,[]⟩,⟨0,0,[]⟩]:=Lx.jump 10 rfl rfl (by decide) Lx.nil.line
 obtain ⟨T,t1,t2,t3,t4⟩:=embed (by omega) hs9 ha ⟨32,_,rfl,.inr rfl⟩ hx (.inl rfl) rfl
 obtain ⟨us,F,j,h1,h2,h3,h4,h5⟩:=parseA_inv (by omega) ha
 have e1:passS [1,2] (⟨1,0,[]⟩ :: T)≠[]:=t2
 have e2:passS [1,2] (⟨2,0,[]⟩ :: ⟨1,0,[]⟩ :: T)≠[]:=t2
 refine parseA_ofE t1.line.semi.line (ParE.line (.inl rfl) e2 (ParE.line (.inr rfl) e1 (ParE.line (.inl rfl) t2 (t4 0)))) ?_ (.inl h4)
 simp only [List.length_append,List.length_cons,List.length_nil]; omega
variable (ht:t.length≤700) (ht9:∀ c∈t,c.toNat≠92∧c.toNat≠35) {b:Prog} (hb:parseA t = .ok b)
include ht ht9 hb
theorem group_three:OkOr102 ([105,102,32]++(s++([10,116,104,101,110,32]++(t++[10,102,105])))) (newP 24 0 [] [a,b,seqP []]):=by
 have hx3:Lx [10,102,105] [⟨1,0,[]⟩,wordT [102,105],⟨0,0,[]⟩]:=(Lx.nil.key [102,105] (by simp) (.inl rfl)).line
 obtain ⟨W,w1,w2,w3,w4⟩:=embed (by omega) ht9 hb ⟨10,_,rfl,.inl rfl⟩ hx3 (.inr rfl) rfl
 have hx2:Lx ([10,116,104,101,110,32]++(t++[10,102,105])) (⟨1,0,[]⟩ :: wordT [116,104,101,110] :: W):=(w1.blank.key [116,104,101,110] (by simp) (.inr ⟨32,_,rfl,rfl⟩)).line
 obtain ⟨T,t1,t2,t3,t4⟩:=embed (by omega) hs9 ha ⟨10,_,rfl,.inl rfl⟩ hx2 (.inr rfl) rfl
 have hx1:Lx ([105,102,32]++(s++([10,116,104,101,110,32]++(t++[10,102,105])))) (wordT [105,102] :: T):=t1.blank.key [105,102] (by simp) (.inr ⟨32,_,rfl,rfl⟩)
 obtain ⟨us,F,j,h1,h2,h3,h4,h5⟩:=parseA_inv (by omega) ha
 obtain ⟨us',F',j',h1',h2',h3',h4',h5'⟩:=parseA_inv (by omega) hb
 have na:=parse_nodes (by omega) (fun c hc=>(hs9 c hc).1) ha
 have nb:=parse_nodes (by omega) (fun c hc=>(ht9 c hc).1) hb
 have hc:ParE (xChoice 1) (wordT [105,102] :: T) (newP 24 0 [] [a,b,seqP []]) [⟨0,0,[]⟩] :=
  ParE.choice (t:=wordT [102,105]) (ParE.body rfl t3 (t4 1)) (ParE.body rfl w3 (w4 1)) rfl rfl (by simp)
 refine parseA_ofE hx1 (ParE.list (ParE.chainsStep ?_ ?_ (.inl rfl) (chain_end ?_ (ParE.commandIf rfl hc (Par.turnsEnd _ [] rfl).e) rfl rfl) (Par.chainsEnd [newP 24 0 [] [a,b,seqP []]] (S:=[⟨0,0,[]⟩]) (by decide) (.inl rfl)).e)) ?_ (check_vf2 ?_ ?_)
 ·simp [passS,wordT]
 ·rfl
 ·rfl
 ·simp only [List.length_append,List.length_cons,List.length_nil]; omega
 ·refine VF.node (by rfl) (by rfl) (by rfl) fun j kid hj=>?_
  match j with
  | 0=>simp only [List.getElem?_cons_zero,Option.some.injEq] at hj; subst hj; exact h5
  | 1=>simp only [List.getElem?_cons_succ,List.getElem?_cons_zero,Option.some.injEq] at hj; subst hj; exact h5'
  | 2=>simp only [List.getElem?_cons_succ,List.getElem?_cons_zero,Option.some.injEq] at hj; subst hj; exact seqP_vf [] (fun x hx=>by cases hx)
  | j+3=>simp at hj
 ·rw [len_newP]
  simp only [List.flatten_cons,List.flatten_nil,List.append_nil,List.length_append]
  have:(seqP []).length=1:=rfl
  omega
theorem group_four:OkOr102 ([123,10]++(s++([10,125,10,123,10]++(t++[10,125])))) (seqP [a,b]):=by
 obtain ⟨W,w1,w2,w3⟩:=brace_lx ht ht9 hb Lx.nil (by simp) (.inl rfl)
 rw [List.append_nil] at w1
 obtain ⟨T,t1,t2,t3⟩:=brace_lx hs hs9 ha (Y:=10 :: ([123,10]++(t++[10,125]))) w1.line (by simp) (.inr ⟨10,_,rfl,rfl⟩)
 obtain ⟨us,F,j,h1,h2,h3,h4,h5⟩:=parseA_inv (by omega) ha
 obtain ⟨us',F',j',h1',h2',h3',h4',h5'⟩:=parseA_inv (by omega) hb
 have na:=parse_nodes (by omega) (fun c hc=>(hs9 c hc).1) ha
 have nb:=parse_nodes (by omega) (fun c hc=>(ht9 c hc).1) hb
 have e1:passS [1,2] (⟨1,0,[]⟩ :: wordT [123] :: W)=wordT [123] :: W:=rfl
 have hch:ParE (xChains 1 []) (wordT [123] :: T) (seqP [a,b]) [⟨0,0,[]⟩]:=by
  refine ParE.chainsStep ?_ ?_ (.inl rfl) (chain_end ?_ (t3 1 rfl) rfl rfl) (ParE.chainsStep (L:=[a]) (c:=b) (S1:=[⟨0,0,[]⟩]) ?_ ?_ (.inr ?_) ?_ (Par.chainsEnd [a,b] (S:=[⟨0,0,[]⟩]) (by decide) (.inl rfl)).e)
  ·simp [passS,wordT]
  ·rfl
  ·rfl
  ·rw [e1]; simp
  ·rfl
  ·rw [e1]
   intro e
   have:=congrArg List.length e
   simp at this
  ·rw [e1]
   exact chain_end rfl (w3 1 rfl) rfl rfl
 refine parseA_ofE t1 (ParE.list hch) ?_ (check_vf2 (seqP_vf [a,b] fun x hx=>?_) ?_)
 ·simp only [List.length_append,List.length_cons,List.length_nil]; omega
 ·simp only [List.mem_cons,List.mem_nil_iff,or_false] at hx
  rcases hx with rfl | rfl
  ·exact h5
  ·exact h5'
 ·have:=seqP_nd [a,b]
  simp [sl] at this
  omega
end
end Go.Proofs.YtepebnblbheegaaGreatDoor
