/- ShowCalls, dialect A: redirections around a call, a ! and a pipe around both: its source, what the parser makes of it. No program stands in it. -/
import Derived.Test.YtbpjobmpacjgcaaGreatDoorGZV
namespace Go.Proofs.YtbpjobmpacjgcaaGreatDoor
open Go Go.RowKit
def rdP (l:List (List UInt8)):List (Nat×List UInt8)→aA
 | []=>kR l
 | (m,s) :: xs=>aC 33 m [] [aR s,rdP l xs]
def opR (m:Nat):List UInt8:=32 :: ((if m=1 then [60] else if m=2 then [62] else [62,62])++[32])
def blk (z:List UInt8):List UInt8:=[123,32]++z++[59,32,125]
def bG (q:List UInt8→List UInt8) (l:List (List UInt8)):List (Nat×List UInt8)→List UInt8
 | []=>iI q l
 | (m,s) :: xs=>blk (bG q l xs)++opR m++q s
def iV (p:aA):aA:=aC 27 0 [] [aC 32 0 [] [p,aC 20 0 [] [],p]]
def fN (z:List UInt8):List UInt8:=[33,32]++(z++([32,124,32]++(blk []++([32,124,32]++z))))
def okR (xs:List (Nat×List UInt8)):Prop:=∀ x∈xs,1≤x.1∧x.1≤3∧x.2.length≤2000
theorem okR.tail {x:Nat×List UInt8}{xs:List (Nat×List UInt8)}(h:okR (x :: xs)):okR xs:=fun y hy=>h y (by simp [hy])
def dE (l:List (List UInt8)):List (Nat×List UInt8)→List aG
 | []=>l.map eU
 | (m,s) :: xs=>cJ [123] :: (dE l xs++[⟨2,0,[]⟩,cJ [125],⟨8+m,0,[]⟩,eU s])
def pD (l:List (List UInt8)) (xs:List (Nat×List UInt8)):List aG:=cJ [33] :: (dE l xs++(⟨6,0,[]⟩ :: cJ [123] :: ⟨2,0,[]⟩ :: cJ [125] :: ⟨6,0,[]⟩ :: dE l xs))
theorem Mm:∀ c:UInt8,c=123∨c=125∨c=33→p6 c:=by
 intro c h;unfold p6 nU
 rcases h with rfl | rfl | rfl <;> exact⟨⟨by decide,by decide,by decide,by decide⟩,by decide⟩
theorem Lx.bare {S:List UInt8}{T:List aG}(c:UInt8)(hc:c=123∨c=125∨c=33)(h:Lx S T)(hs:Stop S):Lx (c :: S) (cJ [c] :: T) :=
 h.plain (l:=[c]) (by simp) (by intro x hx;rw[List.mem_singleton] at hx;subst hx;exact Mm _ hc) (by rcases hc with rfl | rfl | rfl <;> decide) hs
theorem MD (m:Nat)(h1:1≤m)(h3:m≤3):opR m=32 :: (bH.getD (8+m) []++[32]):=by
 obtain rfl | rfl | rfl:m=1∨m=2∨m=3:=by omega
 all_goals rfl
theorem Lx.rd {l:List (List UInt8)}:∀ (xs:List (Nat×List UInt8)){S:List UInt8}{T:List aG},okR xs→Lx S T→Stop S→Lx (bG cS l xs++S) (dE l xs++T)
 | [],_,_,_,h,hs=>Lx.words h hs l
 | (m,s) :: xs,S,T,hx,h,hs=>by
  obtain⟨m1,m3,-⟩:=hx (m,s) (by simp)
  have h1:=(Lx.dead s h hs).blank;have h2:=(h1.op' (8+m) (by omega) (by omega) (.inr ⟨_,rfl⟩)).blank
  have h3:=(h2.bare 125 (.inr (.inl rfl)) (pG _)).blank;have h4:=h3.op' 2 (by omega) (by omega) (.inr ⟨_,rfl⟩)
  have h5:=(Lx.rd (l:=l) xs hx.tail h4 (.inr ⟨59,_,rfl,by decide⟩)).blank
  have h6:=h5.bare 123 (.inl rfl) (pG _)
  have e:bG cS l ((m,s) :: xs)++S=123 :: 32 :: (bG cS l xs++(bH.getD 2 []++32 :: 125 :: 32 :: (bH.getD (8+m) []++32 :: (cS s++S)))):=by
   rw[bG,MD m m1 m3,blk];simp [bH]
  have e2:dE l ((m,s) :: xs)++T=cJ [123] :: (dE l xs++(⟨2,0,[]⟩ :: cJ [125] :: ⟨8+m,0,[]⟩ :: eU s :: T)):=by simp [dE]
  rw[e,e2];exact h6
theorem Lx.nt {l:List (List UInt8)}(xs:List (Nat×List UInt8))(hx:okR xs):Lx (fN (bG cS l xs)) (pD l xs++d7):=by
 have h1:=(Lx.rd (l:=l) xs hx Lx.nil Dq).blank;rw[List.append_nil] at h1;have h2:=(h1.op' 6 (by omega) (by omega) (.inr ⟨_,rfl⟩)).blank
 have h3:=(h2.bare 125 (.inr (.inl rfl)) (pG _)).blank;have h4:=(h3.op' 2 (by omega) (by omega) (.inr ⟨_,rfl⟩)).blank
 have h5:=(h4.bare 123 (.inl rfl) (pG _)).blank;have h6:=(h5.op' 6 (by omega) (by omega) (.inr ⟨_,rfl⟩)).blank
 have h7:=(Lx.rd (l:=l) xs hx h6 (pG _)).blank;have h8:=h7.bare 33 (.inr (.inr rfl)) (pG _);have e2:pD l xs++d7=cJ [33] :: (dE l xs++(⟨6,0,[]⟩ :: cJ [123] :: ⟨2,0,[]⟩ :: cJ [125] :: ⟨6,0,[]⟩ :: (dE l xs++d7))):=by simp [pD]
 rw[e2]
 have e:fN (bG cS l xs)=33 :: 32 :: (bG cS l xs++32 :: (bH.getD 6 []++32 :: 123 :: 32 :: (bH.getD 2 []++32 :: 125 :: 32 :: (bH.getD 6 []++32 :: bG cS l xs)))):=by
  simp [fN,blk,bH]
 rw[e];exact h8
theorem t8 (l:List (List UInt8))(h0:l≠[])(xs:List (Nat×List UInt8))(S:List aG):cM [1,2] (dE l xs++S)=dE l xs++S∧oA (dE l xs++S)=false∧k7 (dE l xs++S) [[33]]=false∧dE l xs++S≠[]:=by
 cases xs with
 | nil =>
  obtain⟨s,l',rfl⟩:∃ s l',l=s :: l':=by cases l with | nil=>exact absurd rfl h0 | cons s l'=>exact⟨s,l',rfl⟩
  refine ⟨BS rfl,?_,Dh _ _ _,by simp [dE]⟩
  unfold oA;rw[show dE (s :: l') []++S=eU s :: (l'.map eU++S) from rfl,Dh]
  rfl
 | cons x xs =>
  obtain⟨m,s⟩:=x;exact⟨BS rfl,rfl,rfl,by simp [dE]⟩
theorem Par.rd (l:List (List UInt8))(h0:l≠[])(hl:∀ s∈l,s.length≤2000):∀ (xs:List (Nat×List UInt8)){d:Nat}{S:List aG},okR xs→d+xs.length≤29→S≠[]→nT S=false→isS S [13]=false→Par (nR d) (dE l xs++S) (rdP l xs) S
 | [],_,_,_,_,hS,h1,h2=>Par.call l h0 hl hS h1 h2
 | (m,s) :: xs,d,S,hx,hd,hS,h1,h2=>by
  obtain⟨m1,m3,hs⟩:=hx (m,s) (by simp)
  have e2:dE l ((m,s) :: xs)++S=cJ [123] :: (dE l xs++(⟨2,0,[]⟩ :: cJ [125] :: ⟨8+m,0,[]⟩ :: eU s :: S)):=by simp [dE]
  rw[e2];rw[List.length_cons] at hd;have hc:=Par.rd l h0 hl xs (d:=d+1) (S:=⟨2,0,[]⟩ :: cJ [125] :: ⟨8+m,0,[]⟩ :: eU s :: S) hx.tail (by omega) (by simp) rfl rfl
  obtain⟨f1,f2,f3,f4⟩:=t8 l h0 xs (⟨2,0,[]⟩ :: cJ [125] :: ⟨8+m,0,[]⟩ :: eU s :: S);have hL:=Par.listOne (by omega) f1 f2 f3 hc rfl rfl (by simp [cM,cJ]) rfl f4
  refine Par.commandBrace rfl f4 hL rfl (by simp) ?_
  have ht:nT (⟨8+m,0,[]⟩ :: eU s :: S)=true:=by
   obtain rfl | rfl | rfl:m=1∨m=2∨m=3:=by omega
   all_goals rfl
  refine Par.turnsStep ht rfl (H8 d hs) hS ?_;have:=Par.turnsEnd (d:=d) (rdP l xs) ([]++[(8+m,aR s)]) h1
  have e3:gH ([]++[(8+m,aR s)]) (rdP l xs)=rdP l ((m,s) :: xs):=by
   show (if 8+m=12 then _ else aC 33 (((8+m:Nat):Int) - 8) [] [aR s,rdP l xs])=_
   rw[if_neg (by omega),show ((8+m:Nat):Int) - 8=m by omega]
   rfl
  rw[e3] at this;exact this
theorem Mc (l:List (List UInt8))(h0:l≠[])(hl:∀ s∈l,s.length≤2000)(xs:List (Nat×List UInt8))(hx:okR xs)(hn:xs.length≤20):Par (oD 0) (dE l xs++d7) (rdP l xs) d7:=by
 obtain⟨f1,f2,f3,f4⟩:=t8 l h0 xs d7;exact Par.end1 (by omega) f1 f2 f3 (Par.rd l h0 hl xs hx (by omega) (by decide) (by decide) (by decide)) f4
theorem L2 (l:List (List UInt8))(h0:l≠[])(hl:∀ s∈l,s.length≤2000)(xs:List (Nat×List UInt8))(hx:okR xs)(hn:xs.length≤20):Par (oD 0) (pD l xs++d7) (iV (rdP l xs)) d7:=by
 have e2:pD l xs++d7=cJ [33] :: (dE l xs++(⟨6,0,[]⟩ :: cJ [123] :: ⟨2,0,[]⟩ :: cJ [125] :: ⟨6,0,[]⟩ :: (dE l xs++d7))):=by simp [pD]
 rw[e2];obtain⟨f1,f2,f3,f4⟩:=t8 l h0 xs d7;obtain⟨g1,g2,g3,g4⟩:=t8 l h0 xs (⟨6,0,[]⟩ :: cJ [123] :: ⟨2,0,[]⟩ :: cJ [125] :: ⟨6,0,[]⟩ :: (dE l xs++d7))
 have p1:∀ S:List aG,cM [1,2] S=S→cM [1] S=S:=by
  intro S h
  cases S with
  | nil=>rfl
  | cons t S =>
   have hk:¬ [1,2].contains t.kind=true:=fun hc=>by
    unfold cM at h;rw[List.dropWhile_cons,if_pos hc] at h;have h1:=congrArg List.length h;have h2:=List.Sublist.length_le (List.dropWhile_sublist (fun t:aG=>[1,2].contains t.kind) (l:=S))
    rw[List.length_cons] at h1;omega
   unfold cM;rw[List.dropWhile_cons,if_neg];simp only[List.contains_eq_any_beq,List.any_cons,List.any_nil,Bool.or_false,Bool.or_eq_true,beq_iff_eq] at hk ⊢;omega
 have c3:Par (oZ 1 ([]++[rdP l xs]++[aC 20 0 [] []])) (dE l xs++d7) ([]++[rdP l xs]++[aC 20 0 [] []]++[rdP l xs]) d7:=Par.pipeREnd (Par.rd l h0 hl xs hx (by omega) (by decide) (by decide) (by decide)) (by decide)
 have hb:Par (nR 1) (cJ [123] :: ⟨2,0,[]⟩ :: cJ [125] :: ⟨6,0,[]⟩ :: (dE l xs++d7)) (aC 20 0 [] []) (⟨6,0,[]⟩ :: (dE l xs++d7)):=by
  have hl:Par (oD 1) (⟨2,0,[]⟩ :: cJ [125] :: ⟨6,0,[]⟩ :: (dE l xs++d7)) (aC 20 0 [] []) (cJ [125] :: ⟨6,0,[]⟩ :: (dE l xs++d7)):=Par.list (by omega) (Par.chainsEnd [] (by simp [cM,cJ]) (.inl rfl))
  exact Par.commandBrace rfl (by simp) hl rfl (by simp) (Par.turnsEnd (aC 20 0 [] []) [] rfl)
 have c2:Par (oZ 1 ([]++[rdP l xs])) (cJ [123] :: ⟨2,0,[]⟩ :: cJ [125] :: ⟨6,0,[]⟩ :: (dE l xs++d7)) ([]++[rdP l xs]++[aC 20 0 [] []]++[rdP l xs]) d7 :=
  Par.pipeRStep hb rfl f4 (by rw[p1 _ f1];exact f4) (by rw[p1 _ f1];exact c3)
 have c1:Par (oZ 1 []) (dE l xs++(⟨6,0,[]⟩ :: cJ [123] :: ⟨2,0,[]⟩ :: cJ [125] :: ⟨6,0,[]⟩ :: (dE l xs++d7))) ([]++[rdP l xs]++[aC 20 0 [] []]++[rdP l xs]) d7 :=
  Par.pipeRStep (Par.rd l h0 hl xs hx (by omega) (by simp) rfl rfl) rfl (by simp) (by simp [cM,cJ]) c2
 have hp:=Par.pipeNot (t:=cJ [33]) rfl g4 c1;have hch:=Par.chain hp (Par.chainREnd _ (by decide))
 exact Par.list (by omega) (Par.chainsStep (L:=[]) (by simp [cM,cJ]) rfl (.inl rfl) hch (Par.chainsEnd [iV (rdP l xs)] (by decide) (.inl (by decide))))
theorem zR (l:List (List UInt8))(h0:l≠[])(hl:∀ s∈l,s.length≤2000):∀ (xs:List (Nat×List UInt8)),okR xs→WFP okA 2000 false (2+xs.length) (rdP l xs)
 | [],_=>Kw h0 hl
 | (m,s) :: xs,hx=>by
  obtain⟨m1,m3,hs⟩:=hx (m,s) (by simp)
  rw[List.length_cons,← Nat.add_assoc];refine .node _ _ _ _ _ _ (by rfl) ?_ (by rfl) (j9 ((yZ hs).mono (by omega)) (zR l h0 hl xs hx.tail))
  simp [bU]
  omega
theorem nC (l:List (List UInt8)):∀ (xs:List (Nat×List UInt8)),(rdP l xs).length=l.length+1+2 * xs.length
 | []=>by rw[rdP,JR];rfl
 | (m,s) :: xs=>by
  have:=nC l xs
  rw[rdP];simp [aC,aR,this]
  omega
theorem yP (l:List (List UInt8))(h0:l≠[])(hl:∀ s∈l,s.length≤2000)(hln:l.length≤100)(xs:List (Nat×List UInt8))(hx:okR xs)(hn:xs.length≤20):dB (rdP l xs)=none :=
 CC (zR l h0 hl xs hx) (by omega) (by rw[nC];omega)
theorem yN (l:List (List UInt8))(h0:l≠[])(hl:∀ s∈l,s.length≤2000)(hln:l.length≤100)(xs:List (Nat×List UInt8))(hx:okR xs)(hn:xs.length≤20):dB (iV (rdP l xs))=none:=by
 have hw:=zR l h0 hl xs hx;have hlen:=nC l xs;have h20:WFP okA 2000 false 1 (aC 20 0 [] []):=.node _ _ _ _ _ _ (by rfl) (by rfl) (by rfl) fun j kid hj=>by simp at hj
 have hp:WFP okA 2000 false (3+xs.length) (aC 32 0 [] [rdP l xs,aC 20 0 [] [],rdP l xs]):=by
  rw[show 3+xs.length=2+xs.length+1 by omega]
  refine .node _ _ _ _ _ _ (by rfl) (by rfl) (by rfl) fun j kid hj=>?_
  match j,hj with
  | 0,hj=>cases hj;exact hw
  | 1,hj=>cases hj;exact h20.mono (by omega)
  | 2,hj=>cases hj;exact hw
  | j+3,hj=>simp at hj
 have hN:WFP okA 2000 false (4+xs.length) (iV (rdP l xs)):=by
  rw[show 4+xs.length=3+xs.length+1 by omega]
  refine .node _ _ _ _ _ _ (by rfl) (by rfl) (by rfl) fun j kid hj=>?_
  match j,hj with
  | 0,hj=>cases hj;exact hp
  | j+1,hj=>simp at hj
 exact CC hN (by omega) (by simp [iV,aC,hlen];omega)
theorem Ju (l:List (List UInt8))(h0:l≠[])(hl:∀ s∈l,s.length≤2000)(hln:l.length≤100)(xs:List (Nat×List UInt8))(hx:okR xs)(hn:xs.length≤20)(hz:(bG cS l xs).length≤8192):nG (bG cS l xs) = .ok (rdP l xs)∧Lx (bG cS l xs) (dE l xs++d7):=by
 have h:=Lx.rd (l:=l) xs hx Lx.nil Dq;rw[List.append_nil] at h;exact⟨Cg h (Mc l h0 hl xs hx hn) hz (yP l h0 hl hln xs hx hn),h⟩
theorem J3 (l:List (List UInt8))(h0:l≠[])(hl:∀ s∈l,s.length≤2000)(hln:l.length≤100)(xs:List (Nat×List UInt8))(hx:okR xs)(hn:xs.length≤20)(hz:(fN (bG cS l xs)).length≤8192):nG (fN (bG cS l xs)) = .ok (iV (rdP l xs))∧Lx (fN (bG cS l xs)) (pD l xs++d7):=by
 have h:=Lx.nt (l:=l) xs hx;exact⟨Cg h (L2 l h0 hl xs hx hn) hz (yN l h0 hl hln xs hx hn),h⟩
end Go.Proofs.YtbpjobmpacjgcaaGreatDoor
