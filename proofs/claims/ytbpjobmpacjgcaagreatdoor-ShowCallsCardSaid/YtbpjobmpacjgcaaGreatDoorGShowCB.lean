/- ShowCalls, dialect B: its source, what the parser makes of it. No program stands in it. -/
import Derived.Test.YtbpjobmpacjgcaaGreatDoorGShowCA
import Derived.Test.YtbpjobmpacjgcaaGreatDoorGQuoteB
namespace Go.Proofs.YtbpjobmpacjgcaaGreatDoor
open Go Go.RowKit
def cB (l:List (List UInt8)):List (Nat×List UInt8)→List aH
 | []=>l.map gD
 | (m,s) :: xs=>⟨8,0,0,[],false⟩ :: (cB l xs++[⟨2,0,0,[],false⟩,⟨9,0,0,[],false⟩,⟨10+m,0,0,[],false⟩,gD s])
def oH (l:List (List UInt8)) (xs:List (Nat×List UInt8)):List aH:=⟨17,0,0,[],false⟩ :: (cB l xs++(⟨5,0,0,[],false⟩ :: ⟨8,0,0,[],false⟩ :: ⟨2,0,0,[],false⟩ :: ⟨9,0,0,[],false⟩ :: ⟨5,0,0,[],false⟩ :: cB l xs))
theorem LxB.sign {S:List UInt8}{T:List aH}(c:UInt8)(m:List UInt8)(k n:Nat)(first:Bool)(h:LxB false S T)(hc:aU false (c :: m)=0)(ht:∀ p,cY (c :: m) p = .ok (⟨k,p,0,[],false⟩,n))(hk:k≠0)(hi:[18,19,20,21,22,23,6,10].contains k=false)(hn:1≤n)(hl:n≤m.length+1)(hd:(c :: m).drop n=S) :
  LxB first (c :: m) (⟨k,0,0,[],false⟩ :: T)∧LxB first (32 :: c :: m) (⟨k,0,0,[],false⟩ :: T):=by
 constructor
 ·intro p;obtain⟨us,h1,h2⟩:=h (p+n);have h4:=gC.cons (first:=first) (l:=c :: m) (p:=p) (s:=0) hc (by simpa using ht p) hk hn (by simp only[List.length_cons];omega) (by rw[Nat.zero_add,hd];simpa using h1)
  exact⟨_,h4,by rw[List.map_cons,h2];unfold lF;dsimp only;rw[hi,Bool.and_false]⟩
 ·intro p;obtain⟨us,h1,h2⟩:=h (p+1+n);have h4:=gC.cons (first:=first) (l:=32 :: c :: m) (p:=p) (s:=1) (by rw[aU,if_pos (.inl (by decide)),hc]) (by simpa using ht (p+1)) hk hn (by simp only[List.length_cons];omega) (by rw[Nat.add_comm 1 n,List.drop_succ_cons,hd];simpa [Nat.add_assoc,Nat.add_comm 1 n] using h1)
  exact⟨_,h4,by rw[List.map_cons,h2];unfold lF;dsimp only;rw[hi,Bool.and_false]⟩
section
variable {S:List UInt8} {T:List aH} (h:LxB false (32 :: S) T)
theorem LxB.semi (h:LxB false (32 :: S) T):LxB false (59 :: 32 :: S) (⟨2,0,0,[],false⟩ :: T)∧LxB false (32 :: 59 :: 32 :: S) (⟨2,0,0,[],false⟩ :: T) :=
 LxB.sign 59 (32 :: S) 2 1 false h (by rfl) (fun p=>by simp [cY,bB,cN,Lib.hasPrefix,List.isPrefixOf]) (by decide) (by decide) (by omega) (by simp) rfl
theorem LxB.open (first:Bool)(h:LxB false (32 :: S) T):LxB first (123 :: 32 :: S) (⟨8,0,0,[],false⟩ :: T)∧LxB first (32 :: 123 :: 32 :: S) (⟨8,0,0,[],false⟩ :: T) :=
 LxB.sign 123 (32 :: S) 8 1 first h (by rfl) (fun p=>by simp [cY,bB,cN,Lib.hasPrefix,List.isPrefixOf]) (by decide) (by decide) (by omega) (by simp) rfl
theorem LxB.close (h:LxB false S T)(hS:S=[]∨∃ m,S=32 :: m):LxB false (32 :: 125 :: S) (⟨9,0,0,[],false⟩ :: T) :=
 (LxB.sign 125 S 9 1 false h (by rfl) (fun p=>by rcases hS with rfl | ⟨m,rfl⟩ <;> simp [cY,bB,cN,Lib.hasPrefix,List.isPrefixOf]) (by decide) (by decide) (by omega) (by simp) rfl).2
theorem LxB.bar (h:LxB false (32 :: S) T):LxB false (32 :: 124 :: 32 :: S) (⟨5,0,0,[],false⟩ :: T) :=
 (LxB.sign 124 (32 :: S) 5 1 false h (by rfl) (fun p=>by simp [cY,bB,cN,Lib.hasPrefix,List.isPrefixOf]) (by decide) (by decide) (by omega) (by simp) rfl).2
theorem LxB.bang (h:LxB false (32 :: S) T):LxB true (33 :: 32 :: S) (⟨17,0,0,[],false⟩ :: T) :=
 (LxB.sign 33 (32 :: S) 17 1 true h (by rfl) (fun p=>by simp [cY,bB,cN,Lib.hasPrefix,List.isPrefixOf]) (by decide) (by decide) (by omega) (by simp) rfl).1
theorem LxB.turn (m:Nat)(h1:1≤m)(h3:m≤3)(h:LxB false (32 :: S) T):LxB false (opR m++S) (⟨10+m,0,0,[],false⟩ :: T):=by
 obtain rfl | rfl | rfl:m=1∨m=2∨m=3:=by omega
 ·exact (LxB.sign 60 (32 :: S) 11 1 false h (by rfl) (fun p=>by simp [cY,bB,cN,Lib.hasPrefix,List.isPrefixOf]) (by decide) (by decide) (by omega) (by simp) rfl).2
 ·exact (LxB.sign 62 (32 :: S) 12 1 false h (by rfl) (fun p=>by simp [cY,bB,cN,Lib.hasPrefix,List.isPrefixOf]) (by decide) (by decide) (by omega) (by simp) rfl).2
 ·exact (LxB.sign 62 (62 :: 32 :: S) 13 2 false h (by rfl) (fun p=>by simp [cY,bB,cN,Lib.hasPrefix,List.isPrefixOf]) (by decide) (by decide) (by omega) (by simp) rfl).2
end
theorem JT (S:List UInt8):NoQ (32 :: S):=fun c m e=>by obtain⟨rfl,_⟩:=List.cons.inj e;decide
theorem Lo (S:List UInt8):NoQ (59 :: S):=fun c m e=>by obtain⟨rfl,_⟩:=List.cons.inj e;decide
theorem LxB.rd (l:List (List UInt8))(h0:l≠[]):∀ (xs:List (Nat×List UInt8)){S:List UInt8}{T:List aH},okR xs→LxB false S T→NoQ S→(∀ first,LxB first (32 :: (bG cE l xs++S)) (cB l xs++T))∧LxB true (bG cE l xs++S) (cB l xs++T)
 | [],S,T,_,h,hS=>by
  obtain⟨s,l',rfl⟩:∃ s l',l=s :: l':=by cases l with | nil=>exact absurd rfl h0 | cons s l'=>exact⟨s,l',rfl⟩
  obtain⟨h1,h2⟩:=LxB.tail h hS l';rw[bG,BM,List.append_assoc,cB,List.map_cons,List.cons_append];exact⟨fun first=>LxB.blankDead first s h1 h2,LxB.firstDead s h1 h2⟩
 | (m,s) :: xs,S,T,hx,h,hS=>by
  obtain⟨m1,m3,-⟩:=hx (m,s) (by simp)
  have a1:=LxB.turn m m1 m3 (LxB.blankDead false s h hS);have a2:=LxB.close a1 (.inr ⟨_,rfl⟩);have a3:=(LxB.semi a2).1;have a4:=(LxB.rd l h0 xs hx.tail a3 (Lo _)).1 false
  have e:bG cE l ((m,s) :: xs)++S=123 :: 32 :: (bG cE l xs++(59 :: 32 :: 125 :: (opR m++(cE s++S)))):=by
   rw[bG,blk];simp
  have e2:cB l ((m,s) :: xs)++T=⟨8,0,0,[],false⟩ :: (cB l xs++(⟨2,0,0,[],false⟩ :: ⟨9,0,0,[],false⟩ :: ⟨10+m,0,0,[],false⟩ :: gD s :: T)):=by simp [cB]
  rw[e,e2];exact⟨fun first=>(LxB.open first a4).2,(LxB.open true a4).1⟩
theorem LxB.nt (l:List (List UInt8))(h0:l≠[])(xs:List (Nat×List UInt8))(hx:okR xs):LxB true (fN (bG cE l xs)) (oH l xs++dD):=by
 have a1:=(LxB.rd l h0 xs hx (LxB.nil false) (fun c m e=>nomatch e)).1 false
 rw[List.append_nil] at a1;have a2:=LxB.close (LxB.bar a1) (.inr ⟨_,rfl⟩);have a3:=(LxB.open false (LxB.semi a2).2).2;have a4:=(LxB.rd l h0 xs hx (LxB.bar a3) (JT _)).1 false;have a5:=LxB.bang a4;have e:fN (bG cE l xs)=33 :: 32 :: (bG cE l xs++32 :: 124 :: 32 :: 123 :: 32 :: 59 :: 32 :: 125 :: 32 :: 124 :: 32 :: bG cE l xs):=by simp [fN,blk]
 have e2:oH l xs++dD=⟨17,0,0,[],false⟩ :: (cB l xs++(⟨5,0,0,[],false⟩ :: ⟨8,0,0,[],false⟩ :: ⟨2,0,0,[],false⟩ :: ⟨9,0,0,[],false⟩ :: ⟨5,0,0,[],false⟩ :: (cB l xs++dD))):=by simp [oH]
 rw[e,e2];exact a5
theorem uC (l:List (List UInt8))(h0:l≠[])(xs:List (Nat×List UInt8))(S:List aH):dS [1,2] (cB l xs++S)=cB l xs++S∧dS [1] (cB l xs++S)=cB l xs++S∧isB (cB l xs++S) [0,7,9,18]=false∧isB (cB l xs++S) [17]=false∧isB (cB l xs++S) [0,1,2,7,9,17,18]=false∧cB l xs++S≠[]:=by
 cases xs with
 | nil =>
  obtain⟨s,l',rfl⟩:∃ s l',l=s :: l':=by cases l with | nil=>exact absurd rfl h0 | cons s l'=>exact⟨s,l',rfl⟩
  exact⟨rfl,rfl,rfl,rfl,rfl,by simp [cB]⟩
 | cons x xs=>exact⟨rfl,rfl,rfl,rfl,rfl,by simp [cB]⟩
theorem aQ.rd (l:List (List UInt8))(h0:l≠[])(hl:∀ s∈l,s.length≤2000):∀ (xs:List (Nat×List UInt8)){d:Nat}{S:List aH},okR xs→d+xs.length≤29→S≠[]→isB S [15]=false→isB S [18,19,20,21,22,23,6,10]=false→isB S [11,12,13,14]=false→aQ (pO d) (cB l xs++S) (rdP l xs) S
 | [],d,S,_,_,hS,h1,h2,h3=>by
  obtain⟨s,l',rfl⟩:∃ s l',l=s :: l':=by cases l with | nil=>exact absurd rfl h0 | cons s l'=>exact⟨s,l',rfl⟩
  have h4:=aQ.words (d:=d) (S:=S) hS h1 h2 h3 (s :: l') [] hl;have:=aQ.commandSimple (S:=(s :: l').map gD++S) rfl (by simp) h4
  exact this
 | (m,s) :: xs,d,S,hx,hd,hS,h1,h2,h3=>by
  obtain⟨m1,m3,hs⟩:=hx (m,s) (by simp)
  have e2:cB l ((m,s) :: xs)++S=⟨8,0,0,[],false⟩ :: (cB l xs++(⟨2,0,0,[],false⟩ :: ⟨9,0,0,[],false⟩ :: ⟨10+m,0,0,[],false⟩ :: gD s :: S)):=by simp [cB]
  rw[e2];rw[List.length_cons] at hd;have hc:=aQ.rd l h0 hl xs (d:=d+1) (S:=⟨2,0,0,[],false⟩ :: ⟨9,0,0,[],false⟩ :: ⟨10+m,0,0,[],false⟩ :: gD s :: S) hx.tail (by omega) (by simp) rfl rfl rfl
  obtain⟨f1,f2,f3,f4,f5,f6⟩:=uC l h0 xs (⟨2,0,0,[],false⟩ :: ⟨9,0,0,[],false⟩ :: ⟨10+m,0,0,[],false⟩ :: gD s :: S)
  have hp:aQ (tE (d+1)) (cB l xs++(⟨2,0,0,[],false⟩ :: ⟨9,0,0,[],false⟩ :: ⟨10+m,0,0,[],false⟩ :: gD s :: S)) (rdP l xs) (⟨2,0,0,[],false⟩ :: ⟨9,0,0,[],false⟩ :: ⟨10+m,0,0,[],false⟩ :: gD s :: S):=by
   have:=aQ.pipe f4 (aQ.pipeREnd (L:=[]) hc rfl)
   exact this
  have hE:aQ (rA (d+1) [rdP l xs]) (⟨2,0,0,[],false⟩ :: ⟨9,0,0,[],false⟩ :: ⟨10+m,0,0,[],false⟩ :: gD s :: S) (rdP l xs) (⟨9,0,0,[],false⟩ :: ⟨10+m,0,0,[],false⟩ :: gD s :: S):=aQ.chainsEnd [rdP l xs] (by simp [dS]) rfl
  have hL:aQ (o0 d) (cB l xs++(⟨2,0,0,[],false⟩ :: ⟨9,0,0,[],false⟩ :: ⟨10+m,0,0,[],false⟩ :: gD s :: S)) (rdP l xs) (⟨9,0,0,[],false⟩ :: ⟨10+m,0,0,[],false⟩ :: gD s :: S) :=
   aQ.list (by omega) (aQ.chainsStep (by rw[f1];exact f6) (by rw[f1];exact f3) (.inl rfl) (by rw[f1];exact aQ.chain hp rfl) hE)
  refine aQ.commandBlock rfl f6 hL rfl (by simp) ?_
  have ht:isB (⟨10+m,0,0,[],false⟩ :: gD s :: S) [11,12,13,14]=true:=by
   obtain rfl | rfl | rfl:m=1∨m=2∨m=3:=by omega
   all_goals rfl
  refine aQ.turnsStep ht (List.cons_ne_nil _ _) (BK s hs hS h1 fun u S' e hi=>by rw[h2] at hi;cases hi) ?_
  have:=aQ.turnsEnd (d:=d) (rdP l xs) ([]++[(10+m,aR s)]) h3
  have e3:fF ([]++[(10+m,aR s)]) (rdP l xs)=rdP l ((m,s) :: xs):=by
   show (if 10+m=14 then _ else aC 33 (((10+m:Nat):Int) - 10) [] [aR s,rdP l xs])=_
   rw[if_neg (by omega),show ((10+m:Nat):Int) - 10=m by omega]
   rfl
  rw[e3] at this;exact this
theorem LH (l:List (List UInt8))(h0:l≠[])(hl:∀ s∈l,s.length≤2000)(xs:List (Nat×List UInt8))(hx:okR xs)(hn:xs.length≤20):aQ (o0 0) (cB l xs++dD) (rdP l xs) dD:=by
 obtain⟨f1,f2,f3,f4,f5,f6⟩:=uC l h0 xs dD;exact aQ.one (by omega) f5 (aQ.rd l h0 hl xs hx (by omega) (by simp [dD]) rfl rfl rfl) f6
theorem LE (l:List (List UInt8))(h0:l≠[])(hl:∀ s∈l,s.length≤2000)(xs:List (Nat×List UInt8))(hx:okR xs)(hn:xs.length≤20):aQ (o0 0) (oH l xs++dD) (iV (rdP l xs)) dD:=by
 have e2:oH l xs++dD=⟨17,0,0,[],false⟩ :: (cB l xs++(⟨5,0,0,[],false⟩ :: ⟨8,0,0,[],false⟩ :: ⟨2,0,0,[],false⟩ :: ⟨9,0,0,[],false⟩ :: ⟨5,0,0,[],false⟩ :: (cB l xs++dD))):=by simp [oH]
 rw[e2];obtain⟨f1,f2,f3,f4,f5,f6⟩:=uC l h0 xs dD;obtain⟨g1,g2,g3,g4,g5,g6⟩:=uC l h0 xs (⟨5,0,0,[],false⟩ :: ⟨8,0,0,[],false⟩ :: ⟨2,0,0,[],false⟩ :: ⟨9,0,0,[],false⟩ :: ⟨5,0,0,[],false⟩ :: (cB l xs++dD));have c3:aQ (oY 1 ([]++[rdP l xs]++[aC 20 0 [] []])) (cB l xs++dD) ([]++[rdP l xs]++[aC 20 0 [] []]++[rdP l xs]) dD:=aQ.pipeREnd (aQ.rd l h0 hl xs hx (by omega) (by simp [dD]) rfl rfl rfl) rfl
 have hb:aQ (pO 1) (⟨8,0,0,[],false⟩ :: ⟨2,0,0,[],false⟩ :: ⟨9,0,0,[],false⟩ :: ⟨5,0,0,[],false⟩ :: (cB l xs++dD)) (aC 20 0 [] []) (⟨5,0,0,[],false⟩ :: (cB l xs++dD)):=by
  have hl:aQ (o0 1) (⟨2,0,0,[],false⟩ :: ⟨9,0,0,[],false⟩ :: ⟨5,0,0,[],false⟩ :: (cB l xs++dD)) (aC 20 0 [] []) (⟨9,0,0,[],false⟩ :: ⟨5,0,0,[],false⟩ :: (cB l xs++dD)):=aQ.list (by omega) (aQ.chainsEnd [] (by simp [dS]) rfl)
  exact aQ.commandBlock rfl (by simp) hl rfl (by simp) (aQ.turnsEnd (aC 20 0 [] []) [] rfl)
 have c2:aQ (oY 1 ([]++[rdP l xs])) (⟨8,0,0,[],false⟩ :: ⟨2,0,0,[],false⟩ :: ⟨9,0,0,[],false⟩ :: ⟨5,0,0,[],false⟩ :: (cB l xs++dD)) ([]++[rdP l xs]++[aC 20 0 [] []]++[rdP l xs]) dD :=
  aQ.pipeRStep hb rfl f6 (by rw[f2];exact f6) (by rw[f2];exact c3)
 have c1:aQ (oY 1 []) (cB l xs++(⟨5,0,0,[],false⟩ :: ⟨8,0,0,[],false⟩ :: ⟨2,0,0,[],false⟩ :: ⟨9,0,0,[],false⟩ :: ⟨5,0,0,[],false⟩ :: (cB l xs++dD))) ([]++[rdP l xs]++[aC 20 0 [] []]++[rdP l xs]) dD :=
  aQ.pipeRStep (aQ.rd l h0 hl xs hx (by omega) (by simp) rfl rfl rfl) rfl (by simp) (by simp [dS]) c2
 have hp:=aQ.pipeNot (t:=⟨17,0,0,[],false⟩) rfl g6 c1;have hch:=aQ.chain hp rfl;exact aQ.list (by omega) (aQ.chainsStep (L:=[]) (by simp [dS]) rfl (.inl rfl) hch (aQ.chainsEnd [iV (rdP l xs)] (by decide) (by decide)))
theorem JE (l:List (List UInt8))(h0:l≠[])(hl:∀ s∈l,s.length≤2000)(hln:l.length≤100)(xs:List (Nat×List UInt8))(hx:okR xs)(hn:xs.length≤20)(hz:(bG cE l xs).length≤8192):nX (bG cE l xs) = .ok (rdP l xs)∧LxB true (bG cE l xs) (cB l xs++dD):=by
 have h:=(LxB.rd l h0 xs hx (LxB.nil false) (fun c m e=>nomatch e)).2
 rw[List.append_nil] at h;exact⟨CH h (LH l h0 hl xs hx hn) hz (yP l h0 hl hln xs hx hn),h⟩
theorem JQ (l:List (List UInt8))(h0:l≠[])(hl:∀ s∈l,s.length≤2000)(hln:l.length≤100)(xs:List (Nat×List UInt8))(hx:okR xs)(hn:xs.length≤20)(hz:(fN (bG cE l xs)).length≤8192):nX (fN (bG cE l xs)) = .ok (iV (rdP l xs))∧LxB true (fN (bG cE l xs)) (oH l xs++dD):=by
 have h:=LxB.nt l h0 xs hx;exact⟨CH h (LE l h0 hl xs hx hn) hz (yN l h0 hl hln xs hx hn),h⟩
def okU (t:aH):Prop:=t.kind≠18∧t.kind≠21∧t.kind≠22∧t.kind≠23∧t.kind≠10
theorem DW (l:List (List UInt8)):∀ (xs:List (Nat×List UInt8)),okR xs→∀ t∈cB l xs,okU t
 | [],_,t,ht=>by
  obtain⟨s,-,rfl⟩:=List.mem_map.1 ht;simp [gD,okU]
 | (m,s) :: xs,hx,t,ht=>by
  obtain⟨m1,m3,-⟩:=hx (m,s) (by simp)
  simp only[cB,List.mem_cons,List.mem_append,List.not_mem_nil,or_false] at ht
  rcases ht with rfl | ht | rfl | rfl | rfl | rfl
  ·simp [okU]
  ·exact DW l xs hx.tail t ht
  ·simp [okU]
  ·simp [okU]
  ·unfold okU;dsimp only;omega
  ·simp [gD,okU]
theorem D3 (l:List (List UInt8))(xs:List (Nat×List UInt8))(hx:okR xs):(∀ t∈cB l xs++dD,okU t)∧∀ t∈oH l xs++dD,okU t:=by
 have h:=DW l xs hx;constructor
 ·intro t ht;simp only[dD,List.mem_append,List.mem_singleton] at ht
  rcases ht with ht | rfl
  ·exact h t ht
  ·simp [okU]
 ·intro t ht;simp only[oH,dD,List.mem_append,List.mem_cons,List.not_mem_nil,or_false] at ht
  rcases ht with (rfl | ht | rfl | rfl | rfl | rfl | rfl | ht) | rfl
  ·simp [okU]
  ·exact h t ht
  ·simp [okU]
  ·simp [okU]
  ·simp [okU]
  ·simp [okU]
  ·simp [okU]
  ·exact h t ht
  ·simp [okU]
theorem vA {T U:List aG}(h1:jO T)(h2:jO U):jO (T++U):=fun t ht=>by
 rcases List.mem_append.1 ht with ht | ht
 ·exact h1 t ht
 ·exact h2 t ht
theorem lK {t:aG}{U:List aG}(h1:t.kind≠7∧(∀ x∈t.parts,x.kind≤3)∧∀ s,dC t=some s→s=[123]∨s=[125]∨s=[33])(h2:jO U):jO (t :: U):=fun u hu=>by
 rcases List.mem_cons.1 hu with rfl | hu
 ·exact h1
 ·exact h2 u hu
theorem sT (c:UInt8)(hc:c=123∨c=125∨c=33):(cJ [c]).kind≠7∧(∀ x∈(cJ [c]).parts,x.kind≤3)∧∀ s,dC (cJ [c])=some s→s=[123]∨s=[125]∨s=[33]:=by
 refine ⟨by simp [cJ],by simp [cJ],fun s hs=>?_⟩
 have:some [c]=some s:=hs
 cases this
 rcases hc with rfl | rfl | rfl <;> simp
theorem qX (k:Nat)(hk:k≠7∧k≠13):(⟨k,0,[]⟩:aG).kind≠7∧(∀ x∈(⟨k,0,[]⟩:aG).parts,x.kind≤3)∧∀ s,dC ⟨k,0,[]⟩=some s→s=[123]∨s=[125]∨s=[33] :=
 ⟨hk.1,fun x hx=>(nomatch hx),fun s hs=>by unfold dC at hs;rw[if_neg hk.2] at hs;cases hs⟩
theorem Dk (s:List UInt8):(eU s).kind≠7∧(∀ x∈(eU s).parts,x.kind≤3)∧∀ s',dC (eU s)=some s'→s'=[123]∨s'=[125]∨s'=[33]:=by
 have h:=Kt [s] (eU s) (by simp)
 exact h
theorem D8 (l:List (List UInt8)):∀ (xs:List (Nat×List UInt8)),okR xs→jO (dE l xs)
 | [],_=>fun t ht=>by
  obtain⟨s,-,rfl⟩:=List.mem_map.1 ht;exact Dk s
 | (m,s) :: xs,hx=>by
  obtain⟨m1,m3,-⟩:=hx (m,s) (by simp)
  exact lK (sT _ (.inl rfl)) (vA (D8 l xs hx.tail) (lK (qX 2 (by decide)) (lK (sT _ (.inr (.inl rfl))) (lK (qX _ (by omega)) (lK (Dk s) fun t ht=>(nomatch ht))))))
theorem Dn:jO d7:=lK (qX 0 (by decide)) fun t ht=>(nomatch ht)
theorem DU (l:List (List UInt8))(xs:List (Nat×List UInt8))(hx:okR xs):jO (dE l xs++d7)∧jO (pD l xs++d7):=by
 have h:=D8 l xs hx;exact⟨vA h Dn,vA (lK (sT _ (.inr (.inr rfl))) (vA h (lK (qX 6 (by decide)) (lK (sT _ (.inl rfl)) (lK (qX 2 (by decide)) (lK (sT _ (.inr (.inl rfl))) (lK (qX 6 (by decide)) h))))))) Dn⟩
end Go.Proofs.YtbpjobmpacjgcaaGreatDoor
