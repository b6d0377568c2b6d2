/- Dialect A: what settings ahead of words are parsed as. No program stands in it. -/
import Derived.Test.YtbfeoinoepoiaaaGreatDoorGZH
namespace Go.Proofs.YtbfeoinoepoiaaaGreatDoor
open Go Go.RowKit
def setT (v q:List UInt8):ATok:=⟨13,0,[⟨1,0,0,false,v++[61]⟩,⟨2,0,0,false,q⟩]⟩
def restT (q:List UInt8):ATok:=⟨13,0,[⟨1,0,0,false,[]⟩,⟨2,0,0,false,q⟩]⟩
theorem set_setting {v q:List UInt8} (hv:∀ c∈v,c.toNat≠61) (hn:nameB v=true):settingA (setT v q)=some (v,restT q):=by
 unfold settingA setT
 dsimp only
 rw [if_pos rfl,idxA_of v [] 61 61 rfl hv]
 dsimp only
 rw [List.take_left,if_pos hn]
 simp [restT]
theorem rest_strip {tok:ATok} {q:List UInt8} (h:stripT tok=restT q):∃ p p2,tok.parts=[p,p2]∧p.kind=1∧p.text=[]∧p2.kind=2∧p2.text=q:=by
 unfold stripT restT at h
 injection h with h1 h2 h3
 match hp:tok.parts with
 | []=>rw [hp] at h3; simp at h3
 | [p]=>rw [hp] at h3; simp at h3
 | p :: p2 :: p3 :: ps=>rw [hp] at h3; simp at h3
 | [p,p2] =>
  rw [hp] at h3
  simp only [List.map_cons,List.map_nil,List.cons.injEq,and_true] at h3
  obtain ⟨h4,h5⟩:=h3
  unfold stripP at h4 h5
  injection h4 with a1 a2 a3 a4 a5
  injection h5 with b1 b2 b3 b4 b5
  exact ⟨p,p2,rfl,a1,a5,b1,b5⟩
theorem join_rest (q:List UInt8):joinA [litP [],litP q]=litP q:=by
 unfold joinA
 dsimp only
 have e:List.foldl joinStep [] [litP [],litP q]=[litP q]:=by
  simp [joinStep,litP,newP]
 rw [e]
 by_cases h:fullA (litP q)=true
 ·rw [show [litP q].filter fullA=[litP q] from by simp [h]]
 ·rw [show [litP q].filter fullA=[] from by simp [h]]
  rfl
theorem value_rest (d:Nat) {q:List UInt8} (hq:q.length≤2000):ParW (wValue d) (restT q) (litP q):=⟨0,fun f _ b tok h=>by
 obtain ⟨p,p2,h1,h2,h3,h4,h5⟩:=rest_strip h
 show valueA _ b tok=_
 unfold valueA joinedA
 rw [h1]
 have e:∀ sub,partsA (pieceA sub) [p,p2]=oOk [litP [],litP q]:=fun sub=>by
  unfold partsA partsA
  rw [show pieceA sub p=oOk (litP []) from by unfold pieceA; rw [if_pos (.inl h2),h3],show pieceA sub p2=oOk (litP q) from by unfold pieceA; rw [if_pos (.inr h4),h5]]
  rfl
 rw [e]
 show fitsA b tok (joinA [litP [],litP q])=_
 unfold fitsA
 rw [join_rest,if_neg (by rw [long_lit hq]; simp)]
 rfl⟩
section
variable (V:Nat→List UInt8)
def setsSrcA:Nat→List (List UInt8)→List UInt8
 | _,[]=>[]
 | i,q :: qs=>(32 :: ((V i++[61])++39 :: (q++[39])))++setsSrcA (i+1) qs
def setsTokA:Nat→List (List UInt8)→List ATok
 | _,[]=>[]
 | i,q :: qs=>setT (V i) q :: setsTokA (i+1) qs
def setsLA:Nat→List (List UInt8)→List (List UInt8 × Prog)
 | _,[]=>[]
 | i,q :: qs=>(V i,litP q) :: setsLA (i+1) qs
structure NamesA (N:Nat):Prop where
 name:∀ i,i<N→nameB (V i)=true
 plain:∀ i,i<N→∀ c∈V i++[61],PlainC c
 head:∀ i,i<N→((V i++[61]).headD 0).toNat≠35
 eq:∀ i,i<N→∀ c∈V i,c.toNat≠61
def QuotesA (qs:List (List UInt8)):Prop:=∀ q∈qs,q.length≤2000∧∀ c∈q,c.toNat≠39
variable {V}
theorem sets_stop {S:List UInt8} (hS:Stop S) (i:Nat) (qs:List (List UInt8)):Stop (setsSrcA V i qs++S):=by
 cases qs with
 | nil=>exact hS
 | cons m ms=>exact .inr ⟨32,_,rfl,by decide⟩
theorem Lx.sets {S:List UInt8} {T:List ATok} (h:Lx S T) (hS:Stop S):∀ (qs:List (List UInt8)) (i N:Nat),NamesA V N→i+qs.length≤N→QuotesA qs→Lx (setsSrcA V i qs++S) (setsTokA V i qs++T)
 | [],i,N,_,_,_=>h
 | q :: qs,i,N,hF,hl,hm=>by
  have ih:=Lx.sets h hS qs (i+1) N hF (by simp only [List.length_cons] at hl; omega) (fun x hx=>hm x (by simp [hx]))
  have hi:i<N:=by simp only [List.length_cons] at hl; omega
  have h1:=(ih.setting (l:=V i++[61]) (q:=q) (by simp) (hF.plain i hi) (hF.head i hi) (hm q (by simp)).2 (sets_stop hS _ _)).blank
  have e:setsSrcA V i (q :: qs)++S=32 :: (((V i++[61])++39 :: (q++[39]))++(setsSrcA V (i+1) qs++S)):=by
   simp [setsSrcA]
  rw [e]
  exact h1
theorem Par.simpleSets {d:Nat} {S S1:List ATok} {l:Prog} (hS:S≠[]):∀ (qs:List (List UInt8)) (i N:Nat) (ss:List (List UInt8 × Prog)),NamesA V N→i+qs.length≤N→QuotesA qs→Par (xSimple d (ss++setsLA V i qs) [] []) S l S1→Par (xSimple d ss [] []) (setsTokA V i qs++S) l S1
 | [],i,N,ss,_,_,_,h=>by simpa [setsLA,setsTokA] using h
 | q :: qs,i,N,ss,hF,hl,hm,h=>by
  have hi:i<N:=by simp only [List.length_cons] at hl; omega
  refine Par.simpleSet rfl (set_setting (hF.eq i hi) (hF.name i hi)) (value_rest d (hm q (by simp)).1) (by simp [hS]) ?_
  exact Par.simpleSets hS qs (i+1) N _ hF (by simp only [List.length_cons] at hl; omega) (fun x hx=>hm x (by simp [hx])) (by simpa [setsLA] using h)
end
def wsSrc:Nat→List UInt8
 | 0=>[]
 | n+1=>[32,119]++(List.replicate n ([32,119,61,49]:List UInt8)).flatten
def wsTok:Nat→List ATok
 | 0=>[]
 | n+1=>wordT [119] :: List.replicate n (wordT [119,61,49])
def wsP:Nat→List Prog
 | 0=>[]
 | n+1=>litP [119] :: List.replicate n (litP [119,61,49])
theorem plain_w:∀ c∈([119,61,49]:List UInt8),PlainC c:=by
 intro c h
 simp only [List.mem_cons,List.not_mem_nil,or_false] at h
 unfold PlainC PlainA
 rcases h with rfl | rfl | rfl <;> exact ⟨⟨by decide,by decide,by decide,by decide⟩,by decide⟩
theorem rep_stop (n:Nat):Stop ((List.replicate n ([32,119,61,49]:List UInt8)).flatten):=by
 cases n with
 | zero=>exact .inl rfl
 | succ n=>exact .inr ⟨32,_,rfl,by decide⟩
theorem ws_stop (n:Nat):Stop (wsSrc n):=by
 cases n with
 | zero=>exact .inl rfl
 | succ n=>exact .inr ⟨32,_,rfl,by decide⟩
theorem rep_lex:∀ (n:Nat),Lx ((List.replicate n ([32,119,61,49]:List UInt8)).flatten) (List.replicate n (wordT [119,61,49])++endT)
 | 0=>Lx.nil
 | n+1=>by
  have:=((rep_lex n).plain (l:=[119,61,49]) (by simp) plain_w (by decide) (rep_stop n)).blank
  rw [List.replicate_succ,List.replicate_succ,List.flatten_cons]
  exact this
theorem ws_lex (n:Nat):Lx (wsSrc n) (wsTok n++endT):=by
 cases n with
 | zero=>exact Lx.nil
 | succ n=>exact ((rep_lex n).plain (l:=[119]) (by simp) (fun c hc=>plain_w c (by simp at hc ⊢; exact .inl hc)) (by decide) (rep_stop n)).blank
theorem rep_par (d:Nat) (ss:List (List UInt8 × Prog)):∀ (n:Nat) (ws:List Prog),0<ws.length→Par (xSimple d ss ws []) (List.replicate n (wordT [119,61,49])++endT) (madeP ss (ws++List.replicate n (litP [119,61,49]))) endT
 | 0,ws,h=>by
  have:=Par.simpleEnd (d:=d) (S:=endT) ss ws [] rfl rfl (by simp only [List.length_nil]; omega)
  simpa [aAround] using this
 | n+1,ws,h=>by
  rw [List.replicate_succ,List.replicate_succ]
  refine Par.simpleWord rfl (.inl h) (field_plainW d (by decide) (by decide)) (by simp [endT]) ?_
  have:=rep_par d ss n (ws++[litP [119,61,49]]) (by simp)
  rw [List.append_assoc] at this
  exact this
theorem ws_par (d:Nat) (ss:List (List UInt8 × Prog)) (hs:0<ss.length) (n:Nat):Par (xSimple d ss [] []) (wsTok n++endT) (madeP ss (wsP n)) endT:=by
 cases n with
 | zero=>exact Par.simpleEnd ss [] [] rfl rfl (by simp only [List.length_nil]; omega)
 | succ n =>
  refine Par.simpleWord rfl (.inr rfl) (field_plainW d (by decide) (by decide)) (by simp [endT]) ?_
  exact rep_par d ss n [litP [119]] (by simp)
section
variable {V:Nat→List UInt8} {qs:List (List UInt8)} (hV:NamesA V qs.length) (hq:QuotesA qs) (h0:qs≠[])
include hV hq
theorem sets_lex (n:Nat):Lx (setsSrcA V 0 qs++wsSrc n) (setsTokA V 0 qs++(wsTok n++endT)):=Lx.sets (ws_lex n) (ws_stop n) qs 0 qs.length hV (by omega) hq
include h0
theorem sets_par (n:Nat):Par (xList 0) (setsTokA V 0 qs++(wsTok n++endT)) (madeP (setsLA V 0 qs) (wsP n)) endT:=by
 have hs:Par (xSimple 1 [] [] []) (setsTokA V 0 qs++(wsTok n++endT)) (madeP (setsLA V 0 qs) (wsP n)) endT:=by
  refine Par.simpleSets (by simp [endT]) qs 0 qs.length [] hV (by omega) hq ?_
  refine ws_par 1 _ ?_ n
  cases qs with
  | nil=>exact absurd rfl h0
  | cons q qs=>simp [setsLA]
 cases qs with
 | nil=>exact absurd rfl h0
 | cons q qs =>
  refine Par.end1 (by omega) rfl rfl rfl (Par.commandSimple rfl ?_ hs) (by simp [setsTokA])
  simp [setsTokA,endT]
  omega
end
theorem setsLA_map (V:Nat→List UInt8):∀ (i:Nat) (qs:List (List UInt8)),(setsLA V i qs).length=qs.length∧setsLen (setsLA V i qs)=2 * qs.length
 | _,[]=>⟨rfl,rfl⟩
 | i,q :: qs=>by
  obtain ⟨h1,h2⟩:=setsLA_map V (i+1) qs
  refine ⟨by simp [setsLA,h1],?_⟩
  have:(litP q).length=1:=rfl
  unfold setsLen at h2 ⊢
  simp [setsLA,h2,this]
  omega
theorem setsLA_ok {V:Nat→List UInt8} {N:Nat} (hV:NamesA V N):∀ (qs:List (List UInt8)) (i:Nat),i+qs.length≤N→QuotesA qs→∀ x∈setsLA V i qs,nameB x.1=true∧WFP okA 2000 true 1 x.2
 | [],_,_,_=>fun _ h=>nomatch h
 | q :: qs,i,hl,hq=>fun x hx=>by
  have hi:i<N:=by simp only [List.length_cons] at hl; omega
  rcases List.mem_cons.1 hx with rfl | hx
  ·exact ⟨hV.name i hi,lit_wfp (hq q (by simp)).1⟩
  ·exact setsLA_ok hV qs (i+1) (by simp only [List.length_cons] at hl; omega) (fun y hy=>hq y (by simp [hy])) x hx
theorem set_wfp {x:List UInt8 × Prog} (h:nameB x.1=true) (h2:WFP okA 2000 true 1 x.2):WFP okA 2000 false 2 (newP 22 0 x.1 [x.2]):=by
 refine .node _ _ _ _ _ _ (by rfl) ?_ (by rfl) (kids1 h2)
 unfold fieldsM
 simp [namedB,h]
theorem locals_wfp:∀ (l:List (List UInt8 × Prog)) (D:Nat) (c:Prog),1≤D→(∀ x∈l,nameB x.1=true∧WFP okA 2000 true 1 x.2)→WFP okA 2000 false D c→WFP okA 2000 false (D+l.length) (l.foldr (fun x c=>newP 35 0 x.1 [x.2,c]) c)
 | [],D,c,_,_,hc=>hc
 | x :: l,D,c,hD,hl,hc=>by
  have ih:=locals_wfp l D c hD (fun y hy=>hl y (by simp [hy])) hc
  obtain ⟨h1,h2⟩:=hl x (by simp)
  rw [List.length_cons,← Nat.add_assoc]
  refine .node _ _ _ _ _ _ (by rfl) ?_ (by rfl) (kids2 (h2.mono (by omega)) ih)
  unfold fieldsM
  simp [namedB,h1]
theorem made_lenA (ss:List (List UInt8 × Prog)) (ws:List Prog):(madeP ss ws).length≤setsLen ss+ws.flatten.length+1:=by
 have:=(made_len ss ws).1
 omega
theorem sets_check {V:Nat→List UInt8} {qs:List (List UInt8)} (hV:NamesA V qs.length) (hq:QuotesA qs) (h0:qs≠[]) (hl:qs.length≤8) (n:Nat) (hn:n≤3):checkP (madeP (setsLA V 0 qs) (wsP n))=none:=by
 have hok:=setsLA_ok hV qs 0 (by omega) hq
 obtain ⟨h1,h2⟩:=setsLA_map V 0 qs
 have hw:(wsP n).flatten.length≤4:=by
  have:n=0∨n=1∨n=2∨n=3:=by omega
  rcases this with rfl | rfl | rfl | rfl <;> decide
 have hlen:=made_lenA (setsLA V 0 qs) (wsP n)
 have hwf:WFP okA 2000 false 11 (madeP (setsLA V 0 qs) (wsP n)):=by
  unfold madeP
  cases n with
  | zero =>
   rw [if_pos (by rfl)]
   have hall:∀ y∈(setsLA V 0 qs).map (fun x=>newP 22 0 x.1 [x.2]),WFP okA 2000 false 2 y:=fun y hy=>by
    obtain ⟨x,hx,rfl⟩:=List.mem_map.1 hy
    exact set_wfp (hok x hx).1 (hok x hx).2
   have hz:((setsLA V 0 qs).map (fun x=>newP 22 0 x.1 [x.2])).length=qs.length:=by rw [List.length_map,h1]
   generalize (setsLA V 0 qs).map (fun x=>newP 22 0 x.1 [x.2])=l at hall hz
   match l,hz with
   | [],hz=>exact absurd (List.length_eq_zero_iff.1 hz.symm) h0
   | [x],_=>exact (hall x (by simp)).mono (by omega)
   | a :: b :: l,_ =>
    refine (WFP.node (w:=false) (D:=2) 23 0 [] (a :: b :: l) (by rfl) (by rfl) ?_ fun j kid hj=>?_).mono (by omega)
    ·unfold childrenB
     simp
     omega
    ·exact hall kid (List.mem_of_getElem? hj)
  | succ n =>
   rw [if_neg (by simp [wsP])]
   have hc:WFP okA 2000 false 2 (newP 21 0 [] (wsP (n+1))):=by
    have:n=0∨n=1∨n=2:=by omega
    rcases this with rfl | rfl | rfl
    ·exact .node _ _ _ _ _ _ (by rfl) (by rfl) (by rfl) (kids1 (lit_wfp (by decide)))
    ·exact .node _ _ _ _ _ _ (by rfl) (by rfl) (by rfl) (kids2 (lit_wfp (by decide)) (lit_wfp (by decide)))
    ·exact .node _ _ _ _ _ _ (by rfl) (by rfl) (by rfl) (kids3 (lit_wfp (by decide)) (lit_wfp (by decide)) (lit_wfp (by decide)))
   exact (locals_wfp _ 2 _ (by omega) hok hc).mono (by omega)
 exact check_okA hwf (by omega) (by omega)
end Go.Proofs.YtbfeoinoepoiaaaGreatDoor
