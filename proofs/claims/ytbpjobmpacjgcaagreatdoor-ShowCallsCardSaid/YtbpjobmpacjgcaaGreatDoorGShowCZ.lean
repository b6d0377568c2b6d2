/- ShowCalls: redirections around a call, and a pipe of them, are said and written by both. -/
import Derived.Test.YtbpjobmpacjgcaaGreatDoorGZY
import Derived.Test.YtbpjobmpacjgcaaGreatDoorGZX
import Derived.Test.YtbpjobmpacjgcaaGreatDoorGZT
import Derived.Test.YtbpjobmpacjgcaaGreatDoorGShowCB
namespace Go.Proofs.YtbpjobmpacjgcaaGreatDoor
open Go Go.RowKit
def rT (x:bE):Prop:=x.text.length≤100000∧0≤x.k∧x.k≤400000∧0≤x.size∧x.size≤400001
theorem pU (kd n:Int)(s:List UInt8)(L:List aA)(hs:s.length≤2000)(hn:L.length≤1000)(hf:L.flatten.length≤4000)(h:∀ x∈L.flatten,rT x):∀ x∈aC kd n s L,rT x:=fun x hx=>by
 rw[aC,List.mem_cons] at hx
 rcases hx with rfl | hx
 ·refine ⟨by show s.length≤_;omega,?_⟩
  show 0≤(L.length:Int)∧(L.length:Int)≤400000∧0≤(L.flatten.length:Int)+1∧(L.flatten.length:Int)+1≤400001
  omega
 ·exact h x hx
theorem D5:∀ (l:List (List UInt8)),(∀ s∈l,s.length≤2000)→∀ x∈(l.map aR).flatten,rT x
 | [],_=>fun x hx=>nomatch hx
 | s :: l,h=>fun x hx=>by
  rw[List.map_cons,List.flatten_cons,List.mem_append] at hx
  rcases hx with hx | hx
  ·exact pU 1 0 s [] (h s (by simp)) (by simp) (by simp) (fun x hx=>nomatch hx) x hx
  ·exact D5 l (fun t ht=>h t (by simp [ht])) x hx
theorem Ey (l:List (List UInt8))(hl:∀ s∈l,s.length≤2000)(hln:l.length≤100):∀ xs,okR xs→xs.length≤20→∀ x∈rdP l xs,rT x
 | [],_,_=>pU 21 0 [] _ (by simp) (by rw[List.length_map];omega) (by rw[sL];omega) (D5 l hl)
 | (m,s) :: xs,hx,hn=>by
  have hr:=nC l xs;rw[List.length_cons] at hn;refine pU 33 m [] _ (by simp) (by simp) (by simp [aR,aC];omega) fun x h=>?_
  rw[List.flatten_cons,List.flatten_cons,List.flatten_nil,List.append_nil,List.mem_append] at h
  rcases h with h | h
  ·exact pU 1 0 s [] (hx (m,s) (by simp)).2.2 (by simp) (by simp) (fun x hx=>nomatch hx) x h
  ·exact Ey l hl hln xs hx.tail (by omega) x h
theorem M1 (p:aA)(hp:∀ x∈p,rT x)(hl:p.length≤1000):∀ x∈iV p,rT x:=by
 have h20:=pU 20 0 [] [] (by simp) (by simp) (by simp) (fun x hx=>nomatch hx)
 have h32:=pU 32 0 [] [p,aC 20 0 [] [],p] (by simp) (by simp) (by simp [aC];omega) fun x h=>by
  simp only[List.flatten_cons,List.flatten_nil,List.append_nil,List.mem_append] at h
  rcases h with h | h | h
  ·exact hp x h
  ·exact h20 x h
  ·exact hp x h
 exact pU 27 0 [] _ (by simp) (by simp) (by simp [aC];omega) fun x h=>by
  rw[List.flatten_cons,List.flatten_nil,List.append_nil] at h;exact h32 x h
def Say (p:aA) (zA zB:List UInt8) (w0:World):Prop:=∀ (w:World) (v:Value),Below w0.heap.size w0 w→NSl w 12 v p →
 (Calls Tryz.prog 8 #[v] w fun e w'=>e = .returned (.tuple #[.string (bs zA),.nilIface])∧Below w.heap.size w w') ∧
 (Calls Tryz.prog 9 #[v] w fun e w'=>e = .returned (.tuple #[.string (bs zB),.nilIface])∧Below w.heap.size w w') ∧
 (Calls Tryz.prog 13 #[v] w fun e w'=>e = .returned (.bool true)∧Below w.heap.size w w') ∧
 (Calls Tryz.prog 14 #[v] w fun e w'=>e = .returned (.bool true)∧Below w.heap.size w w')
def Red (p:aA) (zA zB:List UInt8) (w0:World):Prop:=∀ w:World,Below w0.heap.size w0 w →
 (Calls Tryz.prog 10 #[.string (bs zA)] w fun e w'=>∃ g cap b,e = .returned (.tuple #[.slice (some ⟨g,0,none⟩) p.length cap,.nilIface])∧NSl w' b (.slice (some ⟨g,0,none⟩) p.length cap) p∧Below w.heap.size w w') ∧
 (Calls Tryz.prog 11 #[.string (bs zB)] w fun e w'=>∃ g cap b,e = .returned (.tuple #[.slice (some ⟨g,0,none⟩) p.length cap,.nilIface])∧NSl w' b (.slice (some ⟨g,0,none⟩) p.length cap) p∧Below w.heap.size w w')
theorem El (p:aA)(F:lJ p)(hck:dB p=none)(hl:0<p.length)(zA zB:List UInt8)(hzA:zA.length≤8192)(hzB:zB.length≤8192)(sent:Nat→Addr)(w0:World)(hS:kA w0 sent)(hR:Red p zA zB w0)
  (hSA:∀ (w:World) (v:Value),Below w0.heap.size w0 w→NSl w 12 v p→jQ 55 56 56 57 58 59 false v true w) (hSB:∀ (w:World) (v:Value),Below w0.heap.size w0 w→NSl w 12 v p→jQ 64 64 63 66 64 67 true v true w)
  (hWA:∀ (w:World) (v:Value),Below w0.heap.size w0 w→NSl w 12 v p→dV 18 32 33 34 #[.agg #[.func (.func 32) #[] #[],.func (.func 33) #[] #[],.nilFunc]] v zA w) (hWB:∀ (w:World) (v:Value),Below w0.heap.size w0 w→NSl w 12 v p→dV 18 38 38 39 #[.agg #[.func (.func 38) #[] #[],.func (.func 38) #[] #[],.nilFunc]] v zB w):Say p zA zB w0:=fun w v h hv =>
 ⟨M0 p F hck hl zA hzA sent _ v w (hS.below h).env hv (fun w1 h1=>hSA w1 v (aE h h1) (hv.below h1)) (hWA w v h hv) fun w1 h1=>(hR w1 (aE h h1)).1.mono fun _ _ ⟨_,_,_,he,_,hb'⟩=>⟨_,he,hb'⟩,
  EG p F hck hl zB hzB sent _ v w (hS.below h).env hv (fun w1 h1=>hSB w1 v (aE h h1) (hv.below h1)) (hWB w v h hv) fun w1 h1=>(hR w1 (aE h h1)).2.mono fun _ _ ⟨_,_,_,he,_,hb'⟩=>⟨_,he,hb'⟩,
  zE p F hck hl true sent _ v w (hS.below h).env hv fun w1 h1=>hSA w1 v (aE h h1) (hv.below h1),
  DP p F hck hl true sent _ v w (hS.below h).env hv fun w1 h1=>hSB w1 v (aE h h1) (hv.below h1)⟩
def pE (pipe:Bool) (p:aA):aA:=if pipe then iV p else p
def rU (pipe:Bool) (z:List UInt8):List UInt8:=if pipe then fN z else z
theorem DK (pipe:Bool)(l:List (List UInt8))(h0:l≠[])(hl:∀ s∈l,s.length≤2000)(hln:l.length≤100)(xs:List (Nat×List UInt8))(hx:okR xs)(hn:xs.length≤20)(hzA:(fN (bG cS l xs)).length≤8192)(hzB:(fN (bG cE l xs)).length≤8192)
  (sent:Nat→Addr) (w0:World) (hS:kA w0 sent) (hmx:∃ m,w0.cell? ⟨12,0,none⟩=some (.int .i64 m)) (het:w0.cell? ⟨8,0,none⟩=some (.iface 134 (.agg #[.pointer (some ⟨18,31,none⟩)]))) :
  Red (pE pipe (rdP l xs)) (rU pipe (bG cS l xs)) (rU pipe (bG cE l xs)) w0∧Say (pE pipe (rdP l xs)) (rU pipe (bG cS l xs)) (rU pipe (bG cE l xs)) w0:=by
 have hg:12<w0.heap.size:=hmx.elim fun m hm=>block_lt_of_cell hm
 have hMX:∀ w1,Below w0.heap.size w0 w1→∃ m,w1.cell? ⟨12,0,none⟩=some (.int .i64 m):=fun w1 h=>hmx.elim fun m hm=>⟨m,aF h hm⟩
 have hlA:(bG cS l xs).length≤8192:=by simp only[fN,List.length_append] at hzA;omega
 have hlB:(bG cE l xs).length≤8192:=by simp only[fN,List.length_append] at hzB;omega
 have hrl:=nC l xs;have hnd:=Ey l hl hln xs hx hn;have hg1:=fun (w:World) (h:Below w0.heap.size w0 w)=>Nat.lt_of_lt_of_le hg h.size
 have sA:=fun (w:World) (h:Below w0.heap.size w0 w)=>EH 55 56 56 57 58 59 false (fun _ _=>by kernel_rfl) (fun _ _=>by kernel_rfl) l hln 12 w (hg1 w h) (fun s w2 v2 h2 hv2=>AU 1 (.inl rfl) s _ v2 w2 (hg1 w2 (aE h h2)) hv2) (fun s w2 v2 h2 hv2=>AL 1 (.inl rfl) s _ v2 w2 (hg1 w2 (aE h h2)) hv2) xs hn
 have sB:=fun (w:World) (h:Below w0.heap.size w0 w)=>EH 64 64 63 66 64 67 true (fun _ _=>by kernel_rfl) (fun _ _=>by kernel_rfl) l hln 12 w (hg1 w h) (fun s w2 v2 h2 hv2=>wR 1 (.inl rfl) s _ v2 w2 (hg1 w2 (aE h h2)) hv2) (fun s w2 v2 h2 hv2=>wR 1 (.inl rfl) s _ v2 w2 (hg1 w2 (aE h h2)) hv2) xs hn
 have wA:=fun (w:World) (h:Below w0.heap.size w0 w)=>EC 32 33 34 #[.agg #[.func (.func 32) #[] #[],.func (.func 33) #[] #[],.nilFunc]] (fun _ _=>by kernel_rfl) (fun _ _=>by kernel_rfl) cS l h0 hl (fun s hs=>by have:=Cx s;omega) hln 12 w (hg1 w h) (fun s hs w2 v2 h2 hv2=>Gb s _ v2 w2 (hMX w2 (aE h h2)) (by omega) hv2) (fun s hs w2 v2 h2 hv2=>Fi s _ v2 w2 (hMX w2 (aE h h2)) (by omega) hv2) xs hx hn hlA
 have wB:=fun (w:World) (h:Below w0.heap.size w0 w)=>EC 38 38 39 #[.agg #[.func (.func 38) #[] #[],.func (.func 38) #[] #[],.nilFunc]] (fun _ _=>by kernel_rfl) (fun _ _=>by kernel_rfl) cE l h0 hl (fun s hs=>by have:=Cm s;omega) hln 12 w (hg1 w h) (fun s hs w2 v2 h2 hv2=>wJ 1 (.inl rfl) s _ v2 w2 (hMX w2 (aE h h2)) (by omega) hv2) (fun s hs w2 v2 h2 hv2=>wJ 1 (.inl rfl) s _ v2 w2 (hMX w2 (aE h h2)) (by omega) hv2) xs hx hn hlB
 cases pipe with
 | false =>
  have pA:=Ju l h0 hl hln xs hx hn hlA;have pB:=JE l h0 hl hln xs hx hn hlB;have hR:Red (rdP l xs) (bG cS l xs) (bG cE l xs) w0:=fun w h=>⟨CP _ _ pA.1 hlA (D2 pA.2 (DU l xs hx).1) w sent (hS.below h) (hMX w h) (aF h het),x6 _ _ pB.1 hlB (DJ pB.2 (D3 l xs hx).1) w sent (hS.below h) (hMX w h)⟩
  exact⟨hR,El _ (yH (by omega) hnd) (yP l h0 hl hln xs hx hn) (by omega) _ _ hlA hlB sent w0 hS hR (fun w v h hv=>sA w h w v (Below.refl _ _) hv) (fun w v h hv=>sB w h w v (Below.refl _ _) hv) (fun w v h hv=>(wA w h w v (Below.refl _ _) hv).2) (fun w v h hv=>(wB w h w v (Below.refl _ _) hv).2)⟩
 | true =>
  have pA:=J3 l h0 hl hln xs hx hn hzA;have pB:=JQ l h0 hl hln xs hx hn hzB;have hnl:(iV (rdP l xs)).length=2 * (rdP l xs).length+3:=by simp [iV,aC];omega
  have hR:Red (iV (rdP l xs)) (fN (bG cS l xs)) (fN (bG cE l xs)) w0:=fun w h=>⟨CP _ _ pA.1 hzA (D2 pA.2 (DU l xs hx).2) w sent (hS.below h) (hMX w h) (aF h het),x6 _ _ pB.1 hzB (DJ pB.2 (D3 l xs hx).2) w sent (hS.below h) (hMX w h)⟩
  have hk:∀ x r,rdP l xs=x :: r→x.kind≠20:=fun x r e=>by
   cases xs with
   | nil=>cases e;exact (by decide:(21:Int)≠20)
   | cons y ys=>cases e;exact (by decide:(33:Int)≠20)
  exact⟨hR,El _ (yH (by omega) (M1 _ hnd (by omega))) (yN l h0 hl hln xs hx hn) (by omega) _ _ hzA hzB sent w0 hS hR
   (fun w v h hv=>ED _ _ _ _ _ _ _ _ (pJ l xs) (by omega) _ w (hg1 w h) (sA w h) v hv) (fun w v h hv=>ED _ _ _ _ _ _ _ _ (pJ l xs) (by omega) _ w (hg1 w h) (sB w h) v hv)
   (fun w v h hv=>EE _ _ _ _ _ (pJ l xs) (by omega) hk _ hzA _ w (hg1 w h) (fun w1 u h1 hu=>(wA w h w1 u h1 hu).1) v hv) (fun w v h hv=>EE _ _ _ _ _ (pJ l xs) (by omega) hk _ hzB _ w (hg1 w h) (fun w1 u h1 hu=>(wB w h w1 u h1 hu).1) v hv)⟩
end Go.Proofs.YtbpjobmpacjgcaaGreatDoor
