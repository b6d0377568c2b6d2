/- The document's text of a program: its parts (patoisref5): quoted texts, names of kinds. -/
import Derived.Test.YtbpjobmpacjgcaaGreatDoorGRef5G
import Derived.Test.YtbpjobmpacjgcaaGreatDoorGBKitG
import Derived.Lib.ItoaNum
import Derived.Test.YtbpjobmpacjgcaaGreatDoorGZC
namespace Go.Proofs.YtbpjobmpacjgcaaGreatDoor
open Go Go.RowKit
def pC (w:World) (B:Nat) (v:Value) (l:List UInt8):Prop:=w.ownsRow B 5 1 v l.length (l.map fun c=>Value.int .u8 (c.toNat:Int))
theorem pC.form {w:World}{B:Nat}{v:Value}{L:List UInt8}(h:pC w B v L):∃ ao cap,v = .slice ao L.length cap:=by
 rcases h.2 with ⟨hv,h0⟩ | ⟨g,cap,cur,hv,_⟩
 ·exact⟨none,0,by rw[hv,h0]⟩
 ·exact⟨_,_,hv⟩
theorem pC.one {w:World}(c:Int)(d:UInt8)(hd:(d.toNat:Int)=c):pC (w.alloc (.cells #[.int .u8 c] 5)) w.heap.size (.slice (some ⟨w.heap.size,0,none⟩) 1 1) [d]:=by
 refine ⟨rfl,.inr ⟨w.heap.size,1,#[.int .u8 c],rfl,Nat.le_refl _,?_,Nat.le_refl _,by unfold maxLen;omega,rfl,by rw[← hd];rfl⟩⟩
 show (w.heap.push _)[w.heap.size]?=_
 rw[Array.getElem?_push,if_pos rfl]
theorem pC.grown {w0 w w':World}{v v':Value}{L:List UInt8}{d:UInt8}{o:Obj}(hs:w0.heap.size≤w.heap.size)(h2:pC w w0.heap.size v L)
  (hown:w'.ownsRow w0.heap.size 5 1 v' (L.length+1) (L.map (fun c=>Value.int .u8 (c.toNat:Int))++[.int .u8 (d.toNat:Int)])) (hg:(w.alloc o).grownBy w' v.ownBlock):pC w' w0.heap.size v' (L++[d])∧Below w0.heap.size w w':=by
 have hb1:=(Below.refl w.heap.size w).alloc (Nat.le_refl _) o;have hlt:=World.ownsRow.lt h2;refine ⟨?_,?_⟩
 ·unfold pC;rw[List.length_append,List.map_append];exact hown
 ·exact (hb1.mono hs).trans ((aB.grown (S:=fun k=>some k=v.ownBlock) (aB.refl _ _) hg (fun k h _=>h.symm)).below (by simp;omega) (fun i hi e=>by have:=hlt _ e.symm;omega))
def MO (c:UInt8):Bool:=decide (c.toNat≠34)&&decide (c.toNat≠92)&&decide (32≤c.toNat)&&decide (c.toNat≤126)
def JH:List (List UInt8):=[[108,105,116],[118,97,114],[99,97,116],[106,111,105,110],[115,112,108,105,116],[103,108,111,98],[112,108,97,105,110],[101,115,99],[102,108,97,116],[99,111,117,110,116],[112,105,99,107],[115,117,98],[],[],[],[],[],[],[],[110,111,112],[99,97,108,108],[115,101,116],[115,101,113],[105,102],[97,110,100],[111,114],[110,111,116],[119,104,105,108,101],[102,111,114],[99,97,115,101],[102,117,110],[112,105,112,101],[114,101,100,105,114],[104,101,114,101],[108,111,99,97,108],[101,118,97,108],[102,114,97,109,101]]
def Lw (k:Int):List UInt8:=JH.getD (k.toNat - 1) []
def MS (k:Int):Bool:=decide (k=1) || kN k
def jP (w:World) (v:Value) (l:aA):Prop:=∃ g o cap,v = .slice (some ⟨g,o,none⟩) l.length cap∧l.length≤cap∧cap≤maxLen∧(∃ cur fz,w.heap[g]?=some (.cells cur 40 fz))∧∀ (k:Nat) (u:Value),(l.flatMap bE.cells)[k]?=some u→w.cell? ⟨g,o+k,none⟩=some u
theorem jP.of_block {w w':World}{v:Value}{l:aA}(h:jP w v l)(hb:∀ (g:Nat) cur fz,w.heap[g]?=some (.cells cur 40 fz)→w'.heap[g]?=w.heap[g]?):jP w' v l:=by
 obtain⟨g,o,cap,h1,h2,h3,⟨cur,fz,h4⟩,h6⟩:=h;have he:=hb g cur fz h4;exact⟨g,o,cap,h1,h2,h3,⟨cur,fz,he.trans h4⟩,fun k u hk=>(World.cell?_of_block (w:=w) he).trans (h6 k u hk)⟩
theorem jP.below {w w':World}{v:Value}{l:aA}(h:jP w v l)(hb:Below w.heap.size w w'):jP w' v l:=h.of_block fun g _ _ h4=>hb.block g (lt_of_block h4)
theorem jP.grown {w w':World}{v:Value}{l:aA}{row:Option Nat}(h:jP w v l)(hg:w.grownBy w' row)(hr:∀ k,row=some k→∃ cur fz t,w.heap[k]?=some (.cells cur t fz)∧t≠40):jP w' v l:=h.of_block fun g cur fz h4=>hg.block g (lt_of_block h4) (fun e=>by
 obtain⟨c2,f2,t2,h7,h8⟩:=hr g e.symm;rw[h4] at h7;injection h7 with h7
 injection h7 with _ h9 _
 exact h8 h9.symm)
theorem jP.facts {w:World}{g o n cap:Nat}{l:aA}(h:jP w (.slice (some ⟨g,o,none⟩) n cap) l){k:Nat}{x:bE}(hx:l[k]?=some x) :
  w.cell? ⟨g,o+k * 5,none⟩=some (.int .i64 x.kind)∧w.cell? ⟨g,o+k * 5+1,none⟩=some (.int .i64 x.n)∧w.cell? ⟨g,o+k * 5+2,none⟩=some (.int .i64 x.k)∧w.cell? ⟨g,o+k * 5+3,none⟩=some (.int .i64 x.size)∧w.cell? ⟨g,o+k * 5+4,none⟩=some (.string (bs x.text)):=by
 obtain⟨g',o',cap',hv,_,_,_,h⟩:=h
 cases hv
 have hf:∀ j u,x.cells[j]?=some u→w.cell? ⟨g,o+k * 5+j,none⟩=some u:=fun j u hu=>by
  have:=h _ _ (mZ bE.cells 5 qM l k j x u hx hu)
  rwa [Nat.mul_comm,← Nat.add_assoc] at this
 exact⟨hf 0 _ rfl,hf 1 _ rfl,hf 2 _ rfl,hf 3 _ rfl,hf 4 _ rfl⟩
def rS (w:World) (B:Nat) (v:Value) (L:List aA):Prop:=∃ us:List Value,us.length=L.length∧w.ownsRow B 26 1 v L.length us∧∀ (i:Nat) (u:Value) (l:aA),us[i]?=some u→L[i]?=some l→jP w u l
theorem rS.nil (w:World)(B:Nat):rS w B (.slice none 0 0) []:=⟨[],rfl,World.ownsRow_nil _ _ _ _,fun i u l h=>by simp at h⟩
theorem rS.form {w:World}{B:Nat}{v:Value}{L:List aA}(h:rS w B v L):∃ ao cap,v = .slice ao L.length cap:=by
 obtain⟨us,h1,h2,_⟩:=h
 rcases h2.2 with ⟨hv,h0⟩ | ⟨g,cap,cur,hv,_⟩
 ·exact⟨none,0,by rw[hv,h0]⟩
 ·exact⟨_,_,hv⟩
theorem rS.grown {w0 w w':World}{v v':Value}{L:List aA}{l:aA}{u:Value}{us:List Value}{o:Obj}(hs:w0.heap.size≤w.heap.size)(h1:us.length=L.length)(h2:w.ownsRow w0.heap.size 26 1 v L.length us)(h3:∀ (i:Nat)(u:Value)(l:aA),us[i]?=some u→L[i]?=some l→jP w u l)(hu:jP w u l)
  (hown:w'.ownsRow w0.heap.size 26 1 v' (L.length+1) (us++[u])) (hg:(w.alloc o).grownBy w' v.ownBlock):rS w' w0.heap.size v' (L++[l])∧Below w0.heap.size w w':=by
 have hb1:=(Below.refl w.heap.size w).alloc (Nat.le_refl _) o
 have hrow:∀ k,v.ownBlock=some k→∃ cur fz t,(w.alloc o).heap[k]?=some (.cells cur t fz)∧t≠40:=fun k hk=>by
  obtain⟨cur,fz,e⟩:=oM h2 k hk;exact⟨cur,fz,26,(hb1.block k (lt_of_block e)).trans e,by decide⟩
 have hlt:=World.ownsRow.lt h2;have hsame:∀ x l,jP w x l→jP w' x l:=fun x l hx=>(hx.below hb1).grown hg hrow
 refine ⟨⟨us++[u],by simp [h1],by rw[List.length_append];exact hown,fun i x y hx hy=>?_⟩,?_⟩
 ·by_cases hi:i<us.length
  ·rw[List.getElem?_append_left hi] at hx;rw[List.getElem?_append_left (by omega)] at hy
   exact hsame _ _ (h3 i x y hx hy)
  ·rw[List.getElem?_append_right (by omega)] at hx hy
   obtain⟨k,hk⟩:∃ k,i - us.length=k:=⟨_,rfl⟩;have hk2:i - L.length=k:=by omega
   rw[hk] at hx;rw[hk2] at hy
   cases k with
   | zero =>
    cases hx
    cases hy
    exact hsame _ _ hu
   | succ k=>simp at hx
 ·exact (hb1.mono hs).trans ((aB.grown (S:=fun k=>some k=v.ownBlock) (aB.refl _ _) hg (fun k h _=>h.symm)).below (by simp;omega) (fun i hi e=>by have:=hlt _ e.symm;omega))
def ML (kind n:Nat) (s:List UInt8):List UInt8:=40 :: (Lw kind++((if n=0 then [] else [32,UInt8.ofNat (48+n)])++(if MS kind=true then 32 :: 34 :: (s++[34]) else [])))
def MM (ts:List (List UInt8)):List UInt8:=ts.flatMap fun t=>32 :: t
def DV (kind n:Nat) (s:List UInt8) (ts:List (List UInt8)):List UInt8:=ML kind n s++MM ts++[41]
inductive rM:aA→List UInt8→Prop
 | node (kind n:Nat) (s:List UInt8) (kids:List aA) (ts:List (List UInt8)) (hk:MC kind=true) (hn:n<10) (hs:∀ c∈s,MO c=true) (hs2:s.length≤1000) (hkn:kids.length≤100) (hlen:ts.length=kids.length)
  (hK:∀ (j:Nat) (kid:aA) (t:List UInt8),kids[j]?=some kid→ts[j]?=some t→rM kid t) (hl:(DV kind n s ts).length≤10000) (hz:(aC kind n s kids).length≤10000):rM (aC kind n s kids) (DV kind n s ts)
theorem rM.size {l:aA}{t:List UInt8}(h:rM l t):0<l.length∧(cK l 0).size=l.length∧t.length≤10000:=by
 cases h with
 | node kind n s kids ts hk hn hs hs2 hkn hlen hK hl hz=>exact⟨by rw[aC];simp,by rw[aC];simp [cK],hl⟩
end Go.Proofs.YtbpjobmpacjgcaaGreatDoor
