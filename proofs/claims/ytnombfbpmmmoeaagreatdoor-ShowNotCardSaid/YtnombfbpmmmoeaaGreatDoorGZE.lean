/- The document's text of a program: its parts (patoisref5): quoted texts, names of kinds. -/
import Derived.Test.YtnombfbpmmmoeaaGreatDoorGRef5G
import Derived.Test.YtnombfbpmmmoeaaGreatDoorGBKitG
import Derived.Lib.ItoaNum
import Derived.Test.YtnombfbpmmmoeaaGreatDoorGZC
namespace Go.Proofs.YtnombfbpmmmoeaaGreatDoor
open Go Go.RowKit
def Lh (c:UInt8):Bool:=decide (c.toNat≠34)&&decide (c.toNat≠92)&&decide (32≤c.toNat)&&decide (c.toNat≤126)
def IU:List (List UInt8):=[[108,105,116],[118,97,114],[99,97,116],[106,111,105,110],[115,112,108,105,116],[103,108,111,98],[112,108,97,105,110],[101,115,99],[102,108,97,116],[99,111,117,110,116],[112,105,99,107],[115,117,98],[],[],[],[],[],[],[],[110,111,112],[99,97,108,108],[115,101,116],[115,101,113],[105,102],[97,110,100],[111,114],[110,111,116],[119,104,105,108,101],[102,111,114],[99,97,115,101],[102,117,110],[112,105,112,101],[114,101,100,105,114],[104,101,114,101],[108,111,99,97,108],[101,118,97,108],[102,114,97,109,101]]
def J4 (k:Int):List UInt8:=IU.getD (k.toNat - 1) []
def Ld (k:Int):Bool:=decide (k=1) || j8 k
def o7 (w:World) (v:Value) (l:aA):Prop:=∃ g o cap,v = .slice (some ⟨g,o,none⟩) l.length cap∧l.length≤cap∧cap≤maxLen∧(∃ cur fz,w.heap[g]?=some (.cells cur 62 fz))∧∀ (k:Nat) (u:Value),(l.flatMap bH.cells)[k]?=some u→w.cell? ⟨g,o+k,none⟩=some u
theorem o7.of_block {w w':World}{v:Value}{l:aA}(h:o7 w v l)(hb:∀ (g:Nat) cur fz,w.heap[g]?=some (.cells cur 62 fz)→w'.heap[g]?=w.heap[g]?):o7 w' v l:=by
 obtain⟨g,o,cap,h1,h2,h3,⟨cur,fz,h4⟩,h6⟩:=h;have he:=hb g cur fz h4;exact⟨g,o,cap,h1,h2,h3,⟨cur,fz,he.trans h4⟩,fun k u hk=>(World.cell?_of_block (w:=w) he).trans (h6 k u hk)⟩
theorem o7.below {w w':World}{v:Value}{l:aA}(h:o7 w v l)(hb:Below w.heap.size w w'):o7 w' v l:=h.of_block fun g _ _ h4=>hb.block g (lt_of_block h4)
theorem o7.facts {w:World}{g o n cap:Nat}{l:aA}(h:o7 w (.slice (some ⟨g,o,none⟩) n cap) l){k:Nat}{x:bH}(hx:l[k]?=some x) :
  w.cell? ⟨g,o+k * 5,none⟩=some (.int .i64 x.kind)∧w.cell? ⟨g,o+k * 5+1,none⟩=some (.int .i64 x.n)∧w.cell? ⟨g,o+k * 5+2,none⟩=some (.int .i64 x.k)∧w.cell? ⟨g,o+k * 5+3,none⟩=some (.int .i64 x.size)∧w.cell? ⟨g,o+k * 5+4,none⟩=some (.string (bs x.text)):=by
 obtain⟨g',o',cap',hv,_,_,_,h⟩:=h
 cases hv
 have hf:∀ j u,x.cells[j]?=some u→w.cell? ⟨g,o+k * 5+j,none⟩=some u:=fun j u hu=>by
  have:=h _ _ (lI bH.cells 5 qU l k j x u hx hu)
  rwa [Nat.mul_comm,← Nat.add_assoc] at this
 exact⟨hf 0 _ rfl,hf 1 _ rfl,hf 2 _ rfl,hf 3 _ rfl,hf 4 _ rfl⟩
def Dq (w:World) (B:Nat) (v:Value) (L:List aA):Prop:=∃ us:List Value,us.length=L.length∧w.ownsRow B 23 1 v L.length us∧∀ (i:Nat) (u:Value) (l:aA),us[i]?=some u→L[i]?=some l→o7 w u l
theorem Dq.nil (w:World)(B:Nat):Dq w B (.slice none 0 0) []:=⟨[],rfl,World.ownsRow_nil _ _ _ _,fun i u l h=>by simp at h⟩
def Lg (kind n:Nat) (s:List UInt8):List UInt8:=40 :: (J4 kind++((if n=0 then [] else [32,UInt8.ofNat (48+n)])++(if Ld kind=true then 32 :: 34 :: (s++[34]) else [])))
def K7 (ts:List (List UInt8)):List UInt8:=ts.flatMap fun t=>32 :: t
def CY (kind n:Nat) (s:List UInt8) (ts:List (List UInt8)):List UInt8:=Lg kind n s++K7 ts++[41]
inductive rU:aA→List UInt8→Prop
 | node (kind n:Nat) (s:List UInt8) (kids:List aA) (ts:List (List UInt8)) (hk:K6 kind=true) (hn:n<10) (hs:∀ c∈s,Lh c=true) (hs2:s.length≤1000) (hkn:kids.length≤100) (hlen:ts.length=kids.length)
  (hK:∀ (j:Nat) (kid:aA) (t:List UInt8),kids[j]?=some kid→ts[j]?=some t→rU kid t) (hl:(CY kind n s ts).length≤10000) (hz:(aE kind n s kids).length≤10000):rU (aE kind n s kids) (CY kind n s ts)
theorem rU.size {l:aA}{t:List UInt8}(h:rU l t):0<l.length∧(cE l 0).size=l.length∧t.length≤10000:=by
 cases h with
 | node kind n s kids ts hk hn hs hs2 hkn hlen hK hl hz=>exact⟨by rw[aE];simp,by rw[aE];simp [cE],hl⟩
end Go.Proofs.YtnombfbpmmmoeaaGreatDoor
