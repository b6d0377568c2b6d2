/- Dialect A's parser, as plain functions on lists of tokens. No program stands in it. -/
import Derived.Test.YtbpjobmpacjgcaaGreatDoorGPureAG
import Derived.Test.YtbpjobmpacjgcaaGreatDoorGParseG
namespace Go.Proofs.YtbpjobmpacjgcaaGreatDoor
set_option maxHeartbeats 8000000
open Go Go.RowKit
def Aa:List (List UInt8):=[[105,102],[116,104,101,110],[101,108,115,101],[102,105],[119,104,105,108,101],[100,111],[100,111,110,101],[102,111,114],[105,110],[99,97,115,101],[101,115,97,99],[123],[125],[33]]
def lY (s:List UInt8):Bool:=Aa.contains s
def aM (ts:List aG) (i:Nat):aG:=ts.getD i ⟨0,0,[]⟩
def aIs (ts:List aG) (i:Nat) (ks:List Nat):Bool:=ks.contains (aM ts i).kind
def aSk (ts:List aG) (i:Nat):Nat:=min (i+1) (ts.length - 1)
def lQ (ts:List aG) (ks:List Nat):Nat→Nat→Nat
 | 0,i=>i
 | f+1,i=>if aIs ts i ks=true then lQ ts ks f (aSk ts i) else i
def fK (ts:List aG) (ks:List Nat) (i:Nat):Nat:=lQ ts ks ts.length i
def dC (t:aG):Option (List UInt8):=if t.kind=13 then (match t.parts with | [p]=>if p.kind=1 then some p.text else none | _=>none) else none
def eN (ts:List aG) (i:Nat) (l:List (List UInt8)):Bool:=match dC (aM ts i) with | some s=>l.contains s | none=>false
abbrev aL (α:Type):=Option (Except (Nat×Nat) α)
def oOk {α:Type} (a:α):aL α:=some (.ok a)
def mT {α:Type} (c p:Nat):aL α:=some (.error (c,p))
def aL.go {α β:Type} (x:aL α) (k:α→aL β):aL β :=
 match x with
 | none=>none
 | some (.error e)=>some (.error e)
 | some (.ok a)=>k a
def aL.at {α:Type} (x:aL α) (i:Nat):aJ α :=
 match x with
 | none=>none
 | some (.error e)=>some (.error e)
 | some (.ok a)=>some (.ok (a,i))
def formA {α:Type} (ts:List aG) (b i:Nat):aJ α:=kC (if aIs ts i [0]=true then 109 else 108) (b+(aM ts i).place)
def gM {α:Type} (ts:List aG) (b i:Nat) (s:List UInt8) (k:Nat→aJ α):aJ α:=if eN ts i [s]=true then k (aSk ts i) else formA ts b i
def lM (ts:List aG) (i:Nat):Bool:=aIs ts i [9,10,11,12]
def qA (ts:List aG) (i:Nat):Bool:=aIs ts i [0,8,3] || eN ts i [[116,104,101,110],[101,108,115,101],[102,105],[100,111],[100,111,110,101],[101,115,97,99],[125]]
def fW (x:aA):Bool:=!fX x || decide ((x.headD ⟨0,0,0,0,[]⟩).text≠[])
def dW (l:List aA):aA :=
 match l with
 | []=>aR []
 | _ :: _=>match (l.foldl a8 []).filter fW with
  | []=>(l.foldl a8 []).headD []
  | [x]=>x
  | f=>aC 4 0 [] f
def pF:aA:=aC 2 0 [42] []
def dP (sub:aD→aL aA) (x:aD):aL aA :=
 if x.kind=3 then oOk (aC 2 0 x.text [])
 else if x.kind=5 then oOk (aC 11 x.num [] [pF])
 else if x.kind=6 then oOk (aC 10 0 [] [pF])
 else sub x
def eM (sub:aD→aL aA) (x:aD):aL aA :=
 if x.kind=1∨x.kind=2 then oOk (aR x.text)
 else (dP sub x).go fun l=>oOk (if x.kind=3∨x.kind=5 then aC 9 0 [] [l] else l)
def gU (sub bare:aD→aL aA) (x:aD):aL aA :=
 if x.kind=1 then oOk (aC 1 1 x.text [])
 else if x.kind=2 then oOk (aC 1 1 (cC x.text) [])
 else if x.quoted=false then bare x
 else (eM sub x).go fun l=>oOk (aC 8 0 [] [l])
def gK (tq:aD→aL aA):List aD→aL (List aA)
 | []=>oOk []
 | x :: xs=>(tq x).go fun n=>(gK tq xs).go fun l=>oOk (n :: l)
def iC (b:Nat) (t:aG) (l:aA):aL aA:=if cW l=true then mT 101 (b+t.place) else oOk l
def gT (tq:aD→aL aA) (b:Nat) (t:aG):aL aA:=(gK tq t.parts).go fun l=>iC b t (dW l)
def cZ (sub:aD→aL aA) (b:Nat) (t:aG):aL aA:=gT (eM sub) b t
def lG (sub:aD→aL aA) (b:Nat) (t:aG):aL aA:=if t.parts=[] then oOk (aC 1 1 [] []) else gT (gU sub (eM sub)) b t
def eT (P:List aD):List UInt8:=P.flatMap fun x=>if x.kind=1 then x.text else if x.kind=2 then cC x.text else []
def jU (P:List aD):Bool:=P.any fun x=>decide (x.kind≠1)&&decide (x.kind≠2)
def mO (P:List aD):Bool:=P.any fun x=>decide (x.kind≠1)&&decide (x.kind≠2)&&!x.quoted
def nI (P:List aD):Bool:=P.any fun x=>decide (x.kind=1)&&x.text.any fun c=>[42,63,91].contains c.toNat
def fS (sub:aD→aL aA) (b:Nat) (t:aG):aL aA :=
 if jU t.parts=false∧oB (eT t.parts)=true then iC b t (aC 6 0 [] [aC 1 1 (eT t.parts) []])
 else if jU t.parts=false∨(mO t.parts=false∧nI t.parts=false) then cZ sub b t
 else (gT (gU sub (dP sub)) b t).go fun l=>oOk (aC 6 0 [] [aC 5 0 [] [l]])
def wordOf (aq:Nat→aG→aL aA) (ts:List aG) (b i:Nat):aJ aA:=if aIs ts i [13]=true then (aq b (aM ts i)).at (aSk ts i) else formA ts b i
def eZ (t:aG):Option (List UInt8×aG) :=
 match t.parts with
 | []=>none
 | p :: ps=>if p.kind=1 then (match cO 61 p.text with
   | some n=>if bI (p.text.take n)=true then some (p.text.take n,{ t with parts:={ p with text:=p.text.drop (n+1) } :: ps }) else none
   | none=>none) else none
def gH (l:List (Nat×aA)) (c:aA):aA :=
 l.foldr (fun t c=>if t.1=12 then aC 34 0 [] [t.2,c] else aC 33 ((t.1:Int) - 8) [] [t.2,c]) c
mutual
def cG:Nat→List aG→Nat→Nat→Nat→aJ aA
 | 0,_,_,_,_=>none
 | f+1,ts,b,d,i=>if 30<d+1 then kC 102 (b+(aM ts i).place) else fQ f ts b (d+1) i []
def fQ:Nat→List aG→Nat→Nat→Nat→List aA→aJ aA
 | 0,_,_,_,_,_=>none
 | f+1,ts,b,d,i,l =>
  if qA ts (fK ts [1,2] i)=true∨(0<l.length∧fK ts [1,2] i=i) then pOk (eX l) (fK ts [1,2] i)
  else (fJ f ts b d (fK ts [1,2] i)).go fun c e=>fQ f ts b d e (l++[c])
def fJ:Nat→List aG→Nat→Nat→Nat→aJ aA
 | 0,_,_,_,_=>none
 | f+1,ts,b,d,i=>(eD f ts b d i).go fun out j=>gJ f ts b d j out
def gJ:Nat→List aG→Nat→Nat→Nat→aA→aJ aA
 | 0,_,_,_,_,_=>none
 | f+1,ts,b,d,i,out =>
  if aIs ts i [4,5]=true then
   (eD f ts b d (fK ts [1] (aSk ts i))).go fun next j=>gJ f ts b d j (aC (if aIs ts i [5]=true then 26 else 25) 0 [] [out,next])
  else pOk out i
def eD:Nat→List aG→Nat→Nat→Nat→aJ aA
 | 0,_,_,_,_=>none
 | f+1,ts,b,d,i=>(eS f ts b d (if eN ts i [[33]]=true then aSk ts i else i) []).go fun l j =>
   pOk (if eN ts i [[33]]=true then aC 27 0 [] [if 1<l.length then aC 32 0 [] l else l.headD []] else (if 1<l.length then aC 32 0 [] l else l.headD [])) j
def eS:Nat→List aG→Nat→Nat→Nat→List aA→aJ (List aA)
 | 0,_,_,_,_,_=>none
 | f+1,ts,b,d,i,l=>(eI f ts b d i).go fun c j =>
   if aIs ts j [6]=true then eS f ts b d (fK ts [1] (aSk ts j)) (l++[c]) else pOk (l++[c]) j
def eI:Nat→List aG→Nat→Nat→Nat→aJ aA
 | 0,_,_,_,_=>none
 | f+1,ts,b,d,i =>
  match dC (aM ts i) with
  | none=>cD f ts b d i [] [] []
  | some s =>
   if lY s=false then (if bI s=true∧(aM ts (aSk ts i)).kind=7 then jS f ts b d i s else cD f ts b d i [] [] [])
   else if s=[123] then (cG f ts b d (aSk ts i)).go fun l j=>gM ts b j [125] fun e=>cI f ts b d e l []
   else if s=[105,102] then (iQ f ts b d i).go fun l j=>cI f ts b d j l []
   else if s=[119,104,105,108,101] then (j7 f ts b d i).go fun l j=>cI f ts b d j l []
   else if s=[102,111,114] then (kB f ts b d i).go fun l j=>cI f ts b d j l []
   else if s=[99,97,115,101] then (jX f ts b d i).go fun l j=>cI f ts b d j l []
   else formA ts b i
def fM:Nat→List aG→Nat→Nat→Nat→List UInt8→List UInt8→aJ aA
 | 0,_,_,_,_,_,_=>none
 | f+1,ts,b,d,i,s,t=>gM ts b i s fun a=>(cG f ts b d a).go fun l j=>if t=[] then pOk l j else gM ts b j t fun e=>pOk l e
def iQ:Nat→List aG→Nat→Nat→Nat→aJ aA
 | 0,_,_,_,_=>none
 | f+1,ts,b,d,i=>(fM f ts b d i [105,102] []).go fun c j=>(fM f ts b d j [116,104,101,110] []).go fun yes k =>
   (if eN ts k [[101,108,115,101]]=true then fM f ts b d k [101,108,115,101] [] else pOk (eX []) k).go fun no e =>
    gM ts b e [102,105] fun g=>pOk (aC 24 0 [] [c,yes,no]) g
def j7:Nat→List aG→Nat→Nat→Nat→aJ aA
 | 0,_,_,_,_=>none
 | f+1,ts,b,d,i=>(fM f ts b d i [119,104,105,108,101] []).go fun c j=>(fM f ts b d j [100,111] [100,111,110,101]).go fun l e=>pOk (aC 28 0 [] [c,l]) e
def kB:Nat→List aG→Nat→Nat→Nat→aJ aA
 | 0,_,_,_,_=>none
 | f+1,ts,b,d,i =>
  match dC (aM ts (aSk ts i)) with
  | none=>formA ts b (aSk ts i)
  | some s=>if bI s=true then
    gM ts b (aSk ts (aSk ts i)) [105,110] fun a=>(jY f ts b d a []).go fun ws j =>
     (fM f ts b d (fK ts [1,2] j) [100,111] [100,111,110,101]).go fun l e=>pOk (aC 29 0 s [lW ws,l]) e
   else formA ts b (aSk ts i)
def jY:Nat→List aG→Nat→Nat→Nat→List aA→aJ (List aA)
 | 0,_,_,_,_,_=>none
 | f+1,ts,b,d,i,l =>
  if aIs ts i [13]=true then ((fS (fun x=>bD f b d x) b (aM ts i)).at (aSk ts i)).go fun w j=>jY f ts b d j (l++[w]) else pOk l i
def jX:Nat→List aG→Nat→Nat→Nat→aJ aA
 | 0,_,_,_,_=>none
 | f+1,ts,b,d,i=>(wordOf (cZ (fun x=>bD f b d x)) ts b (aSk ts i)).go fun w j =>
   gM ts b (fK ts [1] j) [105,110] fun a=>(j6 f ts b d (fK ts [1] a) [w]).go fun l e=>pOk (aC 30 0 [] l) e
def j6:Nat→List aG→Nat→Nat→Nat→List aA→aJ (List aA)
 | 0,_,_,_,_,_=>none
 | f+1,ts,b,d,i,l =>
  if eN ts i [[101,115,97,99]]=true then pOk l (aSk ts i)
  else (wordOf (lG (fun x=>bD f b d x)) ts b (if aIs ts i [7]=true then aSk ts i else i)).go fun w j =>
   if aIs ts j [8]=true then (cG f ts b d (aSk ts j)).go fun c e=>j6 f ts b d (fK ts [1] (if aIs ts e [3]=true then aSk ts e else e)) (l++[w,c])
   else formA ts b j
def jS:Nat→List aG→Nat→Nat→Nat→List UInt8→aJ aA
 | 0,_,_,_,_,_=>none
 | f+1,ts,b,d,i,s =>
  if aIs ts (aSk ts (aSk ts i)) [8]=true then
   (fM f ts b d (fK ts [1] (aSk ts (aSk ts (aSk ts i)))) [123] [125]).go fun l e=>pOk (aC 31 0 s [l]) e
  else formA ts b (aSk ts (aSk ts i))
def cI:Nat→List aG→Nat→Nat→Nat→aA→List (Nat×aA)→aJ aA
 | 0,_,_,_,_,_,_=>none
 | f+1,ts,b,d,i,c,l =>
  if lM ts i=true then (wordOf (cZ (fun x=>bD f b d x)) ts b (aSk ts i)).go fun w j=>cI f ts b d j c (l++[((aM ts i).kind,w)])
  else pOk (gH l c) i
def cD:Nat→List aG→Nat→Nat→Nat→List (List UInt8×aA)→List aA→List (Nat×aA)→aJ aA
 | 0,_,_,_,_,_,_,_=>none
 | f+1,ts,b,d,i,ss,ws,l =>
  if lM ts i=true then (wordOf (cZ (fun x=>bD f b d x)) ts b (aSk ts i)).go fun w j=>cD f ts b d j ss ws (l++[((aM ts i).kind,w)])
  else if aIs ts i [13]=true then
   match (if ws.length=0 then eZ (aM ts i) else none) with
   | some (n,t)=>((cZ (fun x=>bD f b d x) b t).at (aSk ts i)).go fun w j=>cD f ts b d j (ss++[(n,w)]) ws l
   | none=>((fS (fun x=>bD f b d x) b (aM ts i)).at (aSk ts i)).go fun w j=>cD f ts b d j ss (ws++[w]) l
  else if ss.length+ws.length+l.length=0 then formA ts b i
  else pOk (gH l (dT ss ws)) i
def bD:Nat→Nat→Nat→aD→aL aA
 | 0,_,_,_=>none
 | f+1,b,d,x =>
  if 30<d+1 then mT 102 (b+x.place)
  else match dA x.text (x.text.length+1) 0 with
   | .error (c,p)=>mT c (b+x.place+2+p)
   | .ok ts=>match cG f ts (b+x.place+2) d 0 with
    | none=>none
    | some (.error e)=>some (.error e)
    | some (.ok (l,i))=>if aIs ts i [0]=false then mT 108 (b+x.place+2+(aM ts i).place) else oOk (aC 12 0 [] [l])
end
def wtP (x:aD):Nat:=if x.kind=4 then 3 * x.text.length+3 else 1
def cA (P:List aD):Nat:=(P.map wtP).sum
def wtT (t:aG):Nat:=1+cA t.parts
def nK (ts:List aG):Nat:=(ts.map wtT).sum
def aI (ts:List aG) (i:Nat):Nat:=nK (ts.drop i)
theorem pI (ts:List aG):aI ts 0=nK ts:=rfl
theorem rF {ts:List aG}{i:Nat}(h:i<ts.length):aM ts i=ts[i]:=by
 unfold aM;rw[List.getD_eq_getElem?_getD,List.getElem?_eq_getElem h];rfl
theorem Et {ts:List aG}{i:Nat}(h:ts.length≤i):aM ts i=⟨0,0,[]⟩:=by
 unfold aM;rw[List.getD_eq_getElem?_getD,List.getElem?_eq_none h];rfl
theorem k9 {ts:List aG}{i:Nat}(h:i<ts.length):aI ts i=wtT (aM ts i)+aI ts (i+1):=by
 unfold aI nK;rw[List.drop_eq_getElem_cons h,List.map_cons,List.sum_cons,rF h]
theorem pX (x:aD):1≤wtP x:=by
 unfold wtP;split <;> omega
theorem oP (x:aD)(P:List aD):cA (x :: P)=wtP x+cA P:=by simp [cA]
theorem jR (P:List aD)(x:aD):cA (P++[x])=cA P+wtP x:=by simp [cA]
theorem Lk:cA []=0:=rfl
theorem qS:∀ (P:List aD),P.length≤cA P
 | []=>Nat.le_refl _
 | x :: P=>by
  have:=qS P
  have:=pX x
  rw[oP,List.length_cons];omega
theorem DZ {ts:List aG}:∀ (k i:Nat),aI ts (i+k)+(if i+k≤ts.length then k else 0)≤aI ts i
 | 0,i=>by rw[Nat.add_zero];split <;> omega
 | k+1,i=>by
  have ih:=DZ (ts:=ts) k i
  by_cases h:i+k<ts.length
  ·have:=k9 h
   unfold wtT at this;rw[show i+(k+1)=i+k+1 from rfl,if_pos (by omega)]
   rw[if_pos (by omega)] at ih
   omega
  ·rw[if_neg (by omega)]
   have:aI ts (i+(k+1))=0:=by
    unfold aI;rw[List.drop_eq_nil_iff.2 (by omega)]
    rfl
   omega
theorem rem_le {ts:List aG}{i e:Nat}(h:i≤e)(he:e≤ts.length):aI ts e+(e - i)≤aI ts i:=by
 obtain⟨k,rfl⟩:=Nat.exists_eq_add_of_le h;have:=DZ (ts:=ts) k i
 rw[if_pos (by omega)] at this
 omega
structure aW (n:Nat) (ts:List aG):Prop where
 pos:0<ts.length
 last:(aM ts (ts.length - 1)).kind=0
 place:∀ i,(aM ts i).place≤n
 part:∀ i,∀ p∈(aM ts i).parts,p.place≤n∧p.text.length≤8192∧(p.kind=4→p.place+3+p.text.length≤n)
 wt:nK ts≤3 * n+1
 valid:∀ i,vZ (aM ts i)
 small:n≤8192
theorem m7 (ts:List aG)(i:Nat)(ks:List Nat):aIs ts i ks=true ↔ (aM ts i).kind∈ks:=by
 unfold aIs;exact List.contains_iff_mem
theorem sX {n:Nat}{ts:List aG}(g:aW n ts){i:Nat}(hi:i<ts.length)(h:(aM ts i).kind≠0):aSk ts i=i+1∧i+1<ts.length:=by
 have:i≠ts.length - 1:=fun e=>h (e ▸ g.last)
 unfold aSk;omega
theorem rI {ts:List aG}{i:Nat}(hi:i<ts.length):i≤aSk ts i∧aSk ts i<ts.length:=by
 unfold aSk;omega
theorem CD {ts:List aG}(ks:List Nat):∀ (f:Nat){i:Nat},i<ts.length→i≤lQ ts ks f i∧lQ ts ks f i<ts.length
 | 0,i,h=>⟨Nat.le_refl _,h⟩
 | f+1,i,h=>by
  rw[lQ];split
  ·have h1:=rI h;have h2:=CD ks f h1.2;omega
  ·exact⟨Nat.le_refl _,h⟩
theorem vB {ts:List aG}(ks:List Nat){i:Nat}(h:i<ts.length):i≤fK ts ks i∧fK ts ks i<ts.length:=CD ks _ h
theorem uY {n:Nat}{ts:List aG}(g:aW n ts){i:Nat}(hi:i<ts.length){ks:List Nat}(h0:0 ∉ ks)(h:aIs ts i ks=true):aSk ts i=i+1∧i+1<ts.length :=
 sX g hi (fun e=>h0 (e ▸ (m7 _ _ _).1 h))
theorem oS {t:aG}{s:List UInt8}(h:dC t=some s):t.kind=13:=by
 unfold dC at h;split at h
 ·assumption
 ·cases h
theorem sI {t:aG}{s:List UInt8}(h:dC t=some s):∃ p,t.parts=[p]∧p.kind=1∧p.text=s:=by
 unfold dC at h;split at h
 ·split at h
  ·rename_i p hp
   split at h
   ·cases h
    exact⟨p,hp,by assumption,rfl⟩
   ·cases h
  ·cases h
 ·cases h
theorem Cy {ts:List aG}{i:Nat}{l:List (List UInt8)}(h:eN ts i l=true):(aM ts i).kind=13:=by
 unfold eN at h;split at h
 ·rename_i s hs
  exact oS hs
 ·cases h
theorem zN {n:Nat}{ts:List aG}(g:aW n ts){i:Nat}(hi:i<ts.length){l:List (List UInt8)}(h:eN ts i l=true):aSk ts i=i+1∧i+1<ts.length :=
 sX g hi (by rw[Cy h];decide)
theorem vD (P:List aD)(j:Bool)(kind i:Nat)(s:List UInt8)(hk:kind≠4):cA (bQ P j kind i s)≤cA P+1:=by
 have h1:wtP ⟨kind,i,0,false,s⟩=1:=by unfold wtP;rw[if_neg hk]
 unfold bQ;split
 ·rename_i q hq
  obtain⟨Q,rfl⟩:=List.getLast?_eq_some_iff.1 hq;split
  ·rename_i h
   rw[List.dropLast_concat,jR,jR];have e1:wtP { q with text:=q.text++s }=1:=by unfold wtP;rw[if_neg (by rw[h.2];exact hk)]
   omega
  ·rw[jR,h1];omega
 ·rw[jR,h1];omega
theorem Cu (L:List UInt8)(q:Bool)(i:Nat)(P:List aD)(j:Bool)(i':Nat)(P':List aD)(j':Bool)(_hi:i<L.length)(h:e8 L q i P j = .ok (i',P',j')) :
  i<i'∧cA P'+2≤cA P+3 * (i' - i):=by
 have one:∀ k a c b s,k≠4→wtP ⟨k,a,c,b,s⟩=1:=fun k a c b s hk=>by unfold wtP;rw[if_neg hk]
 unfold e8 at h;simp only[] at h;split at h
 ·split at h
  ·cases h
   rw[jR,one _ _ _ _ _ (by decide)]
   omega
  ·cases h
 split at h
 ·split at h
  ·cases h
  ·split at h
   ·cases h
    rw[jR,one _ _ _ _ _ (by decide)]
    omega
   ·cases h
 split at h
 ·cases h
  rw[jR,one _ _ _ _ _ (by decide)]
  omega
 split at h
 ·cases h
  rw[jR,one _ _ _ _ _ (by decide)]
  omega
 split at h
 ·cases h
  rw[jR,one _ _ _ _ _ (by decide)]
  omega
 split at h
 ·split at h
  ·cases h
  ·rename_i t ht
   cases h
   have h1:=iH _ _ _ _ _ _ ht;have h2:=m8 L (i+2) t;have h3:wtP ⟨4,i,0,q,aZ L (i+2) t⟩=3 * (aZ L (i+2) t).length+3:=rfl;rw[jR];simp only[Int.natCast_add,Int.cast_ofNat_Int] at h2 h3 ⊢;rw[h3];omega
 ·cases h
  have:=vD P j (if q then 2 else 1) i [36] (by split <;> decide)
  omega
theorem Kb (L:List UInt8)(b:Nat):∀ (f i:Nat)(P:List aD)(j:Bool)(i':Nat)(P':List aD)(j':Bool),dR L b f i P j = .ok (i',P',j')→i<i'∧cA P'≤cA P+3 * (i' - i):=by
 intro f
 induction f with
 | zero=>intro i P j i' P' j' h;cases h
 | succ f ih =>
  intro i P j i' P' j' h;simp only[dR] at h;split at h
  ·cases h
  rename_i hlt
  split at h
  ·cases h
   omega
  split at h
  ·have h1:=ih _ _ _ _ _ _ h;have h2:=vD P j 2 i (if [36,34,92].contains (L.getD (i+1) 0).toNat then [L.getD (i+1) 0] else [L.getD i 0,L.getD (i+1) 0]) (by decide)
   omega
  split at h
  ·split at h
   ·cases h
   ·rename_i i2 P2 j2 hd
    have h1:=Cu L true i P j i2 P2 j2 (by omega) hd
    have h2:=ih _ _ _ _ _ _ h;omega
  ·have h1:=ih _ _ _ _ _ _ h;have h2:=vD P j 2 i [L.getD i 0] (by decide)
   omega
theorem xO (L:List UInt8)(q:Bool)(i:Nat)(P:List aD)(j:Bool)(i':Nat)(P':List aD)(j':Bool)(hi:i<L.length)(h:e8 L q i P j = .ok (i',P',j')):i'≤L.length:=by
 unfold e8 at h;simp only[] at h;split at h
 ·split at h
  ·cases h
   have:=sD (L.drop (i+1))
   rw[List.length_drop] at this;omega
  ·cases h
 split at h
 ·have hb:=lE L (i+1) (by omega)
  split at h
  ·cases h
  ·rename_i n hn
   have:=lD _ _ _ hn
   rw[List.length_drop] at this;split at h
   ·cases h
    omega
   ·cases h
 split at h
 ·have hb:=lE L (i+1) (by omega)
  cases h
  omega
 split at h
 ·have hb:=lE L (i+1) (by omega)
  cases h
  omega
 split at h
 ·have hb:=lE L (i+1) (by omega)
  cases h
  omega
 split at h
 ·split at h
  ·cases h
  ·rename_i t ht
   cases h
   have:=iH _ _ _ _ _ _ ht
   omega
 ·cases h
  omega
theorem B8 (L:List UInt8)(b:Nat):∀ (f i:Nat)(P:List aD)(j:Bool)(i':Nat)(P':List aD)(j':Bool),i≤L.length→dR L b f i P j = .ok (i',P',j')→i'≤L.length:=by
 intro f
 induction f with
 | zero=>intro i P j i' P' j' _ h;cases h
 | succ f ih =>
  intro i P j i' P' j' hi h;simp only[dR] at h;split at h
  ·cases h
  rename_i hlt
  split at h
  ·cases h
   omega
  split at h
  ·exact ih _ _ _ _ _ _ (by omega) h
  split at h
  ·split at h
   ·cases h
   ·rename_i i2 P2 j2 hd
    exact ih _ _ _ _ _ _ (xO L true i P j i2 P2 j2 (by omega) hd) h
  ·exact ih _ _ _ _ _ _ (by omega) h
theorem Mu (L:List UInt8):∀ (f i:Nat)(P:List aD)(j:Bool)(i':Nat)(P':List aD),i≤L.length→bO L f i P j = .ok (i',P')→i≤i'∧cA P'≤cA P+3 * (i' - i)∧(i<i'→cA P'+1≤cA P+3 * (i' - i)):=by
 intro f
 induction f with
 | zero=>intro i P j i' P' hi h;cases h;omega
 | succ f ih =>
  intro i P j i' P' hi h;have one:∀ k a c b s,k≠4→wtP ⟨k,a,c,b,s⟩=1:=fun k a c b s hk=>by unfold wtP;rw[if_neg hk]
  rw[bO] at h;split at h
  ·cases h
   omega
  rename_i hlt
  split at h
  ·cases h
   omega
  split at h
  ·have h1:=ih _ _ _ _ _ (Nat.min_le_right _ _) h;rw[jR,one _ _ _ _ _ (by decide)] at h1
   have:i+1≤min (i+2) L.length:=by omega
   omega
  split at h
  ·split at h
   ·cases h
   ·rename_i m hm
    have hl:=lD _ _ _ hm;rw[List.length_drop] at hl;have h1:=ih _ _ _ _ _ (by omega) h
    rw[jR,one _ _ _ _ _ (by decide)] at h1
    omega
  split at h
  ·split at h
   ·cases h
   ·rename_i i2 P2 j2 hd
    have h0:=Kb _ _ _ _ _ _ _ _ _ hd;have h3:=B8 _ _ _ _ _ _ _ _ _ (by omega) hd
    have h1:=ih _ _ _ _ _ h3 h;rw[jR,one _ _ _ _ _ (by decide)] at h0
    omega
  split at h
  ·split at h
   ·cases h
   ·rename_i i2 P2 j2 hd
    have h0:=Cu L false i P j i2 P2 j2 (by omega) hd
    have h3:=xO L false i P j i2 P2 j2 (by omega) hd
    have h1:=ih _ _ _ _ _ h3 h;omega
  ·have h1:=ih _ _ _ _ _ (by omega) h
   have h2:=vD P j 1 i [L.getD i 0] (by decide)
   omega
def jI (n:Nat) (P:List aD):Prop:=∀ p∈P,p.kind=4→p.place+3+p.text.length≤n
theorem jI.snoc {n:Nat}{P:List aD}(h:jI n P)(x:aD)(hx:x.kind=4→x.place+3+x.text.length≤n):jI n (P++[x]):=fun p hp=>by
 rcases List.mem_append.1 hp with hp | hp
 ·exact h p hp
 ·rw[List.mem_singleton] at hp;subst hp;exact hx
theorem jI.bytes {n:Nat}{P:List aD}(h:jI n P)(j:Bool)(kind i:Nat)(s:List UInt8)(hk:kind≠4):jI n (bQ P j kind i s):=by
 unfold bQ;split
 ·rename_i q hq
  obtain⟨Q,rfl⟩:=List.getLast?_eq_some_iff.1 hq;split
  ·rename_i hc
   rw[List.dropLast_concat];exact jI.snoc (fun p hp=>h p (by simp [hp])) _ (fun e=>absurd (hc.2.symm.trans e) hk)
  ·exact h.snoc _ (fun e=>absurd e hk)
 ·exact h.snoc _ (fun e=>absurd e hk)
theorem AO (L:List UInt8)(q:Bool)(i:Nat)(P:List aD)(j:Bool)(i':Nat)(P':List aD)(j':Bool)(hP:jI L.length P)(h:e8 L q i P j = .ok (i',P',j')):jI L.length P':=by
 unfold e8 at h;simp only[] at h;split at h
 ·split at h
  ·cases h
   exact hP.snoc _ (fun e=>by cases e)
  ·cases h
 split at h
 ·split at h
  ·cases h
  ·split at h
   ·cases h
    exact hP.snoc _ (fun e=>by cases e)
   ·cases h
 split at h
 ·cases h
  exact hP.snoc _ (fun e=>by cases e)
 split at h
 ·cases h
  exact hP.snoc _ (fun e=>by cases e)
 split at h
 ·cases h
  exact hP.snoc _ (fun e=>by cases e)
 split at h
 ·split at h
  ·cases h
  ·rename_i t ht
   cases h
   have h1:=iH _ _ _ _ _ _ ht;have h2:=m8 L (i+2) t;refine hP.snoc _ (fun _=>?_)
   simp only[Int.natCast_add,Int.cast_ofNat_Int] at h2 ⊢;omega
 ·cases h
  exact hP.bytes _ _ _ _ (by split <;> decide)
theorem FO (L:List UInt8)(b:Nat):∀ (f i:Nat)(P:List aD)(j:Bool)(i':Nat)(P':List aD)(j':Bool),jI L.length P→dR L b f i P j = .ok (i',P',j')→jI L.length P':=by
 intro f
 induction f with
 | zero=>intro i P j i' P' j' _ h;cases h
 | succ f ih =>
  intro i P j i' P' j' hP h;simp only[dR] at h;split at h
  ·cases h
  split at h
  ·cases h
   exact hP
  split at h
  ·exact ih _ _ _ _ _ _ (hP.bytes _ _ _ _ (by decide)) h
  split at h
  ·split at h
   ·cases h
   ·rename_i i2 P2 j2 hd
    exact ih _ _ _ _ _ _ (AO L true i P j i2 P2 j2 hP hd) h
  ·exact ih _ _ _ _ _ _ (hP.bytes _ _ _ _ (by decide)) h
theorem L0 (L:List UInt8):∀ (f i:Nat)(P:List aD)(j:Bool)(i':Nat)(P':List aD),dG P i→jI L.length P→i≤L.length→bO L f i P j = .ok (i',P')→dG P' i'∧jI L.length P'∧i'≤L.length:=by
 intro f
 induction f with
 | zero=>intro i P j i' P' h1 h2 hi h;cases h;exact⟨h1,h2,hi⟩
 | succ f ih =>
  intro i P j i' P' h1 h2 hi h;rw[bO] at h;split at h
  ·cases h
   exact⟨h1,h2,hi⟩
  rename_i hlt
  split at h
  ·cases h
   exact⟨h1,h2,hi⟩
  split at h
  ·refine ih _ _ _ _ _ (h1.part _ ?_ (by omega)) (h2.snoc _ (fun e=>by cases e)) (Nat.min_le_right _ _) h
   dsimp only;split <;> simp only[List.length_cons,List.length_nil] <;> omega
  split at h
  ·split at h
   ·cases h
   ·rename_i m hm
    have hl:=lD _ _ _ hm;rw[List.length_drop] at hl;have:=m8 L (i+1) (i+1+m)
    refine ih _ _ _ _ _ (h1.part _ ?_ (by omega)) (h2.snoc _ (fun e=>by cases e)) (by omega) h
    dsimp only;simp only[Int.natCast_add,Int.cast_ofNat_Int] at *;omega
  split at h
  ·split at h
   ·cases h
   ·rename_i i2 P2 j2 hd
    have h3:=AE L i _ _ _ _ _ _ _ (h1.part ⟨2,i,0,false,[]⟩ (by simp) (by omega)) (by omega) hd
    exact ih _ _ _ _ _ h3.1 (FO L i _ _ _ _ _ _ _ (h2.snoc _ (fun e=>by cases e)) hd) h3.2.2 h
  split at h
  ·split at h
   ·cases h
   ·rename_i i2 P2 j2 hd
    have h3:=tP L false i P j i2 P2 j2 (by omega) h1 hd
    exact ih _ _ _ _ _ h3.1 (AO L false i P j i2 P2 j2 h2 hd) h3.2.2 h
  ·exact ih _ _ _ _ _ (h1.bytes _ _ _ _ (by simp) (by omega)) (h2.bytes _ _ _ _ (by decide)) (by omega) h
theorem Lr (L:List UInt8)(i:Nat)(t:aG)(n:Nat)(hi:i≤L.length)(h:gA L i = .ok (t,n)):wtT t≤3 * (n - i)+1∧(t.kind≠0→i<n→wtT t≤3 * (n - i))∧(∀ p∈t.parts,p.text.length≤L.length)∧jI L.length t.parts∧t.place≤L.length:=by
 unfold gA at h;split at h
 ·cases h
  exact⟨by simp [wtT,cA],fun e=>absurd rfl e,fun p hp=>by simp at hp,fun p hp=>by simp at hp,hi⟩
 ·rename_i hlt
  simp only[] at h;split at h
  ·cases h
   exact⟨by simp [wtT,cA],fun _ h=>by simp [wtT,cA];omega,fun p hp=>by simp at hp,fun p hp=>by simp at hp,hi⟩
  split at h
  ·cases h
  split at h
  ·cases h
  ·rename_i k P hw
   cases h
   have h1:=Mu L _ _ _ _ _ _ hi hw;have h2:=L0 L _ _ _ _ _ _ (dG.nil i) (fun p hp=>by cases hp) hi hw
   rw[Lk] at h1;exact⟨by unfold wtT;dsimp only;omega,fun _ h=>by unfold wtT;dsimp only;have:=h1.2.2 h;omega,fun p hp=>by have:=h2.1.2 p hp;omega,h2.2.1,hi⟩
theorem Cz (t:aG)(ts:List aG):nK (t :: ts)=wtT t+nK ts:=by simp [nK]
theorem Md (L:List UInt8):∀ (f k:Nat)(ts:List aG),k≤L.length→L.length - k<f→dA L f k = .ok ts→nK ts≤3 * (L.length - k)+1∧(∀ t∈ts,(∀ p∈t.parts,p.text.length≤L.length∧p.place≤L.length)∧jI L.length t.parts∧t.place≤L.length∧vZ t)∧∃ v,ts.getLast?=some v∧v.kind=0:=by
 intro f
 induction f with
 | zero=>intro k ts _ h;omega
 | succ f ih =>
  intro k ts hk hf h;rw[dA] at h;have hs:=pQ false (L.drop k);have hfront:=nM false (L.drop k);rw[List.length_drop] at hs;rw[List.drop_drop] at hfront;obtain⟨j,hj⟩:∃ j,k+aU false (L.drop k)=j:=⟨_,rfl⟩;rw[hj] at h hfront
  cases ht:gA L j with
  | error e=>rw[ht] at h;cases h
  | ok y =>
   obtain⟨t,n⟩:=y;rw[ht] at h;obtain⟨n1,n2,n3,n4,n5⟩:=uQ L j t n (by omega) hfront ht
   obtain⟨m1,m2,m3,m4,m5⟩:=Lr L j t n (by omega) ht
   have hv:=Gt L j t n (by omega) hfront ht
   have hT:(∀ p∈t.parts,p.text.length≤L.length∧p.place≤L.length)∧jI L.length t.parts∧t.place≤L.length∧vZ t:=⟨fun p hp=>⟨m3 p hp,by have:=n5.2.2.2 p hp;omega⟩,m4,m5,hv⟩
   by_cases hk0:t.kind=0
   ·simp only[hk0,if_true] at h
    cases h
    refine ⟨?_,fun u hu=>?_,t,rfl,hk0⟩
    ·have hp:t.parts=[]:=by
      rcases hv with h1 | h1
      ·exact h1.2
      ·rw[hk0] at h1;cases h1.1
     simp [nK,wtT,cA,hp]
    ·rw[List.mem_singleton] at hu;subst hu;exact hT
   ·simp only[hk0,if_false] at h;have hn1:=n4 hk0
    cases hl:dA L f n with
    | error e=>rw[hl] at h;cases h
    | ok us =>
     rw[hl] at h
     cases h
     obtain⟨i1,i2,v,i3,i4⟩:=ih n us n3 (by omega) hl
     have:=m2 hk0 hn1
     refine ⟨by rw[Cz];omega,fun u hu=>?_,v,?_,i4⟩
     ·rcases List.mem_cons.1 hu with rfl | hu
      ·exact hT
      ·exact i2 u hu
     ·cases us with
      | nil=>simp at i3
      | cons u us=>rw[List.getLast?_cons_cons];exact i3
theorem qQ (L:List UInt8)(hL:L.length≤8192)(ts:List aG)(h:dA L (L.length+1) 0 = .ok ts):aW L.length ts:=by
 obtain⟨h1,h2,v,h3,h4⟩:=Md L _ 0 ts (Nat.zero_le _) (by omega) h
 have hd:∀ i,aM ts i∈ts∨aM ts i=⟨0,0,[]⟩:=fun i=>by
  by_cases hi:i<ts.length
  ·rw[rF hi];exact .inl (List.getElem_mem hi)
  ·exact .inr (Et (by omega))
 have hpos:0<ts.length:=by
  cases ts with
  | nil=>simp at h3
  | cons t ts=>simp
 refine ⟨hpos,?_,fun i=>?_,fun i p hp=>?_,by omega,fun i=>?_,hL⟩
 ·rw[List.getLast?_eq_getElem?,List.getElem?_eq_getElem (by omega)] at h3
  rw[rF (by omega),Option.some.inj h3]
  exact h4
 ·rcases hd i with h5 | h5
  ·exact (h2 _ h5).2.2.1
  ·rw[h5];exact Nat.zero_le _
 ·rcases hd i with h5 | h5
  ·have:=(h2 _ h5).1 p hp
   exact⟨this.2,by omega,(h2 _ h5).2.1 p hp⟩
  ·rw[h5] at hp
   cases hp
 ·rcases hd i with h5 | h5
  ·exact (h2 _ h5).2.2.2
  ·rw[h5];exact .inl ⟨Nat.zero_le _,rfl⟩
def bZ (lo hi:Nat) {α:Type} (x:aJ α) (Q:α→Nat→Prop):Prop :=
 (∀ a e,x=some (.ok (a,e))→Q a e)∧∀ c p,x=some (.error (c,p))→(101≤c∧c≤109)∧lo≤p∧p≤hi
def dK (lo hi:Nat) {α:Type} (x:aL α) (Q:α→Prop):Prop :=
 (∀ a,x=some (.ok a)→Q a)∧∀ c p,x=some (.error (c,p))→(101≤c∧c≤109)∧lo≤p∧p≤hi
section
variable {lo hi:Nat} {α β:Type}
theorem bZ.none {Q:α→Nat→Prop}:bZ lo hi (none:aJ α) Q:=⟨fun _ _ h=>(by cases h),fun _ _ h=>(by cases h)⟩
theorem bZ.ok {Q:α→Nat→Prop}{a:α}{e:Nat}(h:Q a e):bZ lo hi (pOk a e) Q:=⟨fun _ _ h'=>(by cases h';exact h),fun _ _ h=>(by cases h)⟩
theorem bZ.err {Q:α→Nat→Prop}{c p:Nat}(h1:101≤c∧c≤109)(h2:lo≤p∧p≤hi):bZ lo hi (kC c p:aJ α) Q :=
 ⟨fun _ _ h=>(by cases h),fun _ _ h=>(by cases h;exact⟨h1,h2⟩)⟩
theorem bZ.mono {x:aJ α}{Q R:α→Nat→Prop}(h:bZ lo hi x Q)(hR:∀ a e,Q a e→R a e):bZ lo hi x R:=⟨fun a e hx=>hR a e (h.1 a e hx),h.2⟩
theorem bZ.go {x:aJ α}{k:α→Nat→aJ β}{Q:α→Nat→Prop}{R:β→Nat→Prop}(h:bZ lo hi x Q)(hk:∀ a e,Q a e→bZ lo hi (k a e) R):bZ lo hi (x.go k) R:=by
 match x,h with
 | .none,_=>exact .none
 | some (.error e),h=>exact⟨fun _ _ h'=>(by cases h'),fun c p h'=>h.2 c p (by cases h';rfl)⟩
 | some (.ok (a,e)),h=>exact hk a e (h.1 a e rfl)
theorem dK.none {Q:α→Prop}:dK lo hi (none:aL α) Q:=⟨fun _ h=>(by cases h),fun _ _ h=>(by cases h)⟩
theorem dK.ok {Q:α→Prop}{a:α}(h:Q a):dK lo hi (oOk a) Q:=⟨fun _ h'=>(by cases h';exact h),fun _ _ h=>(by cases h)⟩
theorem dK.err {Q:α→Prop}{c p:Nat}(h1:101≤c∧c≤109)(h2:lo≤p∧p≤hi):dK lo hi (mT c p:aL α) Q :=
 ⟨fun _ h=>(by cases h),fun _ _ h=>(by cases h;exact⟨h1,h2⟩)⟩
theorem dK.mono {x:aL α}{Q R:α→Prop}(h:dK lo hi x Q)(hR:∀ a,Q a→R a):dK lo hi x R:=⟨fun a hx=>hR a (h.1 a hx),h.2⟩
theorem dK.go {x:aL α}{k:α→aL β}{Q:α→Prop}{R:β→Prop}(h:dK lo hi x Q)(hk:∀ a,Q a→dK lo hi (k a) R):dK lo hi (x.go k) R:=by
 match x,h with
 | .none,_=>exact .none
 | some (.error e),h=>exact⟨fun _ h'=>(by cases h'),fun c p h'=>h.2 c p (by cases h';rfl)⟩
 | some (.ok a),h=>exact hk a (h.1 a rfl)
theorem dK.at {x:aL α}{Q:α→Prop}{i:Nat}(h:dK lo hi x Q):bZ lo hi (x.at i) fun a e=>Q a∧e=i:=by
 match x,h with
 | .none,_=>exact .none
 | some (.error e),h=>exact⟨fun _ _ h'=>(by cases h'),fun c p h'=>h.2 c p (by cases h';rfl)⟩
 | some (.ok a),h=>exact .ok ⟨h.1 a rfl,rfl⟩
end
def jN (p:aD):Prop :=
 (p.kind=1∧∀ c∈p.text,c.toNat≠92)∨p.kind=2∨(p.kind=3∧(bI p.text=true∨p.text=[42]))∨p.kind=4∨(p.kind=5∧1≤p.num∧p.num≤9)∨p.kind=6
theorem A6:∀ (l:List UInt8)(n:UInt8),mN l n→∀ c∈l,c.toNat≠92
 | [],_,_,c,hc=>by cases hc
 | d :: l,n,h,c,hc=>by
  rcases List.mem_cons.1 hc with rfl | hc
  ·exact h.1.2.1
  ·exact A6 l n h.2.2 c hc
theorem LX {p:aD}(h:oC p):jN p:=by
 unfold oC at h
 rcases h with ⟨h1,_,_,_,n,h2⟩ | h | ⟨h1,_,h2⟩ | h | h | h
 ·exact .inl ⟨h1,A6 _ _ h2⟩
 ·exact .inr (.inl h.1)
 ·refine .inr (.inr (.inl ⟨h1,?_⟩))
  rcases h2 with h2 | ⟨h2,h3⟩
  ·exact .inr h2
  ·exact .inl (by rw[h2.name];simpa using h3)
 ·exact .inr (.inr (.inr (.inl h.1)))
 ·exact .inr (.inr (.inr (.inr (.inl ⟨h.1,h.2.1,h.2.2.1⟩))))
 ·exact .inr (.inr (.inr (.inr (.inr h.1))))
structure kP (n:Nat) (t:aG):Prop where
 place:t.place≤n
 len:∀ p∈t.parts,p.text.length≤8192
 valid:∀ p∈t.parts,jN p
theorem aW.parts {n:Nat}{ts:List aG}(g:aW n ts)(i:Nat):kP n (aM ts i) :=
 ⟨g.place i,fun p hp=>(g.part i p hp).2.1,fun p hp=>by
  rcases g.valid i with h | h
  ·rw[h.2] at hp;cases hp
  ·exact LX (h.2.2.1 p hp)⟩
def nY (x:aD) (l:aA):Prop:=0<l.length∧l.length+5≤8 * wtP x∧txP l≤30000 * wtP x
def pZ (x:aD) (l:aA):Prop:=0<l.length∧l.length+4≤8 * wtP x∧txP l≤30000 * wtP x
def nJ (lo hi:Nat) (sub:aD→aL aA) (P:List aD):Prop:=∀ x∈P,x.kind=4→dK lo hi (sub x) fun l=>0<l.length∧l.length+12≤8 * wtP x∧txP l≤30000 * wtP x
theorem uI {x:aD}(h:jN x)(h1:x.kind≠1)(h2:x.kind≠2)(h3:x.kind≠3)(h5:x.kind≠5)(h6:x.kind≠6):x.kind=4:=by
 unfold jN at h;omega
theorem uG {lo hi:Nat}{sub:aD→aL aA}{P:List aD}(hs:nJ lo hi sub P){x:aD}(hx:x∈P)(hv:jN x)(hl:x.text.length≤8192)(h1:x.kind≠1)(h2:x.kind≠2) :
  dK lo hi (dP sub x) fun l=>0<l.length∧l.length+6≤8 * wtP x∧txP l≤30000 * wtP x:=by
 have hw:=pX x;unfold dP;split
 ·have:=lN 2 0 x.text
  exact .ok (by omega)
 split
 ·have:=iJ 11 x.num [] pF
  have h3:=lN 2 0 [42];simp only[List.length_cons,List.length_nil] at this h3;exact .ok (by unfold pF at *;omega)
 split
 ·have:=iJ 10 0 [] pF
  have h3:=lN 2 0 [42];simp only[List.length_cons,List.length_nil] at this h3;exact .ok (by unfold pF at *;omega)
 ·rename_i h3 h5 h6
  exact (hs x hx (uI hv h1 h2 h3 h5 h6)).mono fun l h=>by omega
theorem uF {lo hi:Nat}{sub:aD→aL aA}{P:List aD}(hs:nJ lo hi sub P){x:aD}(hx:x∈P)(hv:jN x)(hl:x.text.length≤8192):dK lo hi (eM sub x) (nY x):=by
 have hw:=pX x;unfold eM nY;split
 ·have:=lN 1 0 x.text
  exact .ok (by unfold aR;omega)
 ·rename_i h12
  refine (uG hs hx hv hl (fun e=>h12 (.inl e)) (fun e=>h12 (.inr e))).go fun l h=>.ok ?_
  split
  ·have:=iJ 9 0 [] l
   simp only[List.length_nil] at this;omega
  ·omega
theorem t6 {lo hi:Nat}{sub bare:aD→aL aA}{P:List aD}(hs:nJ lo hi sub P){x:aD}(hx:x∈P)(hv:jN x)(hl:x.text.length≤8192)(hb:x.kind≠1→x.kind≠2→dK lo hi (bare x) (nY x)):dK lo hi (gU sub bare x) (pZ x):=by
 have hw:=pX x;unfold gU pZ;split
 ·have:=lN 1 1 x.text
  exact .ok (by omega)
 split
 ·have:=lN 1 1 (cC x.text)
  have:=tV x.text
  exact .ok (by omega)
 split
 ·exact (hb (by assumption) (by assumption)).mono fun l h=>by unfold nY at h;omega
 ·refine (uF hs hx hv hl).go fun l h=>.ok ?_
  have:=iJ 8 0 [] l
  unfold nY at h;simp only[List.length_nil] at this;omega
theorem B9 {lo hi:Nat}{tq:aD→aL aA}:∀ (P:List aD),(∀ x∈P,dK lo hi (tq x) (pZ x))→dK lo hi (gK tq P) fun l=>l.length=P.length∧(∀ x∈l,0<x.length)∧l.flatten.length+4 * P.length≤8 * cA P∧txP l.flatten≤30000 * cA P
 | [],_=>.ok ⟨rfl,(fun x hx=>by cases hx),Nat.le_refl _,Nat.le_refl _⟩
 | x :: P,h=>by
  rw[gK];refine (h x (by simp)).go fun n hn=>(B9 P fun y hy=>h y (by simp [hy])).go fun l hl=>.ok ?_
  obtain⟨n1,n2,n3⟩:=hn;obtain⟨l0,l1,l2,l3⟩:=hl;rw[oP,List.flatten_cons,List.length_append,dF];simp only[List.length_cons];refine ⟨by omega,fun y hy=>?_,by omega,by omega⟩
  rcases List.mem_cons.1 hy with rfl | hy
  ·exact n1
  ·exact l1 y hy
theorem B0 (l:List aA)(p:aA→Bool):(l.filter p).flatten.length≤l.flatten.length∧txP (l.filter p).flatten≤txP l.flatten:=by
 induction l with
 | nil=>exact⟨Nat.le_refl _,Nat.le_refl _⟩
 | cons a l ih =>
  rw[List.filter_cons];split
  ·simp only[List.flatten_cons,List.length_append,dF];omega
  ·simp only[List.flatten_cons,List.length_append,dF];omega
theorem zD:∀ (l out:List aA),out≠[]∨l≠[]→l.foldl a8 out≠[]
 | [],out,h=>by simpa using h
 | x :: l,out,_=>zD l _ (.inl (by
  unfold a8;split
  ·split <;> simp
  ·simp))
theorem Fu {out:List aA}{x:aA}(ho:∀ y∈out,0<y.length)(hx:0<x.length):∀ y∈a8 out x,0<y.length:=by
 unfold a8;intro y hy;split at hy
 ·split at hy
  ·rcases List.mem_append.1 hy with hy | hy
   ·exact ho y (List.dropLast_subset _ hy)
   ·rw[List.mem_singleton] at hy;subst hy;simp [aC]
  ·rcases List.mem_append.1 hy with hy | hy
   ·exact ho y hy
   ·rw[List.mem_singleton] at hy;subst hy;exact hx
 ·rcases List.mem_append.1 hy with hy | hy
  ·exact ho y hy
  ·rw[List.mem_singleton] at hy;subst hy;exact hx
theorem wK:∀ (l out:List aA),(∀ y∈out,0<y.length)→(∀ y∈l,0<y.length)→∀ y∈l.foldl a8 out,0<y.length
 | [],out,h,_=>h
 | x :: l,out,h,hl=>wK l _ (Fu h (hl x (by simp))) fun y hy=>hl y (by simp [hy])
theorem xY (l:List aA)(hp:∀ y∈l,0<y.length):0<(dW l).length∧(dW l).length≤l.flatten.length+1∧txP (dW l)≤txP l.flatten:=by
 unfold dW;split
 ·exact⟨by simp [aR,aC],by simp [aR,aC],by simp [aR,aC,txP]⟩
 ·rename_i a m
  obtain⟨h1,h2,_⟩:=pK (a :: m) [];have hne:=zD (a :: m) [] (.inr (by simp))
  have hpos:=wK (a :: m) [] (fun y hy=>by cases hy) hp
  obtain⟨h3,h4⟩:=B0 ((a :: m).foldl a8 []) fW;simp only[List.flatten_nil,List.length_nil,Nat.zero_add,e7] at h1 h2;generalize (a :: m).foldl a8 []=o at *;split
  ·have:=sM o
   refine ⟨?_,by omega,by omega⟩
   cases o with
   | nil=>exact absurd rfl hne
   | cons x o=>exact hpos x (by simp)
  ·rename_i x hx
   rw[hx] at h3 h4;simp only[List.flatten_cons,List.flatten_nil,List.append_nil] at h3 h4;exact⟨hpos x (List.mem_filter.1 (show x∈o.filter fW by rw[hx];simp)).1,by omega,by omega⟩
  ·rw[bN,eH];simp only[List.length_nil];omega
def jL (t:aG) (l:aA):Prop:=0<l.length∧l.length+5≤8 * wtT t∧txP l+30000≤30000 * wtT t
theorem CO {b n:Nat}{t:aG}{l:aA}{Q:aA→Prop}(ht:t.place≤n)(h:Q l):dK b (b+n) (iC b t l) Q:=by
 unfold iC;split
 ·exact .err (by omega) (by omega)
 ·exact .ok h
theorem tW {b n:Nat}{t:aG}(hP:kP n t){tq:aD→aL aA}(h:∀ x∈t.parts,dK b (b+n) (tq x) (pZ x)):dK b (b+n) (gT tq b t) fun l=>0<l.length∧l.length+7≤8 * wtT t∧txP l+30000≤30000 * wtT t:=by
 unfold gT;refine (B9 t.parts h).go fun l ⟨l0,l1,l2,l3⟩=>CO hP.place ?_
 have:=xY l l1
 unfold wtT;omega
theorem l8 {b n:Nat}{sub:aD→aL aA}{t:aG}(hP:kP n t)(hs:nJ b (b+n) sub t.parts):dK b (b+n) (cZ sub b t) (jL t):=by
 unfold cZ;exact (tW hP fun x hx=>(uF hs hx (hP.valid x hx) (hP.len x hx)).mono fun l h=>by unfold nY at h;unfold pZ;omega).mono fun l h=>by unfold jL;omega
theorem BD {b n:Nat}{sub:aD→aL aA}{t:aG}(hP:kP n t)(hs:nJ b (b+n) sub t.parts):dK b (b+n) (lG sub b t) (jL t):=by
 unfold lG;split
 ·have:=lN 1 1 []
  exact .ok (by unfold jL wtT;simp only[List.length_nil] at this;omega)
 ·exact (tW hP fun x hx=>t6 hs hx (hP.valid x hx) (hP.len x hx) fun _ _=>uF hs hx (hP.valid x hx) (hP.len x hx)).mono fun l h=>by unfold jL;omega
theorem Co:∀ (P:List aD),(∀ p∈P,p.text.length≤8192)→(eT P).length≤16384 * cA P
 | [],_=>Nat.zero_le _
 | x :: P,h=>by
  have ih:=Co P fun p hp=>h p (by simp [hp])
  have hx:=h x (by simp)
  have hw:=pX x;have he:=tV x.text;unfold eT at ih ⊢;rw[List.flatMap_cons,List.length_append,oP];split
  ·omega
  split
  ·omega
  ·simp only[List.length_nil];omega
theorem sC {b n:Nat}{sub:aD→aL aA}{t:aG}(hP:kP n t)(hs:nJ b (b+n) sub t.parts):dK b (b+n) (fS sub b t) (jL t):=by
 unfold fS;split
 ·rename_i h
  refine CO hP.place ?_;have h1:=iJ 6 0 [] (aC 1 1 (eT t.parts) []);have h2:=lN 1 1 (eT t.parts);have h3:=Co t.parts hP.len;simp only[List.length_nil] at h1
  have h4:t.parts≠[]:=fun e=>by
   rw[e] at h;exact absurd h.2 (by decide)
  have h5:0<t.parts.length:=List.length_pos_iff.2 h4;have h6:=qS t.parts;unfold jL wtT;omega
 split
 ·exact l8 hP hs
 ·refine (tW hP fun x hx=>t6 hs hx (hP.valid x hx) (hP.len x hx) fun h1 h2=>(uG hs hx (hP.valid x hx) (hP.len x hx) h1 h2).mono fun l h=>by unfold nY;omega).go fun l h=>.ok ?_
  have h1:=iJ 6 0 [] (aC 5 0 [] [l]);have h2:=iJ 5 0 [] l;simp only[List.length_nil] at h1 h2;unfold jL;omega
theorem Bw:∀ {l:List UInt8}{m:Nat},cO 61 l=some m→l=l.take m++[61]++l.drop (m+1)
 | [],m,h=>by cases h
 | c :: l,m,h=>by
  rw[cO] at h;split at h
  ·rename_i hc
   cases h
   have:c=61:=UInt8.toNat_inj.1 hc
   subst this;rfl
  ·cases hq:cO 61 l with
   | none=>rw[hq] at h;cases h
   | some k =>
    rw[hq] at h
    cases h
    have:=Bw hq
    rw[List.take_succ_cons,List.drop_succ_cons,List.cons_append,List.cons_append,← this]
theorem lZ {t t':aG}{s:List UInt8}(h:eZ t=some (s,t')):bI s=true∧t'.place=t.place∧wtT t'=wtT t∧∃ p ps r,t.parts=p :: ps∧p.kind=1∧t'.parts={ p with text:=r } :: ps∧p.text=s++[61]++r:=by
 unfold eZ at h;split at h
 ·cases h
 ·rename_i p ps hp
  split at h
  ·rename_i hk
   split at h
   ·rename_i m hm
    split at h
    ·rename_i hn
     cases h
     refine ⟨hn,rfl,?_,p,ps,_,hp,hk,rfl,Bw hm⟩;unfold wtT;rw[hp,oP,oP];unfold wtP;rw[if_neg (by rw[hk];decide),if_neg (by rw[hk];decide)]
    ·cases h
   ·cases h
  ·cases h
theorem qI {n:Nat}{t t':aG}{s:List UInt8}(h:eZ t=some (s,t'))(hP:kP n t):kP n t':=by
 obtain⟨_,h1,_,p,ps,r,h2,h3,h4,h5⟩:=lZ h;have hp:p∈t.parts:=by rw[h2];simp
 have hl:p.text.length=s.length+1+r.length:=by rw[h5];simp;omega
 refine ⟨by rw[h1];exact hP.place,fun x hx=>?_,fun x hx=>?_⟩
 ·rw[h4] at hx
  rcases List.mem_cons.1 hx with rfl | hx
  ·have:=hP.len p hp
   dsimp only;omega
  ·exact hP.len x (by rw[h2];simp [hx])
 ·rw[h4] at hx
  rcases List.mem_cons.1 hx with rfl | hx
  ·refine .inl ⟨h3,fun c hc=>?_⟩
   rcases hP.valid p hp with h | h
   ·exact h.2 c (by rw[h5];simp at hc ⊢;exact .inr (.inr hc))
   ·omega
  ·exact hP.valid x (by rw[h2];simp [hx])
theorem wS {lo hi:Nat}{t t':aG}{s:List UInt8}(h:eZ t=some (s,t')){sub:aD→aL aA}(hs:nJ lo hi sub t.parts):nJ lo hi sub t'.parts:=by
 obtain⟨_,h1,_,p,ps,r,h2,h3,h4,h5⟩:=lZ h;intro x hx hk;rw[h4] at hx
 rcases List.mem_cons.1 hx with rfl | hx
 ·exact absurd (hk.symm.trans h3) (by decide)
 ·exact hs x (by rw[h2];simp [hx]) hk
section
variable {n b:Nat} {ts:List aG}
theorem bZ.form (g:aW n ts) {α:Type}{Q:α→Nat→Prop}(i:Nat):bZ b (b+n) (formA ts b i:aJ α) Q:=by
 have:=g.place i
 unfold formA;exact .err (by split <;> omega) (by omega)
theorem bZ.want (g:aW n ts) {α:Type}{i:Nat}{s:List UInt8}{k:Nat→aJ α}{R:α→Nat→Prop}(hi:i<ts.length)(hk:i+1<ts.length→aI ts (i+1)+2≤aI ts i→bZ b (b+n) (k (i+1)) R):bZ b (b+n) (gM ts b i s k) R:=by
 unfold gM;split
 ·rename_i h
  obtain⟨e1,e2⟩:=zN g hi h;rw[e1];refine hk e2 ?_;have h1:=k9 hi;have h2:=Cy h;unfold eN at h;split at h
  ·rename_i s hs
   obtain⟨p,hp,_⟩:=sI hs;unfold wtT at h1;rw[hp] at h1;have:=pX p
   rw[oP] at h1;omega
  ·cases h
 ·exact .form g i
theorem kH (g:aW n ts){i:Nat}(hi:i<ts.length)(h:(aM ts i).kind≠0):aSk ts i=i+1∧i+1<ts.length∧aI ts i=wtT (aM ts i)+aI ts (i+1)∧1≤wtT (aM ts i):=by
 obtain⟨h1,h2⟩:=sX g hi h;exact⟨h1,h2,k9 hi,by unfold wtT;omega⟩
theorem iX (g:aW n ts){i:Nat}(hi:i<ts.length){ks:List Nat}(h0:0 ∉ ks)(h:aIs ts i ks=true):aSk ts i=i+1∧i+1<ts.length∧aI ts i=wtT (aM ts i)+aI ts (i+1)∧1≤wtT (aM ts i) :=
 kH g hi (fun e=>h0 (e ▸ (m7 _ _ _).1 h))
theorem sV {t:aG}{s:List UInt8}(h:dC t=some s):2≤wtT t:=by
 obtain⟨p,hp,_⟩:=sI h;unfold wtT;have:=pX p
 rw[hp,oP];omega
theorem vN (g:aW n ts){i:Nat}(hi:i<ts.length){l:List (List UInt8)}(h:eN ts i l=true):aSk ts i=i+1∧i+1<ts.length∧aI ts i=wtT (aM ts i)+aI ts (i+1)∧2≤wtT (aM ts i):=by
 obtain⟨h1,h2⟩:=zN g hi h;refine ⟨h1,h2,k9 hi,?_⟩;unfold eN at h;split at h
 ·rename_i s hs
  exact sV hs
 ·cases h
theorem jC {i:Nat}(ks:List Nat)(hi:i<ts.length):i≤fK ts ks i∧fK ts ks i<ts.length∧aI ts (fK ts ks i)≤aI ts i:=by
 obtain⟨h1,h2⟩:=vB ks hi;have:=rem_le h1 (Nat.le_of_lt h2)
 exact⟨h1,h2,by omega⟩
theorem nQ (g:aW n ts){i:Nat}(hi:i<ts.length){aq:Nat→aG→aL aA}(h:dK b (b+n) (aq b (aM ts i)) (jL (aM ts i))) :
  bZ b (b+n) (wordOf aq ts b i) fun l e=>e=i+1∧e<ts.length∧0<l.length∧l.length+5+8 * aI ts e≤8 * aI ts i∧txP l+30000+30000 * aI ts e≤30000 * aI ts i:=by
 unfold wordOf;split
 ·rename_i hk
  obtain⟨e1,e2,e3,e4⟩:=iX g hi (by decide) hk
  rw[e1];refine h.at.mono fun l e ⟨h1,h2⟩=>?_
  subst h2;unfold jL at h1;omega
 ·exact .form g i
theorem rC (g:aW n ts){i:Nat}(hi:i<ts.length)(hk:(aM ts i).kind≠0){x:aL aA}(h:dK b (b+n) x (jL (aM ts i))) :
  bZ b (b+n) (x.at (aSk ts i)) fun l e=>e=i+1∧e<ts.length∧0<l.length∧l.length+5+8 * aI ts e≤8 * aI ts i∧txP l+30000+30000 * aI ts e≤30000 * aI ts i:=by
 obtain⟨e1,e2,e3,e4⟩:=kH g hi hk;rw[e1];refine h.at.mono fun l e ⟨h1,h2⟩=>?_
 subst h2;unfold jL at h1;omega
end
theorem wV:∀ (l:List (Nat×aA))(c:aA),(gH l c).length=dQ l+c.length∧txP (gH l c)=f9 l+txP c
 | [],c=>⟨by simp [gH,dQ],by simp [gH,f9]⟩
 | t :: l,c=>by
  obtain⟨h1,h2⟩:=wV l c;unfold gH at h1 h2 ⊢;rw[List.foldr_cons];split
  ·exact⟨by rw[bN];simp [dQ,h1] at h1 ⊢;omega,by rw[eH];simp [f9,dF,h2] at h2 ⊢;omega⟩
  ·exact⟨by rw[bN];simp [dQ,h1] at h1 ⊢;omega,by rw[eH];simp [f9,dF,h2] at h2 ⊢;omega⟩
structure yT (f:Nat):Prop where
 list:∀ {n ts},aW n ts→∀ b d i,i<ts.length→bZ b (b+n) (cG f ts b d i) fun l e=>i≤e∧e<ts.length∧0<l.length∧l.length+8 * aI ts e≤8 * aI ts i+1∧txP l+30000 * aI ts e≤30000 * aI ts i
 chains:∀ {n ts},aW n ts→∀ b d i L,i<ts.length→(∀ x∈L,0<x.length)→bZ b (b+n) (fQ f ts b d i L) fun l e=>i≤e∧e<ts.length∧0<l.length∧l.length+8 * aI ts e≤L.flatten.length+8 * aI ts i+1∧txP l+30000 * aI ts e≤txP L.flatten+30000 * aI ts i
 chain:∀ {n ts},aW n ts→∀ b d i,i<ts.length→bZ b (b+n) (fJ f ts b d i) fun l e=>i<e∧e<ts.length∧0<l.length∧l.length+8 * aI ts e≤8 * aI ts i∧txP l+30000 * aI ts e≤30000 * aI ts i
 chainR:∀ {n ts},aW n ts→∀ b d i o,i<ts.length→0<o.length→bZ b (b+n) (gJ f ts b d i o) fun l e=>i≤e∧e<ts.length∧0<l.length∧l.length+8 * aI ts e≤o.length+8 * aI ts i∧txP l+30000 * aI ts e≤txP o+30000 * aI ts i
 pipe:∀ {n ts},aW n ts→∀ b d i,i<ts.length→bZ b (b+n) (eD f ts b d i) fun l e=>i<e∧e<ts.length∧0<l.length∧l.length+8 * aI ts e≤8 * aI ts i∧txP l+30000 * aI ts e≤30000 * aI ts i
 pipeR:∀ {n ts},aW n ts→∀ b d i L,i<ts.length→(∀ x∈L,0<x.length)→bZ b (b+n) (eS f ts b d i L) fun l e=>i<e∧e<ts.length∧L.length<l.length∧(∀ x∈l,0<x.length)∧l.flatten.length+l.length+8 * aI ts e≤L.flatten.length+L.length+8 * aI ts i+1∧txP l.flatten+30000 * aI ts e≤txP L.flatten+30000 * aI ts i∧l.length+i≤L.length+e
 command:∀ {n ts},aW n ts→∀ b d i,i<ts.length→bZ b (b+n) (eI f ts b d i) fun l e=>i<e∧e<ts.length∧0<l.length∧l.length+8 * aI ts e≤8 * aI ts i∧txP l+30000 * aI ts e≤30000 * aI ts i
 body:∀ {n ts},aW n ts→∀ b d i s t,i<ts.length→bZ b (b+n) (fM f ts b d i s t) fun l e=>i<e∧e<ts.length∧0<l.length∧l.length+15+8 * aI ts e≤8 * aI ts i∧txP l+30000+30000 * aI ts e≤30000 * aI ts i
 choice:∀ {n ts},aW n ts→∀ b d i,i<ts.length→bZ b (b+n) (iQ f ts b d i) fun l e=>i<e∧e<ts.length∧0<l.length∧l.length+8 * aI ts e≤8 * aI ts i∧txP l+30000 * aI ts e≤30000 * aI ts i
 whl:∀ {n ts},aW n ts→∀ b d i,i<ts.length→bZ b (b+n) (j7 f ts b d i) fun l e=>i<e∧e<ts.length∧0<l.length∧l.length+8 * aI ts e≤8 * aI ts i∧txP l+30000 * aI ts e≤30000 * aI ts i
 each:∀ {n ts},aW n ts→∀ b d i,i<ts.length→(aM ts i).kind≠0→bZ b (b+n) (kB f ts b d i) fun l e=>i<e∧e<ts.length∧0<l.length∧l.length+8 * aI ts e≤8 * aI ts i∧txP l+30000 * aI ts e≤30000 * aI ts i
 fields:∀ {n ts},aW n ts→∀ b d i L,i<ts.length→(∀ x∈L,0<x.length)→bZ b (b+n) (jY f ts b d i L) fun l e=>i≤e∧e<ts.length∧(∀ x∈l,0<x.length)∧l.flatten.length+8 * aI ts e≤L.flatten.length+8 * aI ts i∧txP l.flatten+30000 * aI ts e≤txP L.flatten+30000 * aI ts i∧l.length+i≤L.length+e
 choose:∀ {n ts},aW n ts→∀ b d i,i<ts.length→(aM ts i).kind≠0→bZ b (b+n) (jX f ts b d i) fun l e=>i<e∧e<ts.length∧0<l.length∧l.length+8 * aI ts e≤8 * aI ts i∧txP l+30000 * aI ts e≤30000 * aI ts i
 cases:∀ {n ts},aW n ts→∀ b d i L,i<ts.length→(∀ x∈L,0<x.length)→bZ b (b+n) (j6 f ts b d i L) fun l e=>i<e∧e<ts.length∧(∀ x∈l,0<x.length)∧l.flatten.length+8 * aI ts e≤L.flatten.length+8 * aI ts i∧txP l.flatten+30000 * aI ts e≤txP L.flatten+30000 * aI ts i∧l.length+i≤L.length+e
 function:∀ {n ts},aW n ts→∀ b d i s,i<ts.length→dC (aM ts i)=some s→(aM ts (aSk ts i)).kind=7→bZ b (b+n) (jS f ts b d i s) fun l e=>i<e∧e<ts.length∧0<l.length∧l.length+8 * aI ts e≤8 * aI ts i∧txP l+30000 * aI ts e≤30000 * aI ts i
 turns:∀ {n ts},aW n ts→∀ b d i c L,i<ts.length→0<c.length→bZ b (b+n) (cI f ts b d i c L) fun l e=>i≤e∧e<ts.length∧0<l.length∧l.length+8 * aI ts e≤c.length+dQ L+8 * aI ts i∧txP l+30000 * aI ts e≤txP c+f9 L+30000 * aI ts i
 simple:∀ {n ts},aW n ts→∀ b d i ss ws L,i<ts.length→bZ b (b+n) (cD f ts b d i ss ws L) fun l e=>i≤e∧(ss.length+ws.length+L.length=0→i<e)∧e<ts.length∧0<l.length∧l.length+8 * aI ts e≤cQ ss+ws.flatten.length+dQ L+ss.length+ws.length+L.length+8 * aI ts i∧txP l+30000 * aI ts e≤jZ ss+txP ws.flatten+f9 L+30000 * aI ts i
 sub:∀ (b n d:Nat) (x:aD),x.place+3+x.text.length≤n→x.text.length≤8192→x.kind=4→dK b (b+n) (bD f b d x) fun l=>0<l.length∧l.length+12≤8 * wtP x∧txP l≤30000 * wtP x
theorem yT.subQ {f:Nat}(h:yT f){n:Nat}{ts:List aG}(g:aW n ts)(b d i:Nat):nJ b (b+n) (fun x=>bD f b d x) (aM ts i).parts:=fun x hx hk=>by
 obtain⟨_,h2,h3⟩:=g.part i x hx;exact h.sub b n d x (h3 hk) h2 hk
theorem kI {L:List aA}{c:aA}(hL:∀ x∈L,0<x.length)(hc:0<c.length):∀ x∈L++[c],0<x.length:=fun x hx=>by
 rcases List.mem_append.1 hx with hx | hx
 ·exact hL x hx
 ·rw[List.mem_singleton] at hx;subst hx;exact hc
theorem C3 {L:List aA}(hL:∀ x∈L,0<x.length):0<(eX L).length:=by
 unfold eX;split
 ·simp [aC]
 ·exact hL _ (by simp)
 ·simp [aC]
theorem sK (kind n:Int)(s:List UInt8)(L:List aA):0<(aC kind n s L).length:=by rw[aC];simp
theorem LL (ss:List (List UInt8×aA))(ws:List aA):0<(dT ss ws).length:=by
 unfold dT;split
 ·refine C3 fun x hx=>?_
  obtain⟨y,_,rfl⟩:=List.mem_map.1 hx;exact sK _ _ _ _
 ·cases ss with
  | nil=>exact sK _ _ _ _
  | cons s ss=>exact sK _ _ _ _
theorem kG:∀ f,yT f
 | 0=>by
  constructor <;> intros <;> simp only[cG,fQ,fJ,gJ,eD,eS,eI,fM,iQ,j7,kB,jY,jX,j6,jS,cI,cD,bD] <;> first | exact bZ.none | exact dK.none
 | f+1=>by
  have ih:=kG f;refine ⟨?_,?_,?_,?_,?_,?_,?_,?_,?_,?_,?_,?_,?_,?_,?_,?_,?_,?_⟩
  ·intro n ts g b d i hi;rw[cG];split
   ·have:=g.place i
    exact .err (by omega) (by omega)
   ·exact (ih.chains g _ _ _ [] hi (fun x hx=>by cases hx)).mono fun l e h=>by simpa [e7] using h
  ·intro n ts g b d i L hi hL;rw[fQ];have hp:=jC (ts:=ts) [1,2] hi;split
   ·have:=yS L
    have:=C3 hL
    exact .ok (by omega)
   ·refine (ih.chain g _ _ _ hp.2.1).go fun c e ⟨h1,h2,h0,h3,h4⟩=>(ih.chains g _ _ _ _ h2 (kI hL h0)).mono fun l k ⟨q1,q2,q0,q3,q4⟩=>?_
    rw[fD] at q3 q4;rw[dF] at q4;rw[List.length_append] at q3;omega
  ·intro n ts g b d i hi;rw[fJ];refine (ih.pipe g _ _ _ hi).go fun c e ⟨h1,h2,h0,h3,h4⟩=>(ih.chainR g _ _ _ _ h2 h0).mono fun l k ⟨q1,q2,q0,q3,q4⟩=>?_
   omega
  ·intro n ts g b d i o hi ho;rw[gJ];split
   ·rename_i hk
    obtain⟨e1,e2,e3,e4⟩:=iX g hi (by decide) hk
    rw[e1];have hp:=jC (ts:=ts) [1] e2;refine (ih.pipe g _ _ _ hp.2.1).go fun c e ⟨h1,h2,h0,h3,h4⟩=>(ih.chainR g _ _ _ _ h2 (sK _ _ _ _)).mono fun l k ⟨q1,q2,q0,q3,q4⟩=>?_
    obtain⟨z1,z2⟩:=jF (if aIs ts i [5]=true then 26 else 25) 0 [] o c
    rw[z1] at q3;rw[z2,List.length_nil] at q4;omega
   ·exact .ok (by omega)
  ·intro n ts g b d i hi;rw[eD];obtain⟨j,hj⟩:∃ j,(if eN ts i [[33]]=true then aSk ts i else i)=j:=⟨_,rfl⟩
   have hjj:i≤j∧j<ts.length∧aI ts j≤aI ts i∧(eN ts i [[33]]=true→aI ts j+1≤aI ts i):=by
    rw[← hj];split
    ·rename_i hk
     obtain⟨e1,e2,e3,e4⟩:=vN g hi hk;rw[e1];omega
    ·exact⟨Nat.le_refl _,hi,Nat.le_refl _,fun h=>absurd h ‹_›⟩
   rw[hj];clear hj;obtain⟨j1,j2,j3,j4⟩:=hjj;refine (ih.pipeR g _ _ _ _ j2 (fun x hx=>by cases hx)).go fun l e ⟨h1,h2,h3,h0,h4,h5,h6⟩=>?_
   simp only[List.length_nil,List.flatten_nil,e7] at h3 h4 h5 h6
   have hb:0<(if 1<l.length then aC 32 0 [] l else l.headD []).length∧(if 1<l.length then aC 32 0 [] l else l.headD []).length+8 * aI ts e≤8 * aI ts j∧txP (if 1<l.length then aC 32 0 [] l else l.headD [])+30000 * aI ts e≤30000 * aI ts j:=by
    split
    ·rw[bN,eH];simp only[List.length_nil];omega
    ·have:=sM l
     cases l with
     | nil=>simp at h3
     | cons a l =>
      have:=h0 a (by simp)
      simp only[List.headD_cons] at *;omega
   refine .ok ?_
   by_cases hk:eN ts i [[33]]=true
   ·have:=j4 hk
    rw[if_pos hk];obtain⟨z1,z2⟩:=iJ 27 0 [] (if 1<l.length then aC 32 0 [] l else l.headD [])
    rw[List.length_nil] at z2;omega
   ·rw[if_neg hk];omega
  ·intro n ts g b d i L hi hL;rw[eS];refine (ih.command g _ _ _ hi).go fun c e ⟨h1,h2,h0,h3,h4⟩=>?_
   have hf:(L++[c]).flatten.length=L.flatten.length+c.length∧txP (L++[c]).flatten=txP L.flatten+txP c∧(L++[c]).length=L.length+1:=by
    rw[fD,dF];simp
   have hr:=rem_le (ts:=ts) (Nat.le_of_lt h1) (Nat.le_of_lt h2);split
   ·rename_i hk
    obtain⟨e1,e2,e3,e4⟩:=iX g h2 (by decide) hk
    rw[e1];have hp:=jC (ts:=ts) [1] e2;refine (ih.pipeR g _ _ _ _ hp.2.1 (kI hL h0)).mono fun l k ⟨q1,q2,q3,q0,q4,q5,q6⟩=>⟨by omega,by omega,by omega,q0,by omega,by omega,by omega⟩
   ·exact .ok ⟨by omega,by omega,by omega,kI hL h0,by omega,by omega,by omega⟩
  ·intro n ts g b d i hi;rw[eI]
   have hturn:∀ {x:aJ aA},bZ b (b+n) x (fun l e=>i<e∧e<ts.length∧0<l.length∧l.length+8 * aI ts e≤8 * aI ts i∧txP l+30000 * aI ts e≤30000 * aI ts i)→bZ b (b+n) (x.go fun l j=>cI f ts b d j l []) fun l e=>i<e∧e<ts.length∧0<l.length∧l.length+8 * aI ts e≤8 * aI ts i∧txP l+30000 * aI ts e≤30000 * aI ts i:=fun hx=>hx.go fun c e ⟨h1,h2,h0,h3,h4⟩=>(ih.turns g _ _ _ _ _ h2 h0).mono fun l k ⟨q1,q2,q0,q3,q4⟩=>by
    simp only[dQ,f9,List.map_nil,List.sum_nil] at q3 q4;omega
   have hsim:bZ b (b+n) (cD f ts b d i [] [] []) fun l e=>i<e∧e<ts.length∧0<l.length∧l.length+8 * aI ts e≤8 * aI ts i∧txP l+30000 * aI ts e≤30000 * aI ts i:=(ih.simple g _ _ _ _ _ _ hi).mono fun l e ⟨h1,h2,h3,h0,h4,h5⟩=>by
    simp only[cQ,jZ,dQ,f9,List.map_nil,List.sum_nil,List.flatten_nil,List.length_nil,e7] at h2 h4 h5;have:=h2 trivial
    omega
   split
   ·exact hsim
   ·rename_i s hs
    have hk:=oS hs;have hk0:(aM ts i).kind≠0:=by rw[hk];decide
    obtain⟨e1,e2,e3,_⟩:=kH g hi hk0;have e4:=sV hs;split
    ·split
     ·rename_i hc
      exact ih.function g _ _ _ _ hi hs hc.2
     ·exact hsim
    split
    ·rw[e1];refine (ih.list g _ _ _ e2).go fun c e ⟨h1,h2,h0,h3,h4⟩=>.want g h2 fun w1 w2=>(ih.turns g _ _ _ _ _ w1 h0).mono fun l k ⟨q1,q2,q0,q3,q4⟩=>?_
     simp only[dQ,f9,List.map_nil,List.sum_nil] at q3 q4;omega
    split
    ·exact hturn (ih.choice g _ _ _ hi)
    split
    ·exact hturn (ih.whl g _ _ _ hi)
    split
    ·exact hturn (ih.each g _ _ _ hi hk0)
    split
    ·exact hturn (ih.choose g _ _ _ hi hk0)
    ·exact .form g i
  ·intro n ts g b d i s t hi;rw[fM];refine .want g hi fun w1 w2=>(ih.list g _ _ _ w1).go fun l e ⟨h1,h2,h0,h3,h4⟩=>?_
   split
   ·exact .ok (by omega)
   ·exact .want g h2 fun w3 w4=>.ok (by omega)
  ·intro n ts g b d i hi;rw[iQ];refine (ih.body g _ _ _ _ _ hi).go fun c j ⟨a1,a2,a0,a3,a4⟩=>(ih.body g _ _ _ _ _ a2).go fun y k ⟨b1,b2,b0,b3,b4⟩=>?_
   refine bZ.go (Q:=fun l e=>k≤e∧e<ts.length∧l.length+8 * aI ts e≤8 * aI ts k+1∧txP l+30000 * aI ts e≤30000 * aI ts k) ?_ fun z m ⟨c1,c2,c3,c4⟩=>.want g c2 fun w1 w2=>.ok ?_
   ·split
    ·exact (ih.body g _ _ _ _ _ b2).mono fun l e h=>by omega
    ·exact .ok (by simp [eX,aC,txP];omega)
   ·rw[bN,eH];simp only[List.flatten_cons,List.flatten_nil,List.append_nil,List.length_append,dF,List.length_nil];omega
  ·intro n ts g b d i hi;rw[j7];refine (ih.body g _ _ _ _ _ hi).go fun c j ⟨a1,a2,a0,a3,a4⟩=>(ih.body g _ _ _ _ _ a2).go fun y k ⟨b1,b2,b0,b3,b4⟩=>.ok ?_
   obtain⟨z1,z2⟩:=jF 28 0 [] c y;rw[List.length_nil] at z2;omega
  ·intro n ts g b d i hi h0;rw[kB];obtain⟨e1,e2,e3,e4⟩:=kH g hi h0;rw[e1];split
   ·exact .form g _
   ·rename_i s hs
    split
    ·rename_i hn
     obtain⟨f1,f2,f3,_⟩:=kH g e2 (by rw[oS hs];decide)
     have f4:=sV hs;rw[f1];refine .want g f2 fun w1 w2=>(ih.fields g _ _ _ _ w1 (fun x hx=>by cases hx)).go fun ws j ⟨a1,a2,a0,a3,a4,a5⟩=>?_
     have hp:=jC (ts:=ts) [1,2] a2;refine (ih.body g _ _ _ _ _ hp.2.1).go fun y k ⟨b1,b2,b0,b3,b4⟩=>.ok ?_
     obtain⟨z1,z2⟩:=jF 29 0 s (lW ws) y;have:=yL ws
     have hl:s.length≤8192:=by
      obtain⟨p,hp1,_,hp2⟩:=sI hs;have:=(g.part _ p (by rw[hp1];simp)).2.1
      rw[hp2] at this;exact this
     simp only[List.length_nil,List.flatten_nil,e7] at a3 a4 a5;omega
    ·exact .form g _
  ·intro n ts g b d i L hi hL;rw[jY];split
   ·rename_i hk
    have hk0:(aM ts i).kind≠0:=by
     rw[m7] at hk;simp only[List.mem_singleton] at hk;omega
    refine (rC g hi hk0 (sC (g.parts i) (ih.subQ g b d i))).go fun w j ⟨a1,a2,a0,a3,a4⟩=>(ih.fields g _ _ _ _ a2 (kI hL a0)).mono fun l k ⟨q1,q2,q0,q3,q4,q5⟩=>?_
    rw[fD] at q3 q4;rw[dF] at q4;simp only[List.length_append,List.length_cons,List.length_nil] at q3 q5;exact⟨by omega,by omega,q0,by omega,by omega,by omega⟩
   ·exact .ok ⟨Nat.le_refl _,hi,hL,by omega,by omega,by omega⟩
  ·intro n ts g b d i hi h0;rw[jX];obtain⟨e1,e2,e3,e4⟩:=kH g hi h0;rw[e1];refine (nQ g e2 (l8 (g.parts _) (ih.subQ g b d _))).go fun w j ⟨a1,a2,a0,a3,a4⟩=>?_
   have hp:=jC (ts:=ts) [1] a2;refine .want g hp.2.1 fun w1 w2=>?_
   have hp2:=jC (ts:=ts) [1] w1;refine (ih.cases g _ _ _ _ hp2.2.1 (kI (L:=[]) (fun x hx=>by cases hx) a0)).go fun l k ⟨b1,b2,b0,b3,b4,b5⟩=>.ok ?_
   simp only[List.nil_append,List.flatten_cons,List.flatten_nil,List.append_nil] at b3 b4;rw[bN,eH,List.length_nil];omega
  ·intro n ts g b d i L hi hL;rw[j6];split
   ·rename_i hk
    obtain⟨e1,e2,e3,e4⟩:=vN g hi hk;rw[e1];exact .ok ⟨by omega,by omega,hL,by omega,by omega,by omega⟩
   ·obtain⟨j,hj⟩:∃ j,(if aIs ts i [7]=true then aSk ts i else i)=j:=⟨_,rfl⟩
    have hjj:i≤j∧j<ts.length∧aI ts j≤aI ts i:=by
     rw[← hj];split
     ·rename_i hk
      obtain⟨e1,e2,e3,e4⟩:=iX g hi (by decide) hk
      rw[e1];omega
     ·omega
    rw[hj];refine (nQ g hjj.2.1 (BD (g.parts _) (ih.subQ g b d _))).go fun w k ⟨a1,a2,a0,a3,a4⟩=>?_
    split
    ·rename_i hk
     obtain⟨e1,e2,e3,e4⟩:=iX g a2 (by decide) hk
     rw[e1];refine (ih.list g _ _ _ e2).go fun c e ⟨h1,h2,h0,h3,h4⟩=>?_
     obtain⟨m,hm⟩:∃ m,(if aIs ts e [3]=true then aSk ts e else e)=m:=⟨_,rfl⟩
     have hmm:e≤m∧m<ts.length∧aI ts m≤aI ts e:=by
      rw[← hm];split
      ·rename_i hk
       obtain⟨e1,e2,e3,e4⟩:=iX g h2 (by decide) hk
       rw[e1];omega
      ·omega
     rw[hm];have hp:=jC (ts:=ts) [1] hmm.2.1
     refine (ih.cases g _ _ _ _ hp.2.1 (by
      have:=kI (kI hL a0) h0
      simpa using this)).mono fun l z ⟨q1,q2,q0,q3,q4,q5⟩=>?_
     simp only[List.flatten_append,List.flatten_cons,List.flatten_nil,List.append_nil,List.length_append,dF,List.length_cons,List.length_nil] at q3 q4 q5;exact⟨by omega,by omega,q0,by omega,by omega,by omega⟩
    ·exact .form g _
  ·intro n ts g b d i s hi hs h7;rw[jS];obtain⟨e1,e2,e3,_⟩:=kH g hi (by rw[oS hs];decide)
   have e4:=sV hs;rw[e1] at h7 ⊢;obtain⟨f1,f2,f3,f4⟩:=kH g e2 (by rw[h7];decide)
   rw[f1];split
   ·rename_i hk
    obtain⟨k1,k2,k3,k4⟩:=iX g f2 (by decide) hk
    rw[k1];have hp:=jC (ts:=ts) [1] k2;refine (ih.body g _ _ _ _ _ hp.2.1).go fun l e ⟨h1,h2,h0,h3,h4⟩=>.ok ?_
    obtain⟨z1,z2⟩:=iJ 31 0 s l
    have hl:s.length≤8192:=by
     obtain⟨p,hp1,_,hp2⟩:=sI hs;have:=(g.part _ p (by rw[hp1];simp)).2.1
     rw[hp2] at this;exact this
    omega
   ·exact .form g _
  ·intro n ts g b d i c L hi hc;rw[cI];split
   ·rename_i hk
    obtain⟨e1,e2,e3,e4⟩:=iX g hi (by decide) hk
    rw[e1];refine (nQ g e2 (l8 (g.parts _) (ih.subQ g b d _))).go fun w j ⟨a1,a2,a0,a3,a4⟩=>(ih.turns g _ _ _ _ _ a2 hc).mono fun l k ⟨q1,q2,q0,q3,q4⟩=>?_
    rw[rY] at q3;rw[tR] at q4;dsimp only at q3 q4;omega
   ·have:=wV L c
    exact .ok (by omega)
  ·intro n ts g b d i ss ws L hi;rw[cD];split
   ·rename_i hk
    obtain⟨e1,e2,e3,e4⟩:=iX g hi (by decide) hk
    rw[e1];refine (nQ g e2 (l8 (g.parts _) (ih.subQ g b d _))).go fun w j ⟨a1,a2,a0,a3,a4⟩=>(ih.simple g _ _ _ _ _ _ a2).mono fun l k ⟨q1,q2,q3,q0,q4,q5⟩=>?_
    rw[rY] at q4;rw[tR] at q5;simp only[List.length_append,List.length_cons,List.length_nil] at q4;dsimp only at q4 q5;exact⟨by omega,fun _=>by omega,q3,q0,by omega,by omega⟩
   split
   ·rename_i hk
    have hk0:(aM ts i).kind≠0:=by
     rw[m7] at hk;simp only[List.mem_singleton] at hk;omega
    split
    ·rename_i s t hst
     have hs:eZ (aM ts i)=some (s,t):=by
      split at hst
      ·exact hst
      ·cases hst
     obtain⟨s1,s2,s3,p,ps,r,s4,s5,s6,s7⟩:=lZ hs
     have hl:s.length≤8192:=by
      have:=(g.part i p (by rw[s4];simp)).2.1
      rw[s7] at this;simp only[List.length_append] at this;omega
     refine (rC g hi hk0 ((l8 (qI hs (g.parts i)) (wS hs (ih.subQ g b d i))).mono fun l h=>by unfold jL at h ⊢;rw[s3] at h;exact h)).go fun w j ⟨a1,a2,a0,a3,a4⟩=>(ih.simple g _ _ _ _ _ _ a2).mono fun l k ⟨q1,q2,q3,q0,q4,q5⟩=>?_
     rw[wN] at q4;rw[A9] at q5;simp only[List.length_append,List.length_cons,List.length_nil] at q4;dsimp only at q4 q5;exact⟨by omega,fun _=>by omega,q3,q0,by omega,by omega⟩
    ·refine (rC g hi hk0 (sC (g.parts i) (ih.subQ g b d i))).go fun w j ⟨a1,a2,a0,a3,a4⟩=>(ih.simple g _ _ _ _ _ _ a2).mono fun l k ⟨q1,q2,q3,q0,q4,q5⟩=>?_
     rw[fD] at q4 q5;rw[dF] at q5;simp only[List.length_append,List.length_cons,List.length_nil] at q4;exact⟨by omega,fun _=>by omega,q3,q0,by omega,by omega⟩
   split
   ·exact .form g _
   ·rename_i hn
    have h1:=wV L (dT ss ws);have h2:=vC ss ws;have h3:=LL ss ws;exact .ok ⟨Nat.le_refl _,fun h=>absurd h hn,hi,by omega,by omega,by omega⟩
  ·intro b n d x hx hl hk;rw[bD];split
   ·exact .err (by omega) (by omega)
   ·split
    ·rename_i c p hq
     obtain⟨h1,h2⟩:=Dm _ _ _ _ _ hq;exact .err (by omega) (by omega)
    ·rename_i ts hq
     have g:=qQ x.text hl ts hq;have hpos:=g.pos;have hL:=ih.list g (b+x.place+2) d 0 hpos;have hw:wtP x=3 * x.text.length+3:=by unfold wtP;rw[if_pos hk]
     have hwt:=g.wt;rw[← pI] at hwt;split
     ·exact .none
     ·rename_i e he
      obtain⟨c,p⟩:=e;obtain⟨h1,h2,h3⟩:=hL.2 c p he;exact .err h1 (by omega)
     ·rename_i l i he
      obtain⟨h1,h2,h0,h3,h4⟩:=hL.1 l i he;split
      ·have:=g.place i
       exact .err (by omega) (by omega)
      ·have:=iJ 12 0 [] l
       simp only[List.length_nil] at this;exact .ok (by omega)
section
variable {lo hi n b:Nat} {ts:List aG} {α β:Type}
theorem fH {x:aJ α}{k:α→Nat→aJ β}{Q:α→Nat→Prop}(hx:x≠none)(hp:bZ lo hi x Q)(hk:∀ a e,Q a e→k a e≠none):x.go k≠none:=by
 match x,hx,hp with
 | .none,hx,_=>exact absurd rfl hx
 | some (.error e),_,_=>exact fun h=>by cases h
 | some (.ok (a,e)),_,hp=>exact hk a e (hp.1 a e rfl)
theorem rK {x:aL α}{k:α→aL β}(hx:x≠none)(hk:∀ a,k a≠none):x.go k≠none:=by
 match x,hx with
 | .none,hx=>exact absurd rfl hx
 | some (.error e),_=>exact fun h=>by cases h
 | some (.ok a),_=>exact hk a
theorem vU {x:aL α}{i:Nat}(hx:x≠none):x.at i≠none:=by
 match x,hx with
 | .none,hx=>exact absurd rfl hx
 | some (.error e),_=>exact fun h=>by cases h
 | some (.ok a),_=>exact fun h=>by cases h
theorem kO {a:α}:oOk a≠none:=fun h=>by cases h
theorem vM {c p:Nat}:(mT c p:aL α)≠none:=fun h=>by cases h
theorem jG {a:α}{i:Nat}:pOk a i≠none:=fun h=>by cases h
theorem L1 {c p:Nat}:(kC c p:aJ α)≠none:=fun h=>by cases h
theorem oT {i:Nat}:(formA ts b i:aJ α)≠none:=fun h=>by cases h
theorem qU (g:aW n ts){i:Nat}{s:List UInt8}{k:Nat→aJ β}(hi:i<ts.length)(hk:i+1<ts.length→aI ts (i+1)+2≤aI ts i→k (i+1)≠none):gM ts b i s k≠none:=by
 unfold gM;split
 ·rename_i h
  obtain⟨e1,e2,e3,e4⟩:=vN g hi h;rw[e1];exact hk e2 (by omega)
 ·exact oT
end
def oI (sub:aD→aL aA) (P:List aD):Prop:=∀ x∈P,x.kind=4→sub x≠none
theorem Dg {sub:aD→aL aA}{P:List aD}(hs:oI sub P){x:aD}(hx:x∈P)(hv:jN x)(h1:x.kind≠1)(h2:x.kind≠2):dP sub x≠none:=by
 unfold dP;split
 ·exact kO
 split
 ·exact kO
 split
 ·exact kO
 ·rename_i h3 h5 h6
  exact hs x hx (uI hv h1 h2 h3 h5 h6)
theorem yU {sub:aD→aL aA}{P:List aD}(hs:oI sub P){x:aD}(hx:x∈P)(hv:jN x):eM sub x≠none:=by
 unfold eM;split
 ·exact kO
 ·rename_i h12
  exact rK (Dg hs hx hv (fun e=>h12 (.inl e)) (fun e=>h12 (.inr e))) fun _=>kO
theorem Df {sub bare:aD→aL aA}{P:List aD}(hs:oI sub P){x:aD}(hx:x∈P)(hv:jN x)(hb:x.kind≠1→x.kind≠2→bare x≠none):gU sub bare x≠none:=by
 unfold gU;split
 ·exact kO
 split
 ·exact kO
 split
 ·exact hb (by assumption) (by assumption)
 ·exact rK (yU hs hx hv) fun _=>kO
theorem Dl {tq:aD→aL aA}:∀ (P:List aD),(∀ x∈P,tq x≠none)→gK tq P≠none
 | [],_=>kO
 | x :: P,h=>by
  rw[gK];exact rK (h x (by simp)) fun _=>rK (Dl P fun y hy=>h y (by simp [hy])) fun _=>kO
theorem D4 {b:Nat}{t:aG}{l:aA}:iC b t l≠none:=by
 unfold iC;split
 ·exact vM
 ·exact kO
theorem xZ {tq:aD→aL aA}{b:Nat}{t:aG}(h:∀ x∈t.parts,tq x≠none):gT tq b t≠none:=by
 unfold gT;exact rK (Dl _ h) fun _=>D4
theorem sQ {sub:aD→aL aA}{b n:Nat}{t:aG}(hP:kP n t)(hs:oI sub t.parts):cZ sub b t≠none:=xZ fun x hx=>yU hs hx (hP.valid x hx)
theorem K6 {sub:aD→aL aA}{b n:Nat}{t:aG}(hP:kP n t)(hs:oI sub t.parts):lG sub b t≠none:=by
 unfold lG;split
 ·exact kO
 ·exact xZ fun x hx=>Df hs hx (hP.valid x hx) fun _ _=>yU hs hx (hP.valid x hx)
theorem C0 {sub:aD→aL aA}{b n:Nat}{t:aG}(hP:kP n t)(hs:oI sub t.parts):fS sub b t≠none:=by
 unfold fS;split
 ·exact D4
 split
 ·exact sQ hP hs
 ·exact rK (xZ fun x hx=>Df hs hx (hP.valid x hx) fun h1 h2=>Dg hs hx (hP.valid x hx) h1 h2) fun _=>kO
theorem vO {aq:Nat→aG→aL aA}{ts:List aG}{b i:Nat}(h:aq b (aM ts i)≠none):wordOf aq ts b i≠none:=by
 unfold wordOf;split
 ·exact vU h
 ·exact oT
theorem D9:∀ {P:List aD}{x:aD},x∈P→wtP x≤cA P
 | y :: P,x,h=>by
  rw[oP]
  rcases List.mem_cons.1 h with rfl | h
  ·omega
  ·have:=D9 h
   omega
theorem J4 {t t':aG}{s:List UInt8}(h:eZ t=some (s,t')){sub:aD→aL aA}(hs:oI sub t.parts):oI sub t'.parts:=by
 obtain⟨_,h1,_,p,ps,r,h2,h3,h4,h5⟩:=lZ h;intro x hx hk;rw[h4] at hx
 rcases List.mem_cons.1 hx with rfl | hx
 ·exact absurd (hk.symm.trans h3) (by decide)
 ·exact hs x (by rw[h2];simp [hx]) hk
structure zW (f:Nat):Prop where
 list:∀ {n ts},aW n ts→∀ b d i,i<ts.length→12 * aI ts i+11≤f→cG f ts b d i≠none
 chains:∀ {n ts},aW n ts→∀ b d i L,i<ts.length→(∀ x∈L,0<x.length)→12 * aI ts i+10≤f→fQ f ts b d i L≠none
 chain:∀ {n ts},aW n ts→∀ b d i,i<ts.length→12 * aI ts i+9≤f→fJ f ts b d i≠none
 chainR:∀ {n ts},aW n ts→∀ b d i o,i<ts.length→0<o.length→12 * aI ts i+1≤f→gJ f ts b d i o≠none
 pipe:∀ {n ts},aW n ts→∀ b d i,i<ts.length→12 * aI ts i+8≤f→eD f ts b d i≠none
 pipeR:∀ {n ts},aW n ts→∀ b d i L,i<ts.length→(∀ x∈L,0<x.length)→12 * aI ts i+7≤f→eS f ts b d i L≠none
 command:∀ {n ts},aW n ts→∀ b d i,i<ts.length→12 * aI ts i+6≤f→eI f ts b d i≠none
 body:∀ {n ts},aW n ts→∀ b d i s t,i<ts.length→12 * aI ts i+1≤f→fM f ts b d i s t≠none
 choice:∀ {n ts},aW n ts→∀ b d i,i<ts.length→12 * aI ts i+2≤f→iQ f ts b d i≠none
 whl:∀ {n ts},aW n ts→∀ b d i,i<ts.length→12 * aI ts i+2≤f→j7 f ts b d i≠none
 each:∀ {n ts},aW n ts→∀ b d i,i<ts.length→(aM ts i).kind≠0→12 * aI ts i+2≤f→kB f ts b d i≠none
 fields:∀ {n ts},aW n ts→∀ b d i L,i<ts.length→(∀ x∈L,0<x.length)→12 * aI ts i+1≤f→jY f ts b d i L≠none
 choose:∀ {n ts},aW n ts→∀ b d i,i<ts.length→(aM ts i).kind≠0→12 * aI ts i+2≤f→jX f ts b d i≠none
 cases:∀ {n ts},aW n ts→∀ b d i L,i<ts.length→(∀ x∈L,0<x.length)→12 * aI ts i+2≤f→j6 f ts b d i L≠none
 function:∀ {n ts},aW n ts→∀ b d i s,i<ts.length→dC (aM ts i)=some s→(aM ts (aSk ts i)).kind=7→12 * aI ts i+2≤f→jS f ts b d i s≠none
 turns:∀ {n ts},aW n ts→∀ b d i c L,i<ts.length→0<c.length→12 * aI ts i+1≤f→cI f ts b d i c L≠none
 simple:∀ {n ts},aW n ts→∀ b d i ss ws L,i<ts.length→12 * aI ts i+1≤f→cD f ts b d i ss ws L≠none
 sub:∀ (b d:Nat) (x:aD),x.text.length≤8192→36 * x.text.length+24≤f→bD f b d x≠none
theorem zW.subN {f:Nat}(h:zW f){n:Nat}{ts:List aG}(g:aW n ts)(b d i:Nat)(hf:12 * wtT (aM ts i)≤f):oI (fun x=>bD f b d x) (aM ts i).parts:=fun x hx hk=>by
 obtain⟨_,h2,h3⟩:=g.part i x hx;have h4:=D9 hx;have h5:wtP x=3 * x.text.length+3:=by unfold wtP;rw[if_pos hk]
 unfold wtT at hf;exact h.sub b d x h2 (by omega)
theorem zV:∀ f,zW f
 | 0=>by
  constructor <;> intros <;> omega
 | f+1=>by
  have ih:=zV f;have hP:=kG f;refine ⟨?_,?_,?_,?_,?_,?_,?_,?_,?_,?_,?_,?_,?_,?_,?_,?_,?_,?_⟩
  ·intro n ts g b d i hi hf;rw[cG];split
   ·exact L1
   ·exact ih.chains g _ _ _ [] hi (fun x hx=>by cases hx) (by omega)
  ·intro n ts g b d i L hi hL hf;rw[fQ];have hp:=jC (ts:=ts) [1,2] hi;split
   ·exact jG
   ·exact fH (ih.chain g _ _ _ hp.2.1 (by omega)) (hP.chain g b d _ hp.2.1) fun c e ⟨h1,h2,h0,_⟩=>by
     have hr:=rem_le (ts:=ts) (Nat.le_of_lt h1) (Nat.le_of_lt h2);exact ih.chains g _ _ _ _ h2 (kI hL h0) (by omega)
  ·intro n ts g b d i hi hf;rw[fJ]
   exact fH (ih.pipe g _ _ _ hi (by omega)) (hP.pipe g b d _ hi) fun c e ⟨h1,h2,h0,_⟩=>by
    have hr:=rem_le (ts:=ts) (Nat.le_of_lt h1) (Nat.le_of_lt h2);exact ih.chainR g _ _ _ _ h2 h0 (by omega)
  ·intro n ts g b d i o hi ho hf;rw[gJ];split
   ·rename_i hk
    obtain⟨e1,e2,e3,e4⟩:=iX g hi (by decide) hk
    rw[e1];have hp:=jC (ts:=ts) [1] e2
    exact fH (ih.pipe g _ _ _ hp.2.1 (by omega)) (hP.pipe g b d _ hp.2.1) fun c e ⟨h1,h2,h0,_⟩=>by
     have hr:=rem_le (ts:=ts) (Nat.le_of_lt h1) (Nat.le_of_lt h2);exact ih.chainR g _ _ _ _ h2 (sK _ _ _ _) (by omega)
   ·exact jG
  ·intro n ts g b d i hi hf;rw[eD]
   have hjj:(if eN ts i [[33]]=true then aSk ts i else i)<ts.length∧aI ts (if eN ts i [[33]]=true then aSk ts i else i)≤aI ts i:=by
    split
    ·rename_i hk
     obtain⟨e1,e2,e3,e4⟩:=vN g hi hk;rw[e1];omega
    ·exact⟨hi,Nat.le_refl _⟩
   exact fH (ih.pipeR g _ _ _ _ hjj.1 (fun x hx=>by cases hx) (by omega)) (hP.pipeR g b d _ _ hjj.1 (fun x hx=>by cases hx)) fun _ _ _=>jG
  ·intro n ts g b d i L hi hL hf;rw[eS];refine fH (ih.command g _ _ _ hi (by omega)) (hP.command g b d _ hi) fun c e ⟨h1,h2,h0,_⟩=>?_
   have hr:=rem_le (ts:=ts) (Nat.le_of_lt h1) (Nat.le_of_lt h2);split
   ·rename_i hk
    obtain⟨e1,e2,e3,e4⟩:=iX g h2 (by decide) hk
    rw[e1];have hp:=jC (ts:=ts) [1] e2;exact ih.pipeR g _ _ _ _ hp.2.1 (kI hL h0) (by omega)
   ·exact jG
  ·intro n ts g b d i hi hf;rw[eI]
   have hturn:∀ {x:aJ aA},x≠none→bZ b (b+n) x (fun l e=>i<e∧e<ts.length∧0<l.length∧l.length+8 * aI ts e≤8 * aI ts i∧txP l+30000 * aI ts e≤30000 * aI ts i)→(x.go fun l j=>cI f ts b d j l [])≠none:=fun h1 h2=>fH h1 h2 fun c e ⟨h1,h2,h0,_⟩=>by
    have hr:=rem_le (ts:=ts) (Nat.le_of_lt h1) (Nat.le_of_lt h2);exact ih.turns g _ _ _ _ _ h2 h0 (by omega)
   have hsim:cD f ts b d i [] [] []≠none:=ih.simple g _ _ _ _ _ _ hi (by omega)
   split
   ·exact hsim
   ·rename_i s hs
    have hk:=oS hs;have hk0:(aM ts i).kind≠0:=by rw[hk];decide
    obtain⟨e1,e2,e3,_⟩:=kH g hi hk0;have e4:=sV hs;split
    ·split
     ·rename_i hc
      exact ih.function g _ _ _ _ hi hs hc.2 (by omega)
     ·exact hsim
    split
    ·rw[e1]
     exact fH (ih.list g _ _ _ e2 (by omega)) (hP.list g b d _ e2) fun c e ⟨h1,h2,h0,_⟩=>qU g h2 fun w1 w2=>by
      have hr:=rem_le (ts:=ts) h1 (Nat.le_of_lt h2);exact ih.turns g _ _ _ _ _ w1 h0 (by omega)
    split
    ·exact hturn (ih.choice g _ _ _ hi (by omega)) (hP.choice g b d _ hi)
    split
    ·exact hturn (ih.whl g _ _ _ hi (by omega)) (hP.whl g b d _ hi)
    split
    ·exact hturn (ih.each g _ _ _ hi hk0 (by omega)) (hP.each g b d _ hi hk0)
    split
    ·exact hturn (ih.choose g _ _ _ hi hk0 (by omega)) (hP.choose g b d _ hi hk0)
    ·exact oT
  ·intro n ts g b d i s t hi hf;rw[fM];refine qU g hi fun w1 w2=>fH (ih.list g _ _ _ w1 (by omega)) (hP.list g b d _ w1) fun l e ⟨h1,h2,_⟩=>?_
   split
   ·exact jG
   ·exact qU g h2 fun _ _=>jG
  ·intro n ts g b d i hi hf;rw[iQ];refine fH (ih.body g _ _ _ _ _ hi (by omega)) (hP.body g b d _ _ _ hi) fun c j ⟨a1,a2,_⟩=>?_
   have hr:=rem_le (ts:=ts) (Nat.le_of_lt a1) (Nat.le_of_lt a2);refine fH (ih.body g _ _ _ _ _ a2 (by omega)) (hP.body g b d _ _ _ a2) fun y k ⟨b1,b2,_⟩=>?_
   have hr2:=rem_le (ts:=ts) (Nat.le_of_lt b1) (Nat.le_of_lt b2);refine fH (lo:=b) (hi:=b+n) (Q:=fun l e=>e<ts.length) ?_ ?_ fun z m hm=>qU g hm fun _ _=>jG
   ·split
    ·exact ih.body g _ _ _ _ _ b2 (by omega)
    ·exact jG
   ·split
    ·exact (hP.body g b d _ _ _ b2).mono fun l e h=>h.2.1
    ·exact .ok b2
  ·intro n ts g b d i hi hf;rw[j7];refine fH (ih.body g _ _ _ _ _ hi (by omega)) (hP.body g b d _ _ _ hi) fun c j ⟨a1,a2,_⟩=>?_
   have hr:=rem_le (ts:=ts) (Nat.le_of_lt a1) (Nat.le_of_lt a2);exact fH (ih.body g _ _ _ _ _ a2 (by omega)) (hP.body g b d _ _ _ a2) fun y k _=>jG
  ·intro n ts g b d i hi h0 hf;rw[kB];obtain⟨e1,e2,e3,e4⟩:=kH g hi h0;rw[e1];split
   ·exact oT
   ·rename_i s hs
    split
    ·obtain⟨f1,f2,f3,_⟩:=kH g e2 (by rw[oS hs];decide)
     rw[f1];refine qU g f2 fun w1 w2=>fH (ih.fields g _ _ _ _ w1 (fun x hx=>by cases hx) (by omega)) (hP.fields g b d _ _ w1 (fun x hx=>by cases hx)) fun ws j ⟨a1,a2,_⟩=>?_
     have hr:=rem_le (ts:=ts) a1 (Nat.le_of_lt a2);have hp:=jC (ts:=ts) [1,2] a2;exact fH (ih.body g _ _ _ _ _ hp.2.1 (by omega)) (hP.body g b d _ _ _ hp.2.1) fun _ _ _=>jG
    ·exact oT
  ·intro n ts g b d i L hi hL hf;rw[jY];split
   ·rename_i hk
    have hk0:(aM ts i).kind≠0:=by
     rw[m7] at hk;simp only[List.mem_singleton] at hk;omega
    have hr:=k9 hi;have hs:=ih.subN g b d i (by omega)
    refine fH (vU (C0 (g.parts i) hs)) (rC g hi hk0 (sC (g.parts i) (hP.subQ g b d i))) fun w j ⟨a1,a2,a0,_⟩=>?_
    have hr:=rem_le (ts:=ts) (show i≤j by omega) (Nat.le_of_lt a2)
    exact ih.fields g _ _ _ _ a2 (kI hL a0) (by omega)
   ·exact jG
  ·intro n ts g b d i hi h0 hf;rw[jX];obtain⟨e1,e2,e3,e4⟩:=kH g hi h0;rw[e1];have hr:=k9 e2;refine fH (vO (sQ (g.parts _) (ih.subN g b d (i+1) (by omega)))) (nQ g e2 (l8 (g.parts _) (hP.subQ g b d _))) fun w j ⟨a1,a2,a0,_⟩=>?_
   have hr:=rem_le (ts:=ts) (show i+1≤j by omega) (Nat.le_of_lt a2)
   have hp:=jC (ts:=ts) [1] a2;refine qU g hp.2.1 fun w1 w2=>?_
   have hp2:=jC (ts:=ts) [1] w1;exact fH (ih.cases g _ _ _ _ hp2.2.1 (kI (L:=[]) (fun x hx=>by cases hx) a0) (by omega)) (hP.cases g b d _ _ hp2.2.1 (kI (L:=[]) (fun x hx=>by cases hx) a0)) fun _ _ _=>jG
  ·intro n ts g b d i L hi hL hf;rw[j6];split
   ·exact jG
   ·obtain⟨j,hj⟩:∃ j,(if aIs ts i [7]=true then aSk ts i else i)=j:=⟨_,rfl⟩
    have hjj:i≤j∧j<ts.length∧aI ts j≤aI ts i:=by
     rw[← hj];split
     ·rename_i hk
      obtain⟨e1,e2,e3,e4⟩:=iX g hi (by decide) hk
      rw[e1];omega
     ·omega
    rw[hj];have hr:=k9 hjj.2.1;refine fH (vO (K6 (g.parts _) (ih.subN g b d j (by omega)))) (nQ g hjj.2.1 (BD (g.parts _) (hP.subQ g b d _))) fun w k ⟨a1,a2,a0,_⟩=>?_
    have hr:=rem_le (ts:=ts) (show j≤k by omega) (Nat.le_of_lt a2)
    split
    ·rename_i hk
     obtain⟨e1,e2,e3,e4⟩:=iX g a2 (by decide) hk
     rw[e1];refine fH (ih.list g _ _ _ e2 (by omega)) (hP.list g b d _ e2) fun c e ⟨h1,h2,h0,_⟩=>?_
     have hr:=rem_le (ts:=ts) h1 (Nat.le_of_lt h2);obtain⟨m,hm⟩:∃ m,(if aIs ts e [3]=true then aSk ts e else e)=m:=⟨_,rfl⟩
     have hmm:e≤m∧m<ts.length∧aI ts m≤aI ts e:=by
      rw[← hm];split
      ·rename_i hk
       obtain⟨e1,e2,e3,e4⟩:=iX g h2 (by decide) hk
       rw[e1];omega
      ·omega
     rw[hm];have hp:=jC (ts:=ts) [1] hmm.2.1
     exact ih.cases g _ _ _ _ hp.2.1 (by
      have:=kI (kI hL a0) h0
      simpa using this) (by omega)
    ·exact oT
  ·intro n ts g b d i s hi hs h7 hf;rw[jS];obtain⟨e1,e2,e3,_⟩:=kH g hi (by rw[oS hs];decide)
   rw[e1] at h7 ⊢;obtain⟨f1,f2,f3,f4⟩:=kH g e2 (by rw[h7];decide)
   rw[f1];split
   ·rename_i hk
    obtain⟨k1,k2,k3,k4⟩:=iX g f2 (by decide) hk
    rw[k1];have hp:=jC (ts:=ts) [1] k2;exact fH (ih.body g _ _ _ _ _ hp.2.1 (by omega)) (hP.body g b d _ _ _ hp.2.1) fun _ _ _=>jG
   ·exact oT
  ·intro n ts g b d i c L hi hc hf;rw[cI];split
   ·rename_i hk
    obtain⟨e1,e2,e3,e4⟩:=iX g hi (by decide) hk
    rw[e1];have hr:=k9 e2;refine fH (vO (sQ (g.parts _) (ih.subN g b d (i+1) (by omega)))) (nQ g e2 (l8 (g.parts _) (hP.subQ g b d _))) fun w j ⟨a1,a2,a0,_⟩=>?_
    have hr:=rem_le (ts:=ts) (show i+1≤j by omega) (Nat.le_of_lt a2)
    exact ih.turns g _ _ _ _ _ a2 hc (by omega)
   ·exact jG
  ·intro n ts g b d i ss ws L hi hf;rw[cD];split
   ·rename_i hk
    obtain⟨e1,e2,e3,e4⟩:=iX g hi (by decide) hk
    rw[e1];have hr:=k9 e2;refine fH (vO (sQ (g.parts _) (ih.subN g b d (i+1) (by omega)))) (nQ g e2 (l8 (g.parts _) (hP.subQ g b d _))) fun w j ⟨a1,a2,a0,_⟩=>?_
    have hr:=rem_le (ts:=ts) (show i+1≤j by omega) (Nat.le_of_lt a2)
    exact ih.simple g _ _ _ _ _ _ a2 (by omega)
   split
   ·rename_i hk
    have hk0:(aM ts i).kind≠0:=by
     rw[m7] at hk;simp only[List.mem_singleton] at hk;omega
    have hr:=k9 hi;have hsN:=ih.subN g b d i (by omega)
    split
    ·rename_i s t hst
     have hs:eZ (aM ts i)=some (s,t):=by
      split at hst
      ·exact hst
      ·cases hst
     obtain⟨s1,s2,s3,_⟩:=lZ hs;refine fH (vU (sQ (qI hs (g.parts i)) (J4 hs hsN))) (rC g hi hk0 ((l8 (qI hs (g.parts i)) (wS hs (hP.subQ g b d i))).mono fun l h=>by unfold jL at h ⊢;rw[s3] at h;exact h)) fun w j ⟨a1,a2,a0,_⟩=>?_
     have hr:=rem_le (ts:=ts) (show i≤j by omega) (Nat.le_of_lt a2)
     exact ih.simple g _ _ _ _ _ _ a2 (by omega)
    ·refine fH (vU (C0 (g.parts i) hsN)) (rC g hi hk0 (sC (g.parts i) (hP.subQ g b d i))) fun w j ⟨a1,a2,a0,_⟩=>?_
     have hr:=rem_le (ts:=ts) (show i≤j by omega) (Nat.le_of_lt a2)
     exact ih.simple g _ _ _ _ _ _ a2 (by omega)
   split
   ·exact oT
   ·exact jG
  ·intro b d x hl hf;rw[bD];split
   ·exact vM
   ·split
    ·exact vM
    ·rename_i ts hq
     have g:=qQ x.text hl ts hq;have hwt:=g.wt;rw[← pI] at hwt;have hL:=ih.list g (b+x.place+2) d 0 g.pos (by omega)
     split
     ·contradiction
     ·exact fun h=>by cases h
     ·split
      ·exact vM
      ·exact kO
def okA (k:Int):Bool:=![36,37].contains k
theorem F6 (out:List aA)(x:aA):0<(a8 out x).length:=by
 unfold a8;split
 ·split <;> simp
 ·simp
def VF (w:Bool) (l:aA):Prop:=∃ D,WFP okA 2000 w D l
def VX (w:Bool) (l:aA):Prop:=∃ M D,WFP okA M w D l
theorem VF.x {w:Bool}{l:aA}(h:VF w l):VX w l:=⟨2000,h⟩
theorem Ca:∀ (kids:List aA)(T:Nat→Bool),(∀ j kid,kids[j]?=some kid→VX (T j) kid)→∃ M D,∀ j kid,kids[j]?=some kid→WFP okA M (T j) D kid
 | [],T,_=>⟨0,0,fun j kid h=>by simp at h⟩
 | a :: kids,T,h=>by
  obtain⟨M,D,ha⟩:=h 0 a rfl;obtain⟨N,E,hk⟩:=Ca kids (fun j=>T (j+1)) (fun j kid hj=>h (j+1) kid (by simpa using hj))
  refine ⟨max M N,max D E,fun j kid hj=>?_⟩
  cases j with
  | zero =>
   cases hj
   exact (ha.widen (Nat.le_max_left _ _)).mono (Nat.le_max_left _ _)
  | succ j=>exact ((hk j kid (by simpa using hj)).widen (Nat.le_max_right _ _)).mono (Nat.le_max_right _ _)
theorem Cs:∀ (kids:List aA)(T:Nat→Bool),(∀ j kid,kids[j]?=some kid→VF (T j) kid)→∃ D,∀ j kid,kids[j]?=some kid→WFP okA 2000 (T j) D kid
 | [],T,_=>⟨0,fun j kid h=>by simp at h⟩
 | a :: kids,T,h=>by
  obtain⟨D,ha⟩:=h 0 a rfl;obtain⟨E,hk⟩:=Cs kids (fun j=>T (j+1)) (fun j kid hj=>h (j+1) kid (by simpa using hj))
  refine ⟨max D E,fun j kid hj=>?_⟩
  cases j with
  | zero =>
   cases hj
   exact ha.mono (Nat.le_max_left _ _)
  | succ j=>exact (hk j kid (by simpa using hj)).mono (Nat.le_max_right _ _)
theorem VF.node {w:Bool}{kind n:Int}{s:List UInt8}{kids:List aA}(hk:(lI ⟨kind,n,kids.length,0,s⟩ w&&okA kind)=true)(hf:bU 2000 ⟨kind,n,kids.length,0,s⟩=true)(hc:bL ⟨kind,n,kids.length,0,s⟩=true)
  (hK:∀ (j:Nat) (kid:aA),kids[j]?=some kid→VF (dH kind kids.length j) kid):VF w (aC kind n s kids):=by
 obtain⟨D,hD⟩:=Cs kids (fun j=>dH kind kids.length j) hK
 exact⟨D+1,.node w D kind n s kids hk hf hc hD⟩
theorem VX.node {w:Bool}{kind n:Int}{s:List UInt8}{kids:List aA}(hk:(lI ⟨kind,n,kids.length,0,s⟩ w&&okA kind)=true)(hf:bU s.length ⟨kind,n,kids.length,0,s⟩=true)(hc:bL ⟨kind,n,kids.length,0,s⟩=true)
  (hK:∀ (j:Nat) (kid:aA),kids[j]?=some kid→VX (dH kind kids.length j) kid):VX w (aC kind n s kids):=by
 obtain⟨M,D,hD⟩:=Ca kids (fun j=>dH kind kids.length j) hK
 exact⟨max M s.length,D+1,.node w D kind n s kids hk (wL (Nat.le_max_right _ _) _ hf) hc fun j kid hj=>(hD j kid hj).widen (Nat.le_max_left _ _)⟩
theorem VX.checked {w:Bool}{l:aA}(h:VX w l)(hs:cW l=false):VF w l:=by
 obtain⟨M,D,h⟩:=h;refine ⟨D,h.short fun x hx hk=>?_⟩
 unfold cW at hs;rw[List.any_eq_false] at hs;have:=hs x hx
 simp only[Bool.and_eq_true,decide_eq_true_eq] at this;omega
theorem VX.lit {n:Int}{s:List UInt8}(h:n=0∨n=1∧d9 s=true):VX true (aC 1 n s []) :=
 VX.node (by rfl) (by simpa [bU] using h) (by rfl) fun j kid hj=>by simp at hj
theorem VX.lit_inv {y:bE}(h:VX true [y])(hk:y.kind=1):(y.n=0∨y.n=1∧d9 y.text=true):=by
 obtain⟨M,D,h⟩:=h;generalize hl:[y]=l at h
 cases h with
 | node w D kind n s kids hk' hf hc hK =>
  rw[aC] at hl;obtain⟨rfl,_⟩:=List.cons.inj hl;unfold bU at hf;rw[if_pos hk] at hf;simp only[Bool.and_eq_true,Bool.or_eq_true,decide_eq_true_eq] at hf;exact hf.1
def KI (how:Nat) (x:aA):Prop:=VX true x∧∀ y,x=[y]→y.kind=1→y.n=how
theorem KI.more {how:Nat}{kind n:Int}{s:List UInt8}{kids:List aA}(h:VX true (aC kind n s kids))(hk:kind≠1):KI how (aC kind n s kids) :=
 ⟨h,fun y e hy=>by
  rw[aC] at e;obtain⟨rfl,_⟩:=List.cons.inj e;exact absurd hy hk⟩
theorem KI.lit {how:Nat}{s:List UInt8}(hh:how=0∨how=1∧d9 s=true):KI how (aC 1 how s []) :=
 ⟨VX.lit (hh.elim (fun h=>.inl (by rw[h];rfl)) (fun h=>.inr ⟨by rw[h.1];rfl,h.2⟩)),fun y e _=>by
  rw[aC] at e;obtain⟨rfl,_⟩:=List.cons.inj e;rfl⟩
theorem Ho {how:Nat}(out:List aA)(x:aA)(ho:∀ y∈out,KI how y)(hx:KI how x):∀ y∈a8 out x,KI how y:=by
 have hall:∀ y∈out++[x],KI how y:=fun y hy=>by
  rcases List.mem_append.1 hy with h | h
  ·exact ho y h
  ·rw[List.mem_singleton] at h;exact h ▸ hx
 unfold a8;split
 ·rename_i y z hl
  obtain⟨Q,rfl⟩:=List.getLast?_eq_some_iff.1 hl;split
  ·rename_i hk
   rw[List.dropLast_concat];have hy:=ho [y] (by simp)
   have n1:=hy.2 y rfl hk.1;have n2:=hx.2 z rfl hk.2;have i1:=hy.1.lit_inv hk.1;have i2:=hx.1.lit_inv hk.2;intro a ha
   rcases List.mem_append.1 ha with h | h
   ·exact ho a (by simp [h])
   ·rw[List.mem_singleton] at h;subst h;rw[n2];refine KI.lit ?_;rw[n1] at i1;rw[n2] at i2
    rcases i1 with i1 | i1
    ·exact .inl (by omega)
    ·rcases i2 with i2 | i2
     ·exact .inl (by omega)
     ·exact .inr ⟨by omega,qH _ _ i1.2 i2.2⟩
  ·exact hall
 ·exact hall
theorem DL {how:Nat}:∀ (l out:List aA),(∀ y∈out,KI how y)→(∀ y∈l,KI how y)→(∀ y∈l.foldl a8 out,KI how y)∧(0<out.length+l.length→0<(l.foldl a8 out).length)
 | [],out,ho,_=>⟨ho,fun h=>by simpa using h⟩
 | x :: l,out,ho,hl=>by
  obtain⟨h1,h2⟩:=DL l (a8 out x) (Ho out x ho (hl x (by simp))) (fun y hy=>hl y (by simp [hy]))
  exact⟨h1,fun _=>h2 (by have:=F6 out x;omega)⟩
theorem zK (l:List aA)(h:∀ x∈l,VF false x):VF false (eX l):=by
 unfold eX;split
 ·exact .node (by rfl) (by rfl) (by rfl) fun j kid hj=>by simp at hj
 ·exact h _ (by simp)
 ·rename_i h0 h1
  refine .node (by rfl) (by rfl) ?_ fun j kid hj=>mF h j kid hj
  have:2≤l.length:=by
   match l,h0,h1 with
   | [],h0,_=>exact absurd rfl h0
   | [a],_,h1=>exact absurd rfl (h1 a)
   | a :: b :: l,_,_=>simp
  simp [bL]
  omega
theorem LZ (l:List aA)(h:∀ x∈l,VF true x):VF true (lW l):=by
 unfold lW;split
 ·exact h _ (by simp)
 ·exact .node (by rfl) (by rfl) (by simp [bL]) fun j kid hj=>mF h j kid hj
def tH (l:List (List UInt8×aA)):Prop:=∀ t∈l,bI t.1=true∧VF true t.2
theorem L7 (sets:List (List UInt8×aA))(words:List aA)(hs:tH sets)(hw:∀ x∈words,VF true x):VF false (dT sets words):=by
 unfold dT;split
 ·refine zK _ fun x hx=>?_
  obtain⟨t,ht,rfl⟩:=List.mem_map.1 hx;obtain⟨h1,h2⟩:=hs t ht;exact .node (by rfl) (by simpa [bU,kN] using h1) (by rfl) (gW h2)
 ·rename_i hl
  have h0:VF false (aC 21 0 [] words):=.node (by rfl) (by rfl) (by simp [bL];omega) fun j kid hj=>mF hw j kid hj
  clear hl
  induction sets with
  | nil=>exact h0
  | cons t sets ih =>
   obtain⟨h1,h2⟩:=hs t (by simp)
   rw[List.foldr_cons];exact .node (by rfl) (by simpa [bU,kN] using h1) (by rfl) (j9 h2 (ih fun t ht=>hs t (by simp [ht])))
def tD (l:List aA):Prop:=l.length % 2=1∧∀ (j:Nat) (x:aA),l[j]?=some x→VF (decide (j=0) || decide (j % 2=1)) x
theorem tD.snoc {l:List aA}(h:tD l){a b:aA}(ha:VF true a)(hb:VF false b):tD (l++[a,b]):=by
 obtain⟨h1,h2⟩:=h;refine ⟨by simp only[List.length_append,List.length_cons,List.length_nil];omega,fun j x hj=>?_⟩
 by_cases hlt:j<l.length
 ·exact h2 j x (by rwa [List.getElem?_append_left hlt] at hj)
 ·rw[List.getElem?_append_right (by omega)] at hj
  obtain⟨d,hd⟩:∃ d,j - l.length=d:=⟨_,rfl⟩;rw[hd] at hj
  match d,hd,hj with
  | 0,hd,hj =>
   cases hj
   rw[show (decide (j=0) || decide (j % 2=1))=true by simp;omega]
   exact ha
  | 1,hd,hj =>
   cases hj
   rw[show (decide (j=0) || decide (j % 2=1))=false by simp;omega]
   exact hb
  | d+2,hd,hj=>simp at hj
theorem tH.snoc {l:List (List UInt8×aA)}(h:tH l){n:List UInt8}{w:aA}(hn:bI n=true)(hw:VF true w):tH (l++[(n,w)]):=fun y hy=>by
 rcases List.mem_append.1 hy with h' | h'
 ·exact h y h'
 ·rw[List.mem_singleton] at h';exact h' ▸ ⟨hn,hw⟩
def rD (l:List (Nat×aA)):Prop:=∀ t∈l,(t.1=9∨t.1=10∨t.1=11∨t.1=12)∧VF true t.2
theorem xG:∀ (l:List (Nat×aA))(c:aA),rD l→VF false c→VF false (gH l c)
 | [],c,_,hc=>hc
 | t :: l,c,hl,hc=>by
  have ih:=xG l c (fun t ht=>hl t (by simp [ht])) hc
  obtain⟨h1,h2⟩:=hl t (by simp)
  show VF false (if t.1=12 then aC 34 0 [] [t.2,gH l c] else aC 33 ((t.1:Int) - 8) [] [t.2,gH l c])
  split
  ·exact .node (by rfl) (by rfl) (by rfl) (j9 h2 ih)
  ·refine .node (by rfl) ?_ (by rfl) (j9 h2 ih)
   simp [bU]
   omega
theorem rD.snoc {l:List (Nat×aA)}(h:rD l){k:Nat}{w:aA}(hk:k=9∨k=10∨k=11∨k=12)(hw:VF true w):rD (l++[(k,w)]):=fun y hy=>by
 rcases List.mem_append.1 hy with h' | h'
 ·exact h y h'
 ·rw[List.mem_singleton] at h';exact h' ▸ ⟨hk,hw⟩
theorem AA {ts:List aG}{i:Nat}(h:lM ts i=true):(aM ts i).kind=9∨(aM ts i).kind=10∨(aM ts i).kind=11∨(aM ts i).kind=12:=by
 simpa using (m7 _ _ _).1 h
def OkO {α:Type} (x:aL α) (Q:α→Prop):Prop:=∀ a,x=some (.ok a)→Q a
theorem OkO.ok {α:Type}{Q:α→Prop}{a:α}(h:Q a):OkO (oOk a) Q:=fun _ h'=>by cases h';exact h
theorem OkO.err {α:Type}{Q:α→Prop}{c p:Nat}:OkO (mT c p:aL α) Q:=fun _ h=>by cases h
theorem OkO.none {α:Type}{Q:α→Prop}:OkO (none:aL α) Q:=fun _ h=>by cases h
theorem OkO.mono {α:Type}{x:aL α}{Q R:α→Prop}(h:OkO x Q)(hR:∀ a,Q a→R a):OkO x R:=fun a hx=>hR a (h a hx)
theorem OkO.go {α β:Type}{x:aL α}{k:α→aL β}{Q:α→Prop}{R:β→Prop}(h:OkO x Q)(hk:∀ a,Q a→OkO (k a) R):OkO (x.go k) R:=by
 match x,h with
 | .none,_=>exact .none
 | some (.error e),_=>exact fun _ h'=>by cases h'
 | some (.ok a),h=>exact hk a (h a rfl)
theorem OkO.at {α:Type}{x:aL α}{Q:α→Prop}{i:Nat}(h:OkO x Q):OkP (x.at i) Q:=by
 match x,h with
 | .none,_=>exact .none
 | some (.error e),_=>exact fun _ _ h'=>by cases h'
 | some (.ok a),h=>exact .ok (h a rfl)
theorem OkP.formA {α:Type}{Q:α→Prop}{ts:List aG}{b i:Nat}:OkP (formA ts b i:aJ α) Q:=.err
theorem OkP.want {β:Type}{ts:List aG}{b i:Nat}{s:List UInt8}{k:Nat→aJ β}{R:β→Prop}(hk:∀ e,OkP (k e) R):OkP (gM ts b i s k) R:=by
 unfold gM;split
 ·exact hk _
 ·exact .formA
def oG (sub:aD→aL aA) (P:List aD):Prop:=∀ x∈P,x.kind=4→OkO (sub x) fun l=>∃ m,l=aC 12 0 [] [m]∧VF false m
theorem zT (s:List UInt8)(hs:bI s=true∨s=[42]):VX true (aC 2 0 s []):=VX.node (by rfl) (by simpa [bU] using hs) (by rfl) fun j kid hj=>by simp at hj
theorem yO {sub:aD→aL aA}{P:List aD}(hs:oG sub P){x:aD}(hx:x∈P)(hv:jN x)(h1:x.kind≠1)(h2:x.kind≠2)(how:Nat):OkO (dP sub x) (KI how):=by
 unfold dP;split
 ·rename_i hk
  refine .ok (KI.more (zT _ ?_) (by decide))
  rcases hv with h | h | h | h | h | h
  ·exact absurd h.1 h1
  ·exact absurd h h2
  ·exact h.2
  ·omega
  ·omega
  ·omega
 split
 ·rename_i hk
  have hn:1≤x.num∧x.num≤9:=by
   unfold jN at hv;omega
  exact .ok (KI.more (VX.node (by rfl) (by simp [bU];omega) (by rfl) (gW (zT _ (.inr rfl)))) (by decide))
 split
 ·exact .ok (KI.more (VX.node (by rfl) (by rfl) (by rfl) (gW (zT _ (.inr rfl)))) (by decide))
 ·rename_i h3 h5 h6
  refine (hs x hx (uI hv h1 h2 h3 h5 h6)).mono fun l ⟨m,hl,hm⟩=>?_
  subst hl;exact KI.more (VX.node (by rfl) (by rfl) (by rfl) (gW hm.x)) (by decide)
theorem yK {sub:aD→aL aA}{P:List aD}(hs:oG sub P){x:aD}(hx:x∈P)(hv:jN x):OkO (eM sub x) fun l=>KI 0 l∧(x.kind≠1→x.kind≠2→KI 1 l):=by
 unfold eM;split
 ·rename_i h
  exact .ok ⟨KI.lit (how:=0) (.inl rfl),fun h1 h2=>by omega⟩
 ·rename_i h12
  intro l hl
  cases hi:dP sub x with
  | none=>rw[hi] at hl;cases hl
  | some r =>
   cases r with
   | error e=>rw[hi] at hl;cases hl
   | ok m =>
    rw[hi] at hl
    cases hl
    have h0:=yO hs hx hv (fun e=>h12 (.inl e)) (fun e=>h12 (.inr e)) 0 m hi
    have h1:=yO hs hx hv (fun e=>h12 (.inl e)) (fun e=>h12 (.inr e)) 1 m hi
    split
    ·have:VX true (aC 9 0 [] [m]):=VX.node (by rfl) (by rfl) (by rfl) (gW h0.1)
     exact⟨KI.more this (by decide),fun _ _=>KI.more this (by decide)⟩
    ·exact⟨h0,fun _ _=>h1⟩
theorem wM:∀ (s:List UInt8),(∀ c∈s,c.toNat≠92)→d9 s=true
 | [],_=>rfl
 | [c],h=>by
  have:=h c (by simp)
  simp [d9,bP,this]
 | c :: d :: s,h=>by
  rw[oJ,if_neg (h c (by simp))]
  exact wM (d :: s) fun x hx=>h x (by simp at hx ⊢;exact .inr hx)
theorem Dj {sub bare:aD→aL aA}{P:List aD}(hs:oG sub P){x:aD}(hx:x∈P)(hv:jN x)(hb:x.kind≠1→x.kind≠2→OkO (bare x) (KI 1)):OkO (gU sub bare x) (KI 1):=by
 unfold gU;split
 ·rename_i hk
  refine .ok (KI.lit (how:=1) (.inr ⟨rfl,wM _ fun c hc=>?_⟩))
  rcases hv with h | h
  ·exact h.2 c hc
  ·omega
 split
 ·exact .ok (KI.lit (how:=1) (.inr ⟨rfl,tM _⟩))
 split
 ·exact hb (by assumption) (by assumption)
 ·exact (yK hs hx hv).go fun l hl=>.ok (KI.more (VX.node (by rfl) (by rfl) (by rfl) (gW hl.1.1)) (by decide))
theorem C1 {tq:aD→aL aA}{how:Nat}:∀ (P:List aD),(∀ x∈P,OkO (tq x) (KI how))→OkO (gK tq P) fun l=>∀ y∈l,KI how y
 | [],_=>.ok fun y hy=>by cases hy
 | x :: P,h=>by
  rw[gK];refine (h x (by simp)).go fun n hn=>(C1 P fun y hy=>h y (by simp [hy])).go fun l hl=>.ok fun y hy=>?_
  rcases List.mem_cons.1 hy with rfl | hy
  ·exact hn
  ·exact hl y hy
theorem LA {how:Nat}(l:List aA)(hl:∀ x∈l,KI how x):VX true (dW l):=by
 unfold dW;split
 ·exact (KI.lit (how:=0) (.inl rfl)).1
 ·rename_i a m
  obtain⟨h1,h2⟩:=DL (a :: m) [] (fun _ h=>nomatch h) hl
  have h3:=h2 (by simp)
  generalize (a :: m).foldl a8 []=o at *;have hf:∀ x∈o.filter fW,KI how x:=fun x hx=>h1 x (List.mem_filter.1 hx).1
  split
  ·cases o with
   | nil=>simp at h3
   | cons x o=>exact (h1 x (by simp)).1
  ·rename_i x hx
   exact (hf x (by rw[hx];simp)).1
  ·rename_i h0 h1
   refine VX.node (by rfl) (by rfl) ?_ fun j kid hj=>mF (fun x hx=>(hf x hx).1) j kid hj
   have:0<(o.filter fW).length:=List.length_pos_iff.2 h0
   simp [bL]
   omega
theorem DR {b:Nat}{t:aG}{l:aA}(h:VX true l):OkO (iC b t l) (VF true):=by
 unfold iC;split
 ·exact .err
 ·rename_i hs
  exact .ok (h.checked (by simpa using hs))
theorem yC {tq:aD→aL aA}{how b:Nat}{t:aG}(h:∀ x∈t.parts,OkO (tq x) (KI how)):OkO (gT tq b t) (VF true):=by
 unfold gT;exact (C1 _ h).go fun l hl=>DR (LA l hl)
theorem sO {sub:aD→aL aA}{b n:Nat}{t:aG}(hP:kP n t)(hs:oG sub t.parts):OkO (cZ sub b t) (VF true) :=
 yC (how:=0) fun x hx=>(yK hs hx (hP.valid x hx)).mono fun _ h=>h.1
theorem K7 {sub:aD→aL aA}{b n:Nat}{t:aG}(hP:kP n t)(hs:oG sub t.parts):OkO (lG sub b t) (VF true):=by
 unfold lG;split
 ·exact .ok (VX.checked (KI.lit (how:=1) (.inr ⟨rfl,rfl⟩)).1 (by rfl))
 ·refine yC (how:=1) fun x hx=>Dj hs hx (hP.valid x hx) fun h1 h2=>(yK hs hx (hP.valid x hx)).mono fun _ h=>h.2 h1 h2
theorem AQ:∀ (P:List aD),(∀ p∈P,jN p)→d9 (eT P)=true
 | [],_=>rfl
 | x :: P,h=>by
  have ih:=AQ P fun p hp=>h p (by simp [hp])
  have hx:=h x (by simp)
  unfold eT at ih ⊢;rw[List.flatMap_cons];refine qH _ _ ?_ ih;split
  ·rename_i hk
   refine wM _ fun c hc=>?_
   rcases hx with h | h
   ·exact h.2 c hc
   ·omega
  split
  ·exact tM _
  ·rfl
theorem Dv {sub:aD→aL aA}{b n:Nat}{t:aG}(hP:kP n t)(hs:oG sub t.parts):OkO (fS sub b t) (VF true):=by
 unfold fS;split
 ·exact DR (VX.node (by rfl) (by rfl) (by rfl) (gW (KI.lit (how:=1) (.inr ⟨rfl,AQ _ hP.valid⟩)).1))
 split
 ·exact sO hP hs
 ·refine (yC (how:=1) fun x hx=>Dj hs hx (hP.valid x hx) fun h1 h2=>yO hs hx (hP.valid x hx) h1 h2 1).go fun l hl=>.ok ?_
  exact .node (by rfl) (by rfl) (by rfl) (gW (.node (by rfl) (by rfl) (by rfl) (gW hl)))
theorem vQ {aq:Nat→aG→aL aA}{ts:List aG}{b i:Nat}(h:OkO (aq b (aM ts i)) (VF true)):OkP (wordOf aq ts b i) (VF true):=by
 unfold wordOf;split
 ·exact h.at
 ·exact .formA
structure Ab (f:Nat):Prop where
 list:∀ {n ts},aW n ts→∀ b d i,OkP (cG f ts b d i) (VF false)
 chains:∀ {n ts},aW n ts→∀ b d i L,(∀ x∈L,VF false x)→OkP (fQ f ts b d i L) (VF false)
 chain:∀ {n ts},aW n ts→∀ b d i,OkP (fJ f ts b d i) (VF false)
 chainR:∀ {n ts},aW n ts→∀ b d i o,VF false o→OkP (gJ f ts b d i o) (VF false)
 pipe:∀ {n ts},aW n ts→∀ b d i,OkP (eD f ts b d i) (VF false)
 pipeR:∀ {n ts},aW n ts→∀ b d i L,(∀ x∈L,VF false x)→OkP (eS f ts b d i L) fun l=>(∀ x∈l,VF false x)∧0<l.length
 command:∀ {n ts},aW n ts→∀ b d i,OkP (eI f ts b d i) (VF false)
 body:∀ {n ts},aW n ts→∀ b d i s t,OkP (fM f ts b d i s t) (VF false)
 choice:∀ {n ts},aW n ts→∀ b d i,OkP (iQ f ts b d i) (VF false)
 whl:∀ {n ts},aW n ts→∀ b d i,OkP (j7 f ts b d i) (VF false)
 each:∀ {n ts},aW n ts→∀ b d i,OkP (kB f ts b d i) (VF false)
 fields:∀ {n ts},aW n ts→∀ b d i L,(∀ x∈L,VF true x)→OkP (jY f ts b d i L) fun l=>∀ x∈l,VF true x
 choose:∀ {n ts},aW n ts→∀ b d i,OkP (jX f ts b d i) (VF false)
 cases:∀ {n ts},aW n ts→∀ b d i L,tD L→OkP (j6 f ts b d i L) tD
 function:∀ {n ts},aW n ts→∀ b d i s,bI s=true→OkP (jS f ts b d i s) (VF false)
 turns:∀ {n ts},aW n ts→∀ b d i c L,VF false c→rD L→OkP (cI f ts b d i c L) (VF false)
 simple:∀ {n ts},aW n ts→∀ b d i ss ws L,tH ss→(∀ x∈ws,VF true x)→rD L→OkP (cD f ts b d i ss ws L) (VF false)
 sub:∀ (b d:Nat) (x:aD),x.text.length≤8192→OkO (bD f b d x) fun l=>∃ m,l=aC 12 0 [] [m]∧VF false m
theorem Ab.subV {f:Nat}(h:Ab f){n:Nat}{ts:List aG}(g:aW n ts)(b d i:Nat):oG (fun x=>bD f b d x) (aM ts i).parts:=fun x hx _=>h.sub b d x (g.part i x hx).2.1
theorem KA {t t':aG}{s:List UInt8}(h:eZ t=some (s,t')){sub:aD→aL aA}(hs:oG sub t.parts):oG sub t'.parts:=by
 obtain⟨_,h1,_,p,ps,r,h2,h3,h4,h5⟩:=lZ h;intro x hx hk;rw[h4] at hx
 rcases List.mem_cons.1 hx with rfl | hx
 ·exact absurd (hk.symm.trans h3) (by decide)
 ·exact hs x (by rw[h2];simp [hx]) hk
theorem EA:∀ f,Ab f
 | 0=>by
  constructor <;> intros <;> simp only[cG,fQ,fJ,gJ,eD,eS,eI,fM,iQ,j7,kB,jY,jX,j6,jS,cI,cD,bD] <;> first | exact OkP.none | exact OkO.none
 | f+1=>by
  have ih:=EA f;refine ⟨?_,?_,?_,?_,?_,?_,?_,?_,?_,?_,?_,?_,?_,?_,?_,?_,?_,?_⟩
  ·intro n ts g b d i;rw[cG];split
   ·exact .err
   ·exact ih.chains g _ _ _ _ (fun _ h=>nomatch h)
  ·intro n ts g b d i L hL;rw[fQ];split
   ·exact .ok (zK _ hL)
   ·exact (ih.chain g _ _ _).go fun c e hc=>ih.chains g _ _ _ _ (fP hL hc)
  ·intro n ts g b d i;rw[fJ];exact (ih.pipe g _ _ _).go fun c e hc=>ih.chainR g _ _ _ _ hc
  ·intro n ts g b d i o ho;rw[gJ];split
   ·refine (ih.pipe g _ _ _).go fun c e hc=>ih.chainR g _ _ _ _ ?_
    split
    ·exact .node (by rfl) (by rfl) (by rfl) (j9 ho hc)
    ·exact .node (by rfl) (by rfl) (by rfl) (j9 ho hc)
   ·exact .ok ho
  ·intro n ts g b d i;rw[eD];refine (ih.pipeR g _ _ _ [] (fun _ h=>nomatch h)).go fun l e ⟨hl,hp⟩=>.ok ?_
   have hb:VF false (if 1<l.length then aC 32 0 [] l else l.headD []):=by
    split
    ·exact .node (by rfl) (by rfl) (by simp [bL];omega) fun j kid hj=>mF hl j kid hj
    ·cases l with
     | nil=>simp at hp
     | cons a l=>exact hl a (by simp)
   split
   ·exact .node (by rfl) (by rfl) (by rfl) (gW hb)
   ·exact hb
  ·intro n ts g b d i L hL;rw[eS];refine (ih.command g _ _ _).go fun c e hc=>?_
   split
   ·exact ih.pipeR g _ _ _ _ (fP hL hc)
   ·exact .ok ⟨fP hL hc,by simp⟩
  ·intro n ts g b d i;rw[eI];have hsim:OkP (cD f ts b d i [] [] []) (VF false):=ih.simple g _ _ _ _ _ _ (fun _ h=>nomatch h) (fun _ h=>nomatch h) (fun _ h=>nomatch h)
   have hturn:∀ {x:aJ aA},OkP x (VF false)→OkP (x.go fun l j=>cI f ts b d j l []) (VF false):=fun hx=>hx.go fun c e hc=>ih.turns g _ _ _ _ _ hc (fun _ h=>nomatch h)
   split
   ·exact hsim
   ·split
    ·split
     ·rename_i hc
      exact ih.function g _ _ _ _ hc.1
     ·exact hsim
    split
    ·exact (ih.list g _ _ _).go fun c e hc=>.want fun _=>ih.turns g _ _ _ _ _ hc (fun _ h=>nomatch h)
    split
    ·exact hturn (ih.choice g _ _ _)
    split
    ·exact hturn (ih.whl g _ _ _)
    split
    ·exact hturn (ih.each g _ _ _)
    split
    ·exact hturn (ih.choose g _ _ _)
    ·exact .formA
  ·intro n ts g b d i s t;rw[fM];refine .want fun a=>(ih.list g _ _ _).go fun l e hl=>?_
   split
   ·exact .ok hl
   ·exact .want fun _=>.ok hl
  ·intro n ts g b d i;rw[iQ];refine (ih.body g _ _ _ _ _).go fun c j hc=>(ih.body g _ _ _ _ _).go fun y k hy=>?_
   refine OkP.go (Q:=VF false) ?_ fun z m hz=>.want fun _=>.ok (.node (by rfl) (by rfl) (by rfl) (Ai hc hy hz))
   split
   ·exact ih.body g _ _ _ _ _
   ·exact .ok (zK [] (fun _ h=>nomatch h))
  ·intro n ts g b d i;rw[j7];exact (ih.body g _ _ _ _ _).go fun c j hc=>(ih.body g _ _ _ _ _).go fun y k hy=>.ok (.node (by rfl) (by rfl) (by rfl) (j9 hc hy))
  ·intro n ts g b d i;rw[kB];split
   ·exact .formA
   ·split
    ·rename_i hn
     exact .want fun a=>(ih.fields g _ _ _ [] (fun _ h=>nomatch h)).go fun ws j hw=>(ih.body g _ _ _ _ _).go fun y k hy=>.ok (.node (by rfl) (by simpa [bU,kN] using hn) (by rfl) (j9 (LZ _ hw) hy))
    ·exact .formA
  ·intro n ts g b d i L hL;rw[jY];split
   ·exact (Dv (g.parts i) (ih.subV g b d i)).at.go fun w j hw=>ih.fields g _ _ _ _ (fP hL hw)
   ·exact .ok hL
  ·intro n ts g b d i;rw[jX];refine (vQ (sO (g.parts _) (ih.subV g b d _))).go fun w j hw=>.want fun a=>?_
   refine (ih.cases g _ _ _ _ ⟨rfl,fun j x hj=>?_⟩).go fun l k hl=>.ok ?_
   ·cases j with
    | zero =>
     cases hj
     exact hw
    | succ j=>simp at hj
   ·obtain⟨h1,h2⟩:=hl;refine .node (by rfl) (by rfl) (by simp [bL];omega) fun j kid hj=>?_
    have:=h2 j kid hj
    have hm:((j:Int) % 2=1) ↔ (j % 2=1):=by omega
    rw[show dH 30 l.length j=(decide (j=0) || decide (j % 2=1)) by simp [dH,hm]]
    exact this
  ·intro n ts g b d i L hL;rw[j6];split
   ·exact .ok hL
   ·refine (vQ (K7 (g.parts _) (ih.subV g b d _))).go fun w j hw=>?_
    split
    ·exact (ih.list g _ _ _).go fun c e hc=>ih.cases g _ _ _ _ (hL.snoc hw hc)
    ·exact .formA
  ·intro n ts g b d i s hs;rw[jS];split
   ·exact (ih.body g _ _ _ _ _).go fun l e hl=>.ok (.node (by rfl) (by simpa [bU,kN] using hs) (by rfl) (gW hl))
   ·exact .formA
  ·intro n ts g b d i c L hc hL;rw[cI];split
   ·rename_i hk
    exact (vQ (sO (g.parts _) (ih.subV g b d _))).go fun w j hw=>ih.turns g _ _ _ _ _ hc (hL.snoc (AA hk) hw)
   ·exact .ok (xG _ _ hL hc)
  ·intro n ts g b d i ss ws L hs hw hL;rw[cD];split
   ·rename_i hk
    exact (vQ (sO (g.parts _) (ih.subV g b d _))).go fun w j hw'=>ih.simple g _ _ _ _ _ _ hs hw (hL.snoc (AA hk) hw')
   split
   ·split
    ·rename_i s t hst
     have hset:eZ (aM ts i)=some (s,t):=by
      split at hst
      ·exact hst
      ·cases hst
     exact (sO (qI hset (g.parts i)) (KA hset (ih.subV g b d i))).at.go fun w j hw'=>ih.simple g _ _ _ _ _ _ (hs.snoc (lZ hset).1 hw') hw hL
    ·exact (Dv (g.parts i) (ih.subV g b d i)).at.go fun w j hw'=>ih.simple g _ _ _ _ _ _ hs (fP hw hw') hL
   split
   ·exact .formA
   ·exact .ok (xG _ _ hL (L7 _ _ hs hw))
  ·intro b d x hl;rw[bD];split
   ·exact .err
   ·split
    ·exact .err
    ·rename_i ts hq
     have hL:=ih.list (qQ x.text hl ts hq) (b+x.place+2) d 0;split
     ·exact .none
     ·exact fun _ h=>by cases h
     ·rename_i l i he
      split
      ·exact .err
      ·exact .ok ⟨l,rfl,hL l i he⟩
def nG (L:List UInt8):Except (Nat×Option Nat) aA :=
 match dA L (L.length+1) 0 with
 | .error (c,p)=>.error (c,some p)
 | .ok ts=>match cG (36 * L.length+23) ts 0 0 0 with
  | none=>.error (0,none)
  | some (.error (c,p))=>.error (c,some p)
  | some (.ok (l,i)) =>
   if aIs ts i [0]=false then .error (108,some (aM ts i).place)
   else match dB l with
    | none=>.ok l
    | some (c,p)=>.error (c,if c=102 then some 0 else p)
theorem KV {l:aA}(h:VF false l):dB l=none∨dB l=some (111,none)∨∃ p,dB l=some (102,some p):=by
 unfold dB;split
 ·exact .inr (.inl rfl)
 ·obtain⟨D,h⟩:=h;obtain⟨r,h1,h2,_⟩:=zC h l 0 l.length 1 true [] (3 * l.length) (by simp) (by omega) (fun _=>by omega) (Nat.le_refl _)
  rw[h1]
  rcases h2 with rfl | ⟨p,rfl⟩
  ·exact .inl rfl
  ·exact .inr (.inr ⟨p,rfl⟩)
def LeP {α:Type} (x y:aJ α):Prop:=∀ r,x=some r→y=some r
def LeO {α:Type} (x y:aL α):Prop:=∀ r,x=some r→y=some r
section
variable {α β:Type}
theorem LeP.refl (x:aJ α):LeP x x:=fun _ h=>h
theorem LeP.none (y:aJ α):LeP none y:=fun _ h=>nomatch h
theorem LeO.refl (x:aL α):LeO x x:=fun _ h=>h
theorem LeO.none (y:aL α):LeO none y:=fun _ h=>nomatch h
theorem LeP.go {x y:aJ α}{k k':α→Nat→aJ β}(h:LeP x y)(hk:∀ a e,LeP (k a e) (k' a e)):LeP (x.go k) (y.go k'):=by
 intro r hr
 match x,h with
 | .none,_=>cases hr
 | some (.error e),h=>cases hr;rw[h _ rfl];rfl
 | some (.ok (a,e)),h=>rw[h _ rfl];exact hk a e r hr
theorem LeO.go {x y:aL α}{k k':α→aL β}(h:LeO x y)(hk:∀ a,LeO (k a) (k' a)):LeO (x.go k) (y.go k'):=by
 intro r hr
 match x,h with
 | .none,_=>cases hr
 | some (.error e),h=>cases hr;rw[h _ rfl];rfl
 | some (.ok a),h=>rw[h _ rfl];exact hk a r hr
theorem LeO.at {x y:aL α}(h:LeO x y)(i:Nat):LeP (x.at i) (y.at i):=by
 intro r hr
 match x,h with
 | .none,_=>cases hr
 | some (.error e),h=>cases hr;rw[h _ rfl];rfl
 | some (.ok a),h=>cases hr;rw[h _ rfl];rfl
theorem LeP.ite {c:Prop} [Decidable c] {a a' b b':aJ α}(h1:LeP a a')(h2:LeP b b'):LeP (if c then a else b) (if c then a' else b'):=by
 split
 ·exact h1
 ·exact h2
theorem LeO.ite {c:Prop} [Decidable c] {a a' b b':aL α}(h1:LeO a a')(h2:LeO b b'):LeO (if c then a else b) (if c then a' else b'):=by
 split
 ·exact h1
 ·exact h2
theorem LeP.want {ts:List aG}{b i:Nat}{s:List UInt8}{k k':Nat→aJ α}(h:∀ e,LeP (k e) (k' e)):LeP (gM ts b i s k) (gM ts b i s k'):=LeP.ite (h _) (LeP.refl _)
end
section
variable {sub sub':aD→aL aA} (h:∀ x,LeO (sub x) (sub' x))
include h
theorem Dp (x:aD):LeO (dP sub x) (dP sub' x):=LeO.ite (LeO.refl _) (LeO.ite (LeO.refl _) (LeO.ite (LeO.refl _) (h x)))
theorem yQ (x:aD):LeO (eM sub x) (eM sub' x):=LeO.ite (LeO.refl _) (LeO.go (Dp h x) fun _=>LeO.refl _)
theorem C2 {bare bare':aD→aL aA}(hb:∀ x,LeO (bare x) (bare' x))(x:aD):LeO (gU sub bare x) (gU sub' bare' x):=LeO.ite (LeO.refl _) (LeO.ite (LeO.refl _) (LeO.ite (hb x) (LeO.go (yQ h x) fun _=>LeO.refl _)))
theorem Dc:∀ (P:List aD),LeO (gK sub P) (gK sub' P)
 | []=>LeO.refl _
 | x :: P=>LeO.go (h x) fun _=>LeO.go (Dc P) fun _=>LeO.refl _
theorem x7 (b:Nat)(t:aG):LeO (gT sub b t) (gT sub' b t):=LeO.go (Dc h t.parts) fun _=>LeO.refl _
omit h in
theorem CW (h:∀ x,LeO (sub x) (sub' x))(b:Nat)(t:aG):LeO (cZ sub b t) (cZ sub' b t):=x7 (yQ h) b t
theorem LO (b:Nat)(t:aG):LeO (lG sub b t) (lG sub' b t):=LeO.ite (LeO.refl _) (x7 (C2 h (yQ h)) b t)
theorem KY (b:Nat)(t:aG):LeO (fS sub b t) (fS sub' b t):=LeO.ite (LeO.refl _) (LeO.ite (CW h b t) (LeO.go (x7 (C2 h (Dp h)) b t) fun _=>LeO.refl _))
end
structure M3 (f:Nat):Prop where
 list:∀ ts b d i,LeP (cG f ts b d i) (cG (f+1) ts b d i)
 chains:∀ ts b d i l,LeP (fQ f ts b d i l) (fQ (f+1) ts b d i l)
 chain:∀ ts b d i,LeP (fJ f ts b d i) (fJ (f+1) ts b d i)
 chainR:∀ ts b d i o,LeP (gJ f ts b d i o) (gJ (f+1) ts b d i o)
 pipe:∀ ts b d i,LeP (eD f ts b d i) (eD (f+1) ts b d i)
 pipeR:∀ ts b d i l,LeP (eS f ts b d i l) (eS (f+1) ts b d i l)
 command:∀ ts b d i,LeP (eI f ts b d i) (eI (f+1) ts b d i)
 body:∀ ts b d i s t,LeP (fM f ts b d i s t) (fM (f+1) ts b d i s t)
 choice:∀ ts b d i,LeP (iQ f ts b d i) (iQ (f+1) ts b d i)
 whl:∀ ts b d i,LeP (j7 f ts b d i) (j7 (f+1) ts b d i)
 each:∀ ts b d i,LeP (kB f ts b d i) (kB (f+1) ts b d i)
 fields:∀ ts b d i l,LeP (jY f ts b d i l) (jY (f+1) ts b d i l)
 choose:∀ ts b d i,LeP (jX f ts b d i) (jX (f+1) ts b d i)
 cases:∀ ts b d i l,LeP (j6 f ts b d i l) (j6 (f+1) ts b d i l)
 function:∀ ts b d i s,LeP (jS f ts b d i s) (jS (f+1) ts b d i s)
 turns:∀ ts b d i c l,LeP (cI f ts b d i c l) (cI (f+1) ts b d i c l)
 simple:∀ ts b d i ss ws l,LeP (cD f ts b d i ss ws l) (cD (f+1) ts b d i ss ws l)
 sub:∀ b d x,LeO (bD f b d x) (bD (f+1) b d x)
theorem Ev:∀ f,M3 f
 | 0=>by
  constructor <;> intros <;> intro r h <;> simp only[cG,fQ,fJ,gJ,eD,eS,eI,fM,iQ,j7,kB,jY,jX,j6,jS,cI,cD,bD] at h <;> cases h
 | f+1=>by
  have ih:=Ev f;have hv:∀ d b t,LeO (cZ (fun x=>bD f b d x) b t) (cZ (fun x=>bD (f+1) b d x) b t):=fun d b t=>CW (fun x=>ih.sub b d x) b t
  have hf:∀ d b t,LeO (fS (fun x=>bD f b d x) b t) (fS (fun x=>bD (f+1) b d x) b t):=fun d b t=>KY (fun x=>ih.sub b d x) b t
  have hl:∀ d b t,LeO (lG (fun x=>bD f b d x) b t) (lG (fun x=>bD (f+1) b d x) b t):=fun d b t=>LO (fun x=>ih.sub b d x) b t
  have hwv:∀ d ts b i,LeP (wordOf (cZ (fun x=>bD f b d x)) ts b i) (wordOf (cZ (fun x=>bD (f+1) b d x)) ts b i):=fun d ts b i=>LeP.ite ((hv d b _).at _) (LeP.refl _)
  have hwl:∀ d ts b i,LeP (wordOf (lG (fun x=>bD f b d x)) ts b i) (wordOf (lG (fun x=>bD (f+1) b d x)) ts b i):=fun d ts b i=>LeP.ite ((hl d b _).at _) (LeP.refl _)
  refine ⟨?_,?_,?_,?_,?_,?_,?_,?_,?_,?_,?_,?_,?_,?_,?_,?_,?_,?_⟩
  ·intro ts b d i;rw[cG,cG];exact .ite (.refl _) (ih.chains _ _ _ _ _)
  ·intro ts b d i l;rw[fQ,fQ];exact .ite (.refl _) (.go (ih.chain _ _ _ _) fun _ _=>ih.chains _ _ _ _ _)
  ·intro ts b d i;rw[fJ,fJ];exact .go (ih.pipe _ _ _ _) fun _ _=>ih.chainR _ _ _ _ _
  ·intro ts b d i o;rw[gJ,gJ];exact .ite (.go (ih.pipe _ _ _ _) fun _ _=>ih.chainR _ _ _ _ _) (.refl _)
  ·intro ts b d i;rw[eD,eD];exact .go (ih.pipeR _ _ _ _ _) fun _ _=>.refl _
  ·intro ts b d i l;rw[eS,eS];exact .go (ih.command _ _ _ _) fun _ _=>.ite (ih.pipeR _ _ _ _ _) (.refl _)
  ·intro ts b d i;rw[eI,eI];generalize dC (aM ts i)=o
   cases o with
   | none=>exact ih.simple _ _ _ _ _ _ _
   | some s =>
    exact .ite (.ite (ih.function _ _ _ _ _) (ih.simple _ _ _ _ _ _ _)) (.ite (.go (ih.list _ _ _ _) fun _ _=>.want fun _=>ih.turns _ _ _ _ _ _) (.ite (.go (ih.choice _ _ _ _) fun _ _=>ih.turns _ _ _ _ _ _)
     (.ite (.go (ih.whl _ _ _ _) fun _ _=>ih.turns _ _ _ _ _ _) (.ite (.go (ih.each _ _ _ _) fun _ _=>ih.turns _ _ _ _ _ _) (.ite (.go (ih.choose _ _ _ _) fun _ _=>ih.turns _ _ _ _ _ _) (.refl _))))))
  ·intro ts b d i s t;rw[fM,fM];exact .want fun _=>.go (ih.list _ _ _ _) fun _ _=>.refl _
  ·intro ts b d i;rw[iQ,iQ];exact .go (ih.body _ _ _ _ _ _) fun _ _=>.go (ih.body _ _ _ _ _ _) fun _ _=>.go (.ite (ih.body _ _ _ _ _ _) (.refl _)) fun _ _=>.refl _
  ·intro ts b d i;rw[j7,j7];exact .go (ih.body _ _ _ _ _ _) fun _ _=>.go (ih.body _ _ _ _ _ _) fun _ _=>.refl _
  ·intro ts b d i;rw[kB,kB];generalize dC (aM ts (aSk ts i))=o
   cases o with
   | none=>exact .refl _
   | some s=>exact .ite (.want fun _=>.go (ih.fields _ _ _ _ _) fun _ _=>.go (ih.body _ _ _ _ _ _) fun _ _=>.refl _) (.refl _)
  ·intro ts b d i l;rw[jY,jY];exact .ite (.go ((hf d b _).at _) fun _ _=>ih.fields _ _ _ _ _) (.refl _)
  ·intro ts b d i;rw[jX,jX];exact .go (hwv _ _ _ _) fun _ _=>.want fun _=>.go (ih.cases _ _ _ _ _) fun _ _=>.refl _
  ·intro ts b d i l;rw[j6,j6];exact .ite (.refl _) (.go (hwl _ _ _ _) fun _ _=>.ite (.go (ih.list _ _ _ _) fun _ _=>ih.cases _ _ _ _ _) (.refl _))
  ·intro ts b d i s;rw[jS,jS];exact .ite (.go (ih.body _ _ _ _ _ _) fun _ _=>.refl _) (.refl _)
  ·intro ts b d i c l;rw[cI,cI];exact .ite (.go (hwv _ _ _ _) fun _ _=>ih.turns _ _ _ _ _ _) (.refl _)
  ·intro ts b d i ss ws l;rw[cD,cD];refine .ite (.go (hwv _ _ _ _) fun _ _=>ih.simple _ _ _ _ _ _ _) (.ite ?_ (.refl _))
   generalize (if ws.length=0 then eZ (aM ts i) else none)=o
   cases o with
   | none=>exact .go ((hf d b _).at _) fun _ _=>ih.simple _ _ _ _ _ _ _
   | some y=>exact .go ((hv d b _).at _) fun _ _=>ih.simple _ _ _ _ _ _ _
  ·intro b d x;rw[bD,bD];refine .ite (.refl _) ?_
   cases dA x.text (x.text.length+1) 0 with
   | error e=>exact .refl _
   | ok ts =>
    intro r hr;have h:=ih.list ts (b+x.place+2) d 0;dsimp only at hr ⊢
    cases hq:cG f ts (b+x.place+2) d 0 with
    | none=>rw[hq] at hr;cases hr
    | some q =>
     rw[h q hq];rw[hq] at hr;exact hr
theorem LeP.le {α:Type}{fn:Nat→aJ α}(h:∀ f,LeP (fn f) (fn (f+1))){f g:Nat}(hf:f≤g):LeP (fn f) (fn g):=by
 obtain⟨k,rfl⟩:=Nat.exists_eq_add_of_le hf
 induction k with
 | zero=>exact .refl _
 | succ k ih=>exact fun r hr=>h (f+k) r (ih (by omega) r hr)
end Go.Proofs.YtbpjobmpacjgcaaGreatDoor
