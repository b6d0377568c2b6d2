/- Dialect A's parser, as plain functions on lists of tokens. No program stands in it. -/
import Derived.Test.YtnombfbpmmmoeaaGreatDoorGPureAG
import Derived.Test.YtnombfbpmmmoeaaGreatDoorGParseG
namespace Go.Proofs.YtnombfbpmmmoeaaGreatDoor
set_option maxHeartbeats 8000000
open Go Go.RowKit
def yO:List (List UInt8):=[[105,102],[116,104,101,110],[101,108,115,101],[102,105],[119,104,105,108,101],[100,111],[100,111,110,101],[102,111,114],[105,110],[99,97,115,101],[101,115,97,99],[123],[125],[33]]
def lA (s:List UInt8):Bool:=yO.contains s
def aM (ts:List aF) (i:Nat):aF:=ts.getD i ⟨0,0,[]⟩
def aIs (ts:List aF) (i:Nat) (ks:List Nat):Bool:=ks.contains (aM ts i).kind
def aSk (ts:List aF) (i:Nat):Nat:=min (i+1) (ts.length - 1)
def kY (ts:List aF) (ks:List Nat):Nat→Nat→Nat
 | 0,i=>i
 | f+1,i=>if aIs ts i ks=true then kY ts ks f (aSk ts i) else i
def e7 (ts:List aF) (ks:List Nat) (i:Nat):Nat:=kY ts ks ts.length i
def dT (t:aF):Option (List UInt8):=if t.kind=13 then (match t.parts with | [p]=>if p.kind=1 then some p.text else none | _=>none) else none
def eD (ts:List aF) (i:Nat) (l:List (List UInt8)):Bool:=match dT (aM ts i) with | some s=>l.contains s | none=>false
abbrev aL (α:Type):=Option (Except (Nat×Nat) α)
def oOk {α:Type} (a:α):aL α:=some (.ok a)
def lV {α:Type} (c p:Nat):aL α:=some (.error (c,p))
def aL.go {α β:Type} (x:aL α) (k:α→aL β):aL β :=
 match x with
 | none=>none
 | some (.error e)=>some (.error e)
 | some (.ok a)=>k a
def aL.at {α:Type} (x:aL α) (i:Nat):aJ α :=
 match x with
 | none=>none
 | some (.error e)=>some (.error e)
 | some (.ok a)=>some (.ok (a,i))
def formA {α:Type} (ts:List aF) (b i:Nat):aJ α:=jR (if aIs ts i [0]=true then 109 else 108) (b+(aM ts i).place)
def gL {α:Type} (ts:List aF) (b i:Nat) (s:List UInt8) (k:Nat→aJ α):aJ α:=if eD ts i [s]=true then k (aSk ts i) else formA ts b i
def kV (ts:List aF) (i:Nat):Bool:=aIs ts i [9,10,11,12]
def oX (ts:List aF) (i:Nat):Bool:=aIs ts i [0,8,3] || eD ts i [[116,104,101,110],[101,108,115,101],[102,105],[100,111],[100,111,110,101],[101,115,97,99],[125]]
def fI (x:aA):Bool:=!fH x || decide ((x.headD ⟨0,0,0,0,[]⟩).text≠[])
def dK (l:List aA):aA :=
 match l with
 | []=>a8 []
 | _ :: _=>match (l.foldl aY []).filter fI with
  | []=>(l.foldl aY []).headD []
  | [x]=>x
  | f=>aE 4 0 [] f
def nV:aA:=aE 2 0 [42] []
def dB (sub:aC→aL aA) (x:aC):aL aA :=
 if x.kind=3 then oOk (aE 2 0 x.text [])
 else if x.kind=5 then oOk (aE 11 x.num [] [nV])
 else if x.kind=6 then oOk (aE 10 0 [] [nV])
 else sub x
def d9 (sub:aC→aL aA) (x:aC):aL aA :=
 if x.kind=1∨x.kind=2 then oOk (a8 x.text)
 else (dB sub x).go fun l=>oOk (if x.kind=3∨x.kind=5 then aE 9 0 [] [l] else l)
def gH (sub bare:aC→aL aA) (x:aC):aL aA :=
 if x.kind=1 then oOk (aE 1 1 x.text [])
 else if x.kind=2 then oOk (aE 1 1 (b8 x.text) [])
 else if x.quoted=false then bare x
 else (d9 sub x).go fun l=>oOk (aE 8 0 [] [l])
def fX (tq:aC→aL aA):List aC→aL (List aA)
 | []=>oOk []
 | x :: xs=>(tq x).go fun n=>(fX tq xs).go fun l=>oOk (n :: l)
def gS (b:Nat) (t:aF) (l:aA):aL aA:=if cM l=true then lV 101 (b+t.place) else oOk l
def gE (tq:aC→aL aA) (b:Nat) (t:aF):aL aA:=(fX tq t.parts).go fun l=>gS b t (dK l)
def cS (sub:aC→aL aA) (b:Nat) (t:aF):aL aA:=gE (d9 sub) b t
def kQ (sub:aC→aL aA) (b:Nat) (t:aF):aL aA:=if t.parts=[] then oOk (aE 1 1 [] []) else gE (gH sub (d9 sub)) b t
def eG (P:List aC):List UInt8:=P.flatMap fun x=>if x.kind=1 then x.text else if x.kind=2 then b8 x.text else []
def jG (P:List aC):Bool:=P.any fun x=>decide (x.kind≠1)&&decide (x.kind≠2)
def lS (P:List aC):Bool:=P.any fun x=>decide (x.kind≠1)&&decide (x.kind≠2)&&!x.quoted
def mH (P:List aC):Bool:=P.any fun x=>decide (x.kind=1)&&x.text.any fun c=>[42,63,91].contains c.toNat
def fE (sub:aC→aL aA) (b:Nat) (t:aF):aL aA :=
 if jG t.parts=false∧mZ (eG t.parts)=true then gS b t (aE 6 0 [] [aE 1 1 (eG t.parts) []])
 else if jG t.parts=false∨(lS t.parts=false∧mH t.parts=false) then cS sub b t
 else (gE (gH sub (dB sub)) b t).go fun l=>oOk (aE 6 0 [] [aE 5 0 [] [l]])
def wordOf (aq:Nat→aF→aL aA) (ts:List aF) (b i:Nat):aJ aA:=if aIs ts i [13]=true then (aq b (aM ts i)).at (aSk ts i) else formA ts b i
def eM (t:aF):Option (List UInt8×aF) :=
 match t.parts with
 | []=>none
 | p :: ps=>if p.kind=1 then (match cH 61 p.text with
   | some n=>if bF (p.text.take n)=true then some (p.text.take n,{ t with parts:={ p with text:=p.text.drop (n+1) } :: ps }) else none
   | none=>none) else none
def gN (l:List (Nat×aA)) (c:aA):aA :=
 l.foldr (fun t c=>if t.1=12 then aE 34 0 [] [t.2,c] else aE 33 ((t.1:Int) - 8) [] [t.2,c]) c
mutual
def cD:Nat→List aF→Nat→Nat→Nat→aJ aA
 | 0,_,_,_,_=>none
 | f+1,ts,b,d,i=>if 30<d+1 then jR 102 (b+(aM ts i).place) else fA f ts b (d+1) i []
def fA:Nat→List aF→Nat→Nat→Nat→List aA→aJ aA
 | 0,_,_,_,_,_=>none
 | f+1,ts,b,d,i,l =>
  if oX ts (e7 ts [1,2] i)=true∨(0<l.length∧e7 ts [1,2] i=i) then pOk (eH l) (e7 ts [1,2] i)
  else (eX f ts b d (e7 ts [1,2] i)).go fun c e=>fA f ts b d e (l++[c])
def eX:Nat→List aF→Nat→Nat→Nat→aJ aA
 | 0,_,_,_,_=>none
 | f+1,ts,b,d,i=>(eB f ts b d i).go fun out j=>fW f ts b d j out
def fW:Nat→List aF→Nat→Nat→Nat→aA→aJ aA
 | 0,_,_,_,_,_=>none
 | f+1,ts,b,d,i,out =>
  if aIs ts i [4,5]=true then
   (eB f ts b d (e7 ts [1] (aSk ts i))).go fun next j=>fW f ts b d j (aE (if aIs ts i [5]=true then 26 else 25) 0 [] [out,next])
  else pOk out i
def eB:Nat→List aF→Nat→Nat→Nat→aJ aA
 | 0,_,_,_,_=>none
 | f+1,ts,b,d,i=>(fF f ts b d (if eD ts i [[33]]=true then aSk ts i else i) []).go fun l j =>
   pOk (if eD ts i [[33]]=true then aE 27 0 [] [if 1<l.length then aE 32 0 [] l else l.headD []] else (if 1<l.length then aE 32 0 [] l else l.headD [])) j
def fF:Nat→List aF→Nat→Nat→Nat→List aA→aJ (List aA)
 | 0,_,_,_,_,_=>none
 | f+1,ts,b,d,i,l=>(eT f ts b d i).go fun c j =>
   if aIs ts j [6]=true then fF f ts b d (e7 ts [1] (aSk ts j)) (l++[c]) else pOk (l++[c]) j
def eT:Nat→List aF→Nat→Nat→Nat→aJ aA
 | 0,_,_,_,_=>none
 | f+1,ts,b,d,i =>
  match dT (aM ts i) with
  | none=>cA f ts b d i [] [] []
  | some s =>
   if lA s=false then (if bF s=true∧(aM ts (aSk ts i)).kind=7 then jA f ts b d i s else cA f ts b d i [] [] [])
   else if s=[123] then (cD f ts b d (aSk ts i)).go fun l j=>gL ts b j [125] fun e=>cO f ts b d e l []
   else if s=[105,102] then (iA f ts b d i).go fun l j=>cO f ts b d j l []
   else if s=[119,104,105,108,101] then (jL f ts b d i).go fun l j=>cO f ts b d j l []
   else if s=[102,111,114] then (jO f ts b d i).go fun l j=>cO f ts b d j l []
   else if s=[99,97,115,101] then (jH f ts b d i).go fun l j=>cO f ts b d j l []
   else formA ts b i
def eZ:Nat→List aF→Nat→Nat→Nat→List UInt8→List UInt8→aJ aA
 | 0,_,_,_,_,_,_=>none
 | f+1,ts,b,d,i,s,t=>gL ts b i s fun a=>(cD f ts b d a).go fun l j=>if t=[] then pOk l j else gL ts b j t fun e=>pOk l e
def iA:Nat→List aF→Nat→Nat→Nat→aJ aA
 | 0,_,_,_,_=>none
 | f+1,ts,b,d,i=>(eZ f ts b d i [105,102] []).go fun c j=>(eZ f ts b d j [116,104,101,110] []).go fun yes k =>
   (if eD ts k [[101,108,115,101]]=true then eZ f ts b d k [101,108,115,101] [] else pOk (eH []) k).go fun no e =>
    gL ts b e [102,105] fun g=>pOk (aE 24 0 [] [c,yes,no]) g
def jL:Nat→List aF→Nat→Nat→Nat→aJ aA
 | 0,_,_,_,_=>none
 | f+1,ts,b,d,i=>(eZ f ts b d i [119,104,105,108,101] []).go fun c j=>(eZ f ts b d j [100,111] [100,111,110,101]).go fun l e=>pOk (aE 28 0 [] [c,l]) e
def jO:Nat→List aF→Nat→Nat→Nat→aJ aA
 | 0,_,_,_,_=>none
 | f+1,ts,b,d,i =>
  match dT (aM ts (aSk ts i)) with
  | none=>formA ts b (aSk ts i)
  | some s=>if bF s=true then
    gL ts b (aSk ts (aSk ts i)) [105,110] fun a=>(jI f ts b d a []).go fun ws j =>
     (eZ f ts b d (e7 ts [1,2] j) [100,111] [100,111,110,101]).go fun l e=>pOk (aE 29 0 s [lC ws,l]) e
   else formA ts b (aSk ts i)
def jI:Nat→List aF→Nat→Nat→Nat→List aA→aJ (List aA)
 | 0,_,_,_,_,_=>none
 | f+1,ts,b,d,i,l =>
  if aIs ts i [13]=true then ((fE (fun x=>bA f b d x) b (aM ts i)).at (aSk ts i)).go fun w j=>jI f ts b d j (l++[w]) else pOk l i
def jH:Nat→List aF→Nat→Nat→Nat→aJ aA
 | 0,_,_,_,_=>none
 | f+1,ts,b,d,i=>(wordOf (cS (fun x=>bA f b d x)) ts b (aSk ts i)).go fun w j =>
   gL ts b (e7 ts [1] j) [105,110] fun a=>(jK f ts b d (e7 ts [1] a) [w]).go fun l e=>pOk (aE 30 0 [] l) e
def jK:Nat→List aF→Nat→Nat→Nat→List aA→aJ (List aA)
 | 0,_,_,_,_,_=>none
 | f+1,ts,b,d,i,l =>
  if eD ts i [[101,115,97,99]]=true then pOk l (aSk ts i)
  else (wordOf (kQ (fun x=>bA f b d x)) ts b (if aIs ts i [7]=true then aSk ts i else i)).go fun w j =>
   if aIs ts j [8]=true then (cD f ts b d (aSk ts j)).go fun c e=>jK f ts b d (e7 ts [1] (if aIs ts e [3]=true then aSk ts e else e)) (l++[w,c])
   else formA ts b j
def jA:Nat→List aF→Nat→Nat→Nat→List UInt8→aJ aA
 | 0,_,_,_,_,_=>none
 | f+1,ts,b,d,i,s =>
  if aIs ts (aSk ts (aSk ts i)) [8]=true then
   (eZ f ts b d (e7 ts [1] (aSk ts (aSk ts (aSk ts i)))) [123] [125]).go fun l e=>pOk (aE 31 0 s [l]) e
  else formA ts b (aSk ts (aSk ts i))
def cO:Nat→List aF→Nat→Nat→Nat→aA→List (Nat×aA)→aJ aA
 | 0,_,_,_,_,_,_=>none
 | f+1,ts,b,d,i,c,l =>
  if kV ts i=true then (wordOf (cS (fun x=>bA f b d x)) ts b (aSk ts i)).go fun w j=>cO f ts b d j c (l++[((aM ts i).kind,w)])
  else pOk (gN l c) i
def cA:Nat→List aF→Nat→Nat→Nat→List (List UInt8×aA)→List aA→List (Nat×aA)→aJ aA
 | 0,_,_,_,_,_,_,_=>none
 | f+1,ts,b,d,i,ss,ws,l =>
  if kV ts i=true then (wordOf (cS (fun x=>bA f b d x)) ts b (aSk ts i)).go fun w j=>cA f ts b d j ss ws (l++[((aM ts i).kind,w)])
  else if aIs ts i [13]=true then
   match (if ws.length=0 then eM (aM ts i) else none) with
   | some (n,t)=>((cS (fun x=>bA f b d x) b t).at (aSk ts i)).go fun w j=>cA f ts b d j (ss++[(n,w)]) ws l
   | none=>((fE (fun x=>bA f b d x) b (aM ts i)).at (aSk ts i)).go fun w j=>cA f ts b d j ss (ws++[w]) l
  else if ss.length+ws.length+l.length=0 then formA ts b i
  else pOk (gN l (dH ss ws)) i
def bA:Nat→Nat→Nat→aC→aL aA
 | 0,_,_,_=>none
 | f+1,b,d,x =>
  if 30<d+1 then lV 102 (b+x.place)
  else match cN x.text (x.text.length+1) 0 with
   | .error (c,p)=>lV c (b+x.place+2+p)
   | .ok ts=>match cD f ts (b+x.place+2) d 0 with
    | none=>none
    | some (.error e)=>some (.error e)
    | some (.ok (l,i))=>if aIs ts i [0]=false then lV 108 (b+x.place+2+(aM ts i).place) else oOk (aE 12 0 [] [l])
end
def wtP (x:aC):Nat:=if x.kind=4 then 3 * x.text.length+3 else 1
def bU (P:List aC):Nat:=(P.map wtP).sum
def wtT (t:aF):Nat:=1+bU t.parts
def mL (ts:List aF):Nat:=(ts.map wtT).sum
def aI (ts:List aF) (i:Nat):Nat:=mL (ts.drop i)
theorem nY (ts:List aF):aI ts 0=mL ts:=rfl
theorem p7 {ts:List aF}{i:Nat}(h:i<ts.length):aM ts i=ts[i]:=by
 unfold aM;rw[List.getD_eq_getElem?_getD,List.getElem?_eq_getElem h];rfl
theorem CZ {ts:List aF}{i:Nat}(h:ts.length≤i):aM ts i=⟨0,0,[]⟩:=by
 unfold aM;rw[List.getD_eq_getElem?_getD,List.getElem?_eq_none h];rfl
theorem kJ {ts:List aF}{i:Nat}(h:i<ts.length):aI ts i=wtT (aM ts i)+aI ts (i+1):=by
 unfold aI mL;rw[List.drop_eq_getElem_cons h,List.map_cons,List.sum_cons,p7 h]
theorem oI (x:aC):1≤wtP x:=by
 unfold wtP;split <;> omega
theorem nF (x:aC)(P:List aC):bU (x :: P)=wtP x+bU P:=by simp [bU]
theorem i8 (P:List aC)(x:aC):bU (P++[x])=bU P+wtP x:=by simp [bU]
theorem Jr:bU []=0:=rfl
theorem pN:∀ (P:List aC),P.length≤bU P
 | []=>Nat.le_refl _
 | x :: P=>by
  have:=pN P
  have:=oI x
  rw[nF,List.length_cons];omega
theorem CP {ts:List aF}:∀ (k i:Nat),aI ts (i+k)+(if i+k≤ts.length then k else 0)≤aI ts i
 | 0,i=>by rw[Nat.add_zero];split <;> omega
 | k+1,i=>by
  have ih:=CP (ts:=ts) k i
  by_cases h:i+k<ts.length
  ·have:=kJ h
   unfold wtT at this;rw[show i+(k+1)=i+k+1 from rfl,if_pos (by omega)]
   rw[if_pos (by omega)] at ih
   omega
  ·rw[if_neg (by omega)]
   have:aI ts (i+(k+1))=0:=by
    unfold aI;rw[List.drop_eq_nil_iff.2 (by omega)]
    rfl
   omega
theorem rem_le {ts:List aF}{i e:Nat}(h:i≤e)(he:e≤ts.length):aI ts e+(e - i)≤aI ts i:=by
 obtain⟨k,rfl⟩:=Nat.exists_eq_add_of_le h;have:=CP (ts:=ts) k i
 rw[if_pos (by omega)] at this
 omega
structure aU (n:Nat) (ts:List aF):Prop where
 pos:0<ts.length
 last:(aM ts (ts.length - 1)).kind=0
 place:∀ i,(aM ts i).place≤n
 part:∀ i,∀ p∈(aM ts i).parts,p.place≤n∧p.text.length≤8192∧(p.kind=4→p.place+3+p.text.length≤n)
 wt:mL ts≤3 * n+1
 valid:∀ i,uK (aM ts i)
 small:n≤8192
theorem mC (ts:List aF)(i:Nat)(ks:List Nat):aIs ts i ks=true ↔ (aM ts i).kind∈ks:=by
 unfold aIs;exact List.contains_iff_mem
theorem rV {n:Nat}{ts:List aF}(g:aU n ts){i:Nat}(hi:i<ts.length)(h:(aM ts i).kind≠0):aSk ts i=i+1∧i+1<ts.length:=by
 have:i≠ts.length - 1:=fun e=>h (e ▸ g.last)
 unfold aSk;omega
theorem pX {ts:List aF}{i:Nat}(hi:i<ts.length):i≤aSk ts i∧aSk ts i<ts.length:=by
 unfold aSk;omega
theorem BI {ts:List aF}(ks:List Nat):∀ (f:Nat){i:Nat},i<ts.length→i≤kY ts ks f i∧kY ts ks f i<ts.length
 | 0,i,h=>⟨Nat.le_refl _,h⟩
 | f+1,i,h=>by
  rw[kY];split
  ·have h1:=pX h;have h2:=BI ks f h1.2;omega
  ·exact⟨Nat.le_refl _,h⟩
theorem tP {ts:List aF}(ks:List Nat){i:Nat}(h:i<ts.length):i≤e7 ts ks i∧e7 ts ks i<ts.length:=BI ks _ h
theorem tQ {n:Nat}{ts:List aF}(g:aU n ts){i:Nat}(hi:i<ts.length){ks:List Nat}(h0:0 ∉ ks)(h:aIs ts i ks=true):aSk ts i=i+1∧i+1<ts.length :=
 rV g hi (fun e=>h0 (e ▸ (mC _ _ _).1 h))
theorem nG {t:aF}{s:List UInt8}(h:dT t=some s):t.kind=13:=by
 unfold dT at h;split at h
 ·assumption
 ·cases h
theorem qY {t:aF}{s:List UInt8}(h:dT t=some s):∃ p,t.parts=[p]∧p.kind=1∧p.text=s:=by
 unfold dT at h;split at h
 ·split at h
  ·rename_i p hp
   split at h
   ·cases h
    exact⟨p,hp,by assumption,rfl⟩
   ·cases h
  ·cases h
 ·cases h
theorem BK {ts:List aF}{i:Nat}{l:List (List UInt8)}(h:eD ts i l=true):(aM ts i).kind=13:=by
 unfold eD at h;split at h
 ·rename_i s hs
  exact nG hs
 ·cases h
theorem xJ {n:Nat}{ts:List aF}(g:aU n ts){i:Nat}(hi:i<ts.length){l:List (List UInt8)}(h:eD ts i l=true):aSk ts i=i+1∧i+1<ts.length :=
 rV g hi (by rw[BK h];decide)
theorem tL (P:List aC)(j:Bool)(kind i:Nat)(s:List UInt8)(hk:kind≠4):bU (bO P j kind i s)≤bU P+1:=by
 have h1:wtP ⟨kind,i,0,false,s⟩=1:=by unfold wtP;rw[if_neg hk]
 unfold bO;split
 ·rename_i q hq
  obtain⟨Q,rfl⟩:=List.getLast?_eq_some_iff.1 hq;split
  ·rename_i h
   rw[List.dropLast_concat,i8,i8];have e1:wtP { q with text:=q.text++s }=1:=by unfold wtP;rw[if_neg (by rw[h.2];exact hk)]
   omega
  ·rw[i8,h1];omega
 ·rw[i8,h1];omega
theorem Bz (L:List UInt8)(q:Bool)(i:Nat)(P:List aC)(j:Bool)(i':Nat)(P':List aC)(j':Bool)(_hi:i<L.length)(h:eO L q i P j = .ok (i',P',j')) :
  i<i'∧bU P'+2≤bU P+3 * (i' - i):=by
 have one:∀ k a c b s,k≠4→wtP ⟨k,a,c,b,s⟩=1:=fun k a c b s hk=>by unfold wtP;rw[if_neg hk]
 unfold eO at h;simp only[] at h;split at h
 ·split at h
  ·cases h
   rw[i8,one _ _ _ _ _ (by decide)]
   omega
  ·cases h
 split at h
 ·split at h
  ·cases h
  ·split at h
   ·cases h
    rw[i8,one _ _ _ _ _ (by decide)]
    omega
   ·cases h
 split at h
 ·cases h
  rw[i8,one _ _ _ _ _ (by decide)]
  omega
 split at h
 ·cases h
  rw[i8,one _ _ _ _ _ (by decide)]
  omega
 split at h
 ·cases h
  rw[i8,one _ _ _ _ _ (by decide)]
  omega
 split at h
 ·split at h
  ·cases h
  ·rename_i t ht
   cases h
   have h1:=gV _ _ _ _ _ _ ht;have h2:=l8 L (i+2) t;have h3:wtP ⟨4,i,0,q,aX L (i+2) t⟩=3 * (aX L (i+2) t).length+3:=rfl;rw[i8];simp only[Int.natCast_add,Int.cast_ofNat_Int] at h2 h3 ⊢;rw[h3];omega
 ·cases h
  have:=tL P j (if q then 2 else 1) i [36] (by split <;> decide)
  omega
theorem Im (L:List UInt8)(b:Nat):∀ (f i:Nat)(P:List aC)(j:Bool)(i':Nat)(P':List aC)(j':Bool),dF L b f i P j = .ok (i',P',j')→i<i'∧bU P'≤bU P+3 * (i' - i):=by
 intro f
 induction f with
 | zero=>intro i P j i' P' j' h;cases h
 | succ f ih =>
  intro i P j i' P' j' h;simp only[dF] at h;split at h
  ·cases h
  rename_i hlt
  split at h
  ·cases h
   omega
  split at h
  ·have h1:=ih _ _ _ _ _ _ h;have h2:=tL P j 2 i (if [36,34,92].contains (L.getD (i+1) 0).toNat then [L.getD (i+1) 0] else [L.getD i 0,L.getD (i+1) 0]) (by decide)
   omega
  split at h
  ·split at h
   ·cases h
   ·rename_i i2 P2 j2 hd
    have h1:=Bz L true i P j i2 P2 j2 (by omega) hd
    have h2:=ih _ _ _ _ _ _ h;omega
  ·have h1:=ih _ _ _ _ _ _ h;have h2:=tL P j 2 i [L.getD i 0] (by decide)
   omega
theorem vO (L:List UInt8)(q:Bool)(i:Nat)(P:List aC)(j:Bool)(i':Nat)(P':List aC)(j':Bool)(hi:i<L.length)(h:eO L q i P j = .ok (i',P',j')):i'≤L.length:=by
 unfold eO at h;simp only[] at h;split at h
 ·split at h
  ·cases h
   have:=qR (L.drop (i+1))
   rw[List.length_drop] at this;omega
  ·cases h
 split at h
 ·have hb:=kN L (i+1) (by omega)
  split at h
  ·cases h
  ·rename_i n hn
   have:=kM _ _ _ hn
   rw[List.length_drop] at this;split at h
   ·cases h
    omega
   ·cases h
 split at h
 ·have hb:=kN L (i+1) (by omega)
  cases h
  omega
 split at h
 ·have hb:=kN L (i+1) (by omega)
  cases h
  omega
 split at h
 ·have hb:=kN L (i+1) (by omega)
  cases h
  omega
 split at h
 ·split at h
  ·cases h
  ·rename_i t ht
   cases h
   have:=gV _ _ _ _ _ _ ht
   omega
 ·cases h
  omega
theorem AA (L:List UInt8)(b:Nat):∀ (f i:Nat)(P:List aC)(j:Bool)(i':Nat)(P':List aC)(j':Bool),i≤L.length→dF L b f i P j = .ok (i',P',j')→i'≤L.length:=by
 intro f
 induction f with
 | zero=>intro i P j i' P' j' _ h;cases h
 | succ f ih =>
  intro i P j i' P' j' hi h;simp only[dF] at h;split at h
  ·cases h
  rename_i hlt
  split at h
  ·cases h
   omega
  split at h
  ·exact ih _ _ _ _ _ _ (by omega) h
  split at h
  ·split at h
   ·cases h
   ·rename_i i2 P2 j2 hd
    exact ih _ _ _ _ _ _ (vO L true i P j i2 P2 j2 (by omega) hd) h
  ·exact ih _ _ _ _ _ _ (by omega) h
theorem KS (L:List UInt8):∀ (f i:Nat)(P:List aC)(j:Bool)(i':Nat)(P':List aC),i≤L.length→bK L f i P j = .ok (i',P')→i≤i'∧bU P'≤bU P+3 * (i' - i)∧(i<i'→bU P'+1≤bU P+3 * (i' - i)):=by
 intro f
 induction f with
 | zero=>intro i P j i' P' hi h;cases h;omega
 | succ f ih =>
  intro i P j i' P' hi h;have one:∀ k a c b s,k≠4→wtP ⟨k,a,c,b,s⟩=1:=fun k a c b s hk=>by unfold wtP;rw[if_neg hk]
  rw[bK] at h;split at h
  ·cases h
   omega
  rename_i hlt
  split at h
  ·cases h
   omega
  split at h
  ·have h1:=ih _ _ _ _ _ (Nat.min_le_right _ _) h;rw[i8,one _ _ _ _ _ (by decide)] at h1
   have:i+1≤min (i+2) L.length:=by omega
   omega
  split at h
  ·split at h
   ·cases h
   ·rename_i m hm
    have hl:=kM _ _ _ hm;rw[List.length_drop] at hl;have h1:=ih _ _ _ _ _ (by omega) h
    rw[i8,one _ _ _ _ _ (by decide)] at h1
    omega
  split at h
  ·split at h
   ·cases h
   ·rename_i i2 P2 j2 hd
    have h0:=Im _ _ _ _ _ _ _ _ _ hd;have h3:=AA _ _ _ _ _ _ _ _ _ (by omega) hd
    have h1:=ih _ _ _ _ _ h3 h;rw[i8,one _ _ _ _ _ (by decide)] at h0
    omega
  split at h
  ·split at h
   ·cases h
   ·rename_i i2 P2 j2 hd
    have h0:=Bz L false i P j i2 P2 j2 (by omega) hd
    have h3:=vO L false i P j i2 P2 j2 (by omega) hd
    have h1:=ih _ _ _ _ _ h3 h;omega
  ·have h1:=ih _ _ _ _ _ (by omega) h
   have h2:=tL P j 1 i [L.getD i 0] (by decide)
   omega
def i6 (n:Nat) (P:List aC):Prop:=∀ p∈P,p.kind=4→p.place+3+p.text.length≤n
theorem i6.snoc {n:Nat}{P:List aC}(h:i6 n P)(x:aC)(hx:x.kind=4→x.place+3+x.text.length≤n):i6 n (P++[x]):=fun p hp=>by
 rcases List.mem_append.1 hp with hp | hp
 ·exact h p hp
 ·rw[List.mem_singleton] at hp;subst hp;exact hx
theorem i6.bytes {n:Nat}{P:List aC}(h:i6 n P)(j:Bool)(kind i:Nat)(s:List UInt8)(hk:kind≠4):i6 n (bO P j kind i s):=by
 unfold bO;split
 ·rename_i q hq
  obtain⟨Q,rfl⟩:=List.getLast?_eq_some_iff.1 hq;split
  ·rename_i hc
   rw[List.dropLast_concat];exact i6.snoc (fun p hp=>h p (by simp [hp])) _ (fun e=>absurd (hc.2.symm.trans e) hk)
  ·exact h.snoc _ (fun e=>absurd e hk)
 ·exact h.snoc _ (fun e=>absurd e hk)
theorem zS (L:List UInt8)(q:Bool)(i:Nat)(P:List aC)(j:Bool)(i':Nat)(P':List aC)(j':Bool)(hP:i6 L.length P)(h:eO L q i P j = .ok (i',P',j')):i6 L.length P':=by
 unfold eO at h;simp only[] at h;split at h
 ·split at h
  ·cases h
   exact hP.snoc _ (fun e=>by cases e)
  ·cases h
 split at h
 ·split at h
  ·cases h
  ·split at h
   ·cases h
    exact hP.snoc _ (fun e=>by cases e)
   ·cases h
 split at h
 ·cases h
  exact hP.snoc _ (fun e=>by cases e)
 split at h
 ·cases h
  exact hP.snoc _ (fun e=>by cases e)
 split at h
 ·cases h
  exact hP.snoc _ (fun e=>by cases e)
 split at h
 ·split at h
  ·cases h
  ·rename_i t ht
   cases h
   have h1:=gV _ _ _ _ _ _ ht;have h2:=l8 L (i+2) t;refine hP.snoc _ (fun _=>?_)
   simp only[Int.natCast_add,Int.cast_ofNat_Int] at h2 ⊢;omega
 ·cases h
  exact hP.bytes _ _ _ _ (by split <;> decide)
theorem Fc (L:List UInt8)(b:Nat):∀ (f i:Nat)(P:List aC)(j:Bool)(i':Nat)(P':List aC)(j':Bool),i6 L.length P→dF L b f i P j = .ok (i',P',j')→i6 L.length P':=by
 intro f
 induction f with
 | zero=>intro i P j i' P' j' _ h;cases h
 | succ f ih =>
  intro i P j i' P' j' hP h;simp only[dF] at h;split at h
  ·cases h
  split at h
  ·cases h
   exact hP
  split at h
  ·exact ih _ _ _ _ _ _ (hP.bytes _ _ _ _ (by decide)) h
  split at h
  ·split at h
   ·cases h
   ·rename_i i2 P2 j2 hd
    exact ih _ _ _ _ _ _ (zS L true i P j i2 P2 j2 hP hd) h
  ·exact ih _ _ _ _ _ _ (hP.bytes _ _ _ _ (by decide)) h
theorem Ku (L:List UInt8):∀ (f i:Nat)(P:List aC)(j:Bool)(i':Nat)(P':List aC),cR P i→i6 L.length P→i≤L.length→bK L f i P j = .ok (i',P')→cR P' i'∧i6 L.length P'∧i'≤L.length:=by
 intro f
 induction f with
 | zero=>intro i P j i' P' h1 h2 hi h;cases h;exact⟨h1,h2,hi⟩
 | succ f ih =>
  intro i P j i' P' h1 h2 hi h;rw[bK] at h;split at h
  ·cases h
   exact⟨h1,h2,hi⟩
  rename_i hlt
  split at h
  ·cases h
   exact⟨h1,h2,hi⟩
  split at h
  ·refine ih _ _ _ _ _ (h1.part _ ?_ (by omega)) (h2.snoc _ (fun e=>by cases e)) (Nat.min_le_right _ _) h
   dsimp only;split <;> simp only[List.length_cons,List.length_nil] <;> omega
  split at h
  ·split at h
   ·cases h
   ·rename_i m hm
    have hl:=kM _ _ _ hm;rw[List.length_drop] at hl;have:=l8 L (i+1) (i+1+m)
    refine ih _ _ _ _ _ (h1.part _ ?_ (by omega)) (h2.snoc _ (fun e=>by cases e)) (by omega) h
    dsimp only;simp only[Int.natCast_add,Int.cast_ofNat_Int] at *;omega
  split at h
  ·split at h
   ·cases h
   ·rename_i i2 P2 j2 hd
    have h3:=zF L i _ _ _ _ _ _ _ (h1.part ⟨2,i,0,false,[]⟩ (by simp) (by omega)) (by omega) hd
    exact ih _ _ _ _ _ h3.1 (Fc L i _ _ _ _ _ _ _ (h2.snoc _ (fun e=>by cases e)) hd) h3.2.2 h
  split at h
  ·split at h
   ·cases h
   ·rename_i i2 P2 j2 hd
    have h3:=r8 L false i P j i2 P2 j2 (by omega) h1 hd
    exact ih _ _ _ _ _ h3.1 (zS L false i P j i2 P2 j2 h2 hd) h3.2.2 h
  ·exact ih _ _ _ _ _ (h1.bytes _ _ _ _ (by simp) (by omega)) (h2.bytes _ _ _ _ (by decide)) (by omega) h
theorem Jm (L:List UInt8)(i:Nat)(t:aF)(n:Nat)(hi:i≤L.length)(h:fP L i = .ok (t,n)):wtT t≤3 * (n - i)+1∧(t.kind≠0→i<n→wtT t≤3 * (n - i))∧(∀ p∈t.parts,p.text.length≤L.length)∧i6 L.length t.parts∧t.place≤L.length:=by
 unfold fP at h;split at h
 ·cases h
  exact⟨by simp [wtT,bU],fun e=>absurd rfl e,fun p hp=>by simp at hp,fun p hp=>by simp at hp,hi⟩
 ·rename_i hlt
  simp only[] at h;split at h
  ·cases h
   exact⟨by simp [wtT,bU],fun _ h=>by simp [wtT,bU];omega,fun p hp=>by simp at hp,fun p hp=>by simp at hp,hi⟩
  split at h
  ·cases h
  split at h
  ·cases h
  ·rename_i k P hw
   cases h
   have h1:=KS L _ _ _ _ _ _ hi hw;have h2:=Ku L _ _ _ _ _ _ (cR.nil i) (fun p hp=>by cases hp) hi hw
   rw[Jr] at h1;exact⟨by unfold wtT;dsimp only;omega,fun _ h=>by unfold wtT;dsimp only;have:=h1.2.2 h;omega,fun p hp=>by have:=h2.1.2 p hp;omega,h2.2.1,hi⟩
theorem Bf (t:aF)(ts:List aF):mL (t :: ts)=wtT t+mL ts:=by simp [mL]
theorem KG (L:List UInt8):∀ (f k:Nat)(ts:List aF),k≤L.length→L.length - k<f→cN L f k = .ok ts→mL ts≤3 * (L.length - k)+1∧(∀ t∈ts,(∀ p∈t.parts,p.text.length≤L.length∧p.place≤L.length)∧i6 L.length t.parts∧t.place≤L.length∧uK t)∧∃ v,ts.getLast?=some v∧v.kind=0:=by
 intro f
 induction f with
 | zero=>intro k ts _ h;omega
 | succ f ih =>
  intro k ts hk hf h;rw[cN] at h;have hs:=oA false (L.drop k);have hfront:=mO false (L.drop k);rw[List.length_drop] at hs;rw[List.drop_drop] at hfront;obtain⟨j,hj⟩:∃ j,k+aQ false (L.drop k)=j:=⟨_,rfl⟩;rw[hj] at h hfront
  cases ht:fP L j with
  | error e=>rw[ht] at h;cases h
  | ok y =>
   obtain⟨t,n⟩:=y;rw[ht] at h;obtain⟨n1,n2,n3,n4,n5⟩:=sX L j t n (by omega) hfront ht
   obtain⟨m1,m2,m3,m4,m5⟩:=Jm L j t n (by omega) ht
   have hv:=E6 L j t n (by omega) hfront ht
   have hT:(∀ p∈t.parts,p.text.length≤L.length∧p.place≤L.length)∧i6 L.length t.parts∧t.place≤L.length∧uK t:=⟨fun p hp=>⟨m3 p hp,by have:=n5.2.2.2 p hp;omega⟩,m4,m5,hv⟩
   by_cases hk0:t.kind=0
   ·simp only[hk0,if_true] at h
    cases h
    refine ⟨?_,fun u hu=>?_,t,rfl,hk0⟩
    ·have hp:t.parts=[]:=by
      rcases hv with h1 | h1
      ·exact h1.2
      ·rw[hk0] at h1;cases h1.1
     simp [mL,wtT,bU,hp]
    ·rw[List.mem_singleton] at hu;subst hu;exact hT
   ·simp only[hk0,if_false] at h;have hn1:=n4 hk0
    cases hl:cN L f n with
    | error e=>rw[hl] at h;cases h
    | ok us =>
     rw[hl] at h
     cases h
     obtain⟨i1,i2,v,i3,i4⟩:=ih n us n3 (by omega) hl
     have:=m2 hk0 hn1
     refine ⟨by rw[Bf];omega,fun u hu=>?_,v,?_,i4⟩
     ·rcases List.mem_cons.1 hu with rfl | hu
      ·exact hT
      ·exact i2 u hu
     ·cases us with
      | nil=>simp at i3
      | cons u us=>rw[List.getLast?_cons_cons];exact i3
theorem pL (L:List UInt8)(hL:L.length≤8192)(ts:List aF)(h:cN L (L.length+1) 0 = .ok ts):aU L.length ts:=by
 obtain⟨h1,h2,v,h3,h4⟩:=KG L _ 0 ts (Nat.zero_le _) (by omega) h
 have hd:∀ i,aM ts i∈ts∨aM ts i=⟨0,0,[]⟩:=fun i=>by
  by_cases hi:i<ts.length
  ·rw[p7 hi];exact .inl (List.getElem_mem hi)
  ·exact .inr (CZ (by omega))
 have hpos:0<ts.length:=by
  cases ts with
  | nil=>simp at h3
  | cons t ts=>simp
 refine ⟨hpos,?_,fun i=>?_,fun i p hp=>?_,by omega,fun i=>?_,hL⟩
 ·rw[List.getLast?_eq_getElem?,List.getElem?_eq_getElem (by omega)] at h3
  rw[p7 (by omega),Option.some.inj h3]
  exact h4
 ·rcases hd i with h5 | h5
  ·exact (h2 _ h5).2.2.1
  ·rw[h5];exact Nat.zero_le _
 ·rcases hd i with h5 | h5
  ·have:=(h2 _ h5).1 p hp
   exact⟨this.2,by omega,(h2 _ h5).2.1 p hp⟩
  ·rw[h5] at hp
   cases hp
 ·rcases hd i with h5 | h5
  ·exact (h2 _ h5).2.2.2
  ·rw[h5];exact .inl ⟨Nat.zero_le _,rfl⟩
def bQ (lo hi:Nat) {α:Type} (x:aJ α) (Q:α→Nat→Prop):Prop :=
 (∀ a e,x=some (.ok (a,e))→Q a e)∧∀ c p,x=some (.error (c,p))→(101≤c∧c≤109)∧lo≤p∧p≤hi
def cW (lo hi:Nat) {α:Type} (x:aL α) (Q:α→Prop):Prop :=
 (∀ a,x=some (.ok a)→Q a)∧∀ c p,x=some (.error (c,p))→(101≤c∧c≤109)∧lo≤p∧p≤hi
section
variable {lo hi:Nat} {α β:Type}
theorem bQ.none {Q:α→Nat→Prop}:bQ lo hi (none:aJ α) Q:=⟨fun _ _ h=>(by cases h),fun _ _ h=>(by cases h)⟩
theorem bQ.ok {Q:α→Nat→Prop}{a:α}{e:Nat}(h:Q a e):bQ lo hi (pOk a e) Q:=⟨fun _ _ h'=>(by cases h';exact h),fun _ _ h=>(by cases h)⟩
theorem bQ.err {Q:α→Nat→Prop}{c p:Nat}(h1:101≤c∧c≤109)(h2:lo≤p∧p≤hi):bQ lo hi (jR c p:aJ α) Q :=
 ⟨fun _ _ h=>(by cases h),fun _ _ h=>(by cases h;exact⟨h1,h2⟩)⟩
theorem bQ.mono {x:aJ α}{Q R:α→Nat→Prop}(h:bQ lo hi x Q)(hR:∀ a e,Q a e→R a e):bQ lo hi x R:=⟨fun a e hx=>hR a e (h.1 a e hx),h.2⟩
theorem bQ.go {x:aJ α}{k:α→Nat→aJ β}{Q:α→Nat→Prop}{R:β→Nat→Prop}(h:bQ lo hi x Q)(hk:∀ a e,Q a e→bQ lo hi (k a e) R):bQ lo hi (x.go k) R:=by
 match x,h with
 | .none,_=>exact .none
 | some (.error e),h=>exact⟨fun _ _ h'=>(by cases h'),fun c p h'=>h.2 c p (by cases h';rfl)⟩
 | some (.ok (a,e)),h=>exact hk a e (h.1 a e rfl)
theorem cW.none {Q:α→Prop}:cW lo hi (none:aL α) Q:=⟨fun _ h=>(by cases h),fun _ _ h=>(by cases h)⟩
theorem cW.ok {Q:α→Prop}{a:α}(h:Q a):cW lo hi (oOk a) Q:=⟨fun _ h'=>(by cases h';exact h),fun _ _ h=>(by cases h)⟩
theorem cW.err {Q:α→Prop}{c p:Nat}(h1:101≤c∧c≤109)(h2:lo≤p∧p≤hi):cW lo hi (lV c p:aL α) Q :=
 ⟨fun _ h=>(by cases h),fun _ _ h=>(by cases h;exact⟨h1,h2⟩)⟩
theorem cW.mono {x:aL α}{Q R:α→Prop}(h:cW lo hi x Q)(hR:∀ a,Q a→R a):cW lo hi x R:=⟨fun a hx=>hR a (h.1 a hx),h.2⟩
theorem cW.go {x:aL α}{k:α→aL β}{Q:α→Prop}{R:β→Prop}(h:cW lo hi x Q)(hk:∀ a,Q a→cW lo hi (k a) R):cW lo hi (x.go k) R:=by
 match x,h with
 | .none,_=>exact .none
 | some (.error e),h=>exact⟨fun _ h'=>(by cases h'),fun c p h'=>h.2 c p (by cases h';rfl)⟩
 | some (.ok a),h=>exact hk a (h.1 a rfl)
theorem cW.at {x:aL α}{Q:α→Prop}{i:Nat}(h:cW lo hi x Q):bQ lo hi (x.at i) fun a e=>Q a∧e=i:=by
 match x,h with
 | .none,_=>exact .none
 | some (.error e),h=>exact⟨fun _ _ h'=>(by cases h'),fun c p h'=>h.2 c p (by cases h';rfl)⟩
 | some (.ok a),h=>exact .ok ⟨h.1 a rfl,rfl⟩
end
def iX (p:aC):Prop :=
 (p.kind=1∧∀ c∈p.text,c.toNat≠92)∨p.kind=2∨(p.kind=3∧(bF p.text=true∨p.text=[42]))∨p.kind=4∨(p.kind=5∧1≤p.num∧p.num≤9)∨p.kind=6
theorem Aa:∀ (l:List UInt8)(n:UInt8),lT l n→∀ c∈l,c.toNat≠92
 | [],_,_,c,hc=>by cases hc
 | d :: l,n,h,c,hc=>by
  rcases List.mem_cons.1 hc with rfl | hc
  ·exact h.1.2.1
  ·exact Aa l n h.2.2 c hc
theorem KN {p:aC}(h:m7 p):iX p:=by
 unfold m7 at h
 rcases h with ⟨h1,_,_,_,n,h2⟩ | h | ⟨h1,_,h2⟩ | h | h | h
 ·exact .inl ⟨h1,Aa _ _ h2⟩
 ·exact .inr (.inl h.1)
 ·refine .inr (.inr (.inl ⟨h1,?_⟩))
  rcases h2 with h2 | ⟨h2,h3⟩
  ·exact .inr h2
  ·exact .inl (by rw[h2.name];simpa using h3)
 ·exact .inr (.inr (.inr (.inl h.1)))
 ·exact .inr (.inr (.inr (.inr (.inl ⟨h.1,h.2.1,h.2.2.1⟩))))
 ·exact .inr (.inr (.inr (.inr (.inr h.1))))
structure j6 (n:Nat) (t:aF):Prop where
 place:t.place≤n
 len:∀ p∈t.parts,p.text.length≤8192
 valid:∀ p∈t.parts,iX p
theorem aU.parts {n:Nat}{ts:List aF}(g:aU n ts)(i:Nat):j6 n (aM ts i) :=
 ⟨g.place i,fun p hp=>(g.part i p hp).2.1,fun p hp=>by
  rcases g.valid i with h | h
  ·rw[h.2] at hp;cases hp
  ·exact KN (h.2.2.1 p hp)⟩
def mT (x:aC) (l:aA):Prop:=0<l.length∧l.length+5≤8 * wtP x∧txP l≤30000 * wtP x
def oP (x:aC) (l:aA):Prop:=0<l.length∧l.length+4≤8 * wtP x∧txP l≤30000 * wtP x
def mJ (lo hi:Nat) (sub:aC→aL aA) (P:List aC):Prop:=∀ x∈P,x.kind=4→cW lo hi (sub x) fun l=>0<l.length∧l.length+12≤8 * wtP x∧txP l≤30000 * wtP x
theorem sK {x:aC}(h:iX x)(h1:x.kind≠1)(h2:x.kind≠2)(h3:x.kind≠3)(h5:x.kind≠5)(h6:x.kind≠6):x.kind=4:=by
 unfold iX at h;omega
theorem sQ {lo hi:Nat}{sub:aC→aL aA}{P:List aC}(hs:mJ lo hi sub P){x:aC}(hx:x∈P)(hv:iX x)(hl:x.text.length≤8192)(h1:x.kind≠1)(h2:x.kind≠2) :
  cW lo hi (dB sub x) fun l=>0<l.length∧l.length+6≤8 * wtP x∧txP l≤30000 * wtP x:=by
 have hw:=oI x;unfold dB;split
 ·have:=kU 2 0 x.text
  exact .ok (by omega)
 split
 ·have:=gW 11 x.num [] nV
  have h3:=kU 2 0 [42];simp only[List.length_cons,List.length_nil] at this h3;exact .ok (by unfold nV at *;omega)
 split
 ·have:=gW 10 0 [] nV
  have h3:=kU 2 0 [42];simp only[List.length_cons,List.length_nil] at this h3;exact .ok (by unfold nV at *;omega)
 ·rename_i h3 h5 h6
  exact (hs x hx (sK hv h1 h2 h3 h5 h6)).mono fun l h=>by omega
theorem sN {lo hi:Nat}{sub:aC→aL aA}{P:List aC}(hs:mJ lo hi sub P){x:aC}(hx:x∈P)(hv:iX x)(hl:x.text.length≤8192):cW lo hi (d9 sub x) (mT x):=by
 have hw:=oI x;unfold d9 mT;split
 ·have:=kU 1 0 x.text
  exact .ok (by unfold a8;omega)
 ·rename_i h12
  refine (sQ hs hx hv hl (fun e=>h12 (.inl e)) (fun e=>h12 (.inr e))).go fun l h=>.ok ?_
  split
  ·have:=gW 9 0 [] l
   simp only[List.length_nil] at this;omega
  ·omega
theorem sM {lo hi:Nat}{sub bare:aC→aL aA}{P:List aC}(hs:mJ lo hi sub P){x:aC}(hx:x∈P)(hv:iX x)(hl:x.text.length≤8192)(hb:x.kind≠1→x.kind≠2→cW lo hi (bare x) (mT x)):cW lo hi (gH sub bare x) (oP x):=by
 have hw:=oI x;unfold gH oP;split
 ·have:=kU 1 1 x.text
  exact .ok (by omega)
 split
 ·have:=kU 1 1 (b8 x.text)
  have:=sH x.text
  exact .ok (by omega)
 split
 ·exact (hb (by assumption) (by assumption)).mono fun l h=>by unfold mT at h;omega
 ·refine (sN hs hx hv hl).go fun l h=>.ok ?_
  have:=gW 8 0 [] l
  unfold mT at h;simp only[List.length_nil] at this;omega
theorem AM {lo hi:Nat}{tq:aC→aL aA}:∀ (P:List aC),(∀ x∈P,cW lo hi (tq x) (oP x))→cW lo hi (fX tq P) fun l=>l.length=P.length∧(∀ x∈l,0<x.length)∧l.flatten.length+4 * P.length≤8 * bU P∧txP l.flatten≤30000 * bU P
 | [],_=>.ok ⟨rfl,(fun x hx=>by cases hx),Nat.le_refl _,Nat.le_refl _⟩
 | x :: P,h=>by
  rw[fX];refine (h x (by simp)).go fun n hn=>(AM P fun y hy=>h y (by simp [hy])).go fun l hl=>.ok ?_
  obtain⟨n1,n2,n3⟩:=hn;obtain⟨l0,l1,l2,l3⟩:=hl;rw[nF,List.flatten_cons,List.length_append,cP];simp only[List.length_cons];refine ⟨by omega,fun y hy=>?_,by omega,by omega⟩
  rcases List.mem_cons.1 hy with rfl | hy
  ·exact n1
  ·exact l1 y hy
theorem AO (l:List aA)(p:aA→Bool):(l.filter p).flatten.length≤l.flatten.length∧txP (l.filter p).flatten≤txP l.flatten:=by
 induction l with
 | nil=>exact⟨Nat.le_refl _,Nat.le_refl _⟩
 | cons a l ih =>
  rw[List.filter_cons];split
  ·simp only[List.flatten_cons,List.length_append,cP];omega
  ·simp only[List.flatten_cons,List.length_append,cP];omega
theorem xN:∀ (l out:List aA),out≠[]∨l≠[]→l.foldl aY out≠[]
 | [],out,h=>by simpa using h
 | x :: l,out,_=>xN l _ (.inl (by
  unfold aY;split
  ·split <;> simp
  ·simp))
theorem DN {out:List aA}{x:aA}(ho:∀ y∈out,0<y.length)(hx:0<x.length):∀ y∈aY out x,0<y.length:=by
 unfold aY;intro y hy;split at hy
 ·split at hy
  ·rcases List.mem_append.1 hy with hy | hy
   ·exact ho y (List.dropLast_subset _ hy)
   ·rw[List.mem_singleton] at hy;subst hy;simp [aE]
  ·rcases List.mem_append.1 hy with hy | hy
   ·exact ho y hy
   ·rw[List.mem_singleton] at hy;subst hy;exact hx
 ·rcases List.mem_append.1 hy with hy | hy
  ·exact ho y hy
  ·rw[List.mem_singleton] at hy;subst hy;exact hx
theorem uU:∀ (l out:List aA),(∀ y∈out,0<y.length)→(∀ y∈l,0<y.length)→∀ y∈l.foldl aY out,0<y.length
 | [],out,h,_=>h
 | x :: l,out,h,hl=>uU l _ (DN h (hl x (by simp))) fun y hy=>hl y (by simp [hy])
theorem wO (l:List aA)(hp:∀ y∈l,0<y.length):0<(dK l).length∧(dK l).length≤l.flatten.length+1∧txP (dK l)≤txP l.flatten:=by
 unfold dK;split
 ·exact⟨by simp [a8,aE],by simp [a8,aE],by simp [a8,aE,txP]⟩
 ·rename_i a m
  obtain⟨h1,h2,_⟩:=nZ (a :: m) [];have hne:=xN (a :: m) [] (.inr (by simp))
  have hpos:=uU (a :: m) [] (fun y hy=>by cases hy) hp
  obtain⟨h3,h4⟩:=AO ((a :: m).foldl aY []) fI;simp only[List.flatten_nil,List.length_nil,Nat.zero_add,eN] at h1 h2;generalize (a :: m).foldl aY []=o at *;split
  ·have:=rE o
   refine ⟨?_,by omega,by omega⟩
   cases o with
   | nil=>exact absurd rfl hne
   | cons x o=>exact hpos x (by simp)
  ·rename_i x hx
   rw[hx] at h3 h4;simp only[List.flatten_cons,List.flatten_nil,List.append_nil] at h3 h4;exact⟨hpos x (List.mem_filter.1 (show x∈o.filter fI by rw[hx];simp)).1,by omega,by omega⟩
  ·rw[cF,dX];simp only[List.length_nil];omega
def iY (t:aF) (l:aA):Prop:=0<l.length∧l.length+5≤8 * wtT t∧txP l+30000≤30000 * wtT t
theorem BC {b n:Nat}{t:aF}{l:aA}{Q:aA→Prop}(ht:t.place≤n)(h:Q l):cW b (b+n) (gS b t l) Q:=by
 unfold gS;split
 ·exact .err (by omega) (by omega)
 ·exact .ok h
theorem sF {b n:Nat}{t:aF}(hP:j6 n t){tq:aC→aL aA}(h:∀ x∈t.parts,cW b (b+n) (tq x) (oP x)):cW b (b+n) (gE tq b t) fun l=>0<l.length∧l.length+7≤8 * wtT t∧txP l+30000≤30000 * wtT t:=by
 unfold gE;refine (AM t.parts h).go fun l ⟨l0,l1,l2,l3⟩=>BC hP.place ?_
 have:=wO l l1
 unfold wtT;omega
theorem lF {b n:Nat}{sub:aC→aL aA}{t:aF}(hP:j6 n t)(hs:mJ b (b+n) sub t.parts):cW b (b+n) (cS sub b t) (iY t):=by
 unfold cS;exact (sF hP fun x hx=>(sN hs hx (hP.valid x hx) (hP.len x hx)).mono fun l h=>by unfold mT at h;unfold oP;omega).mono fun l h=>by unfold iY;omega
theorem AU {b n:Nat}{sub:aC→aL aA}{t:aF}(hP:j6 n t)(hs:mJ b (b+n) sub t.parts):cW b (b+n) (kQ sub b t) (iY t):=by
 unfold kQ;split
 ·have:=kU 1 1 []
  exact .ok (by unfold iY wtT;simp only[List.length_nil] at this;omega)
 ·exact (sF hP fun x hx=>sM hs hx (hP.valid x hx) (hP.len x hx) fun _ _=>sN hs hx (hP.valid x hx) (hP.len x hx)).mono fun l h=>by unfold iY;omega
theorem BS:∀ (P:List aC),(∀ p∈P,p.text.length≤8192)→(eG P).length≤16384 * bU P
 | [],_=>Nat.zero_le _
 | x :: P,h=>by
  have ih:=BS P fun p hp=>h p (by simp [hp])
  have hx:=h x (by simp)
  have hw:=oI x;have he:=sH x.text;unfold eG at ih ⊢;rw[List.flatMap_cons,List.length_append,nF];split
  ·omega
  split
  ·omega
  ·simp only[List.length_nil];omega
theorem qS {b n:Nat}{sub:aC→aL aA}{t:aF}(hP:j6 n t)(hs:mJ b (b+n) sub t.parts):cW b (b+n) (fE sub b t) (iY t):=by
 unfold fE;split
 ·rename_i h
  refine BC hP.place ?_;have h1:=gW 6 0 [] (aE 1 1 (eG t.parts) []);have h2:=kU 1 1 (eG t.parts);have h3:=BS t.parts hP.len;simp only[List.length_nil] at h1
  have h4:t.parts≠[]:=fun e=>by
   rw[e] at h;exact absurd h.2 (by decide)
  have h5:0<t.parts.length:=List.length_pos_iff.2 h4;have h6:=pN t.parts;unfold iY wtT;omega
 split
 ·exact lF hP hs
 ·refine (sF hP fun x hx=>sM hs hx (hP.valid x hx) (hP.len x hx) fun h1 h2=>(sQ hs hx (hP.valid x hx) (hP.len x hx) h1 h2).mono fun l h=>by unfold mT;omega).go fun l h=>.ok ?_
  have h1:=gW 6 0 [] (aE 5 0 [] [l]);have h2:=gW 5 0 [] l;simp only[List.length_nil] at h1 h2;unfold iY;omega
theorem AD:∀ {l:List UInt8}{m:Nat},cH 61 l=some m→l=l.take m++[61]++l.drop (m+1)
 | [],m,h=>by cases h
 | c :: l,m,h=>by
  rw[cH] at h;split at h
  ·rename_i hc
   cases h
   have:c=61:=UInt8.toNat_inj.1 hc
   subst this;rfl
  ·cases hq:cH 61 l with
   | none=>rw[hq] at h;cases h
   | some k =>
    rw[hq] at h
    cases h
    have:=AD hq
    rw[List.take_succ_cons,List.drop_succ_cons,List.cons_append,List.cons_append,← this]
theorem lD {t t':aF}{s:List UInt8}(h:eM t=some (s,t')):bF s=true∧t'.place=t.place∧wtT t'=wtT t∧∃ p ps r,t.parts=p :: ps∧p.kind=1∧t'.parts={ p with text:=r } :: ps∧p.text=s++[61]++r:=by
 unfold eM at h;split at h
 ·cases h
 ·rename_i p ps hp
  split at h
  ·rename_i hk
   split at h
   ·rename_i m hm
    split at h
    ·rename_i hn
     cases h
     refine ⟨hn,rfl,?_,p,ps,_,hp,hk,rfl,AD hm⟩;unfold wtT;rw[hp,nF,nF];unfold wtP;rw[if_neg (by rw[hk];decide),if_neg (by rw[hk];decide)]
    ·cases h
   ·cases h
  ·cases h
theorem pC {n:Nat}{t t':aF}{s:List UInt8}(h:eM t=some (s,t'))(hP:j6 n t):j6 n t':=by
 obtain⟨_,h1,_,p,ps,r,h2,h3,h4,h5⟩:=lD h;have hp:p∈t.parts:=by rw[h2];simp
 have hl:p.text.length=s.length+1+r.length:=by rw[h5];simp;omega
 refine ⟨by rw[h1];exact hP.place,fun x hx=>?_,fun x hx=>?_⟩
 ·rw[h4] at hx
  rcases List.mem_cons.1 hx with rfl | hx
  ·have:=hP.len p hp
   dsimp only;omega
  ·exact hP.len x (by rw[h2];simp [hx])
 ·rw[h4] at hx
  rcases List.mem_cons.1 hx with rfl | hx
  ·refine .inl ⟨h3,fun c hc=>?_⟩
   rcases hP.valid p hp with h | h
   ·exact h.2 c (by rw[h5];simp at hc ⊢;exact .inr (.inr hc))
   ·omega
  ·exact hP.valid x (by rw[h2];simp [hx])
theorem vC {lo hi:Nat}{t t':aF}{s:List UInt8}(h:eM t=some (s,t')){sub:aC→aL aA}(hs:mJ lo hi sub t.parts):mJ lo hi sub t'.parts:=by
 obtain⟨_,h1,_,p,ps,r,h2,h3,h4,h5⟩:=lD h;intro x hx hk;rw[h4] at hx
 rcases List.mem_cons.1 hx with rfl | hx
 ·exact absurd (hk.symm.trans h3) (by decide)
 ·exact hs x (by rw[h2];simp [hx]) hk
section
variable {n b:Nat} {ts:List aF}
theorem bQ.form (g:aU n ts) {α:Type}{Q:α→Nat→Prop}(i:Nat):bQ b (b+n) (formA ts b i:aJ α) Q:=by
 have:=g.place i
 unfold formA;exact .err (by split <;> omega) (by omega)
theorem bQ.want (g:aU n ts) {α:Type}{i:Nat}{s:List UInt8}{k:Nat→aJ α}{R:α→Nat→Prop}(hi:i<ts.length)(hk:i+1<ts.length→aI ts (i+1)+2≤aI ts i→bQ b (b+n) (k (i+1)) R):bQ b (b+n) (gL ts b i s k) R:=by
 unfold gL;split
 ·rename_i h
  obtain⟨e1,e2⟩:=xJ g hi h;rw[e1];refine hk e2 ?_;have h1:=kJ hi;have h2:=BK h;unfold eD at h;split at h
  ·rename_i s hs
   obtain⟨p,hp,_⟩:=qY hs;unfold wtT at h1;rw[hp] at h1;have:=oI p
   rw[nF] at h1;omega
  ·cases h
 ·exact .form g i
theorem jV (g:aU n ts){i:Nat}(hi:i<ts.length)(h:(aM ts i).kind≠0):aSk ts i=i+1∧i+1<ts.length∧aI ts i=wtT (aM ts i)+aI ts (i+1)∧1≤wtT (aM ts i):=by
 obtain⟨h1,h2⟩:=rV g hi h;exact⟨h1,h2,kJ hi,by unfold wtT;omega⟩
theorem iE (g:aU n ts){i:Nat}(hi:i<ts.length){ks:List Nat}(h0:0 ∉ ks)(h:aIs ts i ks=true):aSk ts i=i+1∧i+1<ts.length∧aI ts i=wtT (aM ts i)+aI ts (i+1)∧1≤wtT (aM ts i) :=
 jV g hi (fun e=>h0 (e ▸ (mC _ _ _).1 h))
theorem rN {t:aF}{s:List UInt8}(h:dT t=some s):2≤wtT t:=by
 obtain⟨p,hp,_⟩:=qY h;unfold wtT;have:=oI p
 rw[hp,nF];omega
theorem tX (g:aU n ts){i:Nat}(hi:i<ts.length){l:List (List UInt8)}(h:eD ts i l=true):aSk ts i=i+1∧i+1<ts.length∧aI ts i=wtT (aM ts i)+aI ts (i+1)∧2≤wtT (aM ts i):=by
 obtain⟨h1,h2⟩:=xJ g hi h;refine ⟨h1,h2,kJ hi,?_⟩;unfold eD at h;split at h
 ·rename_i s hs
  exact rN hs
 ·cases h
theorem iP {i:Nat}(ks:List Nat)(hi:i<ts.length):i≤e7 ts ks i∧e7 ts ks i<ts.length∧aI ts (e7 ts ks i)≤aI ts i:=by
 obtain⟨h1,h2⟩:=tP ks hi;have:=rem_le h1 (Nat.le_of_lt h2)
 exact⟨h1,h2,by omega⟩
theorem mQ (g:aU n ts){i:Nat}(hi:i<ts.length){aq:Nat→aF→aL aA}(h:cW b (b+n) (aq b (aM ts i)) (iY (aM ts i))) :
  bQ b (b+n) (wordOf aq ts b i) fun l e=>e=i+1∧e<ts.length∧0<l.length∧l.length+5+8 * aI ts e≤8 * aI ts i∧txP l+30000+30000 * aI ts e≤30000 * aI ts i:=by
 unfold wordOf;split
 ·rename_i hk
  obtain⟨e1,e2,e3,e4⟩:=iE g hi (by decide) hk
  rw[e1];refine h.at.mono fun l e ⟨h1,h2⟩=>?_
  subst h2;unfold iY at h1;omega
 ·exact .form g i
theorem pP (g:aU n ts){i:Nat}(hi:i<ts.length)(hk:(aM ts i).kind≠0){x:aL aA}(h:cW b (b+n) x (iY (aM ts i))) :
  bQ b (b+n) (x.at (aSk ts i)) fun l e=>e=i+1∧e<ts.length∧0<l.length∧l.length+5+8 * aI ts e≤8 * aI ts i∧txP l+30000+30000 * aI ts e≤30000 * aI ts i:=by
 obtain⟨e1,e2,e3,e4⟩:=jV g hi hk;rw[e1];refine h.at.mono fun l e ⟨h1,h2⟩=>?_
 subst h2;unfold iY at h1;omega
end
theorem uZ:∀ (l:List (Nat×aA))(c:aA),(gN l c).length=dE l+c.length∧txP (gN l c)=fN l+txP c
 | [],c=>⟨by simp [gN,dE],by simp [gN,fN]⟩
 | t :: l,c=>by
  obtain⟨h1,h2⟩:=uZ l c;unfold gN at h1 h2 ⊢;rw[List.foldr_cons];split
  ·exact⟨by rw[cF];simp [dE,h1] at h1 ⊢;omega,by rw[dX];simp [fN,cP,h2] at h2 ⊢;omega⟩
  ·exact⟨by rw[cF];simp [dE,h1] at h1 ⊢;omega,by rw[dX];simp [fN,cP,h2] at h2 ⊢;omega⟩
structure wT (f:Nat):Prop where
 list:∀ {n ts},aU n ts→∀ b d i,i<ts.length→bQ b (b+n) (cD f ts b d i) fun l e=>i≤e∧e<ts.length∧0<l.length∧l.length+8 * aI ts e≤8 * aI ts i+1∧txP l+30000 * aI ts e≤30000 * aI ts i
 chains:∀ {n ts},aU n ts→∀ b d i L,i<ts.length→(∀ x∈L,0<x.length)→bQ b (b+n) (fA f ts b d i L) fun l e=>i≤e∧e<ts.length∧0<l.length∧l.length+8 * aI ts e≤L.flatten.length+8 * aI ts i+1∧txP l+30000 * aI ts e≤txP L.flatten+30000 * aI ts i
 chain:∀ {n ts},aU n ts→∀ b d i,i<ts.length→bQ b (b+n) (eX f ts b d i) fun l e=>i<e∧e<ts.length∧0<l.length∧l.length+8 * aI ts e≤8 * aI ts i∧txP l+30000 * aI ts e≤30000 * aI ts i
 chainR:∀ {n ts},aU n ts→∀ b d i o,i<ts.length→0<o.length→bQ b (b+n) (fW f ts b d i o) fun l e=>i≤e∧e<ts.length∧0<l.length∧l.length+8 * aI ts e≤o.length+8 * aI ts i∧txP l+30000 * aI ts e≤txP o+30000 * aI ts i
 pipe:∀ {n ts},aU n ts→∀ b d i,i<ts.length→bQ b (b+n) (eB f ts b d i) fun l e=>i<e∧e<ts.length∧0<l.length∧l.length+8 * aI ts e≤8 * aI ts i∧txP l+30000 * aI ts e≤30000 * aI ts i
 pipeR:∀ {n ts},aU n ts→∀ b d i L,i<ts.length→(∀ x∈L,0<x.length)→bQ b (b+n) (fF f ts b d i L) fun l e=>i<e∧e<ts.length∧L.length<l.length∧(∀ x∈l,0<x.length)∧l.flatten.length+l.length+8 * aI ts e≤L.flatten.length+L.length+8 * aI ts i+1∧txP l.flatten+30000 * aI ts e≤txP L.flatten+30000 * aI ts i∧l.length+i≤L.length+e
 command:∀ {n ts},aU n ts→∀ b d i,i<ts.length→bQ b (b+n) (eT f ts b d i) fun l e=>i<e∧e<ts.length∧0<l.length∧l.length+8 * aI ts e≤8 * aI ts i∧txP l+30000 * aI ts e≤30000 * aI ts i
 body:∀ {n ts},aU n ts→∀ b d i s t,i<ts.length→bQ b (b+n) (eZ f ts b d i s t) fun l e=>i<e∧e<ts.length∧0<l.length∧l.length+15+8 * aI ts e≤8 * aI ts i∧txP l+30000+30000 * aI ts e≤30000 * aI ts i
 choice:∀ {n ts},aU n ts→∀ b d i,i<ts.length→bQ b (b+n) (iA f ts b d i) fun l e=>i<e∧e<ts.length∧0<l.length∧l.length+8 * aI ts e≤8 * aI ts i∧txP l+30000 * aI ts e≤30000 * aI ts i
 whl:∀ {n ts},aU n ts→∀ b d i,i<ts.length→bQ b (b+n) (jL f ts b d i) fun l e=>i<e∧e<ts.length∧0<l.length∧l.length+8 * aI ts e≤8 * aI ts i∧txP l+30000 * aI ts e≤30000 * aI ts i
 each:∀ {n ts},aU n ts→∀ b d i,i<ts.length→(aM ts i).kind≠0→bQ b (b+n) (jO f ts b d i) fun l e=>i<e∧e<ts.length∧0<l.length∧l.length+8 * aI ts e≤8 * aI ts i∧txP l+30000 * aI ts e≤30000 * aI ts i
 fields:∀ {n ts},aU n ts→∀ b d i L,i<ts.length→(∀ x∈L,0<x.length)→bQ b (b+n) (jI f ts b d i L) fun l e=>i≤e∧e<ts.length∧(∀ x∈l,0<x.length)∧l.flatten.length+8 * aI ts e≤L.flatten.length+8 * aI ts i∧txP l.flatten+30000 * aI ts e≤txP L.flatten+30000 * aI ts i∧l.length+i≤L.length+e
 choose:∀ {n ts},aU n ts→∀ b d i,i<ts.length→(aM ts i).kind≠0→bQ b (b+n) (jH f ts b d i) fun l e=>i<e∧e<ts.length∧0<l.length∧l.length+8 * aI ts e≤8 * aI ts i∧txP l+30000 * aI ts e≤30000 * aI ts i
 cases:∀ {n ts},aU n ts→∀ b d i L,i<ts.length→(∀ x∈L,0<x.length)→bQ b (b+n) (jK f ts b d i L) fun l e=>i<e∧e<ts.length∧(∀ x∈l,0<x.length)∧l.flatten.length+8 * aI ts e≤L.flatten.length+8 * aI ts i∧txP l.flatten+30000 * aI ts e≤txP L.flatten+30000 * aI ts i∧l.length+i≤L.length+e
 function:∀ {n ts},aU n ts→∀ b d i s,i<ts.length→dT (aM ts i)=some s→(aM ts (aSk ts i)).kind=7→bQ b (b+n) (jA f ts b d i s) fun l e=>i<e∧e<ts.length∧0<l.length∧l.length+8 * aI ts e≤8 * aI ts i∧txP l+30000 * aI ts e≤30000 * aI ts i
 turns:∀ {n ts},aU n ts→∀ b d i c L,i<ts.length→0<c.length→bQ b (b+n) (cO f ts b d i c L) fun l e=>i≤e∧e<ts.length∧0<l.length∧l.length+8 * aI ts e≤c.length+dE L+8 * aI ts i∧txP l+30000 * aI ts e≤txP c+fN L+30000 * aI ts i
 simple:∀ {n ts},aU n ts→∀ b d i ss ws L,i<ts.length→bQ b (b+n) (cA f ts b d i ss ws L) fun l e=>i≤e∧(ss.length+ws.length+L.length=0→i<e)∧e<ts.length∧0<l.length∧l.length+8 * aI ts e≤cJ ss+ws.flatten.length+dE L+ss.length+ws.length+L.length+8 * aI ts i∧txP l+30000 * aI ts e≤jJ ss+txP ws.flatten+fN L+30000 * aI ts i
 sub:∀ (b n d:Nat) (x:aC),x.place+3+x.text.length≤n→x.text.length≤8192→x.kind=4→cW b (b+n) (bA f b d x) fun l=>0<l.length∧l.length+12≤8 * wtP x∧txP l≤30000 * wtP x
theorem wT.subQ {f:Nat}(h:wT f){n:Nat}{ts:List aF}(g:aU n ts)(b d i:Nat):mJ b (b+n) (fun x=>bA f b d x) (aM ts i).parts:=fun x hx hk=>by
 obtain⟨_,h2,h3⟩:=g.part i x hx;exact h.sub b n d x (h3 hk) h2 hk
theorem jX {L:List aA}{c:aA}(hL:∀ x∈L,0<x.length)(hc:0<c.length):∀ x∈L++[c],0<x.length:=fun x hx=>by
 rcases List.mem_append.1 hx with hx | hx
 ·exact hL x hx
 ·rw[List.mem_singleton] at hx;subst hx;exact hc
theorem BX {L:List aA}(hL:∀ x∈L,0<x.length):0<(eH L).length:=by
 unfold eH;split
 ·simp [aE]
 ·exact hL _ (by simp)
 ·simp [aE]
theorem rA (kind n:Int)(s:List UInt8)(L:List aA):0<(aE kind n s L).length:=by rw[aE];simp
theorem J5 (ss:List (List UInt8×aA))(ws:List aA):0<(dH ss ws).length:=by
 unfold dH;split
 ·refine BX fun x hx=>?_
  obtain⟨y,_,rfl⟩:=List.mem_map.1 hx;exact rA _ _ _ _
 ·cases ss with
  | nil=>exact rA _ _ _ _
  | cons s ss=>exact rA _ _ _ _
theorem jU:∀ f,wT f
 | 0=>by
  constructor <;> intros <;> simp only[cD,fA,eX,fW,eB,fF,eT,eZ,iA,jL,jO,jI,jH,jK,jA,cO,cA,bA] <;> first | exact bQ.none | exact cW.none
 | f+1=>by
  have ih:=jU f;refine ⟨?_,?_,?_,?_,?_,?_,?_,?_,?_,?_,?_,?_,?_,?_,?_,?_,?_,?_⟩
  ·intro n ts g b d i hi;rw[cD];split
   ·have:=g.place i
    exact .err (by omega) (by omega)
   ·exact (ih.chains g _ _ _ [] hi (fun x hx=>by cases hx)).mono fun l e h=>by simpa [eN] using h
  ·intro n ts g b d i L hi hL;rw[fA];have hp:=iP (ts:=ts) [1,2] hi;split
   ·have:=xA L
    have:=BX hL
    exact .ok (by omega)
   ·refine (ih.chain g _ _ _ hp.2.1).go fun c e ⟨h1,h2,h0,h3,h4⟩=>(ih.chains g _ _ _ _ h2 (jX hL h0)).mono fun l k ⟨q1,q2,q0,q3,q4⟩=>?_
    rw[eS] at q3 q4;rw[cP] at q4;rw[List.length_append] at q3;omega
  ·intro n ts g b d i hi;rw[eX];refine (ih.pipe g _ _ _ hi).go fun c e ⟨h1,h2,h0,h3,h4⟩=>(ih.chainR g _ _ _ _ h2 h0).mono fun l k ⟨q1,q2,q0,q3,q4⟩=>?_
   omega
  ·intro n ts g b d i o hi ho;rw[fW];split
   ·rename_i hk
    obtain⟨e1,e2,e3,e4⟩:=iE g hi (by decide) hk
    rw[e1];have hp:=iP (ts:=ts) [1] e2;refine (ih.pipe g _ _ _ hp.2.1).go fun c e ⟨h1,h2,h0,h3,h4⟩=>(ih.chainR g _ _ _ _ h2 (rA _ _ _ _)).mono fun l k ⟨q1,q2,q0,q3,q4⟩=>?_
    obtain⟨z1,z2⟩:=iR (if aIs ts i [5]=true then 26 else 25) 0 [] o c
    rw[z1] at q3;rw[z2,List.length_nil] at q4;omega
   ·exact .ok (by omega)
  ·intro n ts g b d i hi;rw[eB];obtain⟨j,hj⟩:∃ j,(if eD ts i [[33]]=true then aSk ts i else i)=j:=⟨_,rfl⟩
   have hjj:i≤j∧j<ts.length∧aI ts j≤aI ts i∧(eD ts i [[33]]=true→aI ts j+1≤aI ts i):=by
    rw[← hj];split
    ·rename_i hk
     obtain⟨e1,e2,e3,e4⟩:=tX g hi hk;rw[e1];omega
    ·exact⟨Nat.le_refl _,hi,Nat.le_refl _,fun h=>absurd h ‹_›⟩
   rw[hj];clear hj;obtain⟨j1,j2,j3,j4⟩:=hjj;refine (ih.pipeR g _ _ _ _ j2 (fun x hx=>by cases hx)).go fun l e ⟨h1,h2,h3,h0,h4,h5,h6⟩=>?_
   simp only[List.length_nil,List.flatten_nil,eN] at h3 h4 h5 h6
   have hb:0<(if 1<l.length then aE 32 0 [] l else l.headD []).length∧(if 1<l.length then aE 32 0 [] l else l.headD []).length+8 * aI ts e≤8 * aI ts j∧txP (if 1<l.length then aE 32 0 [] l else l.headD [])+30000 * aI ts e≤30000 * aI ts j:=by
    split
    ·rw[cF,dX];simp only[List.length_nil];omega
    ·have:=rE l
     cases l with
     | nil=>simp at h3
     | cons a l =>
      have:=h0 a (by simp)
      simp only[List.headD_cons] at *;omega
   refine .ok ?_
   by_cases hk:eD ts i [[33]]=true
   ·have:=j4 hk
    rw[if_pos hk];obtain⟨z1,z2⟩:=gW 27 0 [] (if 1<l.length then aE 32 0 [] l else l.headD [])
    rw[List.length_nil] at z2;omega
   ·rw[if_neg hk];omega
  ·intro n ts g b d i L hi hL;rw[fF];refine (ih.command g _ _ _ hi).go fun c e ⟨h1,h2,h0,h3,h4⟩=>?_
   have hf:(L++[c]).flatten.length=L.flatten.length+c.length∧txP (L++[c]).flatten=txP L.flatten+txP c∧(L++[c]).length=L.length+1:=by
    rw[eS,cP];simp
   have hr:=rem_le (ts:=ts) (Nat.le_of_lt h1) (Nat.le_of_lt h2);split
   ·rename_i hk
    obtain⟨e1,e2,e3,e4⟩:=iE g h2 (by decide) hk
    rw[e1];have hp:=iP (ts:=ts) [1] e2;refine (ih.pipeR g _ _ _ _ hp.2.1 (jX hL h0)).mono fun l k ⟨q1,q2,q3,q0,q4,q5,q6⟩=>⟨by omega,by omega,by omega,q0,by omega,by omega,by omega⟩
   ·exact .ok ⟨by omega,by omega,by omega,jX hL h0,by omega,by omega,by omega⟩
  ·intro n ts g b d i hi;rw[eT]
   have hturn:∀ {x:aJ aA},bQ b (b+n) x (fun l e=>i<e∧e<ts.length∧0<l.length∧l.length+8 * aI ts e≤8 * aI ts i∧txP l+30000 * aI ts e≤30000 * aI ts i)→bQ b (b+n) (x.go fun l j=>cO f ts b d j l []) fun l e=>i<e∧e<ts.length∧0<l.length∧l.length+8 * aI ts e≤8 * aI ts i∧txP l+30000 * aI ts e≤30000 * aI ts i:=fun hx=>hx.go fun c e ⟨h1,h2,h0,h3,h4⟩=>(ih.turns g _ _ _ _ _ h2 h0).mono fun l k ⟨q1,q2,q0,q3,q4⟩=>by
    simp only[dE,fN,List.map_nil,List.sum_nil] at q3 q4;omega
   have hsim:bQ b (b+n) (cA f ts b d i [] [] []) fun l e=>i<e∧e<ts.length∧0<l.length∧l.length+8 * aI ts e≤8 * aI ts i∧txP l+30000 * aI ts e≤30000 * aI ts i:=(ih.simple g _ _ _ _ _ _ hi).mono fun l e ⟨h1,h2,h3,h0,h4,h5⟩=>by
    simp only[cJ,jJ,dE,fN,List.map_nil,List.sum_nil,List.flatten_nil,List.length_nil,eN] at h2 h4 h5;have:=h2 trivial
    omega
   split
   ·exact hsim
   ·rename_i s hs
    have hk:=nG hs;have hk0:(aM ts i).kind≠0:=by rw[hk];decide
    obtain⟨e1,e2,e3,_⟩:=jV g hi hk0;have e4:=rN hs;split
    ·split
     ·rename_i hc
      exact ih.function g _ _ _ _ hi hs hc.2
     ·exact hsim
    split
    ·rw[e1];refine (ih.list g _ _ _ e2).go fun c e ⟨h1,h2,h0,h3,h4⟩=>.want g h2 fun w1 w2=>(ih.turns g _ _ _ _ _ w1 h0).mono fun l k ⟨q1,q2,q0,q3,q4⟩=>?_
     simp only[dE,fN,List.map_nil,List.sum_nil] at q3 q4;omega
    split
    ·exact hturn (ih.choice g _ _ _ hi)
    split
    ·exact hturn (ih.whl g _ _ _ hi)
    split
    ·exact hturn (ih.each g _ _ _ hi hk0)
    split
    ·exact hturn (ih.choose g _ _ _ hi hk0)
    ·exact .form g i
  ·intro n ts g b d i s t hi;rw[eZ];refine .want g hi fun w1 w2=>(ih.list g _ _ _ w1).go fun l e ⟨h1,h2,h0,h3,h4⟩=>?_
   split
   ·exact .ok (by omega)
   ·exact .want g h2 fun w3 w4=>.ok (by omega)
  ·intro n ts g b d i hi;rw[iA];refine (ih.body g _ _ _ _ _ hi).go fun c j ⟨a1,a2,a0,a3,a4⟩=>(ih.body g _ _ _ _ _ a2).go fun y k ⟨b1,b2,b0,b3,b4⟩=>?_
   refine bQ.go (Q:=fun l e=>k≤e∧e<ts.length∧l.length+8 * aI ts e≤8 * aI ts k+1∧txP l+30000 * aI ts e≤30000 * aI ts k) ?_ fun z m ⟨c1,c2,c3,c4⟩=>.want g c2 fun w1 w2=>.ok ?_
   ·split
    ·exact (ih.body g _ _ _ _ _ b2).mono fun l e h=>by omega
    ·exact .ok (by simp [eH,aE,txP];omega)
   ·rw[cF,dX];simp only[List.flatten_cons,List.flatten_nil,List.append_nil,List.length_append,cP,List.length_nil];omega
  ·intro n ts g b d i hi;rw[jL];refine (ih.body g _ _ _ _ _ hi).go fun c j ⟨a1,a2,a0,a3,a4⟩=>(ih.body g _ _ _ _ _ a2).go fun y k ⟨b1,b2,b0,b3,b4⟩=>.ok ?_
   obtain⟨z1,z2⟩:=iR 28 0 [] c y;rw[List.length_nil] at z2;omega
  ·intro n ts g b d i hi h0;rw[jO];obtain⟨e1,e2,e3,e4⟩:=jV g hi h0;rw[e1];split
   ·exact .form g _
   ·rename_i s hs
    split
    ·rename_i hn
     obtain⟨f1,f2,f3,_⟩:=jV g e2 (by rw[nG hs];decide)
     have f4:=rN hs;rw[f1];refine .want g f2 fun w1 w2=>(ih.fields g _ _ _ _ w1 (fun x hx=>by cases hx)).go fun ws j ⟨a1,a2,a0,a3,a4,a5⟩=>?_
     have hp:=iP (ts:=ts) [1,2] a2;refine (ih.body g _ _ _ _ _ hp.2.1).go fun y k ⟨b1,b2,b0,b3,b4⟩=>.ok ?_
     obtain⟨z1,z2⟩:=iR 29 0 s (lC ws) y;have:=wV ws
     have hl:s.length≤8192:=by
      obtain⟨p,hp1,_,hp2⟩:=qY hs;have:=(g.part _ p (by rw[hp1];simp)).2.1
      rw[hp2] at this;exact this
     simp only[List.length_nil,List.flatten_nil,eN] at a3 a4 a5;omega
    ·exact .form g _
  ·intro n ts g b d i L hi hL;rw[jI];split
   ·rename_i hk
    have hk0:(aM ts i).kind≠0:=by
     rw[mC] at hk;simp only[List.mem_singleton] at hk;omega
    refine (pP g hi hk0 (qS (g.parts i) (ih.subQ g b d i))).go fun w j ⟨a1,a2,a0,a3,a4⟩=>(ih.fields g _ _ _ _ a2 (jX hL a0)).mono fun l k ⟨q1,q2,q0,q3,q4,q5⟩=>?_
    rw[eS] at q3 q4;rw[cP] at q4;simp only[List.length_append,List.length_cons,List.length_nil] at q3 q5;exact⟨by omega,by omega,q0,by omega,by omega,by omega⟩
   ·exact .ok ⟨Nat.le_refl _,hi,hL,by omega,by omega,by omega⟩
  ·intro n ts g b d i hi h0;rw[jH];obtain⟨e1,e2,e3,e4⟩:=jV g hi h0;rw[e1];refine (mQ g e2 (lF (g.parts _) (ih.subQ g b d _))).go fun w j ⟨a1,a2,a0,a3,a4⟩=>?_
   have hp:=iP (ts:=ts) [1] a2;refine .want g hp.2.1 fun w1 w2=>?_
   have hp2:=iP (ts:=ts) [1] w1;refine (ih.cases g _ _ _ _ hp2.2.1 (jX (L:=[]) (fun x hx=>by cases hx) a0)).go fun l k ⟨b1,b2,b0,b3,b4,b5⟩=>.ok ?_
   simp only[List.nil_append,List.flatten_cons,List.flatten_nil,List.append_nil] at b3 b4;rw[cF,dX,List.length_nil];omega
  ·intro n ts g b d i L hi hL;rw[jK];split
   ·rename_i hk
    obtain⟨e1,e2,e3,e4⟩:=tX g hi hk;rw[e1];exact .ok ⟨by omega,by omega,hL,by omega,by omega,by omega⟩
   ·obtain⟨j,hj⟩:∃ j,(if aIs ts i [7]=true then aSk ts i else i)=j:=⟨_,rfl⟩
    have hjj:i≤j∧j<ts.length∧aI ts j≤aI ts i:=by
     rw[← hj];split
     ·rename_i hk
      obtain⟨e1,e2,e3,e4⟩:=iE g hi (by decide) hk
      rw[e1];omega
     ·omega
    rw[hj];refine (mQ g hjj.2.1 (AU (g.parts _) (ih.subQ g b d _))).go fun w k ⟨a1,a2,a0,a3,a4⟩=>?_
    split
    ·rename_i hk
     obtain⟨e1,e2,e3,e4⟩:=iE g a2 (by decide) hk
     rw[e1];refine (ih.list g _ _ _ e2).go fun c e ⟨h1,h2,h0,h3,h4⟩=>?_
     obtain⟨m,hm⟩:∃ m,(if aIs ts e [3]=true then aSk ts e else e)=m:=⟨_,rfl⟩
     have hmm:e≤m∧m<ts.length∧aI ts m≤aI ts e:=by
      rw[← hm];split
      ·rename_i hk
       obtain⟨e1,e2,e3,e4⟩:=iE g h2 (by decide) hk
       rw[e1];omega
      ·omega
     rw[hm];have hp:=iP (ts:=ts) [1] hmm.2.1
     refine (ih.cases g _ _ _ _ hp.2.1 (by
      have:=jX (jX hL a0) h0
      simpa using this)).mono fun l z ⟨q1,q2,q0,q3,q4,q5⟩=>?_
     simp only[List.flatten_append,List.flatten_cons,List.flatten_nil,List.append_nil,List.length_append,cP,List.length_cons,List.length_nil] at q3 q4 q5;exact⟨by omega,by omega,q0,by omega,by omega,by omega⟩
    ·exact .form g _
  ·intro n ts g b d i s hi hs h7;rw[jA];obtain⟨e1,e2,e3,_⟩:=jV g hi (by rw[nG hs];decide)
   have e4:=rN hs;rw[e1] at h7 ⊢;obtain⟨f1,f2,f3,f4⟩:=jV g e2 (by rw[h7];decide)
   rw[f1];split
   ·rename_i hk
    obtain⟨k1,k2,k3,k4⟩:=iE g f2 (by decide) hk
    rw[k1];have hp:=iP (ts:=ts) [1] k2;refine (ih.body g _ _ _ _ _ hp.2.1).go fun l e ⟨h1,h2,h0,h3,h4⟩=>.ok ?_
    obtain⟨z1,z2⟩:=gW 31 0 s l
    have hl:s.length≤8192:=by
     obtain⟨p,hp1,_,hp2⟩:=qY hs;have:=(g.part _ p (by rw[hp1];simp)).2.1
     rw[hp2] at this;exact this
    omega
   ·exact .form g _
  ·intro n ts g b d i c L hi hc;rw[cO];split
   ·rename_i hk
    obtain⟨e1,e2,e3,e4⟩:=iE g hi (by decide) hk
    rw[e1];refine (mQ g e2 (lF (g.parts _) (ih.subQ g b d _))).go fun w j ⟨a1,a2,a0,a3,a4⟩=>(ih.turns g _ _ _ _ _ a2 hc).mono fun l k ⟨q1,q2,q0,q3,q4⟩=>?_
    rw[qL] at q3;rw[sB] at q4;dsimp only at q3 q4;omega
   ·have:=uZ L c
    exact .ok (by omega)
  ·intro n ts g b d i ss ws L hi;rw[cA];split
   ·rename_i hk
    obtain⟨e1,e2,e3,e4⟩:=iE g hi (by decide) hk
    rw[e1];refine (mQ g e2 (lF (g.parts _) (ih.subQ g b d _))).go fun w j ⟨a1,a2,a0,a3,a4⟩=>(ih.simple g _ _ _ _ _ _ a2).mono fun l k ⟨q1,q2,q3,q0,q4,q5⟩=>?_
    rw[qL] at q4;rw[sB] at q5;simp only[List.length_append,List.length_cons,List.length_nil] at q4;dsimp only at q4 q5;exact⟨by omega,fun _=>by omega,q3,q0,by omega,by omega⟩
   split
   ·rename_i hk
    have hk0:(aM ts i).kind≠0:=by
     rw[mC] at hk;simp only[List.mem_singleton] at hk;omega
    split
    ·rename_i s t hst
     have hs:eM (aM ts i)=some (s,t):=by
      split at hst
      ·exact hst
      ·cases hst
     obtain⟨s1,s2,s3,p,ps,r,s4,s5,s6,s7⟩:=lD hs
     have hl:s.length≤8192:=by
      have:=(g.part i p (by rw[s4];simp)).2.1
      rw[s7] at this;simp only[List.length_append] at this;omega
     refine (pP g hi hk0 ((lF (pC hs (g.parts i)) (vC hs (ih.subQ g b d i))).mono fun l h=>by unfold iY at h ⊢;rw[s3] at h;exact h)).go fun w j ⟨a1,a2,a0,a3,a4⟩=>(ih.simple g _ _ _ _ _ _ a2).mono fun l k ⟨q1,q2,q3,q0,q4,q5⟩=>?_
     rw[uS] at q4;rw[Ax] at q5;simp only[List.length_append,List.length_cons,List.length_nil] at q4;dsimp only at q4 q5;exact⟨by omega,fun _=>by omega,q3,q0,by omega,by omega⟩
    ·refine (pP g hi hk0 (qS (g.parts i) (ih.subQ g b d i))).go fun w j ⟨a1,a2,a0,a3,a4⟩=>(ih.simple g _ _ _ _ _ _ a2).mono fun l k ⟨q1,q2,q3,q0,q4,q5⟩=>?_
     rw[eS] at q4 q5;rw[cP] at q5;simp only[List.length_append,List.length_cons,List.length_nil] at q4;exact⟨by omega,fun _=>by omega,q3,q0,by omega,by omega⟩
   split
   ·exact .form g _
   ·rename_i hn
    have h1:=uZ L (dH ss ws);have h2:=tM ss ws;have h3:=J5 ss ws;exact .ok ⟨Nat.le_refl _,fun h=>absurd h hn,hi,by omega,by omega,by omega⟩
  ·intro b n d x hx hl hk;rw[bA];split
   ·exact .err (by omega) (by omega)
   ·split
    ·rename_i c p hq
     obtain⟨h1,h2⟩:=Co _ _ _ _ _ hq;exact .err (by omega) (by omega)
    ·rename_i ts hq
     have g:=pL x.text hl ts hq;have hpos:=g.pos;have hL:=ih.list g (b+x.place+2) d 0 hpos;have hw:wtP x=3 * x.text.length+3:=by unfold wtP;rw[if_pos hk]
     have hwt:=g.wt;rw[← nY] at hwt;split
     ·exact .none
     ·rename_i e he
      obtain⟨c,p⟩:=e;obtain⟨h1,h2,h3⟩:=hL.2 c p he;exact .err h1 (by omega)
     ·rename_i l i he
      obtain⟨h1,h2,h0,h3,h4⟩:=hL.1 l i he;split
      ·have:=g.place i
       exact .err (by omega) (by omega)
      ·have:=gW 12 0 [] l
       simp only[List.length_nil] at this;exact .ok (by omega)
section
variable {lo hi n b:Nat} {ts:List aF} {α β:Type}
theorem eY {x:aJ α}{k:α→Nat→aJ β}{Q:α→Nat→Prop}(hx:x≠none)(hp:bQ lo hi x Q)(hk:∀ a e,Q a e→k a e≠none):x.go k≠none:=by
 match x,hx,hp with
 | .none,hx,_=>exact absurd rfl hx
 | some (.error e),_,_=>exact fun h=>by cases h
 | some (.ok (a,e)),_,hp=>exact hk a e (hp.1 a e rfl)
theorem p5 {x:aL α}{k:α→aL β}(hx:x≠none)(hk:∀ a,k a≠none):x.go k≠none:=by
 match x,hx with
 | .none,hx=>exact absurd rfl hx
 | some (.error e),_=>exact fun h=>by cases h
 | some (.ok a),_=>exact hk a
theorem uD {x:aL α}{i:Nat}(hx:x≠none):x.at i≠none:=by
 match x,hx with
 | .none,hx=>exact absurd rfl hx
 | some (.error e),_=>exact fun h=>by cases h
 | some (.ok a),_=>exact fun h=>by cases h
theorem j9 {a:α}:oOk a≠none:=fun h=>by cases h
theorem tW {c p:Nat}:(lV c p:aL α)≠none:=fun h=>by cases h
theorem iV {a:α}{i:Nat}:pOk a i≠none:=fun h=>by cases h
theorem KV {c p:Nat}:(jR c p:aJ α)≠none:=fun h=>by cases h
theorem nH {i:Nat}:(formA ts b i:aJ α)≠none:=fun h=>by cases h
theorem pO (g:aU n ts){i:Nat}{s:List UInt8}{k:Nat→aJ β}(hi:i<ts.length)(hk:i+1<ts.length→aI ts (i+1)+2≤aI ts i→k (i+1)≠none):gL ts b i s k≠none:=by
 unfold gL;split
 ·rename_i h
  obtain⟨e1,e2,e3,e4⟩:=tX g hi h;rw[e1];exact hk e2 (by omega)
 ·exact nH
end
def m9 (sub:aC→aL aA) (P:List aC):Prop:=∀ x∈P,x.kind=4→sub x≠none
theorem B9 {sub:aC→aL aA}{P:List aC}(hs:m9 sub P){x:aC}(hx:x∈P)(hv:iX x)(h1:x.kind≠1)(h2:x.kind≠2):dB sub x≠none:=by
 unfold dB;split
 ·exact j9
 split
 ·exact j9
 split
 ·exact j9
 ·rename_i h3 h5 h6
  exact hs x hx (sK hv h1 h2 h3 h5 h6)
theorem wZ {sub:aC→aL aA}{P:List aC}(hs:m9 sub P){x:aC}(hx:x∈P)(hv:iX x):d9 sub x≠none:=by
 unfold d9;split
 ·exact j9
 ·rename_i h12
  exact p5 (B9 hs hx hv (fun e=>h12 (.inl e)) (fun e=>h12 (.inr e))) fun _=>j9
theorem BZ {sub bare:aC→aL aA}{P:List aC}(hs:m9 sub P){x:aC}(hx:x∈P)(hv:iX x)(hb:x.kind≠1→x.kind≠2→bare x≠none):gH sub bare x≠none:=by
 unfold gH;split
 ·exact j9
 split
 ·exact j9
 split
 ·exact hb (by assumption) (by assumption)
 ·exact p5 (wZ hs hx hv) fun _=>j9
theorem Cr {tq:aC→aL aA}:∀ (P:List aC),(∀ x∈P,tq x≠none)→fX tq P≠none
 | [],_=>j9
 | x :: P,h=>by
  rw[fX];exact p5 (h x (by simp)) fun _=>p5 (Cr P fun y hy=>h y (by simp [hy])) fun _=>j9
theorem CT {b:Nat}{t:aF}{l:aA}:gS b t l≠none:=by
 unfold gS;split
 ·exact tW
 ·exact j9
theorem vZ {tq:aC→aL aA}{b:Nat}{t:aF}(h:∀ x∈t.parts,tq x≠none):gE tq b t≠none:=by
 unfold gE;exact p5 (Cr _ h) fun _=>CT
theorem rF {sub:aC→aL aA}{b n:Nat}{t:aF}(hP:j6 n t)(hs:m9 sub t.parts):cS sub b t≠none:=vZ fun x hx=>wZ hs hx (hP.valid x hx)
theorem JM {sub:aC→aL aA}{b n:Nat}{t:aF}(hP:j6 n t)(hs:m9 sub t.parts):kQ sub b t≠none:=by
 unfold kQ;split
 ·exact j9
 ·exact vZ fun x hx=>BZ hs hx (hP.valid x hx) fun _ _=>wZ hs hx (hP.valid x hx)
theorem Cq {sub:aC→aL aA}{b n:Nat}{t:aF}(hP:j6 n t)(hs:m9 sub t.parts):fE sub b t≠none:=by
 unfold fE;split
 ·exact CT
 split
 ·exact rF hP hs
 ·exact p5 (vZ fun x hx=>BZ hs hx (hP.valid x hx) fun h1 h2=>B9 hs hx (hP.valid x hx) h1 h2) fun _=>j9
theorem t6 {aq:Nat→aF→aL aA}{ts:List aF}{b i:Nat}(h:aq b (aM ts i)≠none):wordOf aq ts b i≠none:=by
 unfold wordOf;split
 ·exact uD h
 ·exact nH
theorem CD:∀ {P:List aC}{x:aC},x∈P→wtP x≤bU P
 | y :: P,x,h=>by
  rw[nF]
  rcases List.mem_cons.1 h with rfl | h
  ·omega
  ·have:=CD h
   omega
theorem Ji {t t':aF}{s:List UInt8}(h:eM t=some (s,t')){sub:aC→aL aA}(hs:m9 sub t.parts):m9 sub t'.parts:=by
 obtain⟨_,h1,_,p,ps,r,h2,h3,h4,h5⟩:=lD h;intro x hx hk;rw[h4] at hx
 rcases List.mem_cons.1 hx with rfl | hx
 ·exact absurd (hk.symm.trans h3) (by decide)
 ·exact hs x (by rw[h2];simp [hx]) hk
structure yE (f:Nat):Prop where
 list:∀ {n ts},aU n ts→∀ b d i,i<ts.length→12 * aI ts i+11≤f→cD f ts b d i≠none
 chains:∀ {n ts},aU n ts→∀ b d i L,i<ts.length→(∀ x∈L,0<x.length)→12 * aI ts i+10≤f→fA f ts b d i L≠none
 chain:∀ {n ts},aU n ts→∀ b d i,i<ts.length→12 * aI ts i+9≤f→eX f ts b d i≠none
 chainR:∀ {n ts},aU n ts→∀ b d i o,i<ts.length→0<o.length→12 * aI ts i+1≤f→fW f ts b d i o≠none
 pipe:∀ {n ts},aU n ts→∀ b d i,i<ts.length→12 * aI ts i+8≤f→eB f ts b d i≠none
 pipeR:∀ {n ts},aU n ts→∀ b d i L,i<ts.length→(∀ x∈L,0<x.length)→12 * aI ts i+7≤f→fF f ts b d i L≠none
 command:∀ {n ts},aU n ts→∀ b d i,i<ts.length→12 * aI ts i+6≤f→eT f ts b d i≠none
 body:∀ {n ts},aU n ts→∀ b d i s t,i<ts.length→12 * aI ts i+1≤f→eZ f ts b d i s t≠none
 choice:∀ {n ts},aU n ts→∀ b d i,i<ts.length→12 * aI ts i+2≤f→iA f ts b d i≠none
 whl:∀ {n ts},aU n ts→∀ b d i,i<ts.length→12 * aI ts i+2≤f→jL f ts b d i≠none
 each:∀ {n ts},aU n ts→∀ b d i,i<ts.length→(aM ts i).kind≠0→12 * aI ts i+2≤f→jO f ts b d i≠none
 fields:∀ {n ts},aU n ts→∀ b d i L,i<ts.length→(∀ x∈L,0<x.length)→12 * aI ts i+1≤f→jI f ts b d i L≠none
 choose:∀ {n ts},aU n ts→∀ b d i,i<ts.length→(aM ts i).kind≠0→12 * aI ts i+2≤f→jH f ts b d i≠none
 cases:∀ {n ts},aU n ts→∀ b d i L,i<ts.length→(∀ x∈L,0<x.length)→12 * aI ts i+2≤f→jK f ts b d i L≠none
 function:∀ {n ts},aU n ts→∀ b d i s,i<ts.length→dT (aM ts i)=some s→(aM ts (aSk ts i)).kind=7→12 * aI ts i+2≤f→jA f ts b d i s≠none
 turns:∀ {n ts},aU n ts→∀ b d i c L,i<ts.length→0<c.length→12 * aI ts i+1≤f→cO f ts b d i c L≠none
 simple:∀ {n ts},aU n ts→∀ b d i ss ws L,i<ts.length→12 * aI ts i+1≤f→cA f ts b d i ss ws L≠none
 sub:∀ (b d:Nat) (x:aC),x.text.length≤8192→36 * x.text.length+24≤f→bA f b d x≠none
theorem yE.subN {f:Nat}(h:yE f){n:Nat}{ts:List aF}(g:aU n ts)(b d i:Nat)(hf:12 * wtT (aM ts i)≤f):m9 (fun x=>bA f b d x) (aM ts i).parts:=fun x hx hk=>by
 obtain⟨_,h2,h3⟩:=g.part i x hx;have h4:=CD hx;have h5:wtP x=3 * x.text.length+3:=by unfold wtP;rw[if_pos hk]
 unfold wtT at hf;exact h.sub b d x h2 (by omega)
theorem yF:∀ f,yE f
 | 0=>by
  constructor <;> intros <;> omega
 | f+1=>by
  have ih:=yF f;have hP:=jU f;refine ⟨?_,?_,?_,?_,?_,?_,?_,?_,?_,?_,?_,?_,?_,?_,?_,?_,?_,?_⟩
  ·intro n ts g b d i hi hf;rw[cD];split
   ·exact KV
   ·exact ih.chains g _ _ _ [] hi (fun x hx=>by cases hx) (by omega)
  ·intro n ts g b d i L hi hL hf;rw[fA];have hp:=iP (ts:=ts) [1,2] hi;split
   ·exact iV
   ·exact eY (ih.chain g _ _ _ hp.2.1 (by omega)) (hP.chain g b d _ hp.2.1) fun c e ⟨h1,h2,h0,_⟩=>by
     have hr:=rem_le (ts:=ts) (Nat.le_of_lt h1) (Nat.le_of_lt h2);exact ih.chains g _ _ _ _ h2 (jX hL h0) (by omega)
  ·intro n ts g b d i hi hf;rw[eX]
   exact eY (ih.pipe g _ _ _ hi (by omega)) (hP.pipe g b d _ hi) fun c e ⟨h1,h2,h0,_⟩=>by
    have hr:=rem_le (ts:=ts) (Nat.le_of_lt h1) (Nat.le_of_lt h2);exact ih.chainR g _ _ _ _ h2 h0 (by omega)
  ·intro n ts g b d i o hi ho hf;rw[fW];split
   ·rename_i hk
    obtain⟨e1,e2,e3,e4⟩:=iE g hi (by decide) hk
    rw[e1];have hp:=iP (ts:=ts) [1] e2
    exact eY (ih.pipe g _ _ _ hp.2.1 (by omega)) (hP.pipe g b d _ hp.2.1) fun c e ⟨h1,h2,h0,_⟩=>by
     have hr:=rem_le (ts:=ts) (Nat.le_of_lt h1) (Nat.le_of_lt h2);exact ih.chainR g _ _ _ _ h2 (rA _ _ _ _) (by omega)
   ·exact iV
  ·intro n ts g b d i hi hf;rw[eB]
   have hjj:(if eD ts i [[33]]=true then aSk ts i else i)<ts.length∧aI ts (if eD ts i [[33]]=true then aSk ts i else i)≤aI ts i:=by
    split
    ·rename_i hk
     obtain⟨e1,e2,e3,e4⟩:=tX g hi hk;rw[e1];omega
    ·exact⟨hi,Nat.le_refl _⟩
   exact eY (ih.pipeR g _ _ _ _ hjj.1 (fun x hx=>by cases hx) (by omega)) (hP.pipeR g b d _ _ hjj.1 (fun x hx=>by cases hx)) fun _ _ _=>iV
  ·intro n ts g b d i L hi hL hf;rw[fF];refine eY (ih.command g _ _ _ hi (by omega)) (hP.command g b d _ hi) fun c e ⟨h1,h2,h0,_⟩=>?_
   have hr:=rem_le (ts:=ts) (Nat.le_of_lt h1) (Nat.le_of_lt h2);split
   ·rename_i hk
    obtain⟨e1,e2,e3,e4⟩:=iE g h2 (by decide) hk
    rw[e1];have hp:=iP (ts:=ts) [1] e2;exact ih.pipeR g _ _ _ _ hp.2.1 (jX hL h0) (by omega)
   ·exact iV
  ·intro n ts g b d i hi hf;rw[eT]
   have hturn:∀ {x:aJ aA},x≠none→bQ b (b+n) x (fun l e=>i<e∧e<ts.length∧0<l.length∧l.length+8 * aI ts e≤8 * aI ts i∧txP l+30000 * aI ts e≤30000 * aI ts i)→(x.go fun l j=>cO f ts b d j l [])≠none:=fun h1 h2=>eY h1 h2 fun c e ⟨h1,h2,h0,_⟩=>by
    have hr:=rem_le (ts:=ts) (Nat.le_of_lt h1) (Nat.le_of_lt h2);exact ih.turns g _ _ _ _ _ h2 h0 (by omega)
   have hsim:cA f ts b d i [] [] []≠none:=ih.simple g _ _ _ _ _ _ hi (by omega)
   split
   ·exact hsim
   ·rename_i s hs
    have hk:=nG hs;have hk0:(aM ts i).kind≠0:=by rw[hk];decide
    obtain⟨e1,e2,e3,_⟩:=jV g hi hk0;have e4:=rN hs;split
    ·split
     ·rename_i hc
      exact ih.function g _ _ _ _ hi hs hc.2 (by omega)
     ·exact hsim
    split
    ·rw[e1]
     exact eY (ih.list g _ _ _ e2 (by omega)) (hP.list g b d _ e2) fun c e ⟨h1,h2,h0,_⟩=>pO g h2 fun w1 w2=>by
      have hr:=rem_le (ts:=ts) h1 (Nat.le_of_lt h2);exact ih.turns g _ _ _ _ _ w1 h0 (by omega)
    split
    ·exact hturn (ih.choice g _ _ _ hi (by omega)) (hP.choice g b d _ hi)
    split
    ·exact hturn (ih.whl g _ _ _ hi (by omega)) (hP.whl g b d _ hi)
    split
    ·exact hturn (ih.each g _ _ _ hi hk0 (by omega)) (hP.each g b d _ hi hk0)
    split
    ·exact hturn (ih.choose g _ _ _ hi hk0 (by omega)) (hP.choose g b d _ hi hk0)
    ·exact nH
  ·intro n ts g b d i s t hi hf;rw[eZ];refine pO g hi fun w1 w2=>eY (ih.list g _ _ _ w1 (by omega)) (hP.list g b d _ w1) fun l e ⟨h1,h2,_⟩=>?_
   split
   ·exact iV
   ·exact pO g h2 fun _ _=>iV
  ·intro n ts g b d i hi hf;rw[iA];refine eY (ih.body g _ _ _ _ _ hi (by omega)) (hP.body g b d _ _ _ hi) fun c j ⟨a1,a2,_⟩=>?_
   have hr:=rem_le (ts:=ts) (Nat.le_of_lt a1) (Nat.le_of_lt a2);refine eY (ih.body g _ _ _ _ _ a2 (by omega)) (hP.body g b d _ _ _ a2) fun y k ⟨b1,b2,_⟩=>?_
   have hr2:=rem_le (ts:=ts) (Nat.le_of_lt b1) (Nat.le_of_lt b2);refine eY (lo:=b) (hi:=b+n) (Q:=fun l e=>e<ts.length) ?_ ?_ fun z m hm=>pO g hm fun _ _=>iV
   ·split
    ·exact ih.body g _ _ _ _ _ b2 (by omega)
    ·exact iV
   ·split
    ·exact (hP.body g b d _ _ _ b2).mono fun l e h=>h.2.1
    ·exact .ok b2
  ·intro n ts g b d i hi hf;rw[jL];refine eY (ih.body g _ _ _ _ _ hi (by omega)) (hP.body g b d _ _ _ hi) fun c j ⟨a1,a2,_⟩=>?_
   have hr:=rem_le (ts:=ts) (Nat.le_of_lt a1) (Nat.le_of_lt a2);exact eY (ih.body g _ _ _ _ _ a2 (by omega)) (hP.body g b d _ _ _ a2) fun y k _=>iV
  ·intro n ts g b d i hi h0 hf;rw[jO];obtain⟨e1,e2,e3,e4⟩:=jV g hi h0;rw[e1];split
   ·exact nH
   ·rename_i s hs
    split
    ·obtain⟨f1,f2,f3,_⟩:=jV g e2 (by rw[nG hs];decide)
     rw[f1];refine pO g f2 fun w1 w2=>eY (ih.fields g _ _ _ _ w1 (fun x hx=>by cases hx) (by omega)) (hP.fields g b d _ _ w1 (fun x hx=>by cases hx)) fun ws j ⟨a1,a2,_⟩=>?_
     have hr:=rem_le (ts:=ts) a1 (Nat.le_of_lt a2);have hp:=iP (ts:=ts) [1,2] a2;exact eY (ih.body g _ _ _ _ _ hp.2.1 (by omega)) (hP.body g b d _ _ _ hp.2.1) fun _ _ _=>iV
    ·exact nH
  ·intro n ts g b d i L hi hL hf;rw[jI];split
   ·rename_i hk
    have hk0:(aM ts i).kind≠0:=by
     rw[mC] at hk;simp only[List.mem_singleton] at hk;omega
    have hr:=kJ hi;have hs:=ih.subN g b d i (by omega)
    refine eY (uD (Cq (g.parts i) hs)) (pP g hi hk0 (qS (g.parts i) (hP.subQ g b d i))) fun w j ⟨a1,a2,a0,_⟩=>?_
    have hr:=rem_le (ts:=ts) (show i≤j by omega) (Nat.le_of_lt a2)
    exact ih.fields g _ _ _ _ a2 (jX hL a0) (by omega)
   ·exact iV
  ·intro n ts g b d i hi h0 hf;rw[jH];obtain⟨e1,e2,e3,e4⟩:=jV g hi h0;rw[e1];have hr:=kJ e2;refine eY (t6 (rF (g.parts _) (ih.subN g b d (i+1) (by omega)))) (mQ g e2 (lF (g.parts _) (hP.subQ g b d _))) fun w j ⟨a1,a2,a0,_⟩=>?_
   have hr:=rem_le (ts:=ts) (show i+1≤j by omega) (Nat.le_of_lt a2)
   have hp:=iP (ts:=ts) [1] a2;refine pO g hp.2.1 fun w1 w2=>?_
   have hp2:=iP (ts:=ts) [1] w1;exact eY (ih.cases g _ _ _ _ hp2.2.1 (jX (L:=[]) (fun x hx=>by cases hx) a0) (by omega)) (hP.cases g b d _ _ hp2.2.1 (jX (L:=[]) (fun x hx=>by cases hx) a0)) fun _ _ _=>iV
  ·intro n ts g b d i L hi hL hf;rw[jK];split
   ·exact iV
   ·obtain⟨j,hj⟩:∃ j,(if aIs ts i [7]=true then aSk ts i else i)=j:=⟨_,rfl⟩
    have hjj:i≤j∧j<ts.length∧aI ts j≤aI ts i:=by
     rw[← hj];split
     ·rename_i hk
      obtain⟨e1,e2,e3,e4⟩:=iE g hi (by decide) hk
      rw[e1];omega
     ·omega
    rw[hj];have hr:=kJ hjj.2.1;refine eY (t6 (JM (g.parts _) (ih.subN g b d j (by omega)))) (mQ g hjj.2.1 (AU (g.parts _) (hP.subQ g b d _))) fun w k ⟨a1,a2,a0,_⟩=>?_
    have hr:=rem_le (ts:=ts) (show j≤k by omega) (Nat.le_of_lt a2)
    split
    ·rename_i hk
     obtain⟨e1,e2,e3,e4⟩:=iE g a2 (by decide) hk
     rw[e1];refine eY (ih.list g _ _ _ e2 (by omega)) (hP.list g b d _ e2) fun c e ⟨h1,h2,h0,_⟩=>?_
     have hr:=rem_le (ts:=ts) h1 (Nat.le_of_lt h2);obtain⟨m,hm⟩:∃ m,(if aIs ts e [3]=true then aSk ts e else e)=m:=⟨_,rfl⟩
     have hmm:e≤m∧m<ts.length∧aI ts m≤aI ts e:=by
      rw[← hm];split
      ·rename_i hk
       obtain⟨e1,e2,e3,e4⟩:=iE g h2 (by decide) hk
       rw[e1];omega
      ·omega
     rw[hm];have hp:=iP (ts:=ts) [1] hmm.2.1
     exact ih.cases g _ _ _ _ hp.2.1 (by
      have:=jX (jX hL a0) h0
      simpa using this) (by omega)
    ·exact nH
  ·intro n ts g b d i s hi hs h7 hf;rw[jA];obtain⟨e1,e2,e3,_⟩:=jV g hi (by rw[nG hs];decide)
   rw[e1] at h7 ⊢;obtain⟨f1,f2,f3,f4⟩:=jV g e2 (by rw[h7];decide)
   rw[f1];split
   ·rename_i hk
    obtain⟨k1,k2,k3,k4⟩:=iE g f2 (by decide) hk
    rw[k1];have hp:=iP (ts:=ts) [1] k2;exact eY (ih.body g _ _ _ _ _ hp.2.1 (by omega)) (hP.body g b d _ _ _ hp.2.1) fun _ _ _=>iV
   ·exact nH
  ·intro n ts g b d i c L hi hc hf;rw[cO];split
   ·rename_i hk
    obtain⟨e1,e2,e3,e4⟩:=iE g hi (by decide) hk
    rw[e1];have hr:=kJ e2;refine eY (t6 (rF (g.parts _) (ih.subN g b d (i+1) (by omega)))) (mQ g e2 (lF (g.parts _) (hP.subQ g b d _))) fun w j ⟨a1,a2,a0,_⟩=>?_
    have hr:=rem_le (ts:=ts) (show i+1≤j by omega) (Nat.le_of_lt a2)
    exact ih.turns g _ _ _ _ _ a2 hc (by omega)
   ·exact iV
  ·intro n ts g b d i ss ws L hi hf;rw[cA];split
   ·rename_i hk
    obtain⟨e1,e2,e3,e4⟩:=iE g hi (by decide) hk
    rw[e1];have hr:=kJ e2;refine eY (t6 (rF (g.parts _) (ih.subN g b d (i+1) (by omega)))) (mQ g e2 (lF (g.parts _) (hP.subQ g b d _))) fun w j ⟨a1,a2,a0,_⟩=>?_
    have hr:=rem_le (ts:=ts) (show i+1≤j by omega) (Nat.le_of_lt a2)
    exact ih.simple g _ _ _ _ _ _ a2 (by omega)
   split
   ·rename_i hk
    have hk0:(aM ts i).kind≠0:=by
     rw[mC] at hk;simp only[List.mem_singleton] at hk;omega
    have hr:=kJ hi;have hsN:=ih.subN g b d i (by omega)
    split
    ·rename_i s t hst
     have hs:eM (aM ts i)=some (s,t):=by
      split at hst
      ·exact hst
      ·cases hst
     obtain⟨s1,s2,s3,_⟩:=lD hs;refine eY (uD (rF (pC hs (g.parts i)) (Ji hs hsN))) (pP g hi hk0 ((lF (pC hs (g.parts i)) (vC hs (hP.subQ g b d i))).mono fun l h=>by unfold iY at h ⊢;rw[s3] at h;exact h)) fun w j ⟨a1,a2,a0,_⟩=>?_
     have hr:=rem_le (ts:=ts) (show i≤j by omega) (Nat.le_of_lt a2)
     exact ih.simple g _ _ _ _ _ _ a2 (by omega)
    ·refine eY (uD (Cq (g.parts i) hsN)) (pP g hi hk0 (qS (g.parts i) (hP.subQ g b d i))) fun w j ⟨a1,a2,a0,_⟩=>?_
     have hr:=rem_le (ts:=ts) (show i≤j by omega) (Nat.le_of_lt a2)
     exact ih.simple g _ _ _ _ _ _ a2 (by omega)
   split
   ·exact nH
   ·exact iV
  ·intro b d x hl hf;rw[bA];split
   ·exact tW
   ·split
    ·exact tW
    ·rename_i ts hq
     have g:=pL x.text hl ts hq;have hwt:=g.wt;rw[← nY] at hwt;have hL:=ih.list g (b+x.place+2) d 0 g.pos (by omega)
     split
     ·contradiction
     ·exact fun h=>by cases h
     ·split
      ·exact tW
      ·exact j9
def okA (k:Int):Bool:=![36,37].contains k
theorem EM (out:List aA)(x:aA):0<(aY out x).length:=by
 unfold aY;split
 ·split <;> simp
 ·simp
def VF (w:Bool) (l:aA):Prop:=∃ D,WFP okA 2000 w D l
def VX (w:Bool) (l:aA):Prop:=∃ M D,WFP okA M w D l
theorem VF.x {w:Bool}{l:aA}(h:VF w l):VX w l:=⟨2000,h⟩
theorem Bv:∀ (kids:List aA)(T:Nat→Bool),(∀ j kid,kids[j]?=some kid→VX (T j) kid)→∃ M D,∀ j kid,kids[j]?=some kid→WFP okA M (T j) D kid
 | [],T,_=>⟨0,0,fun j kid h=>by simp at h⟩
 | a :: kids,T,h=>by
  obtain⟨M,D,ha⟩:=h 0 a rfl;obtain⟨N,E,hk⟩:=Bv kids (fun j=>T (j+1)) (fun j kid hj=>h (j+1) kid (by simpa using hj))
  refine ⟨max M N,max D E,fun j kid hj=>?_⟩
  cases j with
  | zero =>
   cases hj
   exact (ha.widen (Nat.le_max_left _ _)).mono (Nat.le_max_left _ _)
  | succ j=>exact ((hk j kid (by simpa using hj)).widen (Nat.le_max_right _ _)).mono (Nat.le_max_right _ _)
theorem BP:∀ (kids:List aA)(T:Nat→Bool),(∀ j kid,kids[j]?=some kid→VF (T j) kid)→∃ D,∀ j kid,kids[j]?=some kid→WFP okA 2000 (T j) D kid
 | [],T,_=>⟨0,fun j kid h=>by simp at h⟩
 | a :: kids,T,h=>by
  obtain⟨D,ha⟩:=h 0 a rfl;obtain⟨E,hk⟩:=BP kids (fun j=>T (j+1)) (fun j kid hj=>h (j+1) kid (by simpa using hj))
  refine ⟨max D E,fun j kid hj=>?_⟩
  cases j with
  | zero =>
   cases hj
   exact ha.mono (Nat.le_max_left _ _)
  | succ j=>exact (hk j kid (by simpa using hj)).mono (Nat.le_max_right _ _)
theorem VF.node {w:Bool}{kind n:Int}{s:List UInt8}{kids:List aA}(hk:(kS ⟨kind,n,kids.length,0,s⟩ w&&okA kind)=true)(hf:bW 2000 ⟨kind,n,kids.length,0,s⟩=true)(hc:bJ ⟨kind,n,kids.length,0,s⟩=true)
  (hK:∀ (j:Nat) (kid:aA),kids[j]?=some kid→VF (cQ kind kids.length j) kid):VF w (aE kind n s kids):=by
 obtain⟨D,hD⟩:=BP kids (fun j=>cQ kind kids.length j) hK
 exact⟨D+1,.node w D kind n s kids hk hf hc hD⟩
theorem VX.node {w:Bool}{kind n:Int}{s:List UInt8}{kids:List aA}(hk:(kS ⟨kind,n,kids.length,0,s⟩ w&&okA kind)=true)(hf:bW s.length ⟨kind,n,kids.length,0,s⟩=true)(hc:bJ ⟨kind,n,kids.length,0,s⟩=true)
  (hK:∀ (j:Nat) (kid:aA),kids[j]?=some kid→VX (cQ kind kids.length j) kid):VX w (aE kind n s kids):=by
 obtain⟨M,D,hD⟩:=Bv kids (fun j=>cQ kind kids.length j) hK
 exact⟨max M s.length,D+1,.node w D kind n s kids hk (uP (Nat.le_max_right _ _) _ hf) hc fun j kid hj=>(hD j kid hj).widen (Nat.le_max_left _ _)⟩
theorem VX.checked {w:Bool}{l:aA}(h:VX w l)(hs:cM l=false):VF w l:=by
 obtain⟨M,D,h⟩:=h;refine ⟨D,h.short fun x hx hk=>?_⟩
 unfold cM at hs;rw[List.any_eq_false] at hs;have:=hs x hx
 simp only[Bool.and_eq_true,decide_eq_true_eq] at this;omega
theorem VX.lit {n:Int}{s:List UInt8}(h:n=0∨n=1∧dP s=true):VX true (aE 1 n s []) :=
 VX.node (by rfl) (by simpa [bW] using h) (by rfl) fun j kid hj=>by simp at hj
theorem VX.lit_inv {y:bH}(h:VX true [y])(hk:y.kind=1):(y.n=0∨y.n=1∧dP y.text=true):=by
 obtain⟨M,D,h⟩:=h;generalize hl:[y]=l at h
 cases h with
 | node w D kind n s kids hk' hf hc hK =>
  rw[aE] at hl;obtain⟨rfl,_⟩:=List.cons.inj hl;unfold bW at hf;rw[if_pos hk] at hf;simp only[Bool.and_eq_true,Bool.or_eq_true,decide_eq_true_eq] at hf;exact hf.1
def KI (how:Nat) (x:aA):Prop:=VX true x∧∀ y,x=[y]→y.kind=1→y.n=how
theorem KI.more {how:Nat}{kind n:Int}{s:List UInt8}{kids:List aA}(h:VX true (aE kind n s kids))(hk:kind≠1):KI how (aE kind n s kids) :=
 ⟨h,fun y e hy=>by
  rw[aE] at e;obtain⟨rfl,_⟩:=List.cons.inj e;exact absurd hy hk⟩
theorem KI.lit {how:Nat}{s:List UInt8}(hh:how=0∨how=1∧dP s=true):KI how (aE 1 how s []) :=
 ⟨VX.lit (hh.elim (fun h=>.inl (by rw[h];rfl)) (fun h=>.inr ⟨by rw[h.1];rfl,h.2⟩)),fun y e _=>by
  rw[aE] at e;obtain⟨rfl,_⟩:=List.cons.inj e;rfl⟩
theorem F9 {how:Nat}(out:List aA)(x:aA)(ho:∀ y∈out,KI how y)(hx:KI how x):∀ y∈aY out x,KI how y:=by
 have hall:∀ y∈out++[x],KI how y:=fun y hy=>by
  rcases List.mem_append.1 hy with h | h
  ·exact ho y h
  ·rw[List.mem_singleton] at h;exact h ▸ hx
 unfold aY;split
 ·rename_i y z hl
  obtain⟨Q,rfl⟩:=List.getLast?_eq_some_iff.1 hl;split
  ·rename_i hk
   rw[List.dropLast_concat];have hy:=ho [y] (by simp)
   have n1:=hy.2 y rfl hk.1;have n2:=hx.2 z rfl hk.2;have i1:=hy.1.lit_inv hk.1;have i2:=hx.1.lit_inv hk.2;intro a ha
   rcases List.mem_append.1 ha with h | h
   ·exact ho a (by simp [h])
   ·rw[List.mem_singleton] at h;subst h;rw[n2];refine KI.lit ?_;rw[n1] at i1;rw[n2] at i2
    rcases i1 with i1 | i1
    ·exact .inl (by omega)
    ·rcases i2 with i2 | i2
     ·exact .inl (by omega)
     ·exact .inr ⟨by omega,pD _ _ i1.2 i2.2⟩
  ·exact hall
 ·exact hall
theorem CU {how:Nat}:∀ (l out:List aA),(∀ y∈out,KI how y)→(∀ y∈l,KI how y)→(∀ y∈l.foldl aY out,KI how y)∧(0<out.length+l.length→0<(l.foldl aY out).length)
 | [],out,ho,_=>⟨ho,fun h=>by simpa using h⟩
 | x :: l,out,ho,hl=>by
  obtain⟨h1,h2⟩:=CU l (aY out x) (F9 out x ho (hl x (by simp))) (fun y hy=>hl y (by simp [hy]))
  exact⟨h1,fun _=>h2 (by have:=EM out x;omega)⟩
theorem xQ (l:List aA)(h:∀ x∈l,VF false x):VF false (eH l):=by
 unfold eH;split
 ·exact .node (by rfl) (by rfl) (by rfl) fun j kid hj=>by simp at hj
 ·exact h _ (by simp)
 ·rename_i h0 h1
  refine .node (by rfl) (by rfl) ?_ fun j kid hj=>lM h j kid hj
  have:2≤l.length:=by
   match l,h0,h1 with
   | [],h0,_=>exact absurd rfl h0
   | [a],_,h1=>exact absurd rfl (h1 a)
   | a :: b :: l,_,_=>simp
  simp [bJ]
  omega
theorem KZ (l:List aA)(h:∀ x∈l,VF true x):VF true (lC l):=by
 unfold lC;split
 ·exact h _ (by simp)
 ·exact .node (by rfl) (by rfl) (by simp [bJ]) fun j kid hj=>lM h j kid hj
def rX (l:List (List UInt8×aA)):Prop:=∀ t∈l,bF t.1=true∧VF true t.2
theorem KW (sets:List (List UInt8×aA))(words:List aA)(hs:rX sets)(hw:∀ x∈words,VF true x):VF false (dH sets words):=by
 unfold dH;split
 ·refine xQ _ fun x hx=>?_
  obtain⟨t,ht,rfl⟩:=List.mem_map.1 hx;obtain⟨h1,h2⟩:=hs t ht;exact .node (by rfl) (by simpa [bW,j8] using h1) (by rfl) (gK h2)
 ·rename_i hl
  have h0:VF false (aE 21 0 [] words):=.node (by rfl) (by rfl) (by simp [bJ];omega) fun j kid hj=>lM hw j kid hj
  clear hl
  induction sets with
  | nil=>exact h0
  | cons t sets ih =>
   obtain⟨h1,h2⟩:=hs t (by simp)
   rw[List.foldr_cons];exact .node (by rfl) (by simpa [bW,j8] using h1) (by rfl) (kD h2 (ih fun t ht=>hs t (by simp [ht])))
def rS (l:List aA):Prop:=l.length % 2=1∧∀ (j:Nat) (x:aA),l[j]?=some x→VF (decide (j=0) || decide (j % 2=1)) x
theorem rS.snoc {l:List aA}(h:rS l){a b:aA}(ha:VF true a)(hb:VF false b):rS (l++[a,b]):=by
 obtain⟨h1,h2⟩:=h;refine ⟨by simp only[List.length_append,List.length_cons,List.length_nil];omega,fun j x hj=>?_⟩
 by_cases hlt:j<l.length
 ·exact h2 j x (by rwa [List.getElem?_append_left hlt] at hj)
 ·rw[List.getElem?_append_right (by omega)] at hj
  obtain⟨d,hd⟩:∃ d,j - l.length=d:=⟨_,rfl⟩;rw[hd] at hj
  match d,hd,hj with
  | 0,hd,hj =>
   cases hj
   rw[show (decide (j=0) || decide (j % 2=1))=true by simp;omega]
   exact ha
  | 1,hd,hj =>
   cases hj
   rw[show (decide (j=0) || decide (j % 2=1))=false by simp;omega]
   exact hb
  | d+2,hd,hj=>simp at hj
theorem rX.snoc {l:List (List UInt8×aA)}(h:rX l){n:List UInt8}{w:aA}(hn:bF n=true)(hw:VF true w):rX (l++[(n,w)]):=fun y hy=>by
 rcases List.mem_append.1 hy with h' | h'
 ·exact h y h'
 ·rw[List.mem_singleton] at h';exact h' ▸ ⟨hn,hw⟩
def pU (l:List (Nat×aA)):Prop:=∀ t∈l,(t.1=9∨t.1=10∨t.1=11∨t.1=12)∧VF true t.2
theorem vK:∀ (l:List (Nat×aA))(c:aA),pU l→VF false c→VF false (gN l c)
 | [],c,_,hc=>hc
 | t :: l,c,hl,hc=>by
  have ih:=vK l c (fun t ht=>hl t (by simp [ht])) hc
  obtain⟨h1,h2⟩:=hl t (by simp)
  show VF false (if t.1=12 then aE 34 0 [] [t.2,gN l c] else aE 33 ((t.1:Int) - 8) [] [t.2,gN l c])
  split
  ·exact .node (by rfl) (by rfl) (by rfl) (kD h2 ih)
  ·refine .node (by rfl) ?_ (by rfl) (kD h2 ih)
   simp [bW]
   omega
theorem pU.snoc {l:List (Nat×aA)}(h:pU l){k:Nat}{w:aA}(hk:k=9∨k=10∨k=11∨k=12)(hw:VF true w):pU (l++[(k,w)]):=fun y hy=>by
 rcases List.mem_append.1 hy with h' | h'
 ·exact h y h'
 ·rw[List.mem_singleton] at h';exact h' ▸ ⟨hk,hw⟩
theorem zH {ts:List aF}{i:Nat}(h:kV ts i=true):(aM ts i).kind=9∨(aM ts i).kind=10∨(aM ts i).kind=11∨(aM ts i).kind=12:=by
 simpa using (mC _ _ _).1 h
def OkO {α:Type} (x:aL α) (Q:α→Prop):Prop:=∀ a,x=some (.ok a)→Q a
theorem OkO.ok {α:Type}{Q:α→Prop}{a:α}(h:Q a):OkO (oOk a) Q:=fun _ h'=>by cases h';exact h
theorem OkO.err {α:Type}{Q:α→Prop}{c p:Nat}:OkO (lV c p:aL α) Q:=fun _ h=>by cases h
theorem OkO.none {α:Type}{Q:α→Prop}:OkO (none:aL α) Q:=fun _ h=>by cases h
theorem OkO.mono {α:Type}{x:aL α}{Q R:α→Prop}(h:OkO x Q)(hR:∀ a,Q a→R a):OkO x R:=fun a hx=>hR a (h a hx)
theorem OkO.go {α β:Type}{x:aL α}{k:α→aL β}{Q:α→Prop}{R:β→Prop}(h:OkO x Q)(hk:∀ a,Q a→OkO (k a) R):OkO (x.go k) R:=by
 match x,h with
 | .none,_=>exact .none
 | some (.error e),_=>exact fun _ h'=>by cases h'
 | some (.ok a),h=>exact hk a (h a rfl)
theorem OkO.at {α:Type}{x:aL α}{Q:α→Prop}{i:Nat}(h:OkO x Q):OkP (x.at i) Q:=by
 match x,h with
 | .none,_=>exact .none
 | some (.error e),_=>exact fun _ _ h'=>by cases h'
 | some (.ok a),h=>exact .ok (h a rfl)
theorem OkP.formA {α:Type}{Q:α→Prop}{ts:List aF}{b i:Nat}:OkP (formA ts b i:aJ α) Q:=.err
theorem OkP.want {β:Type}{ts:List aF}{b i:Nat}{s:List UInt8}{k:Nat→aJ β}{R:β→Prop}(hk:∀ e,OkP (k e) R):OkP (gL ts b i s k) R:=by
 unfold gL;split
 ·exact hk _
 ·exact .formA
def m8 (sub:aC→aL aA) (P:List aC):Prop:=∀ x∈P,x.kind=4→OkO (sub x) fun l=>∃ m,l=aE 12 0 [] [m]∧VF false m
theorem yD (s:List UInt8)(hs:bF s=true∨s=[42]):VX true (aE 2 0 s []):=VX.node (by rfl) (by simpa [bW] using hs) (by rfl) fun j kid hj=>by simp at hj
theorem xC {sub:aC→aL aA}{P:List aC}(hs:m8 sub P){x:aC}(hx:x∈P)(hv:iX x)(h1:x.kind≠1)(h2:x.kind≠2)(how:Nat):OkO (dB sub x) (KI how):=by
 unfold dB;split
 ·rename_i hk
  refine .ok (KI.more (yD _ ?_) (by decide))
  rcases hv with h | h | h | h | h | h
  ·exact absurd h.1 h1
  ·exact absurd h h2
  ·exact h.2
  ·omega
  ·omega
  ·omega
 split
 ·rename_i hk
  have hn:1≤x.num∧x.num≤9:=by
   unfold iX at hv;omega
  exact .ok (KI.more (VX.node (by rfl) (by simp [bW];omega) (by rfl) (gK (yD _ (.inr rfl)))) (by decide))
 split
 ·exact .ok (KI.more (VX.node (by rfl) (by rfl) (by rfl) (gK (yD _ (.inr rfl)))) (by decide))
 ·rename_i h3 h5 h6
  refine (hs x hx (sK hv h1 h2 h3 h5 h6)).mono fun l ⟨m,hl,hm⟩=>?_
  subst hl;exact KI.more (VX.node (by rfl) (by rfl) (by rfl) (gK hm.x)) (by decide)
theorem xF {sub:aC→aL aA}{P:List aC}(hs:m8 sub P){x:aC}(hx:x∈P)(hv:iX x):OkO (d9 sub x) fun l=>KI 0 l∧(x.kind≠1→x.kind≠2→KI 1 l):=by
 unfold d9;split
 ·rename_i h
  exact .ok ⟨KI.lit (how:=0) (.inl rfl),fun h1 h2=>by omega⟩
 ·rename_i h12
  intro l hl
  cases hi:dB sub x with
  | none=>rw[hi] at hl;cases hl
  | some r =>
   cases r with
   | error e=>rw[hi] at hl;cases hl
   | ok m =>
    rw[hi] at hl
    cases hl
    have h0:=xC hs hx hv (fun e=>h12 (.inl e)) (fun e=>h12 (.inr e)) 0 m hi
    have h1:=xC hs hx hv (fun e=>h12 (.inl e)) (fun e=>h12 (.inr e)) 1 m hi
    split
    ·have:VX true (aE 9 0 [] [m]):=VX.node (by rfl) (by rfl) (by rfl) (gK h0.1)
     exact⟨KI.more this (by decide),fun _ _=>KI.more this (by decide)⟩
    ·exact⟨h0,fun _ _=>h1⟩
theorem uQ:∀ (s:List UInt8),(∀ c∈s,c.toNat≠92)→dP s=true
 | [],_=>rfl
 | [c],h=>by
  have:=h c (by simp)
  simp [dP,bN,this]
 | c :: d :: s,h=>by
  rw[nC,if_neg (h c (by simp))]
  exact uQ (d :: s) fun x hx=>h x (by simp at hx ⊢;exact .inr hx)
theorem BW {sub bare:aC→aL aA}{P:List aC}(hs:m8 sub P){x:aC}(hx:x∈P)(hv:iX x)(hb:x.kind≠1→x.kind≠2→OkO (bare x) (KI 1)):OkO (gH sub bare x) (KI 1):=by
 unfold gH;split
 ·rename_i hk
  refine .ok (KI.lit (how:=1) (.inr ⟨rfl,uQ _ fun c hc=>?_⟩))
  rcases hv with h | h
  ·exact h.2 c hc
  ·omega
 split
 ·exact .ok (KI.lit (how:=1) (.inr ⟨rfl,r5 _⟩))
 split
 ·exact hb (by assumption) (by assumption)
 ·exact (xF hs hx hv).go fun l hl=>.ok (KI.more (VX.node (by rfl) (by rfl) (by rfl) (gK hl.1.1)) (by decide))
theorem B1 {tq:aC→aL aA}{how:Nat}:∀ (P:List aC),(∀ x∈P,OkO (tq x) (KI how))→OkO (fX tq P) fun l=>∀ y∈l,KI how y
 | [],_=>.ok fun y hy=>by cases hy
 | x :: P,h=>by
  rw[fX];refine (h x (by simp)).go fun n hn=>(B1 P fun y hy=>h y (by simp [hy])).go fun l hl=>.ok fun y hy=>?_
  rcases List.mem_cons.1 hy with rfl | hy
  ·exact hn
  ·exact hl y hy
theorem JG {how:Nat}(l:List aA)(hl:∀ x∈l,KI how x):VX true (dK l):=by
 unfold dK;split
 ·exact (KI.lit (how:=0) (.inl rfl)).1
 ·rename_i a m
  obtain⟨h1,h2⟩:=CU (a :: m) [] (fun _ h=>nomatch h) hl
  have h3:=h2 (by simp)
  generalize (a :: m).foldl aY []=o at *;have hf:∀ x∈o.filter fI,KI how x:=fun x hx=>h1 x (List.mem_filter.1 hx).1
  split
  ·cases o with
   | nil=>simp at h3
   | cons x o=>exact (h1 x (by simp)).1
  ·rename_i x hx
   exact (hf x (by rw[hx];simp)).1
  ·rename_i h0 h1
   refine VX.node (by rfl) (by rfl) ?_ fun j kid hj=>lM (fun x hx=>(hf x hx).1) j kid hj
   have:0<(o.filter fI).length:=List.length_pos_iff.2 h0
   simp [bJ]
   omega
theorem Cy {b:Nat}{t:aF}{l:aA}(h:VX true l):OkO (gS b t l) (VF true):=by
 unfold gS;split
 ·exact .err
 ·rename_i hs
  exact .ok (h.checked (by simpa using hs))
theorem wM {tq:aC→aL aA}{how b:Nat}{t:aF}(h:∀ x∈t.parts,OkO (tq x) (KI how)):OkO (gE tq b t) (VF true):=by
 unfold gE;exact (B1 _ h).go fun l hl=>Cy (JG l hl)
theorem rJ {sub:aC→aL aA}{b n:Nat}{t:aF}(hP:j6 n t)(hs:m8 sub t.parts):OkO (cS sub b t) (VF true) :=
 wM (how:=0) fun x hx=>(xF hs hx (hP.valid x hx)).mono fun _ h=>h.1
theorem Ju {sub:aC→aL aA}{b n:Nat}{t:aF}(hP:j6 n t)(hs:m8 sub t.parts):OkO (kQ sub b t) (VF true):=by
 unfold kQ;split
 ·exact .ok (VX.checked (KI.lit (how:=1) (.inr ⟨rfl,rfl⟩)).1 (by rfl))
 ·refine wM (how:=1) fun x hx=>BW hs hx (hP.valid x hx) fun h1 h2=>(xF hs hx (hP.valid x hx)).mono fun _ h=>h.2 h1 h2
theorem zT:∀ (P:List aC),(∀ p∈P,iX p)→dP (eG P)=true
 | [],_=>rfl
 | x :: P,h=>by
  have ih:=zT P fun p hp=>h p (by simp [hp])
  have hx:=h x (by simp)
  unfold eG at ih ⊢;rw[List.flatMap_cons];refine pD _ _ ?_ ih;split
  ·rename_i hk
   refine uQ _ fun c hc=>?_
   rcases hx with h | h
   ·exact h.2 c hc
   ·omega
  split
  ·exact r5 _
  ·rfl
theorem Ce {sub:aC→aL aA}{b n:Nat}{t:aF}(hP:j6 n t)(hs:m8 sub t.parts):OkO (fE sub b t) (VF true):=by
 unfold fE;split
 ·exact Cy (VX.node (by rfl) (by rfl) (by rfl) (gK (KI.lit (how:=1) (.inr ⟨rfl,zT _ hP.valid⟩)).1))
 split
 ·exact rJ hP hs
 ·refine (wM (how:=1) fun x hx=>BW hs hx (hP.valid x hx) fun h1 h2=>xC hs hx (hP.valid x hx) h1 h2 1).go fun l hl=>.ok ?_
  exact .node (by rfl) (by rfl) (by rfl) (gK (.node (by rfl) (by rfl) (by rfl) (gK hl)))
theorem tZ {aq:Nat→aF→aL aA}{ts:List aF}{b i:Nat}(h:OkO (aq b (aM ts i)) (VF true)):OkP (wordOf aq ts b i) (VF true):=by
 unfold wordOf;split
 ·exact h.at
 ·exact .formA
structure yR (f:Nat):Prop where
 list:∀ {n ts},aU n ts→∀ b d i,OkP (cD f ts b d i) (VF false)
 chains:∀ {n ts},aU n ts→∀ b d i L,(∀ x∈L,VF false x)→OkP (fA f ts b d i L) (VF false)
 chain:∀ {n ts},aU n ts→∀ b d i,OkP (eX f ts b d i) (VF false)
 chainR:∀ {n ts},aU n ts→∀ b d i o,VF false o→OkP (fW f ts b d i o) (VF false)
 pipe:∀ {n ts},aU n ts→∀ b d i,OkP (eB f ts b d i) (VF false)
 pipeR:∀ {n ts},aU n ts→∀ b d i L,(∀ x∈L,VF false x)→OkP (fF f ts b d i L) fun l=>(∀ x∈l,VF false x)∧0<l.length
 command:∀ {n ts},aU n ts→∀ b d i,OkP (eT f ts b d i) (VF false)
 body:∀ {n ts},aU n ts→∀ b d i s t,OkP (eZ f ts b d i s t) (VF false)
 choice:∀ {n ts},aU n ts→∀ b d i,OkP (iA f ts b d i) (VF false)
 whl:∀ {n ts},aU n ts→∀ b d i,OkP (jL f ts b d i) (VF false)
 each:∀ {n ts},aU n ts→∀ b d i,OkP (jO f ts b d i) (VF false)
 fields:∀ {n ts},aU n ts→∀ b d i L,(∀ x∈L,VF true x)→OkP (jI f ts b d i L) fun l=>∀ x∈l,VF true x
 choose:∀ {n ts},aU n ts→∀ b d i,OkP (jH f ts b d i) (VF false)
 cases:∀ {n ts},aU n ts→∀ b d i L,rS L→OkP (jK f ts b d i L) rS
 function:∀ {n ts},aU n ts→∀ b d i s,bF s=true→OkP (jA f ts b d i s) (VF false)
 turns:∀ {n ts},aU n ts→∀ b d i c L,VF false c→pU L→OkP (cO f ts b d i c L) (VF false)
 simple:∀ {n ts},aU n ts→∀ b d i ss ws L,rX ss→(∀ x∈ws,VF true x)→pU L→OkP (cA f ts b d i ss ws L) (VF false)
 sub:∀ (b d:Nat) (x:aC),x.text.length≤8192→OkO (bA f b d x) fun l=>∃ m,l=aE 12 0 [] [m]∧VF false m
theorem yR.subV {f:Nat}(h:yR f){n:Nat}{ts:List aF}(g:aU n ts)(b d i:Nat):m8 (fun x=>bA f b d x) (aM ts i).parts:=fun x hx _=>h.sub b d x (g.part i x hx).2.1
theorem H3 {t t':aF}{s:List UInt8}(h:eM t=some (s,t')){sub:aC→aL aA}(hs:m8 sub t.parts):m8 sub t'.parts:=by
 obtain⟨_,h1,_,p,ps,r,h2,h3,h4,h5⟩:=lD h;intro x hx hk;rw[h4] at hx
 rcases List.mem_cons.1 hx with rfl | hx
 ·exact absurd (hk.symm.trans h3) (by decide)
 ·exact hs x (by rw[h2];simp [hx]) hk
theorem Di:∀ f,yR f
 | 0=>by
  constructor <;> intros <;> simp only[cD,fA,eX,fW,eB,fF,eT,eZ,iA,jL,jO,jI,jH,jK,jA,cO,cA,bA] <;> first | exact OkP.none | exact OkO.none
 | f+1=>by
  have ih:=Di f;refine ⟨?_,?_,?_,?_,?_,?_,?_,?_,?_,?_,?_,?_,?_,?_,?_,?_,?_,?_⟩
  ·intro n ts g b d i;rw[cD];split
   ·exact .err
   ·exact ih.chains g _ _ _ _ (fun _ h=>nomatch h)
  ·intro n ts g b d i L hL;rw[fA];split
   ·exact .ok (xQ _ hL)
   ·exact (ih.chain g _ _ _).go fun c e hc=>ih.chains g _ _ _ _ (e8 hL hc)
  ·intro n ts g b d i;rw[eX];exact (ih.pipe g _ _ _).go fun c e hc=>ih.chainR g _ _ _ _ hc
  ·intro n ts g b d i o ho;rw[fW];split
   ·refine (ih.pipe g _ _ _).go fun c e hc=>ih.chainR g _ _ _ _ ?_
    split
    ·exact .node (by rfl) (by rfl) (by rfl) (kD ho hc)
    ·exact .node (by rfl) (by rfl) (by rfl) (kD ho hc)
   ·exact .ok ho
  ·intro n ts g b d i;rw[eB];refine (ih.pipeR g _ _ _ [] (fun _ h=>nomatch h)).go fun l e ⟨hl,hp⟩=>.ok ?_
   have hb:VF false (if 1<l.length then aE 32 0 [] l else l.headD []):=by
    split
    ·exact .node (by rfl) (by rfl) (by simp [bJ];omega) fun j kid hj=>lM hl j kid hj
    ·cases l with
     | nil=>simp at hp
     | cons a l=>exact hl a (by simp)
   split
   ·exact .node (by rfl) (by rfl) (by rfl) (gK hb)
   ·exact hb
  ·intro n ts g b d i L hL;rw[fF];refine (ih.command g _ _ _).go fun c e hc=>?_
   split
   ·exact ih.pipeR g _ _ _ _ (e8 hL hc)
   ·exact .ok ⟨e8 hL hc,by simp⟩
  ·intro n ts g b d i;rw[eT];have hsim:OkP (cA f ts b d i [] [] []) (VF false):=ih.simple g _ _ _ _ _ _ (fun _ h=>nomatch h) (fun _ h=>nomatch h) (fun _ h=>nomatch h)
   have hturn:∀ {x:aJ aA},OkP x (VF false)→OkP (x.go fun l j=>cO f ts b d j l []) (VF false):=fun hx=>hx.go fun c e hc=>ih.turns g _ _ _ _ _ hc (fun _ h=>nomatch h)
   split
   ·exact hsim
   ·split
    ·split
     ·rename_i hc
      exact ih.function g _ _ _ _ hc.1
     ·exact hsim
    split
    ·exact (ih.list g _ _ _).go fun c e hc=>.want fun _=>ih.turns g _ _ _ _ _ hc (fun _ h=>nomatch h)
    split
    ·exact hturn (ih.choice g _ _ _)
    split
    ·exact hturn (ih.whl g _ _ _)
    split
    ·exact hturn (ih.each g _ _ _)
    split
    ·exact hturn (ih.choose g _ _ _)
    ·exact .formA
  ·intro n ts g b d i s t;rw[eZ];refine .want fun a=>(ih.list g _ _ _).go fun l e hl=>?_
   split
   ·exact .ok hl
   ·exact .want fun _=>.ok hl
  ·intro n ts g b d i;rw[iA];refine (ih.body g _ _ _ _ _).go fun c j hc=>(ih.body g _ _ _ _ _).go fun y k hy=>?_
   refine OkP.go (Q:=VF false) ?_ fun z m hz=>.want fun _=>.ok (.node (by rfl) (by rfl) (by rfl) (yM hc hy hz))
   split
   ·exact ih.body g _ _ _ _ _
   ·exact .ok (xQ [] (fun _ h=>nomatch h))
  ·intro n ts g b d i;rw[jL];exact (ih.body g _ _ _ _ _).go fun c j hc=>(ih.body g _ _ _ _ _).go fun y k hy=>.ok (.node (by rfl) (by rfl) (by rfl) (kD hc hy))
  ·intro n ts g b d i;rw[jO];split
   ·exact .formA
   ·split
    ·rename_i hn
     exact .want fun a=>(ih.fields g _ _ _ [] (fun _ h=>nomatch h)).go fun ws j hw=>(ih.body g _ _ _ _ _).go fun y k hy=>.ok (.node (by rfl) (by simpa [bW,j8] using hn) (by rfl) (kD (KZ _ hw) hy))
    ·exact .formA
  ·intro n ts g b d i L hL;rw[jI];split
   ·exact (Ce (g.parts i) (ih.subV g b d i)).at.go fun w j hw=>ih.fields g _ _ _ _ (e8 hL hw)
   ·exact .ok hL
  ·intro n ts g b d i;rw[jH];refine (tZ (rJ (g.parts _) (ih.subV g b d _))).go fun w j hw=>.want fun a=>?_
   refine (ih.cases g _ _ _ _ ⟨rfl,fun j x hj=>?_⟩).go fun l k hl=>.ok ?_
   ·cases j with
    | zero =>
     cases hj
     exact hw
    | succ j=>simp at hj
   ·obtain⟨h1,h2⟩:=hl;refine .node (by rfl) (by rfl) (by simp [bJ];omega) fun j kid hj=>?_
    have:=h2 j kid hj
    have hm:((j:Int) % 2=1) ↔ (j % 2=1):=by omega
    rw[show cQ 30 l.length j=(decide (j=0) || decide (j % 2=1)) by simp [cQ,hm]]
    exact this
  ·intro n ts g b d i L hL;rw[jK];split
   ·exact .ok hL
   ·refine (tZ (Ju (g.parts _) (ih.subV g b d _))).go fun w j hw=>?_
    split
    ·exact (ih.list g _ _ _).go fun c e hc=>ih.cases g _ _ _ _ (hL.snoc hw hc)
    ·exact .formA
  ·intro n ts g b d i s hs;rw[jA];split
   ·exact (ih.body g _ _ _ _ _).go fun l e hl=>.ok (.node (by rfl) (by simpa [bW,j8] using hs) (by rfl) (gK hl))
   ·exact .formA
  ·intro n ts g b d i c L hc hL;rw[cO];split
   ·rename_i hk
    exact (tZ (rJ (g.parts _) (ih.subV g b d _))).go fun w j hw=>ih.turns g _ _ _ _ _ hc (hL.snoc (zH hk) hw)
   ·exact .ok (vK _ _ hL hc)
  ·intro n ts g b d i ss ws L hs hw hL;rw[cA];split
   ·rename_i hk
    exact (tZ (rJ (g.parts _) (ih.subV g b d _))).go fun w j hw'=>ih.simple g _ _ _ _ _ _ hs hw (hL.snoc (zH hk) hw')
   split
   ·split
    ·rename_i s t hst
     have hset:eM (aM ts i)=some (s,t):=by
      split at hst
      ·exact hst
      ·cases hst
     exact (rJ (pC hset (g.parts i)) (H3 hset (ih.subV g b d i))).at.go fun w j hw'=>ih.simple g _ _ _ _ _ _ (hs.snoc (lD hset).1 hw') hw hL
    ·exact (Ce (g.parts i) (ih.subV g b d i)).at.go fun w j hw'=>ih.simple g _ _ _ _ _ _ hs (e8 hw hw') hL
   split
   ·exact .formA
   ·exact .ok (vK _ _ hL (KW _ _ hs hw))
  ·intro b d x hl;rw[bA];split
   ·exact .err
   ·split
    ·exact .err
    ·rename_i ts hq
     have hL:=ih.list (pL x.text hl ts hq) (b+x.place+2) d 0;split
     ·exact .none
     ·exact fun _ h=>by cases h
     ·rename_i l i he
      split
      ·exact .err
      ·exact .ok ⟨l,rfl,hL l i he⟩
def mV (L:List UInt8):Except (Nat×Option Nat) aA :=
 match cN L (L.length+1) 0 with
 | .error (c,p)=>.error (c,some p)
 | .ok ts=>match cD (36 * L.length+23) ts 0 0 0 with
  | none=>.error (0,none)
  | some (.error (c,p))=>.error (c,some p)
  | some (.ok (l,i)) =>
   if aIs ts i [0]=false then .error (108,some (aM ts i).place)
   else match dA l with
    | none=>.ok l
    | some (c,p)=>.error (c,if c=102 then some 0 else p)
theorem Kl {l:aA}(h:VF false l):dA l=none∨dA l=some (111,none)∨∃ p,dA l=some (102,some p):=by
 unfold dA;split
 ·exact .inr (.inl rfl)
 ·obtain⟨D,h⟩:=h;obtain⟨r,h1,h2,_⟩:=xY h l 0 l.length 1 true [] (3 * l.length) (by simp) (by omega) (fun _=>by omega) (Nat.le_refl _)
  rw[h1]
  rcases h2 with rfl | ⟨p,rfl⟩
  ·exact .inl rfl
  ·exact .inr (.inr ⟨p,rfl⟩)
def LeP {α:Type} (x y:aJ α):Prop:=∀ r,x=some r→y=some r
def LeO {α:Type} (x y:aL α):Prop:=∀ r,x=some r→y=some r
section
variable {α β:Type}
theorem LeP.refl (x:aJ α):LeP x x:=fun _ h=>h
theorem LeP.none (y:aJ α):LeP none y:=fun _ h=>nomatch h
theorem LeO.refl (x:aL α):LeO x x:=fun _ h=>h
theorem LeO.none (y:aL α):LeO none y:=fun _ h=>nomatch h
theorem LeP.go {x y:aJ α}{k k':α→Nat→aJ β}(h:LeP x y)(hk:∀ a e,LeP (k a e) (k' a e)):LeP (x.go k) (y.go k'):=by
 intro r hr
 match x,h with
 | .none,_=>cases hr
 | some (.error e),h=>cases hr;rw[h _ rfl];rfl
 | some (.ok (a,e)),h=>rw[h _ rfl];exact hk a e r hr
theorem LeO.go {x y:aL α}{k k':α→aL β}(h:LeO x y)(hk:∀ a,LeO (k a) (k' a)):LeO (x.go k) (y.go k'):=by
 intro r hr
 match x,h with
 | .none,_=>cases hr
 | some (.error e),h=>cases hr;rw[h _ rfl];rfl
 | some (.ok a),h=>rw[h _ rfl];exact hk a r hr
theorem LeO.at {x y:aL α}(h:LeO x y)(i:Nat):LeP (x.at i) (y.at i):=by
 intro r hr
 match x,h with
 | .none,_=>cases hr
 | some (.error e),h=>cases hr;rw[h _ rfl];rfl
 | some (.ok a),h=>cases hr;rw[h _ rfl];rfl
theorem LeP.ite {c:Prop} [Decidable c] {a a' b b':aJ α}(h1:LeP a a')(h2:LeP b b'):LeP (if c then a else b) (if c then a' else b'):=by
 split
 ·exact h1
 ·exact h2
theorem LeO.ite {c:Prop} [Decidable c] {a a' b b':aL α}(h1:LeO a a')(h2:LeO b b'):LeO (if c then a else b) (if c then a' else b'):=by
 split
 ·exact h1
 ·exact h2
theorem LeP.want {ts:List aF}{b i:Nat}{s:List UInt8}{k k':Nat→aJ α}(h:∀ e,LeP (k e) (k' e)):LeP (gL ts b i s k) (gL ts b i s k'):=LeP.ite (h _) (LeP.refl _)
end
section
variable {sub sub':aC→aL aA} (h:∀ x,LeO (sub x) (sub' x))
include h
theorem Cj (x:aC):LeO (dB sub x) (dB sub' x):=LeO.ite (LeO.refl _) (LeO.ite (LeO.refl _) (LeO.ite (LeO.refl _) (h x)))
theorem xE (x:aC):LeO (d9 sub x) (d9 sub' x):=LeO.ite (LeO.refl _) (LeO.go (Cj h x) fun _=>LeO.refl _)
theorem Cf {bare bare':aC→aL aA}(hb:∀ x,LeO (bare x) (bare' x))(x:aC):LeO (gH sub bare x) (gH sub' bare' x):=LeO.ite (LeO.refl _) (LeO.ite (LeO.refl _) (LeO.ite (hb x) (LeO.go (xE h x) fun _=>LeO.refl _)))
theorem B8:∀ (P:List aC),LeO (fX sub P) (fX sub' P)
 | []=>LeO.refl _
 | x :: P=>LeO.go (h x) fun _=>LeO.go (B8 P) fun _=>LeO.refl _
theorem wF (b:Nat)(t:aF):LeO (gE sub b t) (gE sub' b t):=LeO.go (B8 h t.parts) fun _=>LeO.refl _
omit h in
theorem Cx (h:∀ x,LeO (sub x) (sub' x))(b:Nat)(t:aF):LeO (cS sub b t) (cS sub' b t):=wF (xE h) b t
theorem JJ (b:Nat)(t:aF):LeO (kQ sub b t) (kQ sub' b t):=LeO.ite (LeO.refl _) (wF (Cf h (xE h)) b t)
theorem Kc (b:Nat)(t:aF):LeO (fE sub b t) (fE sub' b t):=LeO.ite (LeO.refl _) (LeO.ite (Cx h b t) (LeO.go (wF (Cf h (Cj h)) b t) fun _=>LeO.refl _))
end
structure Ln (f:Nat):Prop where
 list:∀ ts b d i,LeP (cD f ts b d i) (cD (f+1) ts b d i)
 chains:∀ ts b d i l,LeP (fA f ts b d i l) (fA (f+1) ts b d i l)
 chain:∀ ts b d i,LeP (eX f ts b d i) (eX (f+1) ts b d i)
 chainR:∀ ts b d i o,LeP (fW f ts b d i o) (fW (f+1) ts b d i o)
 pipe:∀ ts b d i,LeP (eB f ts b d i) (eB (f+1) ts b d i)
 pipeR:∀ ts b d i l,LeP (fF f ts b d i l) (fF (f+1) ts b d i l)
 command:∀ ts b d i,LeP (eT f ts b d i) (eT (f+1) ts b d i)
 body:∀ ts b d i s t,LeP (eZ f ts b d i s t) (eZ (f+1) ts b d i s t)
 choice:∀ ts b d i,LeP (iA f ts b d i) (iA (f+1) ts b d i)
 whl:∀ ts b d i,LeP (jL f ts b d i) (jL (f+1) ts b d i)
 each:∀ ts b d i,LeP (jO f ts b d i) (jO (f+1) ts b d i)
 fields:∀ ts b d i l,LeP (jI f ts b d i l) (jI (f+1) ts b d i l)
 choose:∀ ts b d i,LeP (jH f ts b d i) (jH (f+1) ts b d i)
 cases:∀ ts b d i l,LeP (jK f ts b d i l) (jK (f+1) ts b d i l)
 function:∀ ts b d i s,LeP (jA f ts b d i s) (jA (f+1) ts b d i s)
 turns:∀ ts b d i c l,LeP (cO f ts b d i c l) (cO (f+1) ts b d i c l)
 simple:∀ ts b d i ss ws l,LeP (cA f ts b d i ss ws l) (cA (f+1) ts b d i ss ws l)
 sub:∀ b d x,LeO (bA f b d x) (bA (f+1) b d x)
theorem Df:∀ f,Ln f
 | 0=>by
  constructor <;> intros <;> intro r h <;> simp only[cD,fA,eX,fW,eB,fF,eT,eZ,iA,jL,jO,jI,jH,jK,jA,cO,cA,bA] at h <;> cases h
 | f+1=>by
  have ih:=Df f;have hv:∀ d b t,LeO (cS (fun x=>bA f b d x) b t) (cS (fun x=>bA (f+1) b d x) b t):=fun d b t=>Cx (fun x=>ih.sub b d x) b t
  have hf:∀ d b t,LeO (fE (fun x=>bA f b d x) b t) (fE (fun x=>bA (f+1) b d x) b t):=fun d b t=>Kc (fun x=>ih.sub b d x) b t
  have hl:∀ d b t,LeO (kQ (fun x=>bA f b d x) b t) (kQ (fun x=>bA (f+1) b d x) b t):=fun d b t=>JJ (fun x=>ih.sub b d x) b t
  have hwv:∀ d ts b i,LeP (wordOf (cS (fun x=>bA f b d x)) ts b i) (wordOf (cS (fun x=>bA (f+1) b d x)) ts b i):=fun d ts b i=>LeP.ite ((hv d b _).at _) (LeP.refl _)
  have hwl:∀ d ts b i,LeP (wordOf (kQ (fun x=>bA f b d x)) ts b i) (wordOf (kQ (fun x=>bA (f+1) b d x)) ts b i):=fun d ts b i=>LeP.ite ((hl d b _).at _) (LeP.refl _)
  refine ⟨?_,?_,?_,?_,?_,?_,?_,?_,?_,?_,?_,?_,?_,?_,?_,?_,?_,?_⟩
  ·intro ts b d i;rw[cD,cD];exact .ite (.refl _) (ih.chains _ _ _ _ _)
  ·intro ts b d i l;rw[fA,fA];exact .ite (.refl _) (.go (ih.chain _ _ _ _) fun _ _=>ih.chains _ _ _ _ _)
  ·intro ts b d i;rw[eX,eX];exact .go (ih.pipe _ _ _ _) fun _ _=>ih.chainR _ _ _ _ _
  ·intro ts b d i o;rw[fW,fW];exact .ite (.go (ih.pipe _ _ _ _) fun _ _=>ih.chainR _ _ _ _ _) (.refl _)
  ·intro ts b d i;rw[eB,eB];exact .go (ih.pipeR _ _ _ _ _) fun _ _=>.refl _
  ·intro ts b d i l;rw[fF,fF];exact .go (ih.command _ _ _ _) fun _ _=>.ite (ih.pipeR _ _ _ _ _) (.refl _)
  ·intro ts b d i;rw[eT,eT];generalize dT (aM ts i)=o
   cases o with
   | none=>exact ih.simple _ _ _ _ _ _ _
   | some s =>
    exact .ite (.ite (ih.function _ _ _ _ _) (ih.simple _ _ _ _ _ _ _)) (.ite (.go (ih.list _ _ _ _) fun _ _=>.want fun _=>ih.turns _ _ _ _ _ _) (.ite (.go (ih.choice _ _ _ _) fun _ _=>ih.turns _ _ _ _ _ _)
     (.ite (.go (ih.whl _ _ _ _) fun _ _=>ih.turns _ _ _ _ _ _) (.ite (.go (ih.each _ _ _ _) fun _ _=>ih.turns _ _ _ _ _ _) (.ite (.go (ih.choose _ _ _ _) fun _ _=>ih.turns _ _ _ _ _ _) (.refl _))))))
  ·intro ts b d i s t;rw[eZ,eZ];exact .want fun _=>.go (ih.list _ _ _ _) fun _ _=>.refl _
  ·intro ts b d i;rw[iA,iA];exact .go (ih.body _ _ _ _ _ _) fun _ _=>.go (ih.body _ _ _ _ _ _) fun _ _=>.go (.ite (ih.body _ _ _ _ _ _) (.refl _)) fun _ _=>.refl _
  ·intro ts b d i;rw[jL,jL];exact .go (ih.body _ _ _ _ _ _) fun _ _=>.go (ih.body _ _ _ _ _ _) fun _ _=>.refl _
  ·intro ts b d i;rw[jO,jO];generalize dT (aM ts (aSk ts i))=o
   cases o with
   | none=>exact .refl _
   | some s=>exact .ite (.want fun _=>.go (ih.fields _ _ _ _ _) fun _ _=>.go (ih.body _ _ _ _ _ _) fun _ _=>.refl _) (.refl _)
  ·intro ts b d i l;rw[jI,jI];exact .ite (.go ((hf d b _).at _) fun _ _=>ih.fields _ _ _ _ _) (.refl _)
  ·intro ts b d i;rw[jH,jH];exact .go (hwv _ _ _ _) fun _ _=>.want fun _=>.go (ih.cases _ _ _ _ _) fun _ _=>.refl _
  ·intro ts b d i l;rw[jK,jK];exact .ite (.refl _) (.go (hwl _ _ _ _) fun _ _=>.ite (.go (ih.list _ _ _ _) fun _ _=>ih.cases _ _ _ _ _) (.refl _))
  ·intro ts b d i s;rw[jA,jA];exact .ite (.go (ih.body _ _ _ _ _ _) fun _ _=>.refl _) (.refl _)
  ·intro ts b d i c l;rw[cO,cO];exact .ite (.go (hwv _ _ _ _) fun _ _=>ih.turns _ _ _ _ _ _) (.refl _)
  ·intro ts b d i ss ws l;rw[cA,cA];refine .ite (.go (hwv _ _ _ _) fun _ _=>ih.simple _ _ _ _ _ _ _) (.ite ?_ (.refl _))
   generalize (if ws.length=0 then eM (aM ts i) else none)=o
   cases o with
   | none=>exact .go ((hf d b _).at _) fun _ _=>ih.simple _ _ _ _ _ _ _
   | some y=>exact .go ((hv d b _).at _) fun _ _=>ih.simple _ _ _ _ _ _ _
  ·intro b d x;rw[bA,bA];refine .ite (.refl _) ?_
   cases cN x.text (x.text.length+1) 0 with
   | error e=>exact .refl _
   | ok ts =>
    intro r hr;have h:=ih.list ts (b+x.place+2) d 0;dsimp only at hr ⊢
    cases hq:cD f ts (b+x.place+2) d 0 with
    | none=>rw[hq] at hr;cases hr
    | some q =>
     rw[h q hq];rw[hq] at hr;exact hr
theorem LeP.le {α:Type}{fn:Nat→aJ α}(h:∀ f,LeP (fn f) (fn (f+1))){f g:Nat}(hf:f≤g):LeP (fn f) (fn g):=by
 obtain⟨k,rfl⟩:=Nat.exists_eq_add_of_le hf
 induction k with
 | zero=>exact .refl _
 | succ k ih=>exact fun r hr=>h (f+k) r (ih (by omega) r hr)
end Go.Proofs.YtnombfbpmmmoeaaGreatDoor
