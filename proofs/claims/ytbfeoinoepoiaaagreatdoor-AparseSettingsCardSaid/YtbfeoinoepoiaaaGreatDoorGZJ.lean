/- Dialect A's parser, as plain functions on lists of tokens. No program stands in it. -/
import Derived.Test.YtbfeoinoepoiaaaGreatDoorGPureAG
import Derived.Test.YtbfeoinoepoiaaaGreatDoorGParseG
namespace Go.Proofs.YtbfeoinoepoiaaaGreatDoor
set_option maxHeartbeats 8000000
open Go Go.RowKit
def keyLA:List (List UInt8):=[[105,102],[116,104,101,110],[101,108,115,101],[102,105],[119,104,105,108,101],[100,111],[100,111,110,101],[102,111,114],[105,110],[99,97,115,101],[101,115,97,99],[123],[125],[33]]
def keyA (s:List UInt8):Bool:=keyLA.contains s
def akAt (ts:List ATok) (i:Nat):ATok:=ts.getD i ⟨0,0,[]⟩
def aIs (ts:List ATok) (i:Nat) (ks:List Nat):Bool:=ks.contains (akAt ts i).kind
def aSk (ts:List ATok) (i:Nat):Nat:=min (i+1) (ts.length - 1)
def aPassP (ts:List ATok) (ks:List Nat):Nat→Nat→Nat
 | 0,i=>i
 | f+1,i=>if aIs ts i ks=true then aPassP ts ks f (aSk ts i) else i
def aPass (ts:List ATok) (ks:List Nat) (i:Nat):Nat:=aPassP ts ks ts.length i
def bareA (t:ATok):Option (List UInt8):=if t.kind=13 then (match t.parts with | [p]=>if p.kind=1 then some p.text else none | _=>none) else none
def aKey (ts:List ATok) (i:Nat) (l:List (List UInt8)):Bool:=match bareA (akAt ts i) with | some s=>l.contains s | none=>false
abbrev POne (α:Type):=Option (Except (Nat × Nat) α)
def oOk {α:Type} (a:α):POne α:=some (.ok a)
def oErr {α:Type} (c p:Nat):POne α:=some (.error (c,p))
def POne.go {α β:Type} (x:POne α) (k:α→POne β):POne β :=
 match x with
 | none=>none
 | some (.error e)=>some (.error e)
 | some (.ok a)=>k a
def POne.at {α:Type} (x:POne α) (i:Nat):PRes α :=
 match x with
 | none=>none
 | some (.error e)=>some (.error e)
 | some (.ok a)=>some (.ok (a,i))
def formA {α:Type} (ts:List ATok) (b i:Nat):PRes α:=pErr (if aIs ts i [0]=true then 109 else 108) (b+(akAt ts i).place)
def wantA {α:Type} (ts:List ATok) (b i:Nat) (s:List UInt8) (k:Nat→PRes α):PRes α:=if aKey ts i [s]=true then k (aSk ts i) else formA ts b i
def aTurning (ts:List ATok) (i:Nat):Bool:=aIs ts i [9,10,11,12]
def aEnds (ts:List ATok) (i:Nat):Bool:=aIs ts i [0,8,3] || aKey ts i [[116,104,101,110],[101,108,115,101],[102,105],[100,111],[100,111,110,101],[101,115,97,99],[125]]
def fullA (x:Prog):Bool:=!isLit x || decide ((x.headD ⟨0,0,0,0,[]⟩).text≠[])
def joinA (l:List Prog):Prog :=
 match l with
 | []=>litP []
 | _ :: _=>match (l.foldl joinStep []).filter fullA with
  | []=>(l.foldl joinStep []).headD []
  | [x]=>x
  | f=>newP 4 0 [] f
def allA:Prog:=newP 2 0 [42] []
def itemsA (sub:APart→POne Prog) (x:APart):POne Prog :=
 if x.kind=3 then oOk (newP 2 0 x.text [])
 else if x.kind=5 then oOk (newP 11 x.num [] [allA])
 else if x.kind=6 then oOk (newP 10 0 [] [allA])
 else sub x
def pieceA (sub:APart→POne Prog) (x:APart):POne Prog :=
 if x.kind=1∨x.kind=2 then oOk (litP x.text)
 else (itemsA sub x).go fun l=>oOk (if x.kind=3∨x.kind=5 then newP 9 0 [] [l] else l)
def aliveA (sub bare:APart→POne Prog) (x:APart):POne Prog :=
 if x.kind=1 then oOk (newP 1 1 x.text [])
 else if x.kind=2 then oOk (newP 1 1 (escapeP x.text) [])
 else if x.quoted=false then bare x
 else (pieceA sub x).go fun l=>oOk (newP 8 0 [] [l])
def partsA (tq:APart→POne Prog):List APart→POne (List Prog)
 | []=>oOk []
 | x :: xs=>(tq x).go fun n=>(partsA tq xs).go fun l=>oOk (n :: l)
def fitsA (b:Nat) (t:ATok) (l:Prog):POne Prog:=if tooLong l=true then oErr 101 (b+t.place) else oOk l
def joinedA (tq:APart→POne Prog) (b:Nat) (t:ATok):POne Prog:=(partsA tq t.parts).go fun l=>fitsA b t (joinA l)
def valueA (sub:APart→POne Prog) (b:Nat) (t:ATok):POne Prog:=joinedA (pieceA sub) b t
def livesA (sub:APart→POne Prog) (b:Nat) (t:ATok):POne Prog:=if t.parts=[] then oOk (newP 1 1 [] []) else joinedA (aliveA sub (pieceA sub)) b t
def fText (P:List APart):List UInt8:=P.flatMap fun x=>if x.kind=1 then x.text else if x.kind=2 then escapeP x.text else []
def fDollars (P:List APart):Bool:=P.any fun x=>decide (x.kind≠1) && decide (x.kind≠2)
def fBare (P:List APart):Bool:=P.any fun x=>decide (x.kind≠1) && decide (x.kind≠2) && !x.quoted
def fPats (P:List APart):Bool:=P.any fun x=>decide (x.kind=1) && x.text.any fun c=>[42,63,91].contains c.toNat
def fieldA (sub:APart→POne Prog) (b:Nat) (t:ATok):POne Prog :=
 if fDollars t.parts=false∧liveP (fText t.parts)=true then fitsA b t (newP 6 0 [] [newP 1 1 (fText t.parts) []])
 else if fDollars t.parts=false∨(fBare t.parts=false∧fPats t.parts=false) then valueA sub b t
 else (joinedA (aliveA sub (itemsA sub)) b t).go fun l=>oOk (newP 6 0 [] [newP 5 0 [] [l]])
def wordOf (aq:Nat→ATok→POne Prog) (ts:List ATok) (b i:Nat):PRes Prog:=if aIs ts i [13]=true then (aq b (akAt ts i)).at (aSk ts i) else formA ts b i
def settingA (t:ATok):Option (List UInt8 × ATok) :=
 match t.parts with
 | []=>none
 | p :: ps=>if p.kind=1 then (match idxA 61 p.text with
   | some n=>if nameB (p.text.take n)=true then some (p.text.take n,{ t with parts:={ p with text:=p.text.drop (n+1) } :: ps }) else none
   | none=>none) else none
def aAround (l:List (Nat × Prog)) (c:Prog):Prog :=
 l.foldr (fun t c=>if t.1=12 then newP 34 0 [] [t.2,c] else newP 33 ((t.1:Int) - 8) [] [t.2,c]) c
mutual
def aList:Nat→List ATok→Nat→Nat→Nat→PRes Prog
 | 0,_,_,_,_=>none
 | f+1,ts,b,d,i=>if 30<d+1 then pErr 102 (b+(akAt ts i).place) else aChains f ts b (d+1) i []
def aChains:Nat→List ATok→Nat→Nat→Nat→List Prog→PRes Prog
 | 0,_,_,_,_,_=>none
 | f+1,ts,b,d,i,l =>
  if aEnds ts (aPass ts [1,2] i)=true∨(0<l.length∧aPass ts [1,2] i=i) then pOk (seqP l) (aPass ts [1,2] i)
  else (aChain f ts b d (aPass ts [1,2] i)).go fun c e=>aChains f ts b d e (l++[c])
def aChain:Nat→List ATok→Nat→Nat→Nat→PRes Prog
 | 0,_,_,_,_=>none
 | f+1,ts,b,d,i=>(aPipe f ts b d i).go fun out j=>aChainR f ts b d j out
def aChainR:Nat→List ATok→Nat→Nat→Nat→Prog→PRes Prog
 | 0,_,_,_,_,_=>none
 | f+1,ts,b,d,i,out =>
  if aIs ts i [4,5]=true then
   (aPipe f ts b d (aPass ts [1] (aSk ts i))).go fun next j=>aChainR f ts b d j (newP (if aIs ts i [5]=true then 26 else 25) 0 [] [out,next])
  else pOk out i
def aPipe:Nat→List ATok→Nat→Nat→Nat→PRes Prog
 | 0,_,_,_,_=>none
 | f+1,ts,b,d,i=>(aPipeR f ts b d (if aKey ts i [[33]]=true then aSk ts i else i) []).go fun l j =>
   pOk (if aKey ts i [[33]]=true then newP 27 0 [] [if 1<l.length then newP 32 0 [] l else l.headD []] else (if 1<l.length then newP 32 0 [] l else l.headD [])) j
def aPipeR:Nat→List ATok→Nat→Nat→Nat→List Prog→PRes (List Prog)
 | 0,_,_,_,_,_=>none
 | f+1,ts,b,d,i,l=>(aCommand f ts b d i).go fun c j =>
   if aIs ts j [6]=true then aPipeR f ts b d (aPass ts [1] (aSk ts j)) (l++[c]) else pOk (l++[c]) j
def aCommand:Nat→List ATok→Nat→Nat→Nat→PRes Prog
 | 0,_,_,_,_=>none
 | f+1,ts,b,d,i =>
  match bareA (akAt ts i) with
  | none=>aSimple f ts b d i [] [] []
  | some s =>
   if keyA s=false then (if nameB s=true∧(akAt ts (aSk ts i)).kind=7 then aFunction f ts b d i s else aSimple f ts b d i [] [] [])
   else if s=[123] then (aList f ts b d (aSk ts i)).go fun l j=>wantA ts b j [125] fun e=>aTurns f ts b d e l []
   else if s=[105,102] then (aChoice f ts b d i).go fun l j=>aTurns f ts b d j l []
   else if s=[119,104,105,108,101] then (aWhile f ts b d i).go fun l j=>aTurns f ts b d j l []
   else if s=[102,111,114] then (aEach f ts b d i).go fun l j=>aTurns f ts b d j l []
   else if s=[99,97,115,101] then (aChoose f ts b d i).go fun l j=>aTurns f ts b d j l []
   else formA ts b i
def aBody:Nat→List ATok→Nat→Nat→Nat→List UInt8→List UInt8→PRes Prog
 | 0,_,_,_,_,_,_=>none
 | f+1,ts,b,d,i,s,t=>wantA ts b i s fun a=>(aList f ts b d a).go fun l j=>if t=[] then pOk l j else wantA ts b j t fun e=>pOk l e
def aChoice:Nat→List ATok→Nat→Nat→Nat→PRes Prog
 | 0,_,_,_,_=>none
 | f+1,ts,b,d,i=>(aBody f ts b d i [105,102] []).go fun c j=>(aBody f ts b d j [116,104,101,110] []).go fun yes k =>
   (if aKey ts k [[101,108,115,101]]=true then aBody f ts b d k [101,108,115,101] [] else pOk (seqP []) k).go fun no e =>
    wantA ts b e [102,105] fun g=>pOk (newP 24 0 [] [c,yes,no]) g
def aWhile:Nat→List ATok→Nat→Nat→Nat→PRes Prog
 | 0,_,_,_,_=>none
 | f+1,ts,b,d,i=>(aBody f ts b d i [119,104,105,108,101] []).go fun c j=>(aBody f ts b d j [100,111] [100,111,110,101]).go fun l e=>pOk (newP 28 0 [] [c,l]) e
def aEach:Nat→List ATok→Nat→Nat→Nat→PRes Prog
 | 0,_,_,_,_=>none
 | f+1,ts,b,d,i =>
  match bareA (akAt ts (aSk ts i)) with
  | none=>formA ts b (aSk ts i)
  | some s=>if nameB s=true then
    wantA ts b (aSk ts (aSk ts i)) [105,110] fun a=>(aFields f ts b d a []).go fun ws j =>
     (aBody f ts b d (aPass ts [1,2] j) [100,111] [100,111,110,101]).go fun l e=>pOk (newP 29 0 s [catP ws,l]) e
   else formA ts b (aSk ts i)
def aFields:Nat→List ATok→Nat→Nat→Nat→List Prog→PRes (List Prog)
 | 0,_,_,_,_,_=>none
 | f+1,ts,b,d,i,l =>
  if aIs ts i [13]=true then ((fieldA (fun x=>aSub f b d x) b (akAt ts i)).at (aSk ts i)).go fun w j=>aFields f ts b d j (l++[w]) else pOk l i
def aChoose:Nat→List ATok→Nat→Nat→Nat→PRes Prog
 | 0,_,_,_,_=>none
 | f+1,ts,b,d,i=>(wordOf (valueA (fun x=>aSub f b d x)) ts b (aSk ts i)).go fun w j =>
   wantA ts b (aPass ts [1] j) [105,110] fun a=>(aCases f ts b d (aPass ts [1] a) [w]).go fun l e=>pOk (newP 30 0 [] l) e
def aCases:Nat→List ATok→Nat→Nat→Nat→List Prog→PRes (List Prog)
 | 0,_,_,_,_,_=>none
 | f+1,ts,b,d,i,l =>
  if aKey ts i [[101,115,97,99]]=true then pOk l (aSk ts i)
  else (wordOf (livesA (fun x=>aSub f b d x)) ts b (if aIs ts i [7]=true then aSk ts i else i)).go fun w j =>
   if aIs ts j [8]=true then (aList f ts b d (aSk ts j)).go fun c e=>aCases f ts b d (aPass ts [1] (if aIs ts e [3]=true then aSk ts e else e)) (l++[w,c])
   else formA ts b j
def aFunction:Nat→List ATok→Nat→Nat→Nat→List UInt8→PRes Prog
 | 0,_,_,_,_,_=>none
 | f+1,ts,b,d,i,s =>
  if aIs ts (aSk ts (aSk ts i)) [8]=true then
   (aBody f ts b d (aPass ts [1] (aSk ts (aSk ts (aSk ts i)))) [123] [125]).go fun l e=>pOk (newP 31 0 s [l]) e
  else formA ts b (aSk ts (aSk ts i))
def aTurns:Nat→List ATok→Nat→Nat→Nat→Prog→List (Nat × Prog)→PRes Prog
 | 0,_,_,_,_,_,_=>none
 | f+1,ts,b,d,i,c,l =>
  if aTurning ts i=true then (wordOf (valueA (fun x=>aSub f b d x)) ts b (aSk ts i)).go fun w j=>aTurns f ts b d j c (l++[((akAt ts i).kind,w)])
  else pOk (aAround l c) i
def aSimple:Nat→List ATok→Nat→Nat→Nat→List (List UInt8 × Prog)→List Prog→List (Nat × Prog)→PRes Prog
 | 0,_,_,_,_,_,_,_=>none
 | f+1,ts,b,d,i,ss,ws,l =>
  if aTurning ts i=true then (wordOf (valueA (fun x=>aSub f b d x)) ts b (aSk ts i)).go fun w j=>aSimple f ts b d j ss ws (l++[((akAt ts i).kind,w)])
  else if aIs ts i [13]=true then
   match (if ws.length=0 then settingA (akAt ts i) else none) with
   | some (n,t)=>((valueA (fun x=>aSub f b d x) b t).at (aSk ts i)).go fun w j=>aSimple f ts b d j (ss++[(n,w)]) ws l
   | none=>((fieldA (fun x=>aSub f b d x) b (akAt ts i)).at (aSk ts i)).go fun w j=>aSimple f ts b d j ss (ws++[w]) l
  else if ss.length+ws.length+l.length=0 then formA ts b i
  else pOk (aAround l (madeP ss ws)) i
def aSub:Nat→Nat→Nat→APart→POne Prog
 | 0,_,_,_=>none
 | f+1,b,d,x =>
  if 30<d+1 then oErr 102 (b+x.place)
  else match lexA x.text (x.text.length+1) 0 with
   | .error (c,p)=>oErr c (b+x.place+2+p)
   | .ok ts=>match aList f ts (b+x.place+2) d 0 with
    | none=>none
    | some (.error e)=>some (.error e)
    | some (.ok (l,i))=>if aIs ts i [0]=false then oErr 108 (b+x.place+2+(akAt ts i).place) else oOk (newP 12 0 [] [l])
end
end Go.Proofs.YtbfeoinoepoiaaaGreatDoor
namespace Go.Proofs.YtbfeoinoepoiaaaGreatDoor
set_option maxHeartbeats 8000000
open Go Go.RowKit
def wtP (x:APart):Nat:=if x.kind=4 then 3 * x.text.length+3 else 1
def wtPs (P:List APart):Nat:=(P.map wtP).sum
def wtT (t:ATok):Nat:=1+wtPs t.parts
def remL (ts:List ATok):Nat:=(ts.map wtT).sum
def remA (ts:List ATok) (i:Nat):Nat:=remL (ts.drop i)
theorem remA_zero (ts:List ATok):remA ts 0=remL ts:=rfl
theorem ak_get {ts:List ATok} {i:Nat} (h:i<ts.length):akAt ts i=ts[i]:=by
 unfold akAt
 rw [List.getD_eq_getElem?_getD,List.getElem?_eq_getElem h]
 rfl
theorem ak_out {ts:List ATok} {i:Nat} (h:ts.length≤i):akAt ts i=⟨0,0,[]⟩:=by
 unfold akAt
 rw [List.getD_eq_getElem?_getD,List.getElem?_eq_none h]
 rfl
theorem remA_step {ts:List ATok} {i:Nat} (h:i<ts.length):remA ts i=wtT (akAt ts i)+remA ts (i+1):=by
 unfold remA remL
 rw [List.drop_eq_getElem_cons h,List.map_cons,List.sum_cons,ak_get h]
theorem wtP_pos (x:APart):1≤wtP x:=by
 unfold wtP
 split <;> omega
theorem wtPs_cons (x:APart) (P:List APart):wtPs (x :: P)=wtP x+wtPs P:=by simp [wtPs]
theorem wtPs_snoc (P:List APart) (x:APart):wtPs (P++[x])=wtPs P+wtP x:=by simp [wtPs]
theorem wtPs_nil:wtPs []=0:=rfl
theorem wtPs_len:∀ (P:List APart),P.length≤wtPs P
 | []=>Nat.le_refl _
 | x :: P=>by
  have:=wtPs_len P
  have:=wtP_pos x
  rw [wtPs_cons,List.length_cons]
  omega
theorem remA_le {ts:List ATok}:∀ (k i:Nat),remA ts (i+k)+(if i+k≤ts.length then k else 0)≤remA ts i
 | 0,i=>by rw [Nat.add_zero]; split <;> omega
 | k+1,i=>by
  have ih:=remA_le (ts:=ts) k i
  by_cases h:i+k<ts.length
  ·have:=remA_step h
   unfold wtT at this
   rw [show i+(k+1)=i+k+1 from rfl,if_pos (by omega)]
   rw [if_pos (by omega)] at ih
   omega
  ·rw [if_neg (by omega)]
   have:remA ts (i+(k+1))=0:=by
    unfold remA
    rw [List.drop_eq_nil_iff.2 (by omega)]
    rfl
   omega
theorem rem_le {ts:List ATok} {i e:Nat} (h:i≤e) (he:e≤ts.length):remA ts e+(e - i)≤remA ts i:=by
 obtain ⟨k,rfl⟩:=Nat.exists_eq_add_of_le h
 have:=remA_le (ts:=ts) k i
 rw [if_pos (by omega)] at this
 omega
structure GoodA (n:Nat) (ts:List ATok):Prop where
 pos:0<ts.length
 last:(akAt ts (ts.length - 1)).kind=0
 place:∀ i,(akAt ts i).place≤n
 part:∀ i,∀ p∈(akAt ts i).parts,p.place≤n∧p.text.length≤8192∧(p.kind=4→p.place+3+p.text.length≤n)
 wt:remL ts≤3 * n+1
 valid:∀ i,TokVA (akAt ts i)
 small:n≤8192
theorem aIs_iff (ts:List ATok) (i:Nat) (ks:List Nat):aIs ts i ks=true ↔ (akAt ts i).kind∈ks:=by
 unfold aIs
 exact List.contains_iff_mem
theorem aSk_eq {n:Nat} {ts:List ATok} (g:GoodA n ts) {i:Nat} (hi:i<ts.length) (h:(akAt ts i).kind≠0):aSk ts i=i+1∧i+1<ts.length:=by
 have:i≠ts.length - 1:=fun e=>h (e ▸ g.last)
 unfold aSk
 omega
theorem aSk_le {ts:List ATok} {i:Nat} (hi:i<ts.length):i≤aSk ts i∧aSk ts i<ts.length:=by
 unfold aSk
 omega
theorem aPassP_le {ts:List ATok} (ks:List Nat):∀ (f:Nat) {i:Nat},i<ts.length→i≤aPassP ts ks f i∧aPassP ts ks f i<ts.length
 | 0,i,h=>⟨Nat.le_refl _,h⟩
 | f+1,i,h=>by
  rw [aPassP]
  split
  ·have h1:=aSk_le h
   have h2:=aPassP_le ks f h1.2
   omega
  ·exact ⟨Nat.le_refl _,h⟩
theorem aPass_le {ts:List ATok} (ks:List Nat) {i:Nat} (h:i<ts.length):i≤aPass ts ks i∧aPass ts ks i<ts.length:=aPassP_le ks _ h
theorem askip_of {n:Nat} {ts:List ATok} (g:GoodA n ts) {i:Nat} (hi:i<ts.length) {ks:List Nat} (h0:0 ∉ ks) (h:aIs ts i ks=true):aSk ts i=i+1∧i+1<ts.length :=
 aSk_eq g hi (fun e=>h0 (e ▸ (aIs_iff _ _ _).1 h))
theorem bare_kind {t:ATok} {s:List UInt8} (h:bareA t=some s):t.kind=13:=by
 unfold bareA at h
 split at h
 ·assumption
 ·cases h
theorem bare_part {t:ATok} {s:List UInt8} (h:bareA t=some s):∃ p,t.parts=[p]∧p.kind=1∧p.text=s:=by
 unfold bareA at h
 split at h
 ·split at h
  ·rename_i p hp
   split at h
   ·cases h
    exact ⟨p,hp,by assumption,rfl⟩
   ·cases h
  ·cases h
 ·cases h
theorem aKey_kind {ts:List ATok} {i:Nat} {l:List (List UInt8)} (h:aKey ts i l=true):(akAt ts i).kind=13:=by
 unfold aKey at h
 split at h
 ·rename_i s hs
  exact bare_kind hs
 ·cases h
theorem akey_of {n:Nat} {ts:List ATok} (g:GoodA n ts) {i:Nat} (hi:i<ts.length) {l:List (List UInt8)} (h:aKey ts i l=true):aSk ts i=i+1∧i+1<ts.length :=
 aSk_eq g hi (by rw [aKey_kind h]; decide)
theorem wt_bytes (P:List APart) (j:Bool) (kind i:Nat) (s:List UInt8) (hk:kind≠4):wtPs (bytesA P j kind i s)≤wtPs P+1:=by
 have h1:wtP ⟨kind,i,0,false,s⟩=1:=by unfold wtP; rw [if_neg hk]
 unfold bytesA
 split
 ·rename_i q hq
  obtain ⟨Q,rfl⟩:=List.getLast?_eq_some_iff.1 hq
  split
  ·rename_i h
   rw [List.dropLast_concat,wtPs_snoc,wtPs_snoc]
   have e1:wtP { q with text:=q.text++s }=1:=by unfold wtP; rw [if_neg (by rw [h.2]; exact hk)]
   omega
  ·rw [wtPs_snoc,h1]
   omega
 ·rw [wtPs_snoc,h1]
  omega
theorem wt_dollar (L:List UInt8) (q:Bool) (i:Nat) (P:List APart) (j:Bool) (i':Nat) (P':List APart) (j':Bool) (_hi:i<L.length) (h:dollarA L q i P j = .ok (i',P',j')) :
  i<i'∧wtPs P'+2≤wtPs P+3 * (i' - i):=by
 have one:∀ k a c b s,k≠4→wtP ⟨k,a,c,b,s⟩=1:=fun k a c b s hk=>by unfold wtP; rw [if_neg hk]
 unfold dollarA at h
 simp only [] at h
 split at h
 ·split at h
  ·cases h
   rw [wtPs_snoc,one _ _ _ _ _ (by decide)]
   omega
  ·cases h
 split at h
 ·split at h
  ·cases h
  ·split at h
   ·cases h
    rw [wtPs_snoc,one _ _ _ _ _ (by decide)]
    omega
   ·cases h
 split at h
 ·cases h
  rw [wtPs_snoc,one _ _ _ _ _ (by decide)]
  omega
 split at h
 ·cases h
  rw [wtPs_snoc,one _ _ _ _ _ (by decide)]
  omega
 split at h
 ·cases h
  rw [wtPs_snoc,one _ _ _ _ _ (by decide)]
  omega
 split at h
 ·split at h
  ·cases h
  ·rename_i t ht
   cases h
   have h1:=scanA_lt _ _ _ _ _ _ ht
   have h2:=subs_le L (i+2) t
   have h3:wtP ⟨4,i,0,q,subs L (i+2) t⟩=3 * (subs L (i+2) t).length+3:=rfl
   rw [wtPs_snoc]
   simp only [Int.natCast_add,Int.cast_ofNat_Int] at h2 h3 ⊢
   rw [h3]
   omega
 ·cases h
  have:=wt_bytes P j (if q then 2 else 1) i [36] (by split <;> decide)
  omega
theorem wt_double (L:List UInt8) (b:Nat):∀ (f i:Nat) (P:List APart) (j:Bool) (i':Nat) (P':List APart) (j':Bool),doubleA L b f i P j = .ok (i',P',j')→i<i'∧wtPs P'≤wtPs P+3 * (i' - i):=by
 intro f
 induction f with
 | zero=>intro i P j i' P' j' h; cases h
 | succ f ih =>
  intro i P j i' P' j' h
  simp only [doubleA] at h
  split at h
  ·cases h
  rename_i hlt
  split at h
  ·cases h
   omega
  split at h
  ·have h1:=ih _ _ _ _ _ _ h
   have h2:=wt_bytes P j 2 i (if [36,34,92].contains (L.getD (i+1) 0).toNat then [L.getD (i+1) 0] else [L.getD i 0,L.getD (i+1) 0]) (by decide)
   omega
  split at h
  ·split at h
   ·cases h
   ·rename_i i2 P2 j2 hd
    have h1:=wt_dollar L true i P j i2 P2 j2 (by omega) hd
    have h2:=ih _ _ _ _ _ _ h
    omega
  ·have h1:=ih _ _ _ _ _ _ h
   have h2:=wt_bytes P j 2 i [L.getD i 0] (by decide)
   omega
theorem dollarA_le (L:List UInt8) (q:Bool) (i:Nat) (P:List APart) (j:Bool) (i':Nat) (P':List APart) (j':Bool) (hi:i<L.length) (h:dollarA L q i P j = .ok (i',P',j')):i'≤L.length:=by
 unfold dollarA at h
 simp only [] at h
 split at h
 ·split at h
  ·cases h
   have:=runName_le (L.drop (i+1))
   rw [List.length_drop] at this
   omega
  ·cases h
 split at h
 ·have hb:=byte_in L (i+1) (by omega)
  split at h
  ·cases h
  ·rename_i n hn
   have:=idxA_lt _ _ _ hn
   rw [List.length_drop] at this
   split at h
   ·cases h
    omega
   ·cases h
 split at h
 ·have hb:=byte_in L (i+1) (by omega)
  cases h
  omega
 split at h
 ·have hb:=byte_in L (i+1) (by omega)
  cases h
  omega
 split at h
 ·have hb:=byte_in L (i+1) (by omega)
  cases h
  omega
 split at h
 ·split at h
  ·cases h
  ·rename_i t ht
   cases h
   have:=scanA_lt _ _ _ _ _ _ ht
   omega
 ·cases h
  omega
theorem doubleA_le (L:List UInt8) (b:Nat):∀ (f i:Nat) (P:List APart) (j:Bool) (i':Nat) (P':List APart) (j':Bool),i≤L.length→doubleA L b f i P j = .ok (i',P',j')→i'≤L.length:=by
 intro f
 induction f with
 | zero=>intro i P j i' P' j' _ h; cases h
 | succ f ih =>
  intro i P j i' P' j' hi h
  simp only [doubleA] at h
  split at h
  ·cases h
  rename_i hlt
  split at h
  ·cases h
   omega
  split at h
  ·exact ih _ _ _ _ _ _ (by omega) h
  split at h
  ·split at h
   ·cases h
   ·rename_i i2 P2 j2 hd
    exact ih _ _ _ _ _ _ (dollarA_le L true i P j i2 P2 j2 (by omega) hd) h
  ·exact ih _ _ _ _ _ _ (by omega) h
theorem wt_word (L:List UInt8):∀ (f i:Nat) (P:List APart) (j:Bool) (i':Nat) (P':List APart),i≤L.length→wordA L f i P j = .ok (i',P')→i≤i'∧wtPs P'≤wtPs P+3 * (i' - i)∧(i<i'→wtPs P'+1≤wtPs P+3 * (i' - i)):=by
 intro f
 induction f with
 | zero=>intro i P j i' P' hi h; cases h; omega
 | succ f ih =>
  intro i P j i' P' hi h
  have one:∀ k a c b s,k≠4→wtP ⟨k,a,c,b,s⟩=1:=fun k a c b s hk=>by unfold wtP; rw [if_neg hk]
  rw [wordA] at h
  split at h
  ·cases h
   omega
  rename_i hlt
  split at h
  ·cases h
   omega
  split at h
  ·have h1:=ih _ _ _ _ _ (Nat.min_le_right _ _) h
   rw [wtPs_snoc,one _ _ _ _ _ (by decide)] at h1
   have:i+1≤min (i+2) L.length:=by omega
   omega
  split at h
  ·split at h
   ·cases h
   ·rename_i m hm
    have hl:=idxA_lt _ _ _ hm
    rw [List.length_drop] at hl
    have h1:=ih _ _ _ _ _ (by omega) h
    rw [wtPs_snoc,one _ _ _ _ _ (by decide)] at h1
    omega
  split at h
  ·split at h
   ·cases h
   ·rename_i i2 P2 j2 hd
    have h0:=wt_double _ _ _ _ _ _ _ _ _ hd
    have h3:=doubleA_le _ _ _ _ _ _ _ _ _ (by omega) hd
    have h1:=ih _ _ _ _ _ h3 h
    rw [wtPs_snoc,one _ _ _ _ _ (by decide)] at h0
    omega
  split at h
  ·split at h
   ·cases h
   ·rename_i i2 P2 j2 hd
    have h0:=wt_dollar L false i P j i2 P2 j2 (by omega) hd
    have h3:=dollarA_le L false i P j i2 P2 j2 (by omega) hd
    have h1:=ih _ _ _ _ _ h3 h
    omega
  ·have h1:=ih _ _ _ _ _ (by omega) h
   have h2:=wt_bytes P j 1 i [L.getD i 0] (by decide)
   omega
def SubIn (n:Nat) (P:List APart):Prop:=∀ p∈P,p.kind=4→p.place+3+p.text.length≤n
theorem SubIn.snoc {n:Nat} {P:List APart} (h:SubIn n P) (x:APart) (hx:x.kind=4→x.place+3+x.text.length≤n):SubIn n (P++[x]):=fun p hp=>by
 rcases List.mem_append.1 hp with hp | hp
 ·exact h p hp
 ·rw [List.mem_singleton] at hp
  subst hp
  exact hx
theorem SubIn.bytes {n:Nat} {P:List APart} (h:SubIn n P) (j:Bool) (kind i:Nat) (s:List UInt8) (hk:kind≠4):SubIn n (bytesA P j kind i s):=by
 unfold bytesA
 split
 ·rename_i q hq
  obtain ⟨Q,rfl⟩:=List.getLast?_eq_some_iff.1 hq
  split
  ·rename_i hc
   rw [List.dropLast_concat]
   exact SubIn.snoc (fun p hp=>h p (by simp [hp])) _ (fun e=>absurd (hc.2.symm.trans e) hk)
  ·exact h.snoc _ (fun e=>absurd e hk)
 ·exact h.snoc _ (fun e=>absurd e hk)
theorem subIn_dollar (L:List UInt8) (q:Bool) (i:Nat) (P:List APart) (j:Bool) (i':Nat) (P':List APart) (j':Bool) (hP:SubIn L.length P) (h:dollarA L q i P j = .ok (i',P',j')):SubIn L.length P':=by
 unfold dollarA at h
 simp only [] at h
 split at h
 ·split at h
  ·cases h
   exact hP.snoc _ (fun e=>by cases e)
  ·cases h
 split at h
 ·split at h
  ·cases h
  ·split at h
   ·cases h
    exact hP.snoc _ (fun e=>by cases e)
   ·cases h
 split at h
 ·cases h
  exact hP.snoc _ (fun e=>by cases e)
 split at h
 ·cases h
  exact hP.snoc _ (fun e=>by cases e)
 split at h
 ·cases h
  exact hP.snoc _ (fun e=>by cases e)
 split at h
 ·split at h
  ·cases h
  ·rename_i t ht
   cases h
   have h1:=scanA_lt _ _ _ _ _ _ ht
   have h2:=subs_le L (i+2) t
   refine hP.snoc _ (fun _=>?_)
   simp only [Int.natCast_add,Int.cast_ofNat_Int] at h2 ⊢
   omega
 ·cases h
  exact hP.bytes _ _ _ _ (by split <;> decide)
theorem subIn_double (L:List UInt8) (b:Nat):∀ (f i:Nat) (P:List APart) (j:Bool) (i':Nat) (P':List APart) (j':Bool),SubIn L.length P→doubleA L b f i P j = .ok (i',P',j')→SubIn L.length P':=by
 intro f
 induction f with
 | zero=>intro i P j i' P' j' _ h; cases h
 | succ f ih =>
  intro i P j i' P' j' hP h
  simp only [doubleA] at h
  split at h
  ·cases h
  split at h
  ·cases h
   exact hP
  split at h
  ·exact ih _ _ _ _ _ _ (hP.bytes _ _ _ _ (by decide)) h
  split at h
  ·split at h
   ·cases h
   ·rename_i i2 P2 j2 hd
    exact ih _ _ _ _ _ _ (subIn_dollar L true i P j i2 P2 j2 hP hd) h
  ·exact ih _ _ _ _ _ _ (hP.bytes _ _ _ _ (by decide)) h
theorem word_in (L:List UInt8):∀ (f i:Nat) (P:List APart) (j:Bool) (i':Nat) (P':List APart),SmallA P i→SubIn L.length P→i≤L.length→wordA L f i P j = .ok (i',P')→SmallA P' i'∧SubIn L.length P'∧i'≤L.length:=by
 intro f
 induction f with
 | zero=>intro i P j i' P' h1 h2 hi h; cases h; exact ⟨h1,h2,hi⟩
 | succ f ih =>
  intro i P j i' P' h1 h2 hi h
  rw [wordA] at h
  split at h
  ·cases h
   exact ⟨h1,h2,hi⟩
  rename_i hlt
  split at h
  ·cases h
   exact ⟨h1,h2,hi⟩
  split at h
  ·refine ih _ _ _ _ _ (h1.part _ ?_ (by omega)) (h2.snoc _ (fun e=>by cases e)) (Nat.min_le_right _ _) h
   dsimp only
   split <;> simp only [List.length_cons,List.length_nil] <;> omega
  split at h
  ·split at h
   ·cases h
   ·rename_i m hm
    have hl:=idxA_lt _ _ _ hm
    rw [List.length_drop] at hl
    have:=subs_le L (i+1) (i+1+m)
    refine ih _ _ _ _ _ (h1.part _ ?_ (by omega)) (h2.snoc _ (fun e=>by cases e)) (by omega) h
    dsimp only
    simp only [Int.natCast_add,Int.cast_ofNat_Int] at *
    omega
  split at h
  ·split at h
   ·cases h
   ·rename_i i2 P2 j2 hd
    have h3:=doubleA_small L i _ _ _ _ _ _ _ (h1.part ⟨2,i,0,false,[]⟩ (by simp) (by omega)) (by omega) hd
    exact ih _ _ _ _ _ h3.1 (subIn_double L i _ _ _ _ _ _ _ (h2.snoc _ (fun e=>by cases e)) hd) h3.2.2 h
  split at h
  ·split at h
   ·cases h
   ·rename_i i2 P2 j2 hd
    have h3:=dollarA_small L false i P j i2 P2 j2 (by omega) h1 hd
    exact ih _ _ _ _ _ h3.1 (subIn_dollar L false i P j i2 P2 j2 h2 hd) h3.2.2 h
  ·exact ih _ _ _ _ _ (h1.bytes _ _ _ _ (by simp) (by omega)) (h2.bytes _ _ _ _ (by decide)) (by omega) h
theorem token_in (L:List UInt8) (i:Nat) (t:ATok) (n:Nat) (hi:i≤L.length) (h:tokenA L i = .ok (t,n)):wtT t≤3 * (n - i)+1∧(t.kind≠0→i<n→wtT t≤3 * (n - i))∧(∀ p∈t.parts,p.text.length≤L.length)∧SubIn L.length t.parts∧t.place≤L.length:=by
 unfold tokenA at h
 split at h
 ·cases h
  exact ⟨by simp [wtT,wtPs],fun e=>absurd rfl e,fun p hp=>by simp at hp,fun p hp=>by simp at hp,hi⟩
 ·rename_i hlt
  simp only [] at h
  split at h
  ·cases h
   exact ⟨by simp [wtT,wtPs],fun _ h=>by simp [wtT,wtPs]; omega,fun p hp=>by simp at hp,fun p hp=>by simp at hp,hi⟩
  split at h
  ·cases h
  split at h
  ·cases h
  ·rename_i k P hw
   cases h
   have h1:=wt_word L _ _ _ _ _ _ hi hw
   have h2:=word_in L _ _ _ _ _ _ (SmallA.nil i) (fun p hp=>by cases hp) hi hw
   rw [wtPs_nil] at h1
   exact ⟨by unfold wtT; dsimp only; omega,fun _ h=>by unfold wtT; dsimp only; have:=h1.2.2 h; omega,fun p hp=>by have:=h2.1.2 p hp; omega,h2.2.1,hi⟩
theorem remL_cons (t:ATok) (ts:List ATok):remL (t :: ts)=wtT t+remL ts:=by simp [remL]
theorem lexA_in (L:List UInt8):∀ (f k:Nat) (ts:List ATok),k≤L.length→L.length - k<f→lexA L f k = .ok ts→remL ts≤3 * (L.length - k)+1∧(∀ t∈ts,(∀ p∈t.parts,p.text.length≤L.length∧p.place≤L.length)∧SubIn L.length t.parts∧t.place≤L.length∧TokVA t)∧∃ v,ts.getLast?=some v∧v.kind=0:=by
 intro f
 induction f with
 | zero=>intro k ts _ h; omega
 | succ f ih =>
  intro k ts hk hf h
  rw [lexA] at h
  have hs:=skipN_le false (L.drop k)
  have hfront:=skip_front false (L.drop k)
  rw [List.length_drop] at hs
  rw [List.drop_drop] at hfront
  obtain ⟨j,hj⟩:∃ j,k+skipN false (L.drop k)=j:=⟨_,rfl⟩
  rw [hj] at h hfront
  cases ht:tokenA L j with
  | error e=>rw [ht] at h; cases h
  | ok y =>
   obtain ⟨t,n⟩:=y
   rw [ht] at h
   obtain ⟨n1,n2,n3,n4,n5⟩:=tokenA_ok L j t n (by omega) hfront ht
   obtain ⟨m1,m2,m3,m4,m5⟩:=token_in L j t n (by omega) ht
   have hv:=tokenA_valid L j t n (by omega) hfront ht
   have hT:(∀ p∈t.parts,p.text.length≤L.length∧p.place≤L.length)∧SubIn L.length t.parts∧t.place≤L.length∧TokVA t:=⟨fun p hp=>⟨m3 p hp,by have:=n5.2.2.2 p hp; omega⟩,m4,m5,hv⟩
   by_cases hk0:t.kind=0
   ·simp only [hk0,if_true] at h
    cases h
    refine ⟨?_,fun u hu=>?_,t,rfl,hk0⟩
    ·have hp:t.parts=[]:=by
      rcases hv with h1 | h1
      ·exact h1.2
      ·rw [hk0] at h1; cases h1.1
     simp [remL,wtT,wtPs,hp]
    ·rw [List.mem_singleton] at hu
     subst hu
     exact hT
   ·simp only [hk0,if_false] at h
    have hn1:=n4 hk0
    cases hl:lexA L f n with
    | error e=>rw [hl] at h; cases h
    | ok us =>
     rw [hl] at h
     cases h
     obtain ⟨i1,i2,v,i3,i4⟩:=ih n us n3 (by omega) hl
     have:=m2 hk0 hn1
     refine ⟨by rw [remL_cons]; omega,fun u hu=>?_,v,?_,i4⟩
     ·rcases List.mem_cons.1 hu with rfl | hu
      ·exact hT
      ·exact i2 u hu
     ·cases us with
      | nil=>simp at i3
      | cons u us=>rw [List.getLast?_cons_cons]; exact i3
theorem lexA_good (L:List UInt8) (hL:L.length≤8192) (ts:List ATok) (h:lexA L (L.length+1) 0 = .ok ts):GoodA L.length ts:=by
 obtain ⟨h1,h2,v,h3,h4⟩:=lexA_in L _ 0 ts (Nat.zero_le _) (by omega) h
 have hd:∀ i,akAt ts i∈ts∨akAt ts i=⟨0,0,[]⟩:=fun i=>by
  by_cases hi:i<ts.length
  ·rw [ak_get hi]; exact .inl (List.getElem_mem hi)
  ·exact .inr (ak_out (by omega))
 have hpos:0<ts.length:=by
  cases ts with
  | nil=>simp at h3
  | cons t ts=>simp
 refine ⟨hpos,?_,fun i=>?_,fun i p hp=>?_,by omega,fun i=>?_,hL⟩
 ·rw [List.getLast?_eq_getElem?,List.getElem?_eq_getElem (by omega)] at h3
  rw [ak_get (by omega),Option.some.inj h3]
  exact h4
 ·rcases hd i with h5 | h5
  ·exact (h2 _ h5).2.2.1
  ·rw [h5]; exact Nat.zero_le _
 ·rcases hd i with h5 | h5
  ·have:=(h2 _ h5).1 p hp
   exact ⟨this.2,by omega,(h2 _ h5).2.1 p hp⟩
  ·rw [h5] at hp
   cases hp
 ·rcases hd i with h5 | h5
  ·exact (h2 _ h5).2.2.2
  ·rw [h5]
   exact .inl ⟨Nat.zero_le _,rfl⟩
end Go.Proofs.YtbfeoinoepoiaaaGreatDoor
namespace Go.Proofs.YtbfeoinoepoiaaaGreatDoor
set_option maxHeartbeats 8000000
open Go Go.RowKit
def PostA (lo hi:Nat) {α:Type} (x:PRes α) (Q:α→Nat→Prop):Prop :=
 (∀ a e,x=some (.ok (a,e))→Q a e)∧∀ c p,x=some (.error (c,p))→(101≤c∧c≤109)∧lo≤p∧p≤hi
def PostO (lo hi:Nat) {α:Type} (x:POne α) (Q:α→Prop):Prop :=
 (∀ a,x=some (.ok a)→Q a)∧∀ c p,x=some (.error (c,p))→(101≤c∧c≤109)∧lo≤p∧p≤hi
section
variable {lo hi:Nat} {α β:Type}
theorem PostA.none {Q:α→Nat→Prop}:PostA lo hi (none:PRes α) Q:=⟨fun _ _ h=>(by cases h),fun _ _ h=>(by cases h)⟩
theorem PostA.ok {Q:α→Nat→Prop} {a:α} {e:Nat} (h:Q a e):PostA lo hi (pOk a e) Q:=⟨fun _ _ h'=>(by cases h'; exact h),fun _ _ h=>(by cases h)⟩
theorem PostA.err {Q:α→Nat→Prop} {c p:Nat} (h1:101≤c∧c≤109) (h2:lo≤p∧p≤hi):PostA lo hi (pErr c p:PRes α) Q :=
 ⟨fun _ _ h=>(by cases h),fun _ _ h=>(by cases h; exact ⟨h1,h2⟩)⟩
theorem PostA.mono {x:PRes α} {Q R:α→Nat→Prop} (h:PostA lo hi x Q) (hR:∀ a e,Q a e→R a e):PostA lo hi x R:=⟨fun a e hx=>hR a e (h.1 a e hx),h.2⟩
theorem PostA.go {x:PRes α} {k:α→Nat→PRes β} {Q:α→Nat→Prop} {R:β→Nat→Prop} (h:PostA lo hi x Q) (hk:∀ a e,Q a e→PostA lo hi (k a e) R):PostA lo hi (x.go k) R:=by
 match x,h with
 | .none,_=>exact .none
 | some (.error e),h=>exact ⟨fun _ _ h'=>(by cases h'),fun c p h'=>h.2 c p (by cases h'; rfl)⟩
 | some (.ok (a,e)),h=>exact hk a e (h.1 a e rfl)
theorem PostO.none {Q:α→Prop}:PostO lo hi (none:POne α) Q:=⟨fun _ h=>(by cases h),fun _ _ h=>(by cases h)⟩
theorem PostO.ok {Q:α→Prop} {a:α} (h:Q a):PostO lo hi (oOk a) Q:=⟨fun _ h'=>(by cases h'; exact h),fun _ _ h=>(by cases h)⟩
theorem PostO.err {Q:α→Prop} {c p:Nat} (h1:101≤c∧c≤109) (h2:lo≤p∧p≤hi):PostO lo hi (oErr c p:POne α) Q :=
 ⟨fun _ h=>(by cases h),fun _ _ h=>(by cases h; exact ⟨h1,h2⟩)⟩
theorem PostO.mono {x:POne α} {Q R:α→Prop} (h:PostO lo hi x Q) (hR:∀ a,Q a→R a):PostO lo hi x R:=⟨fun a hx=>hR a (h.1 a hx),h.2⟩
theorem PostO.go {x:POne α} {k:α→POne β} {Q:α→Prop} {R:β→Prop} (h:PostO lo hi x Q) (hk:∀ a,Q a→PostO lo hi (k a) R):PostO lo hi (x.go k) R:=by
 match x,h with
 | .none,_=>exact .none
 | some (.error e),h=>exact ⟨fun _ h'=>(by cases h'),fun c p h'=>h.2 c p (by cases h'; rfl)⟩
 | some (.ok a),h=>exact hk a (h.1 a rfl)
theorem PostO.at {x:POne α} {Q:α→Prop} {i:Nat} (h:PostO lo hi x Q):PostA lo hi (x.at i) fun a e=>Q a∧e=i:=by
 match x,h with
 | .none,_=>exact .none
 | some (.error e),h=>exact ⟨fun _ _ h'=>(by cases h'),fun c p h'=>h.2 c p (by cases h'; rfl)⟩
 | some (.ok a),h=>exact .ok ⟨h.1 a rfl,rfl⟩
end
def PartW (p:APart):Prop :=
 (p.kind=1∧∀ c∈p.text,c.toNat≠92)∨p.kind=2∨(p.kind=3∧(nameB p.text=true∨p.text=[42]))∨p.kind=4∨(p.kind=5∧1≤p.num∧p.num≤9)∨p.kind=6
theorem textV_plain:∀ (l:List UInt8) (n:UInt8),TextV l n→∀ c∈l,c.toNat≠92
 | [],_,_,c,hc=>by cases hc
 | d :: l,n,h,c,hc=>by
  rcases List.mem_cons.1 hc with rfl | hc
  ·exact h.1.2.1
  ·exact textV_plain l n h.2.2 c hc
theorem partV_w {p:APart} (h:PartV p):PartW p:=by
 unfold PartV at h
 rcases h with ⟨h1,_,_,_,n,h2⟩ | h | ⟨h1,_,h2⟩ | h | h | h
 ·exact .inl ⟨h1,textV_plain _ _ h2⟩
 ·exact .inr (.inl h.1)
 ·refine .inr (.inr (.inl ⟨h1,?_⟩))
  rcases h2 with h2 | ⟨h2,h3⟩
  ·exact .inr h2
  ·exact .inl (by rw [h2.name]; simpa using h3)
 ·exact .inr (.inr (.inr (.inl h.1)))
 ·exact .inr (.inr (.inr (.inr (.inl ⟨h.1,h.2.1,h.2.2.1⟩))))
 ·exact .inr (.inr (.inr (.inr (.inr h.1))))
structure PartsA (n:Nat) (t:ATok):Prop where
 place:t.place≤n
 len:∀ p∈t.parts,p.text.length≤8192
 valid:∀ p∈t.parts,PartW p
theorem GoodA.parts {n:Nat} {ts:List ATok} (g:GoodA n ts) (i:Nat):PartsA n (akAt ts i) :=
 ⟨g.place i,fun p hp=>(g.part i p hp).2.1,fun p hp=>by
  rcases g.valid i with h | h
  ·rw [h.2] at hp; cases hp
  ·exact partV_w (h.2.2.1 p hp)⟩
def PieceQ (x:APart) (l:Prog):Prop:=0<l.length∧l.length+5≤8 * wtP x∧txP l≤30000 * wtP x
def AliveQ (x:APart) (l:Prog):Prop:=0<l.length∧l.length+4≤8 * wtP x∧txP l≤30000 * wtP x
def SubQ (lo hi:Nat) (sub:APart→POne Prog) (P:List APart):Prop:=∀ x∈P,x.kind=4→PostO lo hi (sub x) fun l=>0<l.length∧l.length+12≤8 * wtP x∧txP l≤30000 * wtP x
theorem partV_kind {x:APart} (h:PartW x) (h1:x.kind≠1) (h2:x.kind≠2) (h3:x.kind≠3) (h5:x.kind≠5) (h6:x.kind≠6):x.kind=4:=by
 unfold PartW at h
 omega
theorem items_post {lo hi:Nat} {sub:APart→POne Prog} {P:List APart} (hs:SubQ lo hi sub P) {x:APart} (hx:x∈P) (hv:PartW x) (hl:x.text.length≤8192) (h1:x.kind≠1) (h2:x.kind≠2) :
  PostO lo hi (itemsA sub x) fun l=>0<l.length∧l.length+6≤8 * wtP x∧txP l≤30000 * wtP x:=by
 have hw:=wtP_pos x
 unfold itemsA
 split
 ·have:=len_none 2 0 x.text
  exact .ok (by omega)
 split
 ·have:=len_one 11 x.num [] allA
  have h3:=len_none 2 0 [42]
  simp only [List.length_cons,List.length_nil] at this h3
  exact .ok (by unfold allA at *; omega)
 split
 ·have:=len_one 10 0 [] allA
  have h3:=len_none 2 0 [42]
  simp only [List.length_cons,List.length_nil] at this h3
  exact .ok (by unfold allA at *; omega)
 ·rename_i h3 h5 h6
  exact (hs x hx (partV_kind hv h1 h2 h3 h5 h6)).mono fun l h=>by omega
theorem piece_post {lo hi:Nat} {sub:APart→POne Prog} {P:List APart} (hs:SubQ lo hi sub P) {x:APart} (hx:x∈P) (hv:PartW x) (hl:x.text.length≤8192):PostO lo hi (pieceA sub x) (PieceQ x):=by
 have hw:=wtP_pos x
 unfold pieceA PieceQ
 split
 ·have:=len_none 1 0 x.text
  exact .ok (by unfold litP; omega)
 ·rename_i h12
  refine (items_post hs hx hv hl (fun e=>h12 (.inl e)) (fun e=>h12 (.inr e))).go fun l h=>.ok ?_
  split
  ·have:=len_one 9 0 [] l
   simp only [List.length_nil] at this
   omega
  ·omega
theorem alive_post {lo hi:Nat} {sub bare:APart→POne Prog} {P:List APart} (hs:SubQ lo hi sub P) {x:APart} (hx:x∈P) (hv:PartW x) (hl:x.text.length≤8192) (hb:x.kind≠1→x.kind≠2→PostO lo hi (bare x) (PieceQ x)):PostO lo hi (aliveA sub bare x) (AliveQ x):=by
 have hw:=wtP_pos x
 unfold aliveA AliveQ
 split
 ·have:=len_none 1 1 x.text
  exact .ok (by omega)
 split
 ·have:=len_none 1 1 (escapeP x.text)
  have:=escapeP_len x.text
  exact .ok (by omega)
 split
 ·exact (hb (by assumption) (by assumption)).mono fun l h=>by unfold PieceQ at h; omega
 ·refine (piece_post hs hx hv hl).go fun l h=>.ok ?_
  have:=len_one 8 0 [] l
  unfold PieceQ at h
  simp only [List.length_nil] at this
  omega
theorem parts_post {lo hi:Nat} {tq:APart→POne Prog}:∀ (P:List APart),(∀ x∈P,PostO lo hi (tq x) (AliveQ x))→PostO lo hi (partsA tq P) fun l=>l.length=P.length∧(∀ x∈l,0<x.length)∧l.flatten.length+4 * P.length≤8 * wtPs P∧txP l.flatten≤30000 * wtPs P
 | [],_=>.ok ⟨rfl,(fun x hx=>by cases hx),Nat.le_refl _,Nat.le_refl _⟩
 | x :: P,h=>by
  rw [partsA]
  refine (h x (by simp)).go fun n hn=>(parts_post P fun y hy=>h y (by simp [hy])).go fun l hl=>.ok ?_
  obtain ⟨n1,n2,n3⟩:=hn
  obtain ⟨l0,l1,l2,l3⟩:=hl
  rw [wtPs_cons,List.flatten_cons,List.length_append,txP_append]
  simp only [List.length_cons]
  refine ⟨by omega,fun y hy=>?_,by omega,by omega⟩
  rcases List.mem_cons.1 hy with rfl | hy
  ·exact n1
  ·exact l1 y hy
theorem filter_len (l:List Prog) (p:Prog→Bool):(l.filter p).flatten.length≤l.flatten.length∧txP (l.filter p).flatten≤txP l.flatten:=by
 induction l with
 | nil=>exact ⟨Nat.le_refl _,Nat.le_refl _⟩
 | cons a l ih =>
  rw [List.filter_cons]
  split
  ·simp only [List.flatten_cons,List.length_append,txP_append]
   omega
  ·simp only [List.flatten_cons,List.length_append,txP_append]
   omega
theorem join_ne:∀ (l out:List Prog),out≠[]∨l≠[]→l.foldl joinStep out≠[]
 | [],out,h=>by simpa using h
 | x :: l,out,_=>join_ne l _ (.inl (by
  unfold joinStep
  split
  ·split <;> simp
  ·simp))
theorem joinStep_posA {out:List Prog} {x:Prog} (ho:∀ y∈out,0<y.length) (hx:0<x.length):∀ y∈joinStep out x,0<y.length:=by
 unfold joinStep
 intro y hy
 split at hy
 ·split at hy
  ·rcases List.mem_append.1 hy with hy | hy
   ·exact ho y (List.dropLast_subset _ hy)
   ·rw [List.mem_singleton] at hy
    subst hy
    simp [newP]
  ·rcases List.mem_append.1 hy with hy | hy
   ·exact ho y hy
   ·rw [List.mem_singleton] at hy
    subst hy
    exact hx
 ·rcases List.mem_append.1 hy with hy | hy
  ·exact ho y hy
  ·rw [List.mem_singleton] at hy
   subst hy
   exact hx
theorem joinFold_pos:∀ (l out:List Prog),(∀ y∈out,0<y.length)→(∀ y∈l,0<y.length)→∀ y∈l.foldl joinStep out,0<y.length
 | [],out,h,_=>h
 | x :: l,out,h,hl=>joinFold_pos l _ (joinStep_posA h (hl x (by simp))) fun y hy=>hl y (by simp [hy])
theorem len_joinA (l:List Prog) (hp:∀ y∈l,0<y.length):0<(joinA l).length∧(joinA l).length≤l.flatten.length+1∧txP (joinA l)≤txP l.flatten:=by
 unfold joinA
 split
 ·exact ⟨by simp [litP,newP],by simp [litP,newP],by simp [litP,newP,txP]⟩
 ·rename_i a m
  obtain ⟨h1,h2,_⟩:=join_fold (a :: m) []
  have hne:=join_ne (a :: m) [] (.inr (by simp))
  have hpos:=joinFold_pos (a :: m) [] (fun y hy=>by cases hy) hp
  obtain ⟨h3,h4⟩:=filter_len ((a :: m).foldl joinStep []) fullA
  simp only [List.flatten_nil,List.length_nil,Nat.zero_add,txP_nil] at h1 h2
  generalize (a :: m).foldl joinStep []=o at *
  split
  ·have:=headD_le o
   refine ⟨?_,by omega,by omega⟩
   cases o with
   | nil=>exact absurd rfl hne
   | cons x o=>exact hpos x (by simp)
  ·rename_i x hx
   rw [hx] at h3 h4
   simp only [List.flatten_cons,List.flatten_nil,List.append_nil] at h3 h4
   exact ⟨hpos x (List.mem_filter.1 (show x∈o.filter fullA by rw [hx]; simp)).1,by omega,by omega⟩
  ·rw [len_newP,txP_newP]
   simp only [List.length_nil]
   omega
def WordQ (t:ATok) (l:Prog):Prop:=0<l.length∧l.length+5≤8 * wtT t∧txP l+30000≤30000 * wtT t
theorem fits_post {b n:Nat} {t:ATok} {l:Prog} {Q:Prog→Prop} (ht:t.place≤n) (h:Q l):PostO b (b+n) (fitsA b t l) Q:=by
 unfold fitsA
 split
 ·exact .err (by omega) (by omega)
 ·exact .ok h
theorem joined_post {b n:Nat} {t:ATok} (hP:PartsA n t) {tq:APart→POne Prog} (h:∀ x∈t.parts,PostO b (b+n) (tq x) (AliveQ x)):PostO b (b+n) (joinedA tq b t) fun l=>0<l.length∧l.length+7≤8 * wtT t∧txP l+30000≤30000 * wtT t:=by
 unfold joinedA
 refine (parts_post t.parts h).go fun l ⟨l0,l1,l2,l3⟩=>fits_post hP.place ?_
 have:=len_joinA l l1
 unfold wtT
 omega
theorem value_post {b n:Nat} {sub:APart→POne Prog} {t:ATok} (hP:PartsA n t) (hs:SubQ b (b+n) sub t.parts):PostO b (b+n) (valueA sub b t) (WordQ t):=by
 unfold valueA
 exact (joined_post hP fun x hx=>(piece_post hs hx (hP.valid x hx) (hP.len x hx)).mono fun l h=>by unfold PieceQ at h; unfold AliveQ; omega).mono fun l h=>by unfold WordQ; omega
theorem lives_post {b n:Nat} {sub:APart→POne Prog} {t:ATok} (hP:PartsA n t) (hs:SubQ b (b+n) sub t.parts):PostO b (b+n) (livesA sub b t) (WordQ t):=by
 unfold livesA
 split
 ·have:=len_none 1 1 []
  exact .ok (by unfold WordQ wtT; simp only [List.length_nil] at this; omega)
 ·exact (joined_post hP fun x hx=>alive_post hs hx (hP.valid x hx) (hP.len x hx) fun _ _=>piece_post hs hx (hP.valid x hx) (hP.len x hx)).mono fun l h=>by unfold WordQ; omega
theorem fText_len:∀ (P:List APart),(∀ p∈P,p.text.length≤8192)→(fText P).length≤16384 * wtPs P
 | [],_=>Nat.zero_le _
 | x :: P,h=>by
  have ih:=fText_len P fun p hp=>h p (by simp [hp])
  have hx:=h x (by simp)
  have hw:=wtP_pos x
  have he:=escapeP_len x.text
  unfold fText at ih ⊢
  rw [List.flatMap_cons,List.length_append,wtPs_cons]
  split
  ·omega
  split
  ·omega
  ·simp only [List.length_nil]; omega
theorem field_post {b n:Nat} {sub:APart→POne Prog} {t:ATok} (hP:PartsA n t) (hs:SubQ b (b+n) sub t.parts):PostO b (b+n) (fieldA sub b t) (WordQ t):=by
 unfold fieldA
 split
 ·rename_i h
  refine fits_post hP.place ?_
  have h1:=len_one 6 0 [] (newP 1 1 (fText t.parts) [])
  have h2:=len_none 1 1 (fText t.parts)
  have h3:=fText_len t.parts hP.len
  simp only [List.length_nil] at h1
  have h4:t.parts≠[]:=fun e=>by
   rw [e] at h
   exact absurd h.2 (by decide)
  have h5:0<t.parts.length:=List.length_pos_iff.2 h4
  have h6:=wtPs_len t.parts
  unfold WordQ wtT
  omega
 split
 ·exact value_post hP hs
 ·refine (joined_post hP fun x hx=>alive_post hs hx (hP.valid x hx) (hP.len x hx) fun h1 h2=>(items_post hs hx (hP.valid x hx) (hP.len x hx) h1 h2).mono fun l h=>by unfold PieceQ; omega).go fun l h=>.ok ?_
  have h1:=len_one 6 0 [] (newP 5 0 [] [l])
  have h2:=len_one 5 0 [] l
  simp only [List.length_nil] at h1 h2
  unfold WordQ
  omega
theorem idxA_split:∀ {l:List UInt8} {m:Nat},idxA 61 l=some m→l=l.take m++[61]++l.drop (m+1)
 | [],m,h=>by cases h
 | c :: l,m,h=>by
  rw [idxA] at h
  split at h
  ·rename_i hc
   cases h
   have:c=61:=UInt8.toNat_inj.1 hc
   subst this
   rfl
  ·cases hq:idxA 61 l with
   | none=>rw [hq] at h; cases h
   | some k =>
    rw [hq] at h
    cases h
    have:=idxA_split hq
    rw [List.take_succ_cons,List.drop_succ_cons,List.cons_append,List.cons_append,← this]
theorem setting_in {t t':ATok} {s:List UInt8} (h:settingA t=some (s,t')):nameB s=true∧t'.place=t.place∧wtT t'=wtT t∧∃ p ps r,t.parts=p :: ps∧p.kind=1∧t'.parts={ p with text:=r } :: ps∧p.text=s++[61]++r:=by
 unfold settingA at h
 split at h
 ·cases h
 ·rename_i p ps hp
  split at h
  ·rename_i hk
   split at h
   ·rename_i m hm
    split at h
    ·rename_i hn
     cases h
     refine ⟨hn,rfl,?_,p,ps,_,hp,hk,rfl,idxA_split hm⟩
     unfold wtT
     rw [hp,wtPs_cons,wtPs_cons]
     unfold wtP
     rw [if_neg (by rw [hk]; decide),if_neg (by rw [hk]; decide)]
    ·cases h
   ·cases h
  ·cases h
theorem setting_parts {n:Nat} {t t':ATok} {s:List UInt8} (h:settingA t=some (s,t')) (hP:PartsA n t):PartsA n t':=by
 obtain ⟨_,h1,_,p,ps,r,h2,h3,h4,h5⟩:=setting_in h
 have hp:p∈t.parts:=by rw [h2]; simp
 have hl:p.text.length=s.length+1+r.length:=by rw [h5]; simp; omega
 refine ⟨by rw [h1]; exact hP.place,fun x hx=>?_,fun x hx=>?_⟩
 ·rw [h4] at hx
  rcases List.mem_cons.1 hx with rfl | hx
  ·have:=hP.len p hp
   dsimp only
   omega
  ·exact hP.len x (by rw [h2]; simp [hx])
 ·rw [h4] at hx
  rcases List.mem_cons.1 hx with rfl | hx
  ·refine .inl ⟨h3,fun c hc=>?_⟩
   rcases hP.valid p hp with h | h
   ·exact h.2 c (by rw [h5]; simp at hc ⊢; exact .inr (.inr hc))
   ·omega
  ·exact hP.valid x (by rw [h2]; simp [hx])
theorem setting_sub {lo hi:Nat} {t t':ATok} {s:List UInt8} (h:settingA t=some (s,t')) {sub:APart→POne Prog} (hs:SubQ lo hi sub t.parts):SubQ lo hi sub t'.parts:=by
 obtain ⟨_,h1,_,p,ps,r,h2,h3,h4,h5⟩:=setting_in h
 intro x hx hk
 rw [h4] at hx
 rcases List.mem_cons.1 hx with rfl | hx
 ·exact absurd (hk.symm.trans h3) (by decide)
 ·exact hs x (by rw [h2]; simp [hx]) hk
end Go.Proofs.YtbfeoinoepoiaaaGreatDoor
namespace Go.Proofs.YtbfeoinoepoiaaaGreatDoor
set_option maxHeartbeats 8000000
open Go Go.RowKit
section
variable {n b:Nat} {ts:List ATok}
theorem PostA.form (g:GoodA n ts) {α:Type} {Q:α→Nat→Prop} (i:Nat):PostA b (b+n) (formA ts b i:PRes α) Q:=by
 have:=g.place i
 unfold formA
 exact .err (by split <;> omega) (by omega)
theorem PostA.want (g:GoodA n ts) {α:Type} {i:Nat} {s:List UInt8} {k:Nat→PRes α} {R:α→Nat→Prop} (hi:i<ts.length) (hk:i+1<ts.length→remA ts (i+1)+2≤remA ts i→PostA b (b+n) (k (i+1)) R):PostA b (b+n) (wantA ts b i s k) R:=by
 unfold wantA
 split
 ·rename_i h
  obtain ⟨e1,e2⟩:=akey_of g hi h
  rw [e1]
  refine hk e2 ?_
  have h1:=remA_step hi
  have h2:=aKey_kind h
  unfold aKey at h
  split at h
  ·rename_i s hs
   obtain ⟨p,hp,_⟩:=bare_part hs
   unfold wtT at h1
   rw [hp] at h1
   have:=wtP_pos p
   rw [wtPs_cons] at h1
   omega
  ·cases h
 ·exact .form g i
theorem skip_rem (g:GoodA n ts) {i:Nat} (hi:i<ts.length) (h:(akAt ts i).kind≠0):aSk ts i=i+1∧i+1<ts.length∧remA ts i=wtT (akAt ts i)+remA ts (i+1)∧1≤wtT (akAt ts i):=by
 obtain ⟨h1,h2⟩:=aSk_eq g hi h
 exact ⟨h1,h2,remA_step hi,by unfold wtT; omega⟩
theorem skip_rem' (g:GoodA n ts) {i:Nat} (hi:i<ts.length) {ks:List Nat} (h0:0 ∉ ks) (h:aIs ts i ks=true):aSk ts i=i+1∧i+1<ts.length∧remA ts i=wtT (akAt ts i)+remA ts (i+1)∧1≤wtT (akAt ts i) :=
 skip_rem g hi (fun e=>h0 (e ▸ (aIs_iff _ _ _).1 h))
theorem word_wt {t:ATok} {s:List UInt8} (h:bareA t=some s):2≤wtT t:=by
 obtain ⟨p,hp,_⟩:=bare_part h
 unfold wtT
 have:=wtP_pos p
 rw [hp,wtPs_cons]
 omega
theorem key_rem (g:GoodA n ts) {i:Nat} (hi:i<ts.length) {l:List (List UInt8)} (h:aKey ts i l=true):aSk ts i=i+1∧i+1<ts.length∧remA ts i=wtT (akAt ts i)+remA ts (i+1)∧2≤wtT (akAt ts i):=by
 obtain ⟨h1,h2⟩:=akey_of g hi h
 refine ⟨h1,h2,remA_step hi,?_⟩
 unfold aKey at h
 split at h
 ·rename_i s hs
  exact word_wt hs
 ·cases h
theorem pass_rem {i:Nat} (ks:List Nat) (hi:i<ts.length):i≤aPass ts ks i∧aPass ts ks i<ts.length∧remA ts (aPass ts ks i)≤remA ts i:=by
 obtain ⟨h1,h2⟩:=aPass_le ks hi
 have:=rem_le h1 (Nat.le_of_lt h2)
 exact ⟨h1,h2,by omega⟩
theorem word_post (g:GoodA n ts) {i:Nat} (hi:i<ts.length) {aq:Nat→ATok→POne Prog} (h:PostO b (b+n) (aq b (akAt ts i)) (WordQ (akAt ts i))) :
  PostA b (b+n) (wordOf aq ts b i) fun l e=>e=i+1∧e<ts.length∧0<l.length∧l.length+5+8 * remA ts e≤8 * remA ts i∧txP l+30000+30000 * remA ts e≤30000 * remA ts i:=by
 unfold wordOf
 split
 ·rename_i hk
  obtain ⟨e1,e2,e3,e4⟩:=skip_rem' g hi (by decide) hk
  rw [e1]
  refine h.at.mono fun l e ⟨h1,h2⟩=>?_
  subst h2
  unfold WordQ at h1
  omega
 ·exact .form g i
theorem at_post (g:GoodA n ts) {i:Nat} (hi:i<ts.length) (hk:(akAt ts i).kind≠0) {x:POne Prog} (h:PostO b (b+n) x (WordQ (akAt ts i))) :
  PostA b (b+n) (x.at (aSk ts i)) fun l e=>e=i+1∧e<ts.length∧0<l.length∧l.length+5+8 * remA ts e≤8 * remA ts i∧txP l+30000+30000 * remA ts e≤30000 * remA ts i:=by
 obtain ⟨e1,e2,e3,e4⟩:=skip_rem g hi hk
 rw [e1]
 refine h.at.mono fun l e ⟨h1,h2⟩=>?_
 subst h2
 unfold WordQ at h1
 omega
end
theorem aaround_len:∀ (l:List (Nat × Prog)) (c:Prog),(aAround l c).length=turnsLen l+c.length∧txP (aAround l c)=turnsTx l+txP c
 | [],c=>⟨by simp [aAround,turnsLen],by simp [aAround,turnsTx]⟩
 | t :: l,c=>by
  obtain ⟨h1,h2⟩:=aaround_len l c
  unfold aAround at h1 h2 ⊢
  rw [List.foldr_cons]
  split
  ·exact ⟨by rw [len_newP]; simp [turnsLen,h1] at h1 ⊢; omega,by rw [txP_newP]; simp [turnsTx,txP_append,h2] at h2 ⊢; omega⟩
  ·exact ⟨by rw [len_newP]; simp [turnsLen,h1] at h1 ⊢; omega,by rw [txP_newP]; simp [turnsTx,txP_append,h2] at h2 ⊢; omega⟩
structure PostAllA (f:Nat):Prop where
 list:∀ {n ts},GoodA n ts→∀ b d i,i<ts.length→PostA b (b+n) (aList f ts b d i) fun l e=>i≤e∧e<ts.length∧0<l.length∧l.length+8 * remA ts e≤8 * remA ts i+1∧txP l+30000 * remA ts e≤30000 * remA ts i
 chains:∀ {n ts},GoodA n ts→∀ b d i L,i<ts.length→(∀ x∈L,0<x.length)→PostA b (b+n) (aChains f ts b d i L) fun l e=>i≤e∧e<ts.length∧0<l.length∧l.length+8 * remA ts e≤L.flatten.length+8 * remA ts i+1∧txP l+30000 * remA ts e≤txP L.flatten+30000 * remA ts i
 chain:∀ {n ts},GoodA n ts→∀ b d i,i<ts.length→PostA b (b+n) (aChain f ts b d i) fun l e=>i<e∧e<ts.length∧0<l.length∧l.length+8 * remA ts e≤8 * remA ts i∧txP l+30000 * remA ts e≤30000 * remA ts i
 chainR:∀ {n ts},GoodA n ts→∀ b d i o,i<ts.length→0<o.length→PostA b (b+n) (aChainR f ts b d i o) fun l e=>i≤e∧e<ts.length∧0<l.length∧l.length+8 * remA ts e≤o.length+8 * remA ts i∧txP l+30000 * remA ts e≤txP o+30000 * remA ts i
 pipe:∀ {n ts},GoodA n ts→∀ b d i,i<ts.length→PostA b (b+n) (aPipe f ts b d i) fun l e=>i<e∧e<ts.length∧0<l.length∧l.length+8 * remA ts e≤8 * remA ts i∧txP l+30000 * remA ts e≤30000 * remA ts i
 pipeR:∀ {n ts},GoodA n ts→∀ b d i L,i<ts.length→(∀ x∈L,0<x.length)→PostA b (b+n) (aPipeR f ts b d i L) fun l e=>i<e∧e<ts.length∧L.length<l.length∧(∀ x∈l,0<x.length)∧l.flatten.length+l.length+8 * remA ts e≤L.flatten.length+L.length+8 * remA ts i+1∧txP l.flatten+30000 * remA ts e≤txP L.flatten+30000 * remA ts i∧l.length+i≤L.length+e
 command:∀ {n ts},GoodA n ts→∀ b d i,i<ts.length→PostA b (b+n) (aCommand f ts b d i) fun l e=>i<e∧e<ts.length∧0<l.length∧l.length+8 * remA ts e≤8 * remA ts i∧txP l+30000 * remA ts e≤30000 * remA ts i
 body:∀ {n ts},GoodA n ts→∀ b d i s t,i<ts.length→PostA b (b+n) (aBody f ts b d i s t) fun l e=>i<e∧e<ts.length∧0<l.length∧l.length+15+8 * remA ts e≤8 * remA ts i∧txP l+30000+30000 * remA ts e≤30000 * remA ts i
 choice:∀ {n ts},GoodA n ts→∀ b d i,i<ts.length→PostA b (b+n) (aChoice f ts b d i) fun l e=>i<e∧e<ts.length∧0<l.length∧l.length+8 * remA ts e≤8 * remA ts i∧txP l+30000 * remA ts e≤30000 * remA ts i
 whl:∀ {n ts},GoodA n ts→∀ b d i,i<ts.length→PostA b (b+n) (aWhile f ts b d i) fun l e=>i<e∧e<ts.length∧0<l.length∧l.length+8 * remA ts e≤8 * remA ts i∧txP l+30000 * remA ts e≤30000 * remA ts i
 each:∀ {n ts},GoodA n ts→∀ b d i,i<ts.length→(akAt ts i).kind≠0→PostA b (b+n) (aEach f ts b d i) fun l e=>i<e∧e<ts.length∧0<l.length∧l.length+8 * remA ts e≤8 * remA ts i∧txP l+30000 * remA ts e≤30000 * remA ts i
 fields:∀ {n ts},GoodA n ts→∀ b d i L,i<ts.length→(∀ x∈L,0<x.length)→PostA b (b+n) (aFields f ts b d i L) fun l e=>i≤e∧e<ts.length∧(∀ x∈l,0<x.length)∧l.flatten.length+8 * remA ts e≤L.flatten.length+8 * remA ts i∧txP l.flatten+30000 * remA ts e≤txP L.flatten+30000 * remA ts i∧l.length+i≤L.length+e
 choose:∀ {n ts},GoodA n ts→∀ b d i,i<ts.length→(akAt ts i).kind≠0→PostA b (b+n) (aChoose f ts b d i) fun l e=>i<e∧e<ts.length∧0<l.length∧l.length+8 * remA ts e≤8 * remA ts i∧txP l+30000 * remA ts e≤30000 * remA ts i
 cases:∀ {n ts},GoodA n ts→∀ b d i L,i<ts.length→(∀ x∈L,0<x.length)→PostA b (b+n) (aCases f ts b d i L) fun l e=>i<e∧e<ts.length∧(∀ x∈l,0<x.length)∧l.flatten.length+8 * remA ts e≤L.flatten.length+8 * remA ts i∧txP l.flatten+30000 * remA ts e≤txP L.flatten+30000 * remA ts i∧l.length+i≤L.length+e
 function:∀ {n ts},GoodA n ts→∀ b d i s,i<ts.length→bareA (akAt ts i)=some s→(akAt ts (aSk ts i)).kind=7→PostA b (b+n) (aFunction f ts b d i s) fun l e=>i<e∧e<ts.length∧0<l.length∧l.length+8 * remA ts e≤8 * remA ts i∧txP l+30000 * remA ts e≤30000 * remA ts i
 turns:∀ {n ts},GoodA n ts→∀ b d i c L,i<ts.length→0<c.length→PostA b (b+n) (aTurns f ts b d i c L) fun l e=>i≤e∧e<ts.length∧0<l.length∧l.length+8 * remA ts e≤c.length+turnsLen L+8 * remA ts i∧txP l+30000 * remA ts e≤txP c+turnsTx L+30000 * remA ts i
 simple:∀ {n ts},GoodA n ts→∀ b d i ss ws L,i<ts.length→PostA b (b+n) (aSimple f ts b d i ss ws L) fun l e=>i≤e∧(ss.length+ws.length+L.length=0→i<e)∧e<ts.length∧0<l.length∧l.length+8 * remA ts e≤setsLen ss+ws.flatten.length+turnsLen L+ss.length+ws.length+L.length+8 * remA ts i∧txP l+30000 * remA ts e≤setsTx ss+txP ws.flatten+turnsTx L+30000 * remA ts i
 sub:∀ (b n d:Nat) (x:APart),x.place+3+x.text.length≤n→x.text.length≤8192→x.kind=4→PostO b (b+n) (aSub f b d x) fun l=>0<l.length∧l.length+12≤8 * wtP x∧txP l≤30000 * wtP x
theorem PostAllA.subQ {f:Nat} (h:PostAllA f) {n:Nat} {ts:List ATok} (g:GoodA n ts) (b d i:Nat):SubQ b (b+n) (fun x=>aSub f b d x) (akAt ts i).parts:=fun x hx hk=>by
 obtain ⟨_,h2,h3⟩:=g.part i x hx
 exact h.sub b n d x (h3 hk) h2 hk
theorem snoc_pos {L:List Prog} {c:Prog} (hL:∀ x∈L,0<x.length) (hc:0<c.length):∀ x∈L++[c],0<x.length:=fun x hx=>by
 rcases List.mem_append.1 hx with hx | hx
 ·exact hL x hx
 ·rw [List.mem_singleton] at hx
  subst hx
  exact hc
theorem seqP_pos {L:List Prog} (hL:∀ x∈L,0<x.length):0<(seqP L).length:=by
 unfold seqP
 split
 ·simp [newP]
 ·exact hL _ (by simp)
 ·simp [newP]
theorem newP_pos' (kind n:Int) (s:List UInt8) (L:List Prog):0<(newP kind n s L).length:=by rw [newP]; simp
theorem made_pos (ss:List (List UInt8 × Prog)) (ws:List Prog):0<(madeP ss ws).length:=by
 unfold madeP
 split
 ·refine seqP_pos fun x hx=>?_
  obtain ⟨y,_,rfl⟩:=List.mem_map.1 hx
  exact newP_pos' _ _ _ _
 ·cases ss with
  | nil=>exact newP_pos' _ _ _ _
  | cons s ss=>exact newP_pos' _ _ _ _
theorem postAllA:∀ f,PostAllA f
 | 0=>by
  constructor <;> intros <;> simp only [aList,aChains,aChain,aChainR,aPipe,aPipeR,aCommand,aBody,aChoice,aWhile,aEach,aFields,aChoose,aCases,aFunction,aTurns,aSimple,aSub] <;> first | exact PostA.none | exact PostO.none
 | f+1=>by
  have ih:=postAllA f
  refine ⟨?_,?_,?_,?_,?_,?_,?_,?_,?_,?_,?_,?_,?_,?_,?_,?_,?_,?_⟩
  ·intro n ts g b d i hi
   rw [aList]
   split
   ·have:=g.place i
    exact .err (by omega) (by omega)
   ·exact (ih.chains g _ _ _ [] hi (fun x hx=>by cases hx)).mono fun l e h=>by simpa [txP_nil] using h
  ·intro n ts g b d i L hi hL
   rw [aChains]
   have hp:=pass_rem (ts:=ts) [1,2] hi
   split
   ·have:=len_seqP L
    have:=seqP_pos hL
    exact .ok (by omega)
   ·refine (ih.chain g _ _ _ hp.2.1).go fun c e ⟨h1,h2,h0,h3,h4⟩=>(ih.chains g _ _ _ _ h2 (snoc_pos hL h0)).mono fun l k ⟨q1,q2,q0,q3,q4⟩=>?_
    rw [flat_snoc] at q3 q4
    rw [txP_append] at q4
    rw [List.length_append] at q3
    omega
  ·intro n ts g b d i hi
   rw [aChain]
   refine (ih.pipe g _ _ _ hi).go fun c e ⟨h1,h2,h0,h3,h4⟩=>(ih.chainR g _ _ _ _ h2 h0).mono fun l k ⟨q1,q2,q0,q3,q4⟩=>?_
   omega
  ·intro n ts g b d i o hi ho
   rw [aChainR]
   split
   ·rename_i hk
    obtain ⟨e1,e2,e3,e4⟩:=skip_rem' g hi (by decide) hk
    rw [e1]
    have hp:=pass_rem (ts:=ts) [1] e2
    refine (ih.pipe g _ _ _ hp.2.1).go fun c e ⟨h1,h2,h0,h3,h4⟩=>(ih.chainR g _ _ _ _ h2 (newP_pos' _ _ _ _)).mono fun l k ⟨q1,q2,q0,q3,q4⟩=>?_
    obtain ⟨z1,z2⟩:=len_two (if aIs ts i [5]=true then 26 else 25) 0 [] o c
    rw [z1] at q3
    rw [z2,List.length_nil] at q4
    omega
   ·exact .ok (by omega)
  ·intro n ts g b d i hi
   rw [aPipe]
   obtain ⟨j,hj⟩:∃ j,(if aKey ts i [[33]]=true then aSk ts i else i)=j:=⟨_,rfl⟩
   have hjj:i≤j∧j<ts.length∧remA ts j≤remA ts i∧(aKey ts i [[33]]=true→remA ts j+1≤remA ts i):=by
    rw [← hj]
    split
    ·rename_i hk
     obtain ⟨e1,e2,e3,e4⟩:=key_rem g hi hk
     rw [e1]
     omega
    ·exact ⟨Nat.le_refl _,hi,Nat.le_refl _,fun h=>absurd h ‹_›⟩
   rw [hj]
   clear hj
   obtain ⟨j1,j2,j3,j4⟩:=hjj
   refine (ih.pipeR g _ _ _ _ j2 (fun x hx=>by cases hx)).go fun l e ⟨h1,h2,h3,h0,h4,h5,h6⟩=>?_
   simp only [List.length_nil,List.flatten_nil,txP_nil] at h3 h4 h5 h6
   have hb:0<(if 1<l.length then newP 32 0 [] l else l.headD []).length∧(if 1<l.length then newP 32 0 [] l else l.headD []).length+8 * remA ts e≤8 * remA ts j∧txP (if 1<l.length then newP 32 0 [] l else l.headD [])+30000 * remA ts e≤30000 * remA ts j:=by
    split
    ·rw [len_newP,txP_newP]
     simp only [List.length_nil]
     omega
    ·have:=headD_le l
     cases l with
     | nil=>simp at h3
     | cons a l =>
      have:=h0 a (by simp)
      simp only [List.headD_cons] at *
      omega
   refine .ok ?_
   by_cases hk:aKey ts i [[33]]=true
   ·have:=j4 hk
    rw [if_pos hk]
    obtain ⟨z1,z2⟩:=len_one 27 0 [] (if 1<l.length then newP 32 0 [] l else l.headD [])
    rw [List.length_nil] at z2
    omega
   ·rw [if_neg hk]
    omega
  ·intro n ts g b d i L hi hL
   rw [aPipeR]
   refine (ih.command g _ _ _ hi).go fun c e ⟨h1,h2,h0,h3,h4⟩=>?_
   have hf:(L++[c]).flatten.length=L.flatten.length+c.length∧txP (L++[c]).flatten=txP L.flatten+txP c∧(L++[c]).length=L.length+1:=by
    rw [flat_snoc,txP_append]
    simp
   have hr:=rem_le (ts:=ts) (Nat.le_of_lt h1) (Nat.le_of_lt h2)
   split
   ·rename_i hk
    obtain ⟨e1,e2,e3,e4⟩:=skip_rem' g h2 (by decide) hk
    rw [e1]
    have hp:=pass_rem (ts:=ts) [1] e2
    refine (ih.pipeR g _ _ _ _ hp.2.1 (snoc_pos hL h0)).mono fun l k ⟨q1,q2,q3,q0,q4,q5,q6⟩=>⟨by omega,by omega,by omega,q0,by omega,by omega,by omega⟩
   ·exact .ok ⟨by omega,by omega,by omega,snoc_pos hL h0,by omega,by omega,by omega⟩
  ·intro n ts g b d i hi
   rw [aCommand]
   have hturn:∀ {x:PRes Prog},PostA b (b+n) x (fun l e=>i<e∧e<ts.length∧0<l.length∧l.length+8 * remA ts e≤8 * remA ts i∧txP l+30000 * remA ts e≤30000 * remA ts i)→PostA b (b+n) (x.go fun l j=>aTurns f ts b d j l []) fun l e=>i<e∧e<ts.length∧0<l.length∧l.length+8 * remA ts e≤8 * remA ts i∧txP l+30000 * remA ts e≤30000 * remA ts i:=fun hx=>hx.go fun c e ⟨h1,h2,h0,h3,h4⟩=>(ih.turns g _ _ _ _ _ h2 h0).mono fun l k ⟨q1,q2,q0,q3,q4⟩=>by
    simp only [turnsLen,turnsTx,List.map_nil,List.sum_nil] at q3 q4
    omega
   have hsim:PostA b (b+n) (aSimple f ts b d i [] [] []) fun l e=>i<e∧e<ts.length∧0<l.length∧l.length+8 * remA ts e≤8 * remA ts i∧txP l+30000 * remA ts e≤30000 * remA ts i:=(ih.simple g _ _ _ _ _ _ hi).mono fun l e ⟨h1,h2,h3,h0,h4,h5⟩=>by
    simp only [setsLen,setsTx,turnsLen,turnsTx,List.map_nil,List.sum_nil,List.flatten_nil,List.length_nil,txP_nil] at h2 h4 h5
    have:=h2 trivial
    omega
   split
   ·exact hsim
   ·rename_i s hs
    have hk:=bare_kind hs
    have hk0:(akAt ts i).kind≠0:=by rw [hk]; decide
    obtain ⟨e1,e2,e3,_⟩:=skip_rem g hi hk0
    have e4:=word_wt hs
    split
    ·split
     ·rename_i hc
      exact ih.function g _ _ _ _ hi hs hc.2
     ·exact hsim
    split
    ·rw [e1]
     refine (ih.list g _ _ _ e2).go fun c e ⟨h1,h2,h0,h3,h4⟩=>.want g h2 fun w1 w2=>(ih.turns g _ _ _ _ _ w1 h0).mono fun l k ⟨q1,q2,q0,q3,q4⟩=>?_
     simp only [turnsLen,turnsTx,List.map_nil,List.sum_nil] at q3 q4
     omega
    split
    ·exact hturn (ih.choice g _ _ _ hi)
    split
    ·exact hturn (ih.whl g _ _ _ hi)
    split
    ·exact hturn (ih.each g _ _ _ hi hk0)
    split
    ·exact hturn (ih.choose g _ _ _ hi hk0)
    ·exact .form g i
  ·intro n ts g b d i s t hi
   rw [aBody]
   refine .want g hi fun w1 w2=>(ih.list g _ _ _ w1).go fun l e ⟨h1,h2,h0,h3,h4⟩=>?_
   split
   ·exact .ok (by omega)
   ·exact .want g h2 fun w3 w4=>.ok (by omega)
  ·intro n ts g b d i hi
   rw [aChoice]
   refine (ih.body g _ _ _ _ _ hi).go fun c j ⟨a1,a2,a0,a3,a4⟩=>(ih.body g _ _ _ _ _ a2).go fun y k ⟨b1,b2,b0,b3,b4⟩=>?_
   refine PostA.go (Q:=fun l e=>k≤e∧e<ts.length∧l.length+8 * remA ts e≤8 * remA ts k+1∧txP l+30000 * remA ts e≤30000 * remA ts k) ?_ fun z m ⟨c1,c2,c3,c4⟩=>.want g c2 fun w1 w2=>.ok ?_
   ·split
    ·exact (ih.body g _ _ _ _ _ b2).mono fun l e h=>by omega
    ·exact .ok (by simp [seqP,newP,txP]; omega)
   ·rw [len_newP,txP_newP]
    simp only [List.flatten_cons,List.flatten_nil,List.append_nil,List.length_append,txP_append,List.length_nil]
    omega
  ·intro n ts g b d i hi
   rw [aWhile]
   refine (ih.body g _ _ _ _ _ hi).go fun c j ⟨a1,a2,a0,a3,a4⟩=>(ih.body g _ _ _ _ _ a2).go fun y k ⟨b1,b2,b0,b3,b4⟩=>.ok ?_
   obtain ⟨z1,z2⟩:=len_two 28 0 [] c y
   rw [List.length_nil] at z2
   omega
  ·intro n ts g b d i hi h0
   rw [aEach]
   obtain ⟨e1,e2,e3,e4⟩:=skip_rem g hi h0
   rw [e1]
   split
   ·exact .form g _
   ·rename_i s hs
    split
    ·rename_i hn
     obtain ⟨f1,f2,f3,_⟩:=skip_rem g e2 (by rw [bare_kind hs]; decide)
     have f4:=word_wt hs
     rw [f1]
     refine .want g f2 fun w1 w2=>(ih.fields g _ _ _ _ w1 (fun x hx=>by cases hx)).go fun ws j ⟨a1,a2,a0,a3,a4,a5⟩=>?_
     have hp:=pass_rem (ts:=ts) [1,2] a2
     refine (ih.body g _ _ _ _ _ hp.2.1).go fun y k ⟨b1,b2,b0,b3,b4⟩=>.ok ?_
     obtain ⟨z1,z2⟩:=len_two 29 0 s (catP ws) y
     have:=len_catP ws
     have hl:s.length≤8192:=by
      obtain ⟨p,hp1,_,hp2⟩:=bare_part hs
      have:=(g.part _ p (by rw [hp1]; simp)).2.1
      rw [hp2] at this
      exact this
     simp only [List.length_nil,List.flatten_nil,txP_nil] at a3 a4 a5
     omega
    ·exact .form g _
  ·intro n ts g b d i L hi hL
   rw [aFields]
   split
   ·rename_i hk
    have hk0:(akAt ts i).kind≠0:=by
     rw [aIs_iff] at hk
     simp only [List.mem_singleton] at hk
     omega
    refine (at_post g hi hk0 (field_post (g.parts i) (ih.subQ g b d i))).go fun w j ⟨a1,a2,a0,a3,a4⟩=>(ih.fields g _ _ _ _ a2 (snoc_pos hL a0)).mono fun l k ⟨q1,q2,q0,q3,q4,q5⟩=>?_
    rw [flat_snoc] at q3 q4
    rw [txP_append] at q4
    simp only [List.length_append,List.length_cons,List.length_nil] at q3 q5
    exact ⟨by omega,by omega,q0,by omega,by omega,by omega⟩
   ·exact .ok ⟨Nat.le_refl _,hi,hL,by omega,by omega,by omega⟩
  ·intro n ts g b d i hi h0
   rw [aChoose]
   obtain ⟨e1,e2,e3,e4⟩:=skip_rem g hi h0
   rw [e1]
   refine (word_post g e2 (value_post (g.parts _) (ih.subQ g b d _))).go fun w j ⟨a1,a2,a0,a3,a4⟩=>?_
   have hp:=pass_rem (ts:=ts) [1] a2
   refine .want g hp.2.1 fun w1 w2=>?_
   have hp2:=pass_rem (ts:=ts) [1] w1
   refine (ih.cases g _ _ _ _ hp2.2.1 (snoc_pos (L:=[]) (fun x hx=>by cases hx) a0)).go fun l k ⟨b1,b2,b0,b3,b4,b5⟩=>.ok ?_
   simp only [List.nil_append,List.flatten_cons,List.flatten_nil,List.append_nil] at b3 b4
   rw [len_newP,txP_newP,List.length_nil]
   omega
  ·intro n ts g b d i L hi hL
   rw [aCases]
   split
   ·rename_i hk
    obtain ⟨e1,e2,e3,e4⟩:=key_rem g hi hk
    rw [e1]
    exact .ok ⟨by omega,by omega,hL,by omega,by omega,by omega⟩
   ·obtain ⟨j,hj⟩:∃ j,(if aIs ts i [7]=true then aSk ts i else i)=j:=⟨_,rfl⟩
    have hjj:i≤j∧j<ts.length∧remA ts j≤remA ts i:=by
     rw [← hj]
     split
     ·rename_i hk
      obtain ⟨e1,e2,e3,e4⟩:=skip_rem' g hi (by decide) hk
      rw [e1]
      omega
     ·omega
    rw [hj]
    refine (word_post g hjj.2.1 (lives_post (g.parts _) (ih.subQ g b d _))).go fun w k ⟨a1,a2,a0,a3,a4⟩=>?_
    split
    ·rename_i hk
     obtain ⟨e1,e2,e3,e4⟩:=skip_rem' g a2 (by decide) hk
     rw [e1]
     refine (ih.list g _ _ _ e2).go fun c e ⟨h1,h2,h0,h3,h4⟩=>?_
     obtain ⟨m,hm⟩:∃ m,(if aIs ts e [3]=true then aSk ts e else e)=m:=⟨_,rfl⟩
     have hmm:e≤m∧m<ts.length∧remA ts m≤remA ts e:=by
      rw [← hm]
      split
      ·rename_i hk
       obtain ⟨e1,e2,e3,e4⟩:=skip_rem' g h2 (by decide) hk
       rw [e1]
       omega
      ·omega
     rw [hm]
     have hp:=pass_rem (ts:=ts) [1] hmm.2.1
     refine (ih.cases g _ _ _ _ hp.2.1 (by
      have:=snoc_pos (snoc_pos hL a0) h0
      simpa using this)).mono fun l z ⟨q1,q2,q0,q3,q4,q5⟩=>?_
     simp only [List.flatten_append,List.flatten_cons,List.flatten_nil,List.append_nil,List.length_append,txP_append,List.length_cons,List.length_nil] at q3 q4 q5
     exact ⟨by omega,by omega,q0,by omega,by omega,by omega⟩
    ·exact .form g _
  ·intro n ts g b d i s hi hs h7
   rw [aFunction]
   obtain ⟨e1,e2,e3,_⟩:=skip_rem g hi (by rw [bare_kind hs]; decide)
   have e4:=word_wt hs
   rw [e1] at h7 ⊢
   obtain ⟨f1,f2,f3,f4⟩:=skip_rem g e2 (by rw [h7]; decide)
   rw [f1]
   split
   ·rename_i hk
    obtain ⟨k1,k2,k3,k4⟩:=skip_rem' g f2 (by decide) hk
    rw [k1]
    have hp:=pass_rem (ts:=ts) [1] k2
    refine (ih.body g _ _ _ _ _ hp.2.1).go fun l e ⟨h1,h2,h0,h3,h4⟩=>.ok ?_
    obtain ⟨z1,z2⟩:=len_one 31 0 s l
    have hl:s.length≤8192:=by
     obtain ⟨p,hp1,_,hp2⟩:=bare_part hs
     have:=(g.part _ p (by rw [hp1]; simp)).2.1
     rw [hp2] at this
     exact this
    omega
   ·exact .form g _
  ·intro n ts g b d i c L hi hc
   rw [aTurns]
   split
   ·rename_i hk
    obtain ⟨e1,e2,e3,e4⟩:=skip_rem' g hi (by decide) hk
    rw [e1]
    refine (word_post g e2 (value_post (g.parts _) (ih.subQ g b d _))).go fun w j ⟨a1,a2,a0,a3,a4⟩=>(ih.turns g _ _ _ _ _ a2 hc).mono fun l k ⟨q1,q2,q0,q3,q4⟩=>?_
    rw [turnsLen_snoc] at q3
    rw [turnsTx_snoc] at q4
    dsimp only at q3 q4
    omega
   ·have:=aaround_len L c
    exact .ok (by omega)
  ·intro n ts g b d i ss ws L hi
   rw [aSimple]
   split
   ·rename_i hk
    obtain ⟨e1,e2,e3,e4⟩:=skip_rem' g hi (by decide) hk
    rw [e1]
    refine (word_post g e2 (value_post (g.parts _) (ih.subQ g b d _))).go fun w j ⟨a1,a2,a0,a3,a4⟩=>(ih.simple g _ _ _ _ _ _ a2).mono fun l k ⟨q1,q2,q3,q0,q4,q5⟩=>?_
    rw [turnsLen_snoc] at q4
    rw [turnsTx_snoc] at q5
    simp only [List.length_append,List.length_cons,List.length_nil] at q4
    dsimp only at q4 q5
    exact ⟨by omega,fun _=>by omega,q3,q0,by omega,by omega⟩
   split
   ·rename_i hk
    have hk0:(akAt ts i).kind≠0:=by
     rw [aIs_iff] at hk
     simp only [List.mem_singleton] at hk
     omega
    split
    ·rename_i s t hst
     have hs:settingA (akAt ts i)=some (s,t):=by
      split at hst
      ·exact hst
      ·cases hst
     obtain ⟨s1,s2,s3,p,ps,r,s4,s5,s6,s7⟩:=setting_in hs
     have hl:s.length≤8192:=by
      have:=(g.part i p (by rw [s4]; simp)).2.1
      rw [s7] at this
      simp only [List.length_append] at this
      omega
     refine (at_post g hi hk0 ((value_post (setting_parts hs (g.parts i)) (setting_sub hs (ih.subQ g b d i))).mono fun l h=>by unfold WordQ at h ⊢; rw [s3] at h; exact h)).go fun w j ⟨a1,a2,a0,a3,a4⟩=>(ih.simple g _ _ _ _ _ _ a2).mono fun l k ⟨q1,q2,q3,q0,q4,q5⟩=>?_
     rw [setsLen_snoc] at q4
     rw [setsTx_snoc] at q5
     simp only [List.length_append,List.length_cons,List.length_nil] at q4
     dsimp only at q4 q5
     exact ⟨by omega,fun _=>by omega,q3,q0,by omega,by omega⟩
    ·refine (at_post g hi hk0 (field_post (g.parts i) (ih.subQ g b d i))).go fun w j ⟨a1,a2,a0,a3,a4⟩=>(ih.simple g _ _ _ _ _ _ a2).mono fun l k ⟨q1,q2,q3,q0,q4,q5⟩=>?_
     rw [flat_snoc] at q4 q5
     rw [txP_append] at q5
     simp only [List.length_append,List.length_cons,List.length_nil] at q4
     exact ⟨by omega,fun _=>by omega,q3,q0,by omega,by omega⟩
   split
   ·exact .form g _
   ·rename_i hn
    have h1:=aaround_len L (madeP ss ws)
    have h2:=made_len ss ws
    have h3:=made_pos ss ws
    exact .ok ⟨Nat.le_refl _,fun h=>absurd h hn,hi,by omega,by omega,by omega⟩
  ·intro b n d x hx hl hk
   rw [aSub]
   split
   ·exact .err (by omega) (by omega)
   ·split
    ·rename_i c p hq
     obtain ⟨h1,h2⟩:=lexA_err _ _ _ _ _ hq
     exact .err (by omega) (by omega)
    ·rename_i ts hq
     have g:=lexA_good x.text hl ts hq
     have hpos:=g.pos
     have hL:=ih.list g (b+x.place+2) d 0 hpos
     have hw:wtP x=3 * x.text.length+3:=by unfold wtP; rw [if_pos hk]
     have hwt:=g.wt
     rw [← remA_zero] at hwt
     split
     ·exact .none
     ·rename_i e he
      obtain ⟨c,p⟩:=e
      obtain ⟨h1,h2,h3⟩:=hL.2 c p he
      exact .err h1 (by omega)
     ·rename_i l i he
      obtain ⟨h1,h2,h0,h3,h4⟩:=hL.1 l i he
      split
      ·have:=g.place i
       exact .err (by omega) (by omega)
      ·have:=len_one 12 0 [] l
       simp only [List.length_nil] at this
       exact .ok (by omega)
end Go.Proofs.YtbfeoinoepoiaaaGreatDoor
namespace Go.Proofs.YtbfeoinoepoiaaaGreatDoor
set_option maxHeartbeats 8000000
open Go Go.RowKit
section
variable {lo hi n b:Nat} {ts:List ATok} {α β:Type}
theorem nnA_go {x:PRes α} {k:α→Nat→PRes β} {Q:α→Nat→Prop} (hx:x≠none) (hp:PostA lo hi x Q) (hk:∀ a e,Q a e→k a e≠none):x.go k≠none:=by
 match x,hx,hp with
 | .none,hx,_=>exact absurd rfl hx
 | some (.error e),_,_=>exact fun h=>by cases h
 | some (.ok (a,e)),_,hp=>exact hk a e (hp.1 a e rfl)
theorem nnO_go {x:POne α} {k:α→POne β} (hx:x≠none) (hk:∀ a,k a≠none):x.go k≠none:=by
 match x,hx with
 | .none,hx=>exact absurd rfl hx
 | some (.error e),_=>exact fun h=>by cases h
 | some (.ok a),_=>exact hk a
theorem nnO_at {x:POne α} {i:Nat} (hx:x≠none):x.at i≠none:=by
 match x,hx with
 | .none,hx=>exact absurd rfl hx
 | some (.error e),_=>exact fun h=>by cases h
 | some (.ok a),_=>exact fun h=>by cases h
theorem nnO_ok {a:α}:oOk a≠none:=fun h=>by cases h
theorem nnO_err {c p:Nat}:(oErr c p:POne α)≠none:=fun h=>by cases h
theorem nnA_ok {a:α} {i:Nat}:pOk a i≠none:=fun h=>by cases h
theorem nnA_err {c p:Nat}:(pErr c p:PRes α)≠none:=fun h=>by cases h
theorem nnA_form {i:Nat}:(formA ts b i:PRes α)≠none:=fun h=>by cases h
theorem nnA_want (g:GoodA n ts) {i:Nat} {s:List UInt8} {k:Nat→PRes β} (hi:i<ts.length) (hk:i+1<ts.length→remA ts (i+1)+2≤remA ts i→k (i+1)≠none):wantA ts b i s k≠none:=by
 unfold wantA
 split
 ·rename_i h
  obtain ⟨e1,e2,e3,e4⟩:=key_rem g hi h
  rw [e1]
  exact hk e2 (by omega)
 ·exact nnA_form
end
def SubN (sub:APart→POne Prog) (P:List APart):Prop:=∀ x∈P,x.kind=4→sub x≠none
theorem items_nn {sub:APart→POne Prog} {P:List APart} (hs:SubN sub P) {x:APart} (hx:x∈P) (hv:PartW x) (h1:x.kind≠1) (h2:x.kind≠2):itemsA sub x≠none:=by
 unfold itemsA
 split
 ·exact nnO_ok
 split
 ·exact nnO_ok
 split
 ·exact nnO_ok
 ·rename_i h3 h5 h6
  exact hs x hx (partV_kind hv h1 h2 h3 h5 h6)
theorem piece_nn {sub:APart→POne Prog} {P:List APart} (hs:SubN sub P) {x:APart} (hx:x∈P) (hv:PartW x):pieceA sub x≠none:=by
 unfold pieceA
 split
 ·exact nnO_ok
 ·rename_i h12
  exact nnO_go (items_nn hs hx hv (fun e=>h12 (.inl e)) (fun e=>h12 (.inr e))) fun _=>nnO_ok
theorem alive_nn {sub bare:APart→POne Prog} {P:List APart} (hs:SubN sub P) {x:APart} (hx:x∈P) (hv:PartW x) (hb:x.kind≠1→x.kind≠2→bare x≠none):aliveA sub bare x≠none:=by
 unfold aliveA
 split
 ·exact nnO_ok
 split
 ·exact nnO_ok
 split
 ·exact hb (by assumption) (by assumption)
 ·exact nnO_go (piece_nn hs hx hv) fun _=>nnO_ok
theorem parts_nn {tq:APart→POne Prog}:∀ (P:List APart),(∀ x∈P,tq x≠none)→partsA tq P≠none
 | [],_=>nnO_ok
 | x :: P,h=>by
  rw [partsA]
  exact nnO_go (h x (by simp)) fun _=>nnO_go (parts_nn P fun y hy=>h y (by simp [hy])) fun _=>nnO_ok
theorem fits_nn {b:Nat} {t:ATok} {l:Prog}:fitsA b t l≠none:=by
 unfold fitsA
 split
 ·exact nnO_err
 ·exact nnO_ok
theorem joined_nn {tq:APart→POne Prog} {b:Nat} {t:ATok} (h:∀ x∈t.parts,tq x≠none):joinedA tq b t≠none:=by
 unfold joinedA
 exact nnO_go (parts_nn _ h) fun _=>fits_nn
theorem value_nn {sub:APart→POne Prog} {b n:Nat} {t:ATok} (hP:PartsA n t) (hs:SubN sub t.parts):valueA sub b t≠none:=joined_nn fun x hx=>piece_nn hs hx (hP.valid x hx)
theorem lives_nn {sub:APart→POne Prog} {b n:Nat} {t:ATok} (hP:PartsA n t) (hs:SubN sub t.parts):livesA sub b t≠none:=by
 unfold livesA
 split
 ·exact nnO_ok
 ·exact joined_nn fun x hx=>alive_nn hs hx (hP.valid x hx) fun _ _=>piece_nn hs hx (hP.valid x hx)
theorem field_nn {sub:APart→POne Prog} {b n:Nat} {t:ATok} (hP:PartsA n t) (hs:SubN sub t.parts):fieldA sub b t≠none:=by
 unfold fieldA
 split
 ·exact fits_nn
 split
 ·exact value_nn hP hs
 ·exact nnO_go (joined_nn fun x hx=>alive_nn hs hx (hP.valid x hx) fun h1 h2=>items_nn hs hx (hP.valid x hx) h1 h2) fun _=>nnO_ok
theorem word_nn {aq:Nat→ATok→POne Prog} {ts:List ATok} {b i:Nat} (h:aq b (akAt ts i)≠none):wordOf aq ts b i≠none:=by
 unfold wordOf
 split
 ·exact nnO_at h
 ·exact nnA_form
theorem wt_part:∀ {P:List APart} {x:APart},x∈P→wtP x≤wtPs P
 | y :: P,x,h=>by
  rw [wtPs_cons]
  rcases List.mem_cons.1 h with rfl | h
  ·omega
  ·have:=wt_part h
   omega
theorem setting_n {t t':ATok} {s:List UInt8} (h:settingA t=some (s,t')) {sub:APart→POne Prog} (hs:SubN sub t.parts):SubN sub t'.parts:=by
 obtain ⟨_,h1,_,p,ps,r,h2,h3,h4,h5⟩:=setting_in h
 intro x hx hk
 rw [h4] at hx
 rcases List.mem_cons.1 hx with rfl | hx
 ·exact absurd (hk.symm.trans h3) (by decide)
 ·exact hs x (by rw [h2]; simp [hx]) hk
structure NNAllA (f:Nat):Prop where
 list:∀ {n ts},GoodA n ts→∀ b d i,i<ts.length→12 * remA ts i+11≤f→aList f ts b d i≠none
 chains:∀ {n ts},GoodA n ts→∀ b d i L,i<ts.length→(∀ x∈L,0<x.length)→12 * remA ts i+10≤f→aChains f ts b d i L≠none
 chain:∀ {n ts},GoodA n ts→∀ b d i,i<ts.length→12 * remA ts i+9≤f→aChain f ts b d i≠none
 chainR:∀ {n ts},GoodA n ts→∀ b d i o,i<ts.length→0<o.length→12 * remA ts i+1≤f→aChainR f ts b d i o≠none
 pipe:∀ {n ts},GoodA n ts→∀ b d i,i<ts.length→12 * remA ts i+8≤f→aPipe f ts b d i≠none
 pipeR:∀ {n ts},GoodA n ts→∀ b d i L,i<ts.length→(∀ x∈L,0<x.length)→12 * remA ts i+7≤f→aPipeR f ts b d i L≠none
 command:∀ {n ts},GoodA n ts→∀ b d i,i<ts.length→12 * remA ts i+6≤f→aCommand f ts b d i≠none
 body:∀ {n ts},GoodA n ts→∀ b d i s t,i<ts.length→12 * remA ts i+1≤f→aBody f ts b d i s t≠none
 choice:∀ {n ts},GoodA n ts→∀ b d i,i<ts.length→12 * remA ts i+2≤f→aChoice f ts b d i≠none
 whl:∀ {n ts},GoodA n ts→∀ b d i,i<ts.length→12 * remA ts i+2≤f→aWhile f ts b d i≠none
 each:∀ {n ts},GoodA n ts→∀ b d i,i<ts.length→(akAt ts i).kind≠0→12 * remA ts i+2≤f→aEach f ts b d i≠none
 fields:∀ {n ts},GoodA n ts→∀ b d i L,i<ts.length→(∀ x∈L,0<x.length)→12 * remA ts i+1≤f→aFields f ts b d i L≠none
 choose:∀ {n ts},GoodA n ts→∀ b d i,i<ts.length→(akAt ts i).kind≠0→12 * remA ts i+2≤f→aChoose f ts b d i≠none
 cases:∀ {n ts},GoodA n ts→∀ b d i L,i<ts.length→(∀ x∈L,0<x.length)→12 * remA ts i+2≤f→aCases f ts b d i L≠none
 function:∀ {n ts},GoodA n ts→∀ b d i s,i<ts.length→bareA (akAt ts i)=some s→(akAt ts (aSk ts i)).kind=7→12 * remA ts i+2≤f→aFunction f ts b d i s≠none
 turns:∀ {n ts},GoodA n ts→∀ b d i c L,i<ts.length→0<c.length→12 * remA ts i+1≤f→aTurns f ts b d i c L≠none
 simple:∀ {n ts},GoodA n ts→∀ b d i ss ws L,i<ts.length→12 * remA ts i+1≤f→aSimple f ts b d i ss ws L≠none
 sub:∀ (b d:Nat) (x:APart),x.text.length≤8192→36 * x.text.length+24≤f→aSub f b d x≠none
theorem NNAllA.subN {f:Nat} (h:NNAllA f) {n:Nat} {ts:List ATok} (g:GoodA n ts) (b d i:Nat) (hf:12 * wtT (akAt ts i)≤f):SubN (fun x=>aSub f b d x) (akAt ts i).parts:=fun x hx hk=>by
 obtain ⟨_,h2,h3⟩:=g.part i x hx
 have h4:=wt_part hx
 have h5:wtP x=3 * x.text.length+3:=by unfold wtP; rw [if_pos hk]
 unfold wtT at hf
 exact h.sub b d x h2 (by omega)
theorem nnAllA:∀ f,NNAllA f
 | 0=>by
  constructor <;> intros <;> omega
 | f+1=>by
  have ih:=nnAllA f
  have hP:=postAllA f
  refine ⟨?_,?_,?_,?_,?_,?_,?_,?_,?_,?_,?_,?_,?_,?_,?_,?_,?_,?_⟩
  ·intro n ts g b d i hi hf
   rw [aList]
   split
   ·exact nnA_err
   ·exact ih.chains g _ _ _ [] hi (fun x hx=>by cases hx) (by omega)
  ·intro n ts g b d i L hi hL hf
   rw [aChains]
   have hp:=pass_rem (ts:=ts) [1,2] hi
   split
   ·exact nnA_ok
   ·exact nnA_go (ih.chain g _ _ _ hp.2.1 (by omega)) (hP.chain g b d _ hp.2.1) fun c e ⟨h1,h2,h0,_⟩=>by
     have hr:=rem_le (ts:=ts) (Nat.le_of_lt h1) (Nat.le_of_lt h2)
     exact ih.chains g _ _ _ _ h2 (snoc_pos hL h0) (by omega)
  ·intro n ts g b d i hi hf
   rw [aChain]
   exact nnA_go (ih.pipe g _ _ _ hi (by omega)) (hP.pipe g b d _ hi) fun c e ⟨h1,h2,h0,_⟩=>by
    have hr:=rem_le (ts:=ts) (Nat.le_of_lt h1) (Nat.le_of_lt h2)
    exact ih.chainR g _ _ _ _ h2 h0 (by omega)
  ·intro n ts g b d i o hi ho hf
   rw [aChainR]
   split
   ·rename_i hk
    obtain ⟨e1,e2,e3,e4⟩:=skip_rem' g hi (by decide) hk
    rw [e1]
    have hp:=pass_rem (ts:=ts) [1] e2
    exact nnA_go (ih.pipe g _ _ _ hp.2.1 (by omega)) (hP.pipe g b d _ hp.2.1) fun c e ⟨h1,h2,h0,_⟩=>by
     have hr:=rem_le (ts:=ts) (Nat.le_of_lt h1) (Nat.le_of_lt h2)
     exact ih.chainR g _ _ _ _ h2 (newP_pos' _ _ _ _) (by omega)
   ·exact nnA_ok
  ·intro n ts g b d i hi hf
   rw [aPipe]
   have hjj:(if aKey ts i [[33]]=true then aSk ts i else i)<ts.length∧remA ts (if aKey ts i [[33]]=true then aSk ts i else i)≤remA ts i:=by
    split
    ·rename_i hk
     obtain ⟨e1,e2,e3,e4⟩:=key_rem g hi hk
     rw [e1]
     omega
    ·exact ⟨hi,Nat.le_refl _⟩
   exact nnA_go (ih.pipeR g _ _ _ _ hjj.1 (fun x hx=>by cases hx) (by omega)) (hP.pipeR g b d _ _ hjj.1 (fun x hx=>by cases hx)) fun _ _ _=>nnA_ok
  ·intro n ts g b d i L hi hL hf
   rw [aPipeR]
   refine nnA_go (ih.command g _ _ _ hi (by omega)) (hP.command g b d _ hi) fun c e ⟨h1,h2,h0,_⟩=>?_
   have hr:=rem_le (ts:=ts) (Nat.le_of_lt h1) (Nat.le_of_lt h2)
   split
   ·rename_i hk
    obtain ⟨e1,e2,e3,e4⟩:=skip_rem' g h2 (by decide) hk
    rw [e1]
    have hp:=pass_rem (ts:=ts) [1] e2
    exact ih.pipeR g _ _ _ _ hp.2.1 (snoc_pos hL h0) (by omega)
   ·exact nnA_ok
  ·intro n ts g b d i hi hf
   rw [aCommand]
   have hturn:∀ {x:PRes Prog},x≠none→PostA b (b+n) x (fun l e=>i<e∧e<ts.length∧0<l.length∧l.length+8 * remA ts e≤8 * remA ts i∧txP l+30000 * remA ts e≤30000 * remA ts i)→(x.go fun l j=>aTurns f ts b d j l [])≠none:=fun h1 h2=>nnA_go h1 h2 fun c e ⟨h1,h2,h0,_⟩=>by
    have hr:=rem_le (ts:=ts) (Nat.le_of_lt h1) (Nat.le_of_lt h2)
    exact ih.turns g _ _ _ _ _ h2 h0 (by omega)
   have hsim:aSimple f ts b d i [] [] []≠none:=ih.simple g _ _ _ _ _ _ hi (by omega)
   split
   ·exact hsim
   ·rename_i s hs
    have hk:=bare_kind hs
    have hk0:(akAt ts i).kind≠0:=by rw [hk]; decide
    obtain ⟨e1,e2,e3,_⟩:=skip_rem g hi hk0
    have e4:=word_wt hs
    split
    ·split
     ·rename_i hc
      exact ih.function g _ _ _ _ hi hs hc.2 (by omega)
     ·exact hsim
    split
    ·rw [e1]
     exact nnA_go (ih.list g _ _ _ e2 (by omega)) (hP.list g b d _ e2) fun c e ⟨h1,h2,h0,_⟩=>nnA_want g h2 fun w1 w2=>by
      have hr:=rem_le (ts:=ts) h1 (Nat.le_of_lt h2)
      exact ih.turns g _ _ _ _ _ w1 h0 (by omega)
    split
    ·exact hturn (ih.choice g _ _ _ hi (by omega)) (hP.choice g b d _ hi)
    split
    ·exact hturn (ih.whl g _ _ _ hi (by omega)) (hP.whl g b d _ hi)
    split
    ·exact hturn (ih.each g _ _ _ hi hk0 (by omega)) (hP.each g b d _ hi hk0)
    split
    ·exact hturn (ih.choose g _ _ _ hi hk0 (by omega)) (hP.choose g b d _ hi hk0)
    ·exact nnA_form
  ·intro n ts g b d i s t hi hf
   rw [aBody]
   refine nnA_want g hi fun w1 w2=>nnA_go (ih.list g _ _ _ w1 (by omega)) (hP.list g b d _ w1) fun l e ⟨h1,h2,_⟩=>?_
   split
   ·exact nnA_ok
   ·exact nnA_want g h2 fun _ _=>nnA_ok
  ·intro n ts g b d i hi hf
   rw [aChoice]
   refine nnA_go (ih.body g _ _ _ _ _ hi (by omega)) (hP.body g b d _ _ _ hi) fun c j ⟨a1,a2,_⟩=>?_
   have hr:=rem_le (ts:=ts) (Nat.le_of_lt a1) (Nat.le_of_lt a2)
   refine nnA_go (ih.body g _ _ _ _ _ a2 (by omega)) (hP.body g b d _ _ _ a2) fun y k ⟨b1,b2,_⟩=>?_
   have hr2:=rem_le (ts:=ts) (Nat.le_of_lt b1) (Nat.le_of_lt b2)
   refine nnA_go (lo:=b) (hi:=b+n) (Q:=fun l e=>e<ts.length) ?_ ?_ fun z m hm=>nnA_want g hm fun _ _=>nnA_ok
   ·split
    ·exact ih.body g _ _ _ _ _ b2 (by omega)
    ·exact nnA_ok
   ·split
    ·exact (hP.body g b d _ _ _ b2).mono fun l e h=>h.2.1
    ·exact .ok b2
  ·intro n ts g b d i hi hf
   rw [aWhile]
   refine nnA_go (ih.body g _ _ _ _ _ hi (by omega)) (hP.body g b d _ _ _ hi) fun c j ⟨a1,a2,_⟩=>?_
   have hr:=rem_le (ts:=ts) (Nat.le_of_lt a1) (Nat.le_of_lt a2)
   exact nnA_go (ih.body g _ _ _ _ _ a2 (by omega)) (hP.body g b d _ _ _ a2) fun y k _=>nnA_ok
  ·intro n ts g b d i hi h0 hf
   rw [aEach]
   obtain ⟨e1,e2,e3,e4⟩:=skip_rem g hi h0
   rw [e1]
   split
   ·exact nnA_form
   ·rename_i s hs
    split
    ·obtain ⟨f1,f2,f3,_⟩:=skip_rem g e2 (by rw [bare_kind hs]; decide)
     rw [f1]
     refine nnA_want g f2 fun w1 w2=>nnA_go (ih.fields g _ _ _ _ w1 (fun x hx=>by cases hx) (by omega)) (hP.fields g b d _ _ w1 (fun x hx=>by cases hx)) fun ws j ⟨a1,a2,_⟩=>?_
     have hr:=rem_le (ts:=ts) a1 (Nat.le_of_lt a2)
     have hp:=pass_rem (ts:=ts) [1,2] a2
     exact nnA_go (ih.body g _ _ _ _ _ hp.2.1 (by omega)) (hP.body g b d _ _ _ hp.2.1) fun _ _ _=>nnA_ok
    ·exact nnA_form
  ·intro n ts g b d i L hi hL hf
   rw [aFields]
   split
   ·rename_i hk
    have hk0:(akAt ts i).kind≠0:=by
     rw [aIs_iff] at hk
     simp only [List.mem_singleton] at hk
     omega
    have hr:=remA_step hi
    have hs:=ih.subN g b d i (by omega)
    refine nnA_go (nnO_at (field_nn (g.parts i) hs)) (at_post g hi hk0 (field_post (g.parts i) (hP.subQ g b d i))) fun w j ⟨a1,a2,a0,_⟩=>?_
    have hr:=rem_le (ts:=ts) (show i≤j by omega) (Nat.le_of_lt a2)
    exact ih.fields g _ _ _ _ a2 (snoc_pos hL a0) (by omega)
   ·exact nnA_ok
  ·intro n ts g b d i hi h0 hf
   rw [aChoose]
   obtain ⟨e1,e2,e3,e4⟩:=skip_rem g hi h0
   rw [e1]
   have hr:=remA_step e2
   refine nnA_go (word_nn (value_nn (g.parts _) (ih.subN g b d (i+1) (by omega)))) (word_post g e2 (value_post (g.parts _) (hP.subQ g b d _))) fun w j ⟨a1,a2,a0,_⟩=>?_
   have hr:=rem_le (ts:=ts) (show i+1≤j by omega) (Nat.le_of_lt a2)
   have hp:=pass_rem (ts:=ts) [1] a2
   refine nnA_want g hp.2.1 fun w1 w2=>?_
   have hp2:=pass_rem (ts:=ts) [1] w1
   exact nnA_go (ih.cases g _ _ _ _ hp2.2.1 (snoc_pos (L:=[]) (fun x hx=>by cases hx) a0) (by omega)) (hP.cases g b d _ _ hp2.2.1 (snoc_pos (L:=[]) (fun x hx=>by cases hx) a0)) fun _ _ _=>nnA_ok
  ·intro n ts g b d i L hi hL hf
   rw [aCases]
   split
   ·exact nnA_ok
   ·obtain ⟨j,hj⟩:∃ j,(if aIs ts i [7]=true then aSk ts i else i)=j:=⟨_,rfl⟩
    have hjj:i≤j∧j<ts.length∧remA ts j≤remA ts i:=by
     rw [← hj]
     split
     ·rename_i hk
      obtain ⟨e1,e2,e3,e4⟩:=skip_rem' g hi (by decide) hk
      rw [e1]
      omega
     ·omega
    rw [hj]
    have hr:=remA_step hjj.2.1
    refine nnA_go (word_nn (lives_nn (g.parts _) (ih.subN g b d j (by omega)))) (word_post g hjj.2.1 (lives_post (g.parts _) (hP.subQ g b d _))) fun w k ⟨a1,a2,a0,_⟩=>?_
    have hr:=rem_le (ts:=ts) (show j≤k by omega) (Nat.le_of_lt a2)
    split
    ·rename_i hk
     obtain ⟨e1,e2,e3,e4⟩:=skip_rem' g a2 (by decide) hk
     rw [e1]
     refine nnA_go (ih.list g _ _ _ e2 (by omega)) (hP.list g b d _ e2) fun c e ⟨h1,h2,h0,_⟩=>?_
     have hr:=rem_le (ts:=ts) h1 (Nat.le_of_lt h2)
     obtain ⟨m,hm⟩:∃ m,(if aIs ts e [3]=true then aSk ts e else e)=m:=⟨_,rfl⟩
     have hmm:e≤m∧m<ts.length∧remA ts m≤remA ts e:=by
      rw [← hm]
      split
      ·rename_i hk
       obtain ⟨e1,e2,e3,e4⟩:=skip_rem' g h2 (by decide) hk
       rw [e1]
       omega
      ·omega
     rw [hm]
     have hp:=pass_rem (ts:=ts) [1] hmm.2.1
     exact ih.cases g _ _ _ _ hp.2.1 (by
      have:=snoc_pos (snoc_pos hL a0) h0
      simpa using this) (by omega)
    ·exact nnA_form
  ·intro n ts g b d i s hi hs h7 hf
   rw [aFunction]
   obtain ⟨e1,e2,e3,_⟩:=skip_rem g hi (by rw [bare_kind hs]; decide)
   rw [e1] at h7 ⊢
   obtain ⟨f1,f2,f3,f4⟩:=skip_rem g e2 (by rw [h7]; decide)
   rw [f1]
   split
   ·rename_i hk
    obtain ⟨k1,k2,k3,k4⟩:=skip_rem' g f2 (by decide) hk
    rw [k1]
    have hp:=pass_rem (ts:=ts) [1] k2
    exact nnA_go (ih.body g _ _ _ _ _ hp.2.1 (by omega)) (hP.body g b d _ _ _ hp.2.1) fun _ _ _=>nnA_ok
   ·exact nnA_form
  ·intro n ts g b d i c L hi hc hf
   rw [aTurns]
   split
   ·rename_i hk
    obtain ⟨e1,e2,e3,e4⟩:=skip_rem' g hi (by decide) hk
    rw [e1]
    have hr:=remA_step e2
    refine nnA_go (word_nn (value_nn (g.parts _) (ih.subN g b d (i+1) (by omega)))) (word_post g e2 (value_post (g.parts _) (hP.subQ g b d _))) fun w j ⟨a1,a2,a0,_⟩=>?_
    have hr:=rem_le (ts:=ts) (show i+1≤j by omega) (Nat.le_of_lt a2)
    exact ih.turns g _ _ _ _ _ a2 hc (by omega)
   ·exact nnA_ok
  ·intro n ts g b d i ss ws L hi hf
   rw [aSimple]
   split
   ·rename_i hk
    obtain ⟨e1,e2,e3,e4⟩:=skip_rem' g hi (by decide) hk
    rw [e1]
    have hr:=remA_step e2
    refine nnA_go (word_nn (value_nn (g.parts _) (ih.subN g b d (i+1) (by omega)))) (word_post g e2 (value_post (g.parts _) (hP.subQ g b d _))) fun w j ⟨a1,a2,a0,_⟩=>?_
    have hr:=rem_le (ts:=ts) (show i+1≤j by omega) (Nat.le_of_lt a2)
    exact ih.simple g _ _ _ _ _ _ a2 (by omega)
   split
   ·rename_i hk
    have hk0:(akAt ts i).kind≠0:=by
     rw [aIs_iff] at hk
     simp only [List.mem_singleton] at hk
     omega
    have hr:=remA_step hi
    have hsN:=ih.subN g b d i (by omega)
    split
    ·rename_i s t hst
     have hs:settingA (akAt ts i)=some (s,t):=by
      split at hst
      ·exact hst
      ·cases hst
     obtain ⟨s1,s2,s3,_⟩:=setting_in hs
     refine nnA_go (nnO_at (value_nn (setting_parts hs (g.parts i)) (setting_n hs hsN))) (at_post g hi hk0 ((value_post (setting_parts hs (g.parts i)) (setting_sub hs (hP.subQ g b d i))).mono fun l h=>by unfold WordQ at h ⊢; rw [s3] at h; exact h)) fun w j ⟨a1,a2,a0,_⟩=>?_
     have hr:=rem_le (ts:=ts) (show i≤j by omega) (Nat.le_of_lt a2)
     exact ih.simple g _ _ _ _ _ _ a2 (by omega)
    ·refine nnA_go (nnO_at (field_nn (g.parts i) hsN)) (at_post g hi hk0 (field_post (g.parts i) (hP.subQ g b d i))) fun w j ⟨a1,a2,a0,_⟩=>?_
     have hr:=rem_le (ts:=ts) (show i≤j by omega) (Nat.le_of_lt a2)
     exact ih.simple g _ _ _ _ _ _ a2 (by omega)
   split
   ·exact nnA_form
   ·exact nnA_ok
  ·intro b d x hl hf
   rw [aSub]
   split
   ·exact nnO_err
   ·split
    ·exact nnO_err
    ·rename_i ts hq
     have g:=lexA_good x.text hl ts hq
     have hwt:=g.wt
     rw [← remA_zero] at hwt
     have hL:=ih.list g (b+x.place+2) d 0 g.pos (by omega)
     split
     ·contradiction
     ·exact fun h=>by cases h
     ·split
      ·exact nnO_err
      ·exact nnO_ok
end Go.Proofs.YtbfeoinoepoiaaaGreatDoor
namespace Go.Proofs.YtbfeoinoepoiaaaGreatDoor
set_option maxHeartbeats 8000000
open Go Go.RowKit
def okA (k:Int):Bool:=![36,37].contains k
theorem joinStep_one (out:List Prog) (x:Prog):0<(joinStep out x).length:=by
 unfold joinStep
 split
 ·split <;> simp
 ·simp
def VF (w:Bool) (l:Prog):Prop:=∃ D,WFP okA 2000 w D l
def VX (w:Bool) (l:Prog):Prop:=∃ M D,WFP okA M w D l
theorem VF.x {w:Bool} {l:Prog} (h:VF w l):VX w l:=⟨2000,h⟩
theorem common_vx:∀ (kids:List Prog) (T:Nat→Bool),(∀ j kid,kids[j]?=some kid→VX (T j) kid)→∃ M D,∀ j kid,kids[j]?=some kid→WFP okA M (T j) D kid
 | [],T,_=>⟨0,0,fun j kid h=>by simp at h⟩
 | a :: kids,T,h=>by
  obtain ⟨M,D,ha⟩:=h 0 a rfl
  obtain ⟨N,E,hk⟩:=common_vx kids (fun j=>T (j+1)) (fun j kid hj=>h (j+1) kid (by simpa using hj))
  refine ⟨max M N,max D E,fun j kid hj=>?_⟩
  cases j with
  | zero =>
   cases hj
   exact (ha.widen (Nat.le_max_left _ _)).mono (Nat.le_max_left _ _)
  | succ j=>exact ((hk j kid (by simpa using hj)).widen (Nat.le_max_right _ _)).mono (Nat.le_max_right _ _)
theorem common_vf:∀ (kids:List Prog) (T:Nat→Bool),(∀ j kid,kids[j]?=some kid→VF (T j) kid)→∃ D,∀ j kid,kids[j]?=some kid→WFP okA 2000 (T j) D kid
 | [],T,_=>⟨0,fun j kid h=>by simp at h⟩
 | a :: kids,T,h=>by
  obtain ⟨D,ha⟩:=h 0 a rfl
  obtain ⟨E,hk⟩:=common_vf kids (fun j=>T (j+1)) (fun j kid hj=>h (j+1) kid (by simpa using hj))
  refine ⟨max D E,fun j kid hj=>?_⟩
  cases j with
  | zero =>
   cases hj
   exact ha.mono (Nat.le_max_left _ _)
  | succ j=>exact (hk j kid (by simpa using hj)).mono (Nat.le_max_right _ _)
theorem VF.node {w:Bool} {kind n:Int} {s:List UInt8} {kids:List Prog} (hk:(kindB ⟨kind,n,kids.length,0,s⟩ w && okA kind)=true) (hf:fieldsM 2000 ⟨kind,n,kids.length,0,s⟩=true) (hc:childrenB ⟨kind,n,kids.length,0,s⟩=true)
  (hK:∀ (j:Nat) (kid:Prog),kids[j]?=some kid→VF (takesB kind kids.length j) kid):VF w (newP kind n s kids):=by
 obtain ⟨D,hD⟩:=common_vf kids (fun j=>takesB kind kids.length j) hK
 exact ⟨D+1,.node w D kind n s kids hk hf hc hD⟩
theorem VX.node {w:Bool} {kind n:Int} {s:List UInt8} {kids:List Prog} (hk:(kindB ⟨kind,n,kids.length,0,s⟩ w && okA kind)=true) (hf:fieldsM s.length ⟨kind,n,kids.length,0,s⟩=true) (hc:childrenB ⟨kind,n,kids.length,0,s⟩=true)
  (hK:∀ (j:Nat) (kid:Prog),kids[j]?=some kid→VX (takesB kind kids.length j) kid):VX w (newP kind n s kids):=by
 obtain ⟨M,D,hD⟩:=common_vx kids (fun j=>takesB kind kids.length j) hK
 exact ⟨max M s.length,D+1,.node w D kind n s kids hk (fieldsM_mono (Nat.le_max_right _ _) _ hf) hc fun j kid hj=>(hD j kid hj).widen (Nat.le_max_left _ _)⟩
theorem VX.checked {w:Bool} {l:Prog} (h:VX w l) (hs:tooLong l=false):VF w l:=by
 obtain ⟨M,D,h⟩:=h
 refine ⟨D,h.short fun x hx hk=>?_⟩
 unfold tooLong at hs
 rw [List.any_eq_false] at hs
 have:=hs x hx
 simp only [Bool.and_eq_true,decide_eq_true_eq] at this
 omega
theorem VX.lit {n:Int} {s:List UInt8} (h:n=0∨n=1∧isClosed s=true):VX true (newP 1 n s []) :=
 VX.node (by rfl) (by simpa [fieldsM] using h) (by rfl) fun j kid hj=>by simp at hj
theorem VX.lit_inv {y:PNode} (h:VX true [y]) (hk:y.kind=1):(y.n=0∨y.n=1∧isClosed y.text=true):=by
 obtain ⟨M,D,h⟩:=h
 generalize hl:[y]=l at h
 cases h with
 | node w D kind n s kids hk' hf hc hK =>
  rw [newP] at hl
  obtain ⟨rfl,_⟩:=List.cons.inj hl
  unfold fieldsM at hf
  rw [if_pos hk] at hf
  simp only [Bool.and_eq_true,Bool.or_eq_true,decide_eq_true_eq] at hf
  exact hf.1
def KI (how:Nat) (x:Prog):Prop:=VX true x∧∀ y,x=[y]→y.kind=1→y.n=how
theorem KI.more {how:Nat} {kind n:Int} {s:List UInt8} {kids:List Prog} (h:VX true (newP kind n s kids)) (hk:kind≠1):KI how (newP kind n s kids) :=
 ⟨h,fun y e hy=>by
  rw [newP] at e
  obtain ⟨rfl,_⟩:=List.cons.inj e
  exact absurd hy hk⟩
theorem KI.lit {how:Nat} {s:List UInt8} (hh:how=0∨how=1∧isClosed s=true):KI how (newP 1 how s []) :=
 ⟨VX.lit (hh.elim (fun h=>.inl (by rw [h]; rfl)) (fun h=>.inr ⟨by rw [h.1]; rfl,h.2⟩)),fun y e _=>by
  rw [newP] at e
  obtain ⟨rfl,_⟩:=List.cons.inj e
  rfl⟩
theorem joinStep_ki {how:Nat} (out:List Prog) (x:Prog) (ho:∀ y∈out,KI how y) (hx:KI how x):∀ y∈joinStep out x,KI how y:=by
 have hall:∀ y∈out++[x],KI how y:=fun y hy=>by
  rcases List.mem_append.1 hy with h | h
  ·exact ho y h
  ·rw [List.mem_singleton] at h
   exact h ▸ hx
 unfold joinStep
 split
 ·rename_i y z hl
  obtain ⟨Q,rfl⟩:=List.getLast?_eq_some_iff.1 hl
  split
  ·rename_i hk
   rw [List.dropLast_concat]
   have hy:=ho [y] (by simp)
   have n1:=hy.2 y rfl hk.1
   have n2:=hx.2 z rfl hk.2
   have i1:=hy.1.lit_inv hk.1
   have i2:=hx.1.lit_inv hk.2
   intro a ha
   rcases List.mem_append.1 ha with h | h
   ·exact ho a (by simp [h])
   ·rw [List.mem_singleton] at h
    subst h
    rw [n2]
    refine KI.lit ?_
    rw [n1] at i1
    rw [n2] at i2
    rcases i1 with i1 | i1
    ·exact .inl (by omega)
    ·rcases i2 with i2 | i2
     ·exact .inl (by omega)
     ·exact .inr ⟨by omega,closed_append _ _ i1.2 i2.2⟩
  ·exact hall
 ·exact hall
theorem fold_ki {how:Nat}:∀ (l out:List Prog),(∀ y∈out,KI how y)→(∀ y∈l,KI how y)→(∀ y∈l.foldl joinStep out,KI how y)∧(0<out.length+l.length→0<(l.foldl joinStep out).length)
 | [],out,ho,_=>⟨ho,fun h=>by simpa using h⟩
 | x :: l,out,ho,hl=>by
  obtain ⟨h1,h2⟩:=fold_ki l (joinStep out x) (joinStep_ki out x ho (hl x (by simp))) (fun y hy=>hl y (by simp [hy]))
  exact ⟨h1,fun _=>h2 (by have:=joinStep_one out x; omega)⟩
theorem seqP_vf (l:List Prog) (h:∀ x∈l,VF false x):VF false (seqP l):=by
 unfold seqP
 split
 ·exact .node (by rfl) (by rfl) (by rfl) fun j kid hj=>by simp at hj
 ·exact h _ (by simp)
 ·rename_i h0 h1
  refine .node (by rfl) (by rfl) ?_ fun j kid hj=>mem_get h j kid hj
  have:2≤l.length:=by
   match l,h0,h1 with
   | [],h0,_=>exact absurd rfl h0
   | [a],_,h1=>exact absurd rfl (h1 a)
   | a :: b :: l,_,_=>simp
  simp [childrenB]
  omega
theorem catP_vf (l:List Prog) (h:∀ x∈l,VF true x):VF true (catP l):=by
 unfold catP
 split
 ·exact h _ (by simp)
 ·exact .node (by rfl) (by rfl) (by simp [childrenB]) fun j kid hj=>mem_get h j kid hj
def SetsV (l:List (List UInt8 × Prog)):Prop:=∀ t∈l,nameB t.1=true∧VF true t.2
theorem made_vf (sets:List (List UInt8 × Prog)) (words:List Prog) (hs:SetsV sets) (hw:∀ x∈words,VF true x):VF false (madeP sets words):=by
 unfold madeP
 split
 ·refine seqP_vf _ fun x hx=>?_
  obtain ⟨t,ht,rfl⟩:=List.mem_map.1 hx
  obtain ⟨h1,h2⟩:=hs t ht
  exact .node (by rfl) (by simpa [fieldsM,namedB] using h1) (by rfl) (kids1 h2)
 ·rename_i hl
  have h0:VF false (newP 21 0 [] words):=.node (by rfl) (by rfl) (by simp [childrenB]; omega) fun j kid hj=>mem_get hw j kid hj
  clear hl
  induction sets with
  | nil=>exact h0
  | cons t sets ih =>
   obtain ⟨h1,h2⟩:=hs t (by simp)
   rw [List.foldr_cons]
   exact .node (by rfl) (by simpa [fieldsM,namedB] using h1) (by rfl) (kids2 h2 (ih fun t ht=>hs t (by simp [ht])))
def CasesV (l:List Prog):Prop:=l.length % 2=1∧∀ (j:Nat) (x:Prog),l[j]?=some x→VF (decide (j=0) || decide (j % 2=1)) x
theorem CasesV.snoc {l:List Prog} (h:CasesV l) {a b:Prog} (ha:VF true a) (hb:VF false b):CasesV (l++[a,b]):=by
 obtain ⟨h1,h2⟩:=h
 refine ⟨by simp only [List.length_append,List.length_cons,List.length_nil]; omega,fun j x hj=>?_⟩
 by_cases hlt:j<l.length
 ·exact h2 j x (by rwa [List.getElem?_append_left hlt] at hj)
 ·rw [List.getElem?_append_right (by omega)] at hj
  obtain ⟨d,hd⟩:∃ d,j - l.length=d:=⟨_,rfl⟩
  rw [hd] at hj
  match d,hd,hj with
  | 0,hd,hj =>
   cases hj
   rw [show (decide (j=0) || decide (j % 2=1))=true by simp; omega]
   exact ha
  | 1,hd,hj =>
   cases hj
   rw [show (decide (j=0) || decide (j % 2=1))=false by simp; omega]
   exact hb
  | d+2,hd,hj=>simp at hj
theorem SetsV.snoc {l:List (List UInt8 × Prog)} (h:SetsV l) {n:List UInt8} {w:Prog} (hn:nameB n=true) (hw:VF true w):SetsV (l++[(n,w)]):=fun y hy=>by
 rcases List.mem_append.1 hy with h' | h'
 ·exact h y h'
 ·rw [List.mem_singleton] at h'
  exact h' ▸ ⟨hn,hw⟩
def TurnsV (l:List (Nat × Prog)):Prop:=∀ t∈l,(t.1=9∨t.1=10∨t.1=11∨t.1=12)∧VF true t.2
theorem aaround_vf:∀ (l:List (Nat × Prog)) (c:Prog),TurnsV l→VF false c→VF false (aAround l c)
 | [],c,_,hc=>hc
 | t :: l,c,hl,hc=>by
  have ih:=aaround_vf l c (fun t ht=>hl t (by simp [ht])) hc
  obtain ⟨h1,h2⟩:=hl t (by simp)
  show VF false (if t.1=12 then newP 34 0 [] [t.2,aAround l c] else newP 33 ((t.1:Int) - 8) [] [t.2,aAround l c])
  split
  ·exact .node (by rfl) (by rfl) (by rfl) (kids2 h2 ih)
  ·refine .node (by rfl) ?_ (by rfl) (kids2 h2 ih)
   simp [fieldsM]
   omega
theorem TurnsV.snoc {l:List (Nat × Prog)} (h:TurnsV l) {k:Nat} {w:Prog} (hk:k=9∨k=10∨k=11∨k=12) (hw:VF true w):TurnsV (l++[(k,w)]):=fun y hy=>by
 rcases List.mem_append.1 hy with h' | h'
 ·exact h y h'
 ·rw [List.mem_singleton] at h'
  exact h' ▸ ⟨hk,hw⟩
theorem aturning_kind {ts:List ATok} {i:Nat} (h:aTurning ts i=true):(akAt ts i).kind=9∨(akAt ts i).kind=10∨(akAt ts i).kind=11∨(akAt ts i).kind=12:=by
 simpa using (aIs_iff _ _ _).1 h
def OkO {α:Type} (x:POne α) (Q:α→Prop):Prop:=∀ a,x=some (.ok a)→Q a
theorem OkO.ok {α:Type} {Q:α→Prop} {a:α} (h:Q a):OkO (oOk a) Q:=fun _ h'=>by cases h'; exact h
theorem OkO.err {α:Type} {Q:α→Prop} {c p:Nat}:OkO (oErr c p:POne α) Q:=fun _ h=>by cases h
theorem OkO.none {α:Type} {Q:α→Prop}:OkO (none:POne α) Q:=fun _ h=>by cases h
theorem OkO.mono {α:Type} {x:POne α} {Q R:α→Prop} (h:OkO x Q) (hR:∀ a,Q a→R a):OkO x R:=fun a hx=>hR a (h a hx)
theorem OkO.go {α β:Type} {x:POne α} {k:α→POne β} {Q:α→Prop} {R:β→Prop} (h:OkO x Q) (hk:∀ a,Q a→OkO (k a) R):OkO (x.go k) R:=by
 match x,h with
 | .none,_=>exact .none
 | some (.error e),_=>exact fun _ h'=>by cases h'
 | some (.ok a),h=>exact hk a (h a rfl)
theorem OkO.at {α:Type} {x:POne α} {Q:α→Prop} {i:Nat} (h:OkO x Q):OkP (x.at i) Q:=by
 match x,h with
 | .none,_=>exact .none
 | some (.error e),_=>exact fun _ _ h'=>by cases h'
 | some (.ok a),h=>exact .ok (h a rfl)
theorem OkP.formA {α:Type} {Q:α→Prop} {ts:List ATok} {b i:Nat}:OkP (formA ts b i:PRes α) Q:=.err
theorem OkP.want {β:Type} {ts:List ATok} {b i:Nat} {s:List UInt8} {k:Nat→PRes β} {R:β→Prop} (hk:∀ e,OkP (k e) R):OkP (wantA ts b i s k) R:=by
 unfold wantA
 split
 ·exact hk _
 ·exact .formA
def SubV (sub:APart→POne Prog) (P:List APart):Prop:=∀ x∈P,x.kind=4→OkO (sub x) fun l=>∃ m,l=newP 12 0 [] [m]∧VF false m
theorem var_vx (s:List UInt8) (hs:nameB s=true∨s=[42]):VX true (newP 2 0 s []):=VX.node (by rfl) (by simpa [fieldsM] using hs) (by rfl) fun j kid hj=>by simp at hj
theorem items_ki {sub:APart→POne Prog} {P:List APart} (hs:SubV sub P) {x:APart} (hx:x∈P) (hv:PartW x) (h1:x.kind≠1) (h2:x.kind≠2) (how:Nat):OkO (itemsA sub x) (KI how):=by
 unfold itemsA
 split
 ·rename_i hk
  refine .ok (KI.more (var_vx _ ?_) (by decide))
  rcases hv with h | h | h | h | h | h
  ·exact absurd h.1 h1
  ·exact absurd h h2
  ·exact h.2
  ·omega
  ·omega
  ·omega
 split
 ·rename_i hk
  have hn:1≤x.num∧x.num≤9:=by
   unfold PartW at hv
   omega
  exact .ok (KI.more (VX.node (by rfl) (by simp [fieldsM]; omega) (by rfl) (kids1 (var_vx _ (.inr rfl)))) (by decide))
 split
 ·exact .ok (KI.more (VX.node (by rfl) (by rfl) (by rfl) (kids1 (var_vx _ (.inr rfl)))) (by decide))
 ·rename_i h3 h5 h6
  refine (hs x hx (partV_kind hv h1 h2 h3 h5 h6)).mono fun l ⟨m,hl,hm⟩=>?_
  subst hl
  exact KI.more (VX.node (by rfl) (by rfl) (by rfl) (kids1 hm.x)) (by decide)
theorem piece_ki {sub:APart→POne Prog} {P:List APart} (hs:SubV sub P) {x:APart} (hx:x∈P) (hv:PartW x):OkO (pieceA sub x) fun l=>KI 0 l∧(x.kind≠1→x.kind≠2→KI 1 l):=by
 unfold pieceA
 split
 ·rename_i h
  exact .ok ⟨KI.lit (how:=0) (.inl rfl),fun h1 h2=>by omega⟩
 ·rename_i h12
  intro l hl
  cases hi:itemsA sub x with
  | none=>rw [hi] at hl; cases hl
  | some r =>
   cases r with
   | error e=>rw [hi] at hl; cases hl
   | ok m =>
    rw [hi] at hl
    cases hl
    have h0:=items_ki hs hx hv (fun e=>h12 (.inl e)) (fun e=>h12 (.inr e)) 0 m hi
    have h1:=items_ki hs hx hv (fun e=>h12 (.inl e)) (fun e=>h12 (.inr e)) 1 m hi
    split
    ·have:VX true (newP 9 0 [] [m]):=VX.node (by rfl) (by rfl) (by rfl) (kids1 h0.1)
     exact ⟨KI.more this (by decide),fun _ _=>KI.more this (by decide)⟩
    ·exact ⟨h0,fun _ _=>h1⟩
theorem plain_closed:∀ (s:List UInt8),(∀ c∈s,c.toNat≠92)→isClosed s=true
 | [],_=>rfl
 | [c],h=>by
  have:=h c (by simp)
  simp [isClosed,piecesP,this]
 | c :: d :: s,h=>by
  rw [closed_cons,if_neg (h c (by simp))]
  exact plain_closed (d :: s) fun x hx=>h x (by simp at hx ⊢; exact .inr hx)
theorem alive_ki {sub bare:APart→POne Prog} {P:List APart} (hs:SubV sub P) {x:APart} (hx:x∈P) (hv:PartW x) (hb:x.kind≠1→x.kind≠2→OkO (bare x) (KI 1)):OkO (aliveA sub bare x) (KI 1):=by
 unfold aliveA
 split
 ·rename_i hk
  refine .ok (KI.lit (how:=1) (.inr ⟨rfl,plain_closed _ fun c hc=>?_⟩))
  rcases hv with h | h
  ·exact h.2 c hc
  ·omega
 split
 ·exact .ok (KI.lit (how:=1) (.inr ⟨rfl,escapeP_closed _⟩))
 split
 ·exact hb (by assumption) (by assumption)
 ·exact (piece_ki hs hx hv).go fun l hl=>.ok (KI.more (VX.node (by rfl) (by rfl) (by rfl) (kids1 hl.1.1)) (by decide))
theorem parts_ki {tq:APart→POne Prog} {how:Nat}:∀ (P:List APart),(∀ x∈P,OkO (tq x) (KI how))→OkO (partsA tq P) fun l=>∀ y∈l,KI how y
 | [],_=>.ok fun y hy=>by cases hy
 | x :: P,h=>by
  rw [partsA]
  refine (h x (by simp)).go fun n hn=>(parts_ki P fun y hy=>h y (by simp [hy])).go fun l hl=>.ok fun y hy=>?_
  rcases List.mem_cons.1 hy with rfl | hy
  ·exact hn
  ·exact hl y hy
theorem joinA_vx {how:Nat} (l:List Prog) (hl:∀ x∈l,KI how x):VX true (joinA l):=by
 unfold joinA
 split
 ·exact (KI.lit (how:=0) (.inl rfl)).1
 ·rename_i a m
  obtain ⟨h1,h2⟩:=fold_ki (a :: m) [] (fun _ h=>nomatch h) hl
  have h3:=h2 (by simp)
  generalize (a :: m).foldl joinStep []=o at *
  have hf:∀ x∈o.filter fullA,KI how x:=fun x hx=>h1 x (List.mem_filter.1 hx).1
  split
  ·cases o with
   | nil=>simp at h3
   | cons x o=>exact (h1 x (by simp)).1
  ·rename_i x hx
   exact (hf x (by rw [hx]; simp)).1
  ·rename_i h0 h1
   refine VX.node (by rfl) (by rfl) ?_ fun j kid hj=>mem_get (fun x hx=>(hf x hx).1) j kid hj
   have:0<(o.filter fullA).length:=List.length_pos_iff.2 h0
   simp [childrenB]
   omega
theorem fits_vf {b:Nat} {t:ATok} {l:Prog} (h:VX true l):OkO (fitsA b t l) (VF true):=by
 unfold fitsA
 split
 ·exact .err
 ·rename_i hs
  exact .ok (h.checked (by simpa using hs))
theorem joined_vf {tq:APart→POne Prog} {how b:Nat} {t:ATok} (h:∀ x∈t.parts,OkO (tq x) (KI how)):OkO (joinedA tq b t) (VF true):=by
 unfold joinedA
 exact (parts_ki _ h).go fun l hl=>fits_vf (joinA_vx l hl)
theorem value_vf {sub:APart→POne Prog} {b n:Nat} {t:ATok} (hP:PartsA n t) (hs:SubV sub t.parts):OkO (valueA sub b t) (VF true) :=
 joined_vf (how:=0) fun x hx=>(piece_ki hs hx (hP.valid x hx)).mono fun _ h=>h.1
theorem lives_vf {sub:APart→POne Prog} {b n:Nat} {t:ATok} (hP:PartsA n t) (hs:SubV sub t.parts):OkO (livesA sub b t) (VF true):=by
 unfold livesA
 split
 ·exact .ok (VX.checked (KI.lit (how:=1) (.inr ⟨rfl,rfl⟩)).1 (by rfl))
 ·refine joined_vf (how:=1) fun x hx=>alive_ki hs hx (hP.valid x hx) fun h1 h2=>(piece_ki hs hx (hP.valid x hx)).mono fun _ h=>h.2 h1 h2
theorem fText_closed:∀ (P:List APart),(∀ p∈P,PartW p)→isClosed (fText P)=true
 | [],_=>rfl
 | x :: P,h=>by
  have ih:=fText_closed P fun p hp=>h p (by simp [hp])
  have hx:=h x (by simp)
  unfold fText at ih ⊢
  rw [List.flatMap_cons]
  refine closed_append _ _ ?_ ih
  split
  ·rename_i hk
   refine plain_closed _ fun c hc=>?_
   rcases hx with h | h
   ·exact h.2 c hc
   ·omega
  split
  ·exact escapeP_closed _
  ·rfl
theorem field_vf {sub:APart→POne Prog} {b n:Nat} {t:ATok} (hP:PartsA n t) (hs:SubV sub t.parts):OkO (fieldA sub b t) (VF true):=by
 unfold fieldA
 split
 ·exact fits_vf (VX.node (by rfl) (by rfl) (by rfl) (kids1 (KI.lit (how:=1) (.inr ⟨rfl,fText_closed _ hP.valid⟩)).1))
 split
 ·exact value_vf hP hs
 ·refine (joined_vf (how:=1) fun x hx=>alive_ki hs hx (hP.valid x hx) fun h1 h2=>items_ki hs hx (hP.valid x hx) h1 h2 1).go fun l hl=>.ok ?_
  exact .node (by rfl) (by rfl) (by rfl) (kids1 (.node (by rfl) (by rfl) (by rfl) (kids1 hl)))
theorem word_vf {aq:Nat→ATok→POne Prog} {ts:List ATok} {b i:Nat} (h:OkO (aq b (akAt ts i)) (VF true)):OkP (wordOf aq ts b i) (VF true):=by
 unfold wordOf
 split
 ·exact h.at
 ·exact .formA
structure VAllA (f:Nat):Prop where
 list:∀ {n ts},GoodA n ts→∀ b d i,OkP (aList f ts b d i) (VF false)
 chains:∀ {n ts},GoodA n ts→∀ b d i L,(∀ x∈L,VF false x)→OkP (aChains f ts b d i L) (VF false)
 chain:∀ {n ts},GoodA n ts→∀ b d i,OkP (aChain f ts b d i) (VF false)
 chainR:∀ {n ts},GoodA n ts→∀ b d i o,VF false o→OkP (aChainR f ts b d i o) (VF false)
 pipe:∀ {n ts},GoodA n ts→∀ b d i,OkP (aPipe f ts b d i) (VF false)
 pipeR:∀ {n ts},GoodA n ts→∀ b d i L,(∀ x∈L,VF false x)→OkP (aPipeR f ts b d i L) fun l=>(∀ x∈l,VF false x)∧0<l.length
 command:∀ {n ts},GoodA n ts→∀ b d i,OkP (aCommand f ts b d i) (VF false)
 body:∀ {n ts},GoodA n ts→∀ b d i s t,OkP (aBody f ts b d i s t) (VF false)
 choice:∀ {n ts},GoodA n ts→∀ b d i,OkP (aChoice f ts b d i) (VF false)
 whl:∀ {n ts},GoodA n ts→∀ b d i,OkP (aWhile f ts b d i) (VF false)
 each:∀ {n ts},GoodA n ts→∀ b d i,OkP (aEach f ts b d i) (VF false)
 fields:∀ {n ts},GoodA n ts→∀ b d i L,(∀ x∈L,VF true x)→OkP (aFields f ts b d i L) fun l=>∀ x∈l,VF true x
 choose:∀ {n ts},GoodA n ts→∀ b d i,OkP (aChoose f ts b d i) (VF false)
 cases:∀ {n ts},GoodA n ts→∀ b d i L,CasesV L→OkP (aCases f ts b d i L) CasesV
 function:∀ {n ts},GoodA n ts→∀ b d i s,nameB s=true→OkP (aFunction f ts b d i s) (VF false)
 turns:∀ {n ts},GoodA n ts→∀ b d i c L,VF false c→TurnsV L→OkP (aTurns f ts b d i c L) (VF false)
 simple:∀ {n ts},GoodA n ts→∀ b d i ss ws L,SetsV ss→(∀ x∈ws,VF true x)→TurnsV L→OkP (aSimple f ts b d i ss ws L) (VF false)
 sub:∀ (b d:Nat) (x:APart),x.text.length≤8192→OkO (aSub f b d x) fun l=>∃ m,l=newP 12 0 [] [m]∧VF false m
theorem VAllA.subV {f:Nat} (h:VAllA f) {n:Nat} {ts:List ATok} (g:GoodA n ts) (b d i:Nat):SubV (fun x=>aSub f b d x) (akAt ts i).parts:=fun x hx _=>h.sub b d x (g.part i x hx).2.1
theorem setting_v {t t':ATok} {s:List UInt8} (h:settingA t=some (s,t')) {sub:APart→POne Prog} (hs:SubV sub t.parts):SubV sub t'.parts:=by
 obtain ⟨_,h1,_,p,ps,r,h2,h3,h4,h5⟩:=setting_in h
 intro x hx hk
 rw [h4] at hx
 rcases List.mem_cons.1 hx with rfl | hx
 ·exact absurd (hk.symm.trans h3) (by decide)
 ·exact hs x (by rw [h2]; simp [hx]) hk
theorem vAllA:∀ f,VAllA f
 | 0=>by
  constructor <;> intros <;> simp only [aList,aChains,aChain,aChainR,aPipe,aPipeR,aCommand,aBody,aChoice,aWhile,aEach,aFields,aChoose,aCases,aFunction,aTurns,aSimple,aSub] <;> first | exact OkP.none | exact OkO.none
 | f+1=>by
  have ih:=vAllA f
  refine ⟨?_,?_,?_,?_,?_,?_,?_,?_,?_,?_,?_,?_,?_,?_,?_,?_,?_,?_⟩
  ·intro n ts g b d i
   rw [aList]
   split
   ·exact .err
   ·exact ih.chains g _ _ _ _ (fun _ h=>nomatch h)
  ·intro n ts g b d i L hL
   rw [aChains]
   split
   ·exact .ok (seqP_vf _ hL)
   ·exact (ih.chain g _ _ _).go fun c e hc=>ih.chains g _ _ _ _ (snoc_all hL hc)
  ·intro n ts g b d i
   rw [aChain]
   exact (ih.pipe g _ _ _).go fun c e hc=>ih.chainR g _ _ _ _ hc
  ·intro n ts g b d i o ho
   rw [aChainR]
   split
   ·refine (ih.pipe g _ _ _).go fun c e hc=>ih.chainR g _ _ _ _ ?_
    split
    ·exact .node (by rfl) (by rfl) (by rfl) (kids2 ho hc)
    ·exact .node (by rfl) (by rfl) (by rfl) (kids2 ho hc)
   ·exact .ok ho
  ·intro n ts g b d i
   rw [aPipe]
   refine (ih.pipeR g _ _ _ [] (fun _ h=>nomatch h)).go fun l e ⟨hl,hp⟩=>.ok ?_
   have hb:VF false (if 1<l.length then newP 32 0 [] l else l.headD []):=by
    split
    ·exact .node (by rfl) (by rfl) (by simp [childrenB]; omega) fun j kid hj=>mem_get hl j kid hj
    ·cases l with
     | nil=>simp at hp
     | cons a l=>exact hl a (by simp)
   split
   ·exact .node (by rfl) (by rfl) (by rfl) (kids1 hb)
   ·exact hb
  ·intro n ts g b d i L hL
   rw [aPipeR]
   refine (ih.command g _ _ _).go fun c e hc=>?_
   split
   ·exact ih.pipeR g _ _ _ _ (snoc_all hL hc)
   ·exact .ok ⟨snoc_all hL hc,by simp⟩
  ·intro n ts g b d i
   rw [aCommand]
   have hsim:OkP (aSimple f ts b d i [] [] []) (VF false):=ih.simple g _ _ _ _ _ _ (fun _ h=>nomatch h) (fun _ h=>nomatch h) (fun _ h=>nomatch h)
   have hturn:∀ {x:PRes Prog},OkP x (VF false)→OkP (x.go fun l j=>aTurns f ts b d j l []) (VF false):=fun hx=>hx.go fun c e hc=>ih.turns g _ _ _ _ _ hc (fun _ h=>nomatch h)
   split
   ·exact hsim
   ·split
    ·split
     ·rename_i hc
      exact ih.function g _ _ _ _ hc.1
     ·exact hsim
    split
    ·exact (ih.list g _ _ _).go fun c e hc=>.want fun _=>ih.turns g _ _ _ _ _ hc (fun _ h=>nomatch h)
    split
    ·exact hturn (ih.choice g _ _ _)
    split
    ·exact hturn (ih.whl g _ _ _)
    split
    ·exact hturn (ih.each g _ _ _)
    split
    ·exact hturn (ih.choose g _ _ _)
    ·exact .formA
  ·intro n ts g b d i s t
   rw [aBody]
   refine .want fun a=>(ih.list g _ _ _).go fun l e hl=>?_
   split
   ·exact .ok hl
   ·exact .want fun _=>.ok hl
  ·intro n ts g b d i
   rw [aChoice]
   refine (ih.body g _ _ _ _ _).go fun c j hc=>(ih.body g _ _ _ _ _).go fun y k hy=>?_
   refine OkP.go (Q:=VF false) ?_ fun z m hz=>.want fun _=>.ok (.node (by rfl) (by rfl) (by rfl) (kids3 hc hy hz))
   split
   ·exact ih.body g _ _ _ _ _
   ·exact .ok (seqP_vf [] (fun _ h=>nomatch h))
  ·intro n ts g b d i
   rw [aWhile]
   exact (ih.body g _ _ _ _ _).go fun c j hc=>(ih.body g _ _ _ _ _).go fun y k hy=>.ok (.node (by rfl) (by rfl) (by rfl) (kids2 hc hy))
  ·intro n ts g b d i
   rw [aEach]
   split
   ·exact .formA
   ·split
    ·rename_i hn
     exact .want fun a=>(ih.fields g _ _ _ [] (fun _ h=>nomatch h)).go fun ws j hw=>(ih.body g _ _ _ _ _).go fun y k hy=>.ok (.node (by rfl) (by simpa [fieldsM,namedB] using hn) (by rfl) (kids2 (catP_vf _ hw) hy))
    ·exact .formA
  ·intro n ts g b d i L hL
   rw [aFields]
   split
   ·exact (field_vf (g.parts i) (ih.subV g b d i)).at.go fun w j hw=>ih.fields g _ _ _ _ (snoc_all hL hw)
   ·exact .ok hL
  ·intro n ts g b d i
   rw [aChoose]
   refine (word_vf (value_vf (g.parts _) (ih.subV g b d _))).go fun w j hw=>.want fun a=>?_
   refine (ih.cases g _ _ _ _ ⟨rfl,fun j x hj=>?_⟩).go fun l k hl=>.ok ?_
   ·cases j with
    | zero =>
     cases hj
     exact hw
    | succ j=>simp at hj
   ·obtain ⟨h1,h2⟩:=hl
    refine .node (by rfl) (by rfl) (by simp [childrenB]; omega) fun j kid hj=>?_
    have:=h2 j kid hj
    have hm:((j:Int) % 2=1) ↔ (j % 2=1):=by omega
    rw [show takesB 30 l.length j=(decide (j=0) || decide (j % 2=1)) by simp [takesB,hm]]
    exact this
  ·intro n ts g b d i L hL
   rw [aCases]
   split
   ·exact .ok hL
   ·refine (word_vf (lives_vf (g.parts _) (ih.subV g b d _))).go fun w j hw=>?_
    split
    ·exact (ih.list g _ _ _).go fun c e hc=>ih.cases g _ _ _ _ (hL.snoc hw hc)
    ·exact .formA
  ·intro n ts g b d i s hs
   rw [aFunction]
   split
   ·exact (ih.body g _ _ _ _ _).go fun l e hl=>.ok (.node (by rfl) (by simpa [fieldsM,namedB] using hs) (by rfl) (kids1 hl))
   ·exact .formA
  ·intro n ts g b d i c L hc hL
   rw [aTurns]
   split
   ·rename_i hk
    exact (word_vf (value_vf (g.parts _) (ih.subV g b d _))).go fun w j hw=>ih.turns g _ _ _ _ _ hc (hL.snoc (aturning_kind hk) hw)
   ·exact .ok (aaround_vf _ _ hL hc)
  ·intro n ts g b d i ss ws L hs hw hL
   rw [aSimple]
   split
   ·rename_i hk
    exact (word_vf (value_vf (g.parts _) (ih.subV g b d _))).go fun w j hw'=>ih.simple g _ _ _ _ _ _ hs hw (hL.snoc (aturning_kind hk) hw')
   split
   ·split
    ·rename_i s t hst
     have hset:settingA (akAt ts i)=some (s,t):=by
      split at hst
      ·exact hst
      ·cases hst
     exact (value_vf (setting_parts hset (g.parts i)) (setting_v hset (ih.subV g b d i))).at.go fun w j hw'=>ih.simple g _ _ _ _ _ _ (hs.snoc (setting_in hset).1 hw') hw hL
    ·exact (field_vf (g.parts i) (ih.subV g b d i)).at.go fun w j hw'=>ih.simple g _ _ _ _ _ _ hs (snoc_all hw hw') hL
   split
   ·exact .formA
   ·exact .ok (aaround_vf _ _ hL (made_vf _ _ hs hw))
  ·intro b d x hl
   rw [aSub]
   split
   ·exact .err
   ·split
    ·exact .err
    ·rename_i ts hq
     have hL:=ih.list (lexA_good x.text hl ts hq) (b+x.place+2) d 0
     split
     ·exact .none
     ·exact fun _ h=>by cases h
     ·rename_i l i he
      split
      ·exact .err
      ·exact .ok ⟨l,rfl,hL l i he⟩
end Go.Proofs.YtbfeoinoepoiaaaGreatDoor
namespace Go.Proofs.YtbfeoinoepoiaaaGreatDoor
set_option maxHeartbeats 8000000
open Go Go.RowKit
def parseA (L:List UInt8):Except (Nat × Option Nat) Prog :=
 match lexA L (L.length+1) 0 with
 | .error (c,p)=>.error (c,some p)
 | .ok ts=>match aList (36 * L.length+23) ts 0 0 0 with
  | none=>.error (0,none)
  | some (.error (c,p))=>.error (c,some p)
  | some (.ok (l,i)) =>
   if aIs ts i [0]=false then .error (108,some (akAt ts i).place)
   else match checkP l with
    | none=>.ok l
    | some (c,p)=>.error (c,if c=102 then some 0 else p)
theorem check_vf {l:Prog} (h:VF false l):checkP l=none∨checkP l=some (111,none)∨∃ p,checkP l=some (102,some p):=by
 unfold checkP
 split
 ·exact .inr (.inl rfl)
 ·obtain ⟨D,h⟩:=h
  obtain ⟨r,h1,h2,_⟩:=look_wf h l 0 l.length 1 true [] (3 * l.length) (by simp) (by omega) (fun _=>by omega) (Nat.le_refl _)
  rw [h1]
  rcases h2 with rfl | ⟨p,rfl⟩
  ·exact .inl rfl
  ·exact .inr (.inr ⟨p,rfl⟩)
theorem parseA_may (L:List UInt8) (hL:L.length≤8192):match parseA L with
  | .ok l=>checkP l=none∧∀ x∈l,okA x.kind=true
  | .error (c,p)=>(101≤c∧c≤111)∧((c=111∧p=none)∨∃ q,p=some q∧q≤L.length):=by
 unfold parseA
 cases hl:lexA L (L.length+1) 0 with
 | error e =>
  obtain ⟨c,p⟩:=e
  have:=lexA_err L (L.length+1) 0 c p hl
  exact ⟨by omega,.inr ⟨p,rfl,by omega⟩⟩
 | ok ts =>
  have g:=lexA_good L hL ts hl
  have hwt:=g.wt
  rw [← remA_zero] at hwt
  have hn:=(nnAllA (36 * L.length+23)).list g 0 0 0 g.pos (by omega)
  have hp:=(postAllA (36 * L.length+23)).list g 0 0 0 g.pos
  have hw:=(vAllA (36 * L.length+23)).list g 0 0 0
  dsimp only
  cases hx:aList (36 * L.length+23) ts 0 0 0 with
  | none=>exact absurd hx hn
  | some r =>
   cases r with
   | error e =>
    obtain ⟨c,p⟩:=e
    obtain ⟨h1,_,h2⟩:=hp.2 c p hx
    exact ⟨by omega,.inr ⟨_,rfl,by omega⟩⟩
   | ok y =>
    obtain ⟨l,i⟩:=y
    have hwf:=hw l i hx
    dsimp only
    split
    ·rename_i heq
     split at heq
     ·cases heq
     ·rcases check_vf hwf with h | h | ⟨p,h⟩
      ·rw [h] at heq
       cases heq
       obtain ⟨D,hD⟩:=hwf
       exact ⟨h,hD.kinds⟩
      ·rw [h] at heq; cases heq
      ·rw [h] at heq; cases heq
    ·rename_i heq
     split at heq
     ·cases heq
      exact ⟨by omega,.inr ⟨_,rfl,g.place i⟩⟩
     ·rcases check_vf hwf with h | h | ⟨p,h⟩
      ·rw [h] at heq; cases heq
      ·rw [h] at heq
       cases heq
       exact ⟨by omega,.inl ⟨rfl,rfl⟩⟩
      ·rw [h] at heq
       cases heq
       exact ⟨by omega,.inr ⟨0,rfl,Nat.zero_le _⟩⟩
theorem exA1:parseA [105,102,32,97] = .error (109,some 4):=by kernel_rfl
theorem exA2:parseA [102,105] = .error (108,some 0):=by kernel_rfl
end Go.Proofs.YtbfeoinoepoiaaaGreatDoor
namespace Go.Proofs.YtbfeoinoepoiaaaGreatDoor
set_option maxHeartbeats 8000000
open Go Go.RowKit
def LeP {α:Type} (x y:PRes α):Prop:=∀ r,x=some r→y=some r
def LeO {α:Type} (x y:POne α):Prop:=∀ r,x=some r→y=some r
section
variable {α β:Type}
theorem LeP.refl (x:PRes α):LeP x x:=fun _ h=>h
theorem LeP.none (y:PRes α):LeP none y:=fun _ h=>nomatch h
theorem LeO.refl (x:POne α):LeO x x:=fun _ h=>h
theorem LeO.none (y:POne α):LeO none y:=fun _ h=>nomatch h
theorem LeP.go {x y:PRes α} {k k':α→Nat→PRes β} (h:LeP x y) (hk:∀ a e,LeP (k a e) (k' a e)):LeP (x.go k) (y.go k'):=by
 intro r hr
 match x,h with
 | .none,_=>cases hr
 | some (.error e),h=>cases hr; rw [h _ rfl]; rfl
 | some (.ok (a,e)),h=>rw [h _ rfl]; exact hk a e r hr
theorem LeO.go {x y:POne α} {k k':α→POne β} (h:LeO x y) (hk:∀ a,LeO (k a) (k' a)):LeO (x.go k) (y.go k'):=by
 intro r hr
 match x,h with
 | .none,_=>cases hr
 | some (.error e),h=>cases hr; rw [h _ rfl]; rfl
 | some (.ok a),h=>rw [h _ rfl]; exact hk a r hr
theorem LeO.at {x y:POne α} (h:LeO x y) (i:Nat):LeP (x.at i) (y.at i):=by
 intro r hr
 match x,h with
 | .none,_=>cases hr
 | some (.error e),h=>cases hr; rw [h _ rfl]; rfl
 | some (.ok a),h=>cases hr; rw [h _ rfl]; rfl
theorem LeP.ite {c:Prop} [Decidable c] {a a' b b':PRes α} (h1:LeP a a') (h2:LeP b b'):LeP (if c then a else b) (if c then a' else b'):=by
 split
 ·exact h1
 ·exact h2
theorem LeO.ite {c:Prop} [Decidable c] {a a' b b':POne α} (h1:LeO a a') (h2:LeO b b'):LeO (if c then a else b) (if c then a' else b'):=by
 split
 ·exact h1
 ·exact h2
theorem LeP.want {ts:List ATok} {b i:Nat} {s:List UInt8} {k k':Nat→PRes α} (h:∀ e,LeP (k e) (k' e)):LeP (wantA ts b i s k) (wantA ts b i s k'):=LeP.ite (h _) (LeP.refl _)
end
section
variable {sub sub':APart→POne Prog} (h:∀ x,LeO (sub x) (sub' x))
include h
theorem items_le (x:APart):LeO (itemsA sub x) (itemsA sub' x):=LeO.ite (LeO.refl _) (LeO.ite (LeO.refl _) (LeO.ite (LeO.refl _) (h x)))
theorem piece_le (x:APart):LeO (pieceA sub x) (pieceA sub' x):=LeO.ite (LeO.refl _) (LeO.go (items_le h x) fun _=>LeO.refl _)
theorem alive_le {bare bare':APart→POne Prog} (hb:∀ x,LeO (bare x) (bare' x)) (x:APart):LeO (aliveA sub bare x) (aliveA sub' bare' x):=LeO.ite (LeO.refl _) (LeO.ite (LeO.refl _) (LeO.ite (hb x) (LeO.go (piece_le h x) fun _=>LeO.refl _)))
theorem parts_le:∀ (P:List APart),LeO (partsA sub P) (partsA sub' P)
 | []=>LeO.refl _
 | x :: P=>LeO.go (h x) fun _=>LeO.go (parts_le P) fun _=>LeO.refl _
theorem joined_le (b:Nat) (t:ATok):LeO (joinedA sub b t) (joinedA sub' b t):=LeO.go (parts_le h t.parts) fun _=>LeO.refl _
omit h in
theorem value_le (h:∀ x,LeO (sub x) (sub' x)) (b:Nat) (t:ATok):LeO (valueA sub b t) (valueA sub' b t):=joined_le (piece_le h) b t
theorem lives_le (b:Nat) (t:ATok):LeO (livesA sub b t) (livesA sub' b t):=LeO.ite (LeO.refl _) (joined_le (alive_le h (piece_le h)) b t)
theorem field_le (b:Nat) (t:ATok):LeO (fieldA sub b t) (fieldA sub' b t):=LeO.ite (LeO.refl _) (LeO.ite (value_le h b t) (LeO.go (joined_le (alive_le h (items_le h)) b t) fun _=>LeO.refl _))
end
structure MonoA (f:Nat):Prop where
 list:∀ ts b d i,LeP (aList f ts b d i) (aList (f+1) ts b d i)
 chains:∀ ts b d i l,LeP (aChains f ts b d i l) (aChains (f+1) ts b d i l)
 chain:∀ ts b d i,LeP (aChain f ts b d i) (aChain (f+1) ts b d i)
 chainR:∀ ts b d i o,LeP (aChainR f ts b d i o) (aChainR (f+1) ts b d i o)
 pipe:∀ ts b d i,LeP (aPipe f ts b d i) (aPipe (f+1) ts b d i)
 pipeR:∀ ts b d i l,LeP (aPipeR f ts b d i l) (aPipeR (f+1) ts b d i l)
 command:∀ ts b d i,LeP (aCommand f ts b d i) (aCommand (f+1) ts b d i)
 body:∀ ts b d i s t,LeP (aBody f ts b d i s t) (aBody (f+1) ts b d i s t)
 choice:∀ ts b d i,LeP (aChoice f ts b d i) (aChoice (f+1) ts b d i)
 whl:∀ ts b d i,LeP (aWhile f ts b d i) (aWhile (f+1) ts b d i)
 each:∀ ts b d i,LeP (aEach f ts b d i) (aEach (f+1) ts b d i)
 fields:∀ ts b d i l,LeP (aFields f ts b d i l) (aFields (f+1) ts b d i l)
 choose:∀ ts b d i,LeP (aChoose f ts b d i) (aChoose (f+1) ts b d i)
 cases:∀ ts b d i l,LeP (aCases f ts b d i l) (aCases (f+1) ts b d i l)
 function:∀ ts b d i s,LeP (aFunction f ts b d i s) (aFunction (f+1) ts b d i s)
 turns:∀ ts b d i c l,LeP (aTurns f ts b d i c l) (aTurns (f+1) ts b d i c l)
 simple:∀ ts b d i ss ws l,LeP (aSimple f ts b d i ss ws l) (aSimple (f+1) ts b d i ss ws l)
 sub:∀ b d x,LeO (aSub f b d x) (aSub (f+1) b d x)
theorem monoA:∀ f,MonoA f
 | 0=>by
  constructor <;> intros <;> intro r h <;> simp only [aList,aChains,aChain,aChainR,aPipe,aPipeR,aCommand,aBody,aChoice,aWhile,aEach,aFields,aChoose,aCases,aFunction,aTurns,aSimple,aSub] at h <;> cases h
 | f+1=>by
  have ih:=monoA f
  have hv:∀ d b t,LeO (valueA (fun x=>aSub f b d x) b t) (valueA (fun x=>aSub (f+1) b d x) b t):=fun d b t=>value_le (fun x=>ih.sub b d x) b t
  have hf:∀ d b t,LeO (fieldA (fun x=>aSub f b d x) b t) (fieldA (fun x=>aSub (f+1) b d x) b t):=fun d b t=>field_le (fun x=>ih.sub b d x) b t
  have hl:∀ d b t,LeO (livesA (fun x=>aSub f b d x) b t) (livesA (fun x=>aSub (f+1) b d x) b t):=fun d b t=>lives_le (fun x=>ih.sub b d x) b t
  have hwv:∀ d ts b i,LeP (wordOf (valueA (fun x=>aSub f b d x)) ts b i) (wordOf (valueA (fun x=>aSub (f+1) b d x)) ts b i):=fun d ts b i=>LeP.ite ((hv d b _).at _) (LeP.refl _)
  have hwl:∀ d ts b i,LeP (wordOf (livesA (fun x=>aSub f b d x)) ts b i) (wordOf (livesA (fun x=>aSub (f+1) b d x)) ts b i):=fun d ts b i=>LeP.ite ((hl d b _).at _) (LeP.refl _)
  refine ⟨?_,?_,?_,?_,?_,?_,?_,?_,?_,?_,?_,?_,?_,?_,?_,?_,?_,?_⟩
  ·intro ts b d i
   rw [aList,aList]
   exact .ite (.refl _) (ih.chains _ _ _ _ _)
  ·intro ts b d i l
   rw [aChains,aChains]
   exact .ite (.refl _) (.go (ih.chain _ _ _ _) fun _ _=>ih.chains _ _ _ _ _)
  ·intro ts b d i
   rw [aChain,aChain]
   exact .go (ih.pipe _ _ _ _) fun _ _=>ih.chainR _ _ _ _ _
  ·intro ts b d i o
   rw [aChainR,aChainR]
   exact .ite (.go (ih.pipe _ _ _ _) fun _ _=>ih.chainR _ _ _ _ _) (.refl _)
  ·intro ts b d i
   rw [aPipe,aPipe]
   exact .go (ih.pipeR _ _ _ _ _) fun _ _=>.refl _
  ·intro ts b d i l
   rw [aPipeR,aPipeR]
   exact .go (ih.command _ _ _ _) fun _ _=>.ite (ih.pipeR _ _ _ _ _) (.refl _)
  ·intro ts b d i
   rw [aCommand,aCommand]
   generalize bareA (akAt ts i)=o
   cases o with
   | none=>exact ih.simple _ _ _ _ _ _ _
   | some s =>
    exact .ite (.ite (ih.function _ _ _ _ _) (ih.simple _ _ _ _ _ _ _)) (.ite (.go (ih.list _ _ _ _) fun _ _=>.want fun _=>ih.turns _ _ _ _ _ _) (.ite (.go (ih.choice _ _ _ _) fun _ _=>ih.turns _ _ _ _ _ _)
     (.ite (.go (ih.whl _ _ _ _) fun _ _=>ih.turns _ _ _ _ _ _) (.ite (.go (ih.each _ _ _ _) fun _ _=>ih.turns _ _ _ _ _ _) (.ite (.go (ih.choose _ _ _ _) fun _ _=>ih.turns _ _ _ _ _ _) (.refl _))))))
  ·intro ts b d i s t
   rw [aBody,aBody]
   exact .want fun _=>.go (ih.list _ _ _ _) fun _ _=>.refl _
  ·intro ts b d i
   rw [aChoice,aChoice]
   exact .go (ih.body _ _ _ _ _ _) fun _ _=>.go (ih.body _ _ _ _ _ _) fun _ _=>.go (.ite (ih.body _ _ _ _ _ _) (.refl _)) fun _ _=>.refl _
  ·intro ts b d i
   rw [aWhile,aWhile]
   exact .go (ih.body _ _ _ _ _ _) fun _ _=>.go (ih.body _ _ _ _ _ _) fun _ _=>.refl _
  ·intro ts b d i
   rw [aEach,aEach]
   generalize bareA (akAt ts (aSk ts i))=o
   cases o with
   | none=>exact .refl _
   | some s=>exact .ite (.want fun _=>.go (ih.fields _ _ _ _ _) fun _ _=>.go (ih.body _ _ _ _ _ _) fun _ _=>.refl _) (.refl _)
  ·intro ts b d i l
   rw [aFields,aFields]
   exact .ite (.go ((hf d b _).at _) fun _ _=>ih.fields _ _ _ _ _) (.refl _)
  ·intro ts b d i
   rw [aChoose,aChoose]
   exact .go (hwv _ _ _ _) fun _ _=>.want fun _=>.go (ih.cases _ _ _ _ _) fun _ _=>.refl _
  ·intro ts b d i l
   rw [aCases,aCases]
   exact .ite (.refl _) (.go (hwl _ _ _ _) fun _ _=>.ite (.go (ih.list _ _ _ _) fun _ _=>ih.cases _ _ _ _ _) (.refl _))
  ·intro ts b d i s
   rw [aFunction,aFunction]
   exact .ite (.go (ih.body _ _ _ _ _ _) fun _ _=>.refl _) (.refl _)
  ·intro ts b d i c l
   rw [aTurns,aTurns]
   exact .ite (.go (hwv _ _ _ _) fun _ _=>ih.turns _ _ _ _ _ _) (.refl _)
  ·intro ts b d i ss ws l
   rw [aSimple,aSimple]
   refine .ite (.go (hwv _ _ _ _) fun _ _=>ih.simple _ _ _ _ _ _ _) (.ite ?_ (.refl _))
   generalize (if ws.length=0 then settingA (akAt ts i) else none)=o
   cases o with
   | none=>exact .go ((hf d b _).at _) fun _ _=>ih.simple _ _ _ _ _ _ _
   | some y=>exact .go ((hv d b _).at _) fun _ _=>ih.simple _ _ _ _ _ _ _
  ·intro b d x
   rw [aSub,aSub]
   refine .ite (.refl _) ?_
   cases lexA x.text (x.text.length+1) 0 with
   | error e=>exact .refl _
   | ok ts =>
    intro r hr
    have h:=ih.list ts (b+x.place+2) d 0
    dsimp only at hr ⊢
    cases hq:aList f ts (b+x.place+2) d 0 with
    | none=>rw [hq] at hr; cases hr
    | some q =>
     rw [h q hq]
     rw [hq] at hr
     exact hr
theorem LeP.le {α:Type} {fn:Nat→PRes α} (h:∀ f,LeP (fn f) (fn (f+1))) {f g:Nat} (hf:f≤g):LeP (fn f) (fn g):=by
 obtain ⟨k,rfl⟩:=Nat.exists_eq_add_of_le hf
 induction k with
 | zero=>exact .refl _
 | succ k ih=>exact fun r hr=>h (f+k) r (ih (by omega) r hr)
end Go.Proofs.YtbfeoinoepoiaaaGreatDoor
