/- Dialect A's parser, as plain functions: tokens that stand in a longer row, with an end of a list behind them, are parsed as they are alone, or are too deep. No program stands in it. -/
import Derived.Test.YtepebnblbheegaaGreatDoorGZJ
import Derived.Test.YtepebnblbheegaaGreatDoorGZH
namespace Go.Proofs.YtepebnblbheegaaGreatDoor
open Go Go.RowKit
structure Ext (ts ts':List ATok) (off n e:Nat):Prop where
 len:ts.length=n+1
 last:(akAt ts n).kind=0
 same:∀ k,k<n→stripT (akAt ts' (off+k))=stripT (akAt ts k)
 len':off+n+e<ts'.length
 nl:(akAt ts' (off+n)).kind=0∨(akAt ts' (off+n)).kind=1
 close:(akAt ts' (off+n+e)).kind=0∨(akAt ts' (off+n+e)).kind=13
 pass:∀ ks,(ks=[1]∨ks=[1,2])→∀ f,e≤f→aPassP ts' ks f (off+n)=off+n+e
 ends:aEnds ts' (off+n+e)=true
def J1 (off n:Nat) (i i':Nat):Prop:=i≤n∧i'=off+i
def JJ (off n e:Nat) (i i':Nat):Prop:=(i<n∧i'=off+i)∨(i=n∧(i'=off+n∨i'=off+n+e))
theorem J1.j {off n e i i':Nat} (h:J1 off n i i'):JJ off n e i i':=by
 obtain ⟨h1,rfl⟩:=h
 by_cases h2:i<n
 ·exact .inl ⟨h2,rfl⟩
 ·obtain rfl:i=n:=by omega
  exact .inr ⟨rfl,.inl rfl⟩
def JL (off n e:Nat) (i i':Nat):Prop:=(i<n∧i'=off+i)∨(i=n∧i'=off+n+e)
theorem JL.j {off n e i i':Nat} (h:JL off n e i i'):JJ off n e i i':=by
 rcases h with h | ⟨h,h2⟩
 ·exact .inl h
 ·exact .inr ⟨h,.inr h2⟩
def SimP {α:Type} (J:Nat→Nat→Prop) (x y:PRes α):Prop:=∀ a j,x=some (.ok (a,j))→(∃ j',y=some (.ok (a,j'))∧J j j')∨∃ p,y=some (.error (102,p))
def SimO {α:Type} (x y:POne α):Prop:=∀ a,x=some (.ok a)→y=some (.ok a)∨∃ p,y=some (.error (102,p))
section
variable {α β:Type} {J:Nat→Nat→Prop}
theorem SimP.err {c p:Nat} {y:PRes α}:SimP J (pErr c p) y:=fun _ _ h=>by cases h
theorem SimP.form {ts:List ATok} {b i:Nat} {y:PRes α}:SimP J (formA ts b i) y:=fun _ _ h=>by cases h
theorem SimP.ok {a:α} {j j':Nat} (h:J j j'):SimP J (pOk a j) (pOk a j'):=fun _ _ h'=>by cases h'; exact .inl ⟨j',rfl,h⟩
theorem SimP.go {x y:PRes α} {k k':α→Nat→PRes β} {J':Nat→Nat→Prop} (h:SimP J' x y) (hk:∀ a j j',J' j j'→SimP J (k a j) (k' a j')):SimP J (x.go k) (y.go k'):=by
 intro a j hx
 match x,h with
 | .none,_=>cases hx
 | some (.error e),_=>cases hx
 | some (.ok (c,i)),h =>
  rcases h c i rfl with ⟨i',e1,e2⟩ | ⟨p,e1⟩
  ·rw [e1]; exact hk c i i' e2 a j hx
  ·rw [e1]; exact .inr ⟨p,rfl⟩
theorem SimP.mono {x y:PRes α} {J':Nat→Nat→Prop} (h:SimP J' x y) (hJ:∀ j j',J' j j'→J j j'):SimP J x y:=fun a j hx=>by
 rcases h a j hx with ⟨j',e1,e2⟩ | h
 ·exact .inl ⟨j',e1,hJ _ _ e2⟩
 ·exact .inr h
theorem SimO.go {x y:POne α} {k k':α→POne β} (h:SimO x y) (hk:∀ a,SimO (k a) (k' a)):SimO (x.go k) (y.go k'):=by
 intro a hx
 match x,h with
 | .none,_=>cases hx
 | some (.error e),_=>cases hx
 | some (.ok c),h =>
  rcases h c rfl with e1 | ⟨p,e1⟩
  ·rw [e1]; exact hk c a hx
  ·rw [e1]; exact .inr ⟨p,rfl⟩
theorem SimO.at {x y:POne α} (h:SimO x y) {i i':Nat} (hi:J i i'):SimP J (x.at i) (y.at i'):=by
 intro a j hx
 match x,h with
 | .none,_=>cases hx
 | some (.error e),_=>cases hx
 | some (.ok c),h =>
  cases hx
  rcases h _ rfl with e1 | ⟨p,e1⟩
  ·rw [e1]; exact .inl ⟨i',rfl,hi⟩
  ·rw [e1]; exact .inr ⟨p,rfl⟩
theorem SimO.refl (x:POne α):SimO x x:=fun _ h=>.inl h
theorem SimO.err {c p:Nat} {y:POne α}:SimO (oErr c p) y:=fun _ h=>by cases h
theorem SimP.ite {c c':Prop} [Decidable c] [Decidable c'] {a a' b b':PRes α} (hc:c ↔ c') (h1:c→SimP J a a') (h2:¬ c→SimP J b b'):SimP J (if c then a else b) (if c' then a' else b'):=by
 by_cases h:c
 ·rw [if_pos h,if_pos (hc.1 h)]; exact h1 h
 ·rw [if_neg h,if_neg fun h'=>h (hc.2 h')]; exact h2 h
theorem SimO.ite {c c':Prop} [Decidable c] [Decidable c'] {a a' b b':POne α} (hc:c ↔ c') (h1:c→SimO a a') (h2:¬ c→SimO b b'):SimO (if c then a else b) (if c' then a' else b'):=by
 by_cases h:c
 ·rw [if_pos h,if_pos (hc.1 h)]; exact h1 h
 ·rw [if_neg h,if_neg fun h'=>h (hc.2 h')]; exact h2 h
end
section
variable {x x':APart} {t t':ATok}
theorem strip_part (h:stripP x'=stripP x):x'.kind=x.kind∧x'.num=x.num∧x'.quoted=x.quoted∧x'.text=x.text:=by
 unfold stripP at h
 obtain ⟨k,p,n,q,s⟩:=x
 obtain ⟨k',p',n',q',s'⟩:=x'
 simp only [APart.mk.injEq] at h
 obtain ⟨h1,-,h3,h4,h5⟩:=h
 exact ⟨h1,h3,h4,h5⟩
theorem strip_tok (h:stripT t'=stripT t):t'.kind=t.kind∧t'.parts.map stripP=t.parts.map stripP:=by
 unfold stripT at h
 injection h with h1 h2 h3
 exact ⟨h1,h3⟩
theorem bare_strip (h:stripT t'=stripT t):bareA t'=bareA t:=by rw [← strip_bare t',h,strip_bare]
theorem fText_strip (P:List APart):fText (P.map stripP)=fText P:=by
 unfold fText
 rw [List.flatMap_map]
 rfl
theorem fDollars_strip (P:List APart):fDollars (P.map stripP)=fDollars P:=by
 unfold fDollars
 rw [List.any_map]
 rfl
theorem fBare_strip (P:List APart):fBare (P.map stripP)=fBare P:=by
 unfold fBare
 rw [List.any_map]
 rfl
theorem fPats_strip (P:List APart):fPats (P.map stripP)=fPats P:=by
 unfold fPats
 rw [List.any_map]
 rfl
end
def SubS (sub sub':APart→POne Prog):Prop:=∀ x x',stripP x'=stripP x→SimO (sub x) (sub' x')
section
variable {sub sub':APart→POne Prog} (h:SubS sub sub')
include h
theorem items_sim:SubS (itemsA sub) (itemsA sub'):=fun x x' e=>by
 obtain ⟨e1,e2,e3,e4⟩:=strip_part e
 unfold itemsA
 rw [e1,e2,e4]
 exact .ite .rfl (fun _=>.refl _) fun _=>.ite .rfl (fun _=>.refl _) fun _=>.ite .rfl (fun _=>.refl _) fun _=>h _ _ e
theorem piece_sim:SubS (pieceA sub) (pieceA sub'):=fun x x' e=>by
 obtain ⟨e1,e2,e3,e4⟩:=strip_part e
 unfold pieceA
 rw [e1,e4]
 exact .ite .rfl (fun _=>.refl _) fun _=>.go (items_sim h _ _ e) fun _=>.refl _
theorem alive_sim {bare bare':APart→POne Prog} (hb:SubS bare bare'):SubS (aliveA sub bare) (aliveA sub' bare'):=fun x x' e=>by
 obtain ⟨e1,e2,e3,e4⟩:=strip_part e
 unfold aliveA
 rw [e1,e3,e4]
 exact .ite .rfl (fun _=>.refl _) fun _=>.ite .rfl (fun _=>.refl _) fun _=>.ite .rfl (fun _=>hb _ _ e) fun _=>.go (piece_sim h _ _ e) fun _=>.refl _
theorem parts_sim:∀ (P P':List APart),P'.map stripP=P.map stripP→SimO (partsA sub P) (partsA sub' P')
 | [],[],_=>.refl _
 | [],_ :: _,e=>by simp at e
 | _ :: _,[],e=>by simp at e
 | x :: P,x' :: P',e=>by
  rw [List.map_cons,List.map_cons] at e
  injection e with e1 e2
  exact .go (h _ _ e1) fun _=>.go (parts_sim P P' e2) fun _=>.refl _
omit h in
theorem fits_sim (b b':Nat) (t t':ATok) (l:Prog):SimO (fitsA b t l) (fitsA b' t' l):=by
 unfold fitsA
 exact .ite .rfl (fun _=>.err) fun _=>.refl _
theorem joined_sim {t t':ATok} (b b':Nat) (e:stripT t'=stripT t):SimO (joinedA sub b t) (joinedA sub' b' t'):=.go (parts_sim h _ _ (strip_tok e).2) fun _=>fits_sim _ _ _ _ _
theorem value_sim {t t':ATok} (b b':Nat) (e:stripT t'=stripT t):SimO (valueA sub b t) (valueA sub' b' t'):=joined_sim (piece_sim h) b b' e
theorem lives_sim {t t':ATok} (b b':Nat) (e:stripT t'=stripT t):SimO (livesA sub b t) (livesA sub' b' t'):=by
 unfold livesA
 refine .ite ?_ (fun _=>.refl _) fun _=>joined_sim (alive_sim h (piece_sim h)) b b' e
 rw [← List.map_eq_nil_iff (f:=stripP) (l:=t.parts),← List.map_eq_nil_iff (f:=stripP) (l:=t'.parts),(strip_tok e).2]
theorem field_sim {t t':ATok} (b b':Nat) (e:stripT t'=stripT t):SimO (fieldA sub b t) (fieldA sub' b' t'):=by
 unfold fieldA
 have e2:=(strip_tok e).2
 have a1:fText t'.parts=fText t.parts:=by rw [← fText_strip,e2,fText_strip]
 have a2:fDollars t'.parts=fDollars t.parts:=by rw [← fDollars_strip,e2,fDollars_strip]
 have a3:fBare t'.parts=fBare t.parts:=by rw [← fBare_strip,e2,fBare_strip]
 have a4:fPats t'.parts=fPats t.parts:=by rw [← fPats_strip,e2,fPats_strip]
 rw [a1,a2,a3,a4]
 exact .ite .rfl (fun _=>fits_sim _ _ _ _ _) fun _=>.ite .rfl (fun _=>value_sim h b b' e) fun _=>.go (joined_sim (alive_sim h (items_sim h)) b b' e) fun _=>.refl _
end
theorem setting_strip {t t':ATok} (e:stripT t'=stripT t):(settingA t=none∧settingA t'=none)∨∃ n u u',settingA t=some (n,u)∧settingA t'=some (n,u')∧stripT u'=stripT u:=by
 obtain ⟨k,pl,P⟩:=t
 obtain ⟨k',pl',P'⟩:=t'
 obtain ⟨e1,e2⟩:=strip_tok e
 dsimp only at e1 e2
 subst e1
 cases P with
 | nil =>
  cases P' with
  | nil=>exact .inl ⟨rfl,rfl⟩
  | cons a b=>simp at e2
 | cons p ps =>
  cases P' with
  | nil=>simp at e2
  | cons p' ps' =>
   rw [List.map_cons,List.map_cons] at e2
   injection e2 with e2 e3
   obtain ⟨a1,a2,a3,a4⟩:=strip_part e2
   unfold settingA
   dsimp only
   rw [a1,a4]
   by_cases h1:p.kind=1
   ·rw [if_pos h1,if_pos h1]
    cases idxA 61 p.text with
    | none=>exact .inl ⟨rfl,rfl⟩
    | some m =>
     dsimp only
     by_cases h2:nameB (p.text.take m)=true
     ·rw [if_pos h2,if_pos h2]
      refine .inr ⟨_,_,_,rfl,rfl,?_⟩
      unfold stripT stripP
      dsimp only
      rw [List.map_cons,List.map_cons]
      unfold stripP at e3
      rw [e3,a2,a3]
     ·rw [if_neg h2,if_neg h2]
      exact .inl ⟨rfl,rfl⟩
   ·rw [if_neg h1,if_neg h1]
    exact .inl ⟨rfl,rfl⟩
section
variable {ts ts':List ATok} {off n e i i':Nat} (E:Ext ts ts' off n e)
include E
theorem Ext.skip (h:i<n):J1 off n (aSk ts i) (aSk ts' (off+i)):=by
 have h1:=E.len
 have h2:=E.len'
 unfold aSk J1
 omega
theorem Ext.sk (h:i<n):aSk ts i=i+1:=by
 have h1:=E.len
 unfold aSk
 omega
theorem Ext.sk' (h:i<n):aSk ts' (off+i)=off+(i+1):=by
 have h2:=E.len'
 unfold aSk
 omega
theorem Ext.is (h:i<n) (ks:List Nat):aIs ts' (off+i) ks=aIs ts i ks:=by
 unfold aIs
 rw [(strip_tok (E.same i h)).1]
theorem Ext.bare (h:i<n):bareA (akAt ts' (off+i))=bareA (akAt ts i):=bare_strip (E.same i h)
theorem Ext.key (h:i<n) (l:List (List UInt8)):aKey ts' (off+i) l=aKey ts i l:=by
 unfold aKey
 rw [E.bare h]
theorem Ext.turning (h:i<n):aTurning ts' (off+i)=aTurning ts i:=E.is h _
theorem Ext.endsAt (h:i<n):aEnds ts' (off+i)=aEnds ts i:=by
 unfold aEnds
 rw [E.is h,E.key h]
theorem Ext.isEnd (ks:List Nat) (h0:0 ∉ ks):aIs ts n ks=false:=by
 unfold aIs
 rw [E.last,← Bool.not_eq_true,List.contains_iff_mem]
 exact h0
theorem Ext.bareEnd:bareA (akAt ts n)=none:=by
 unfold bareA
 rw [E.last,if_neg (by decide)]
theorem Ext.keyEnd (l:List (List UInt8)):aKey ts n l=false:=by
 unfold aKey
 rw [E.bareEnd]
theorem Ext.skEnd:aSk ts n=n:=by
 have h1:=E.len
 unfold aSk
 omega
theorem Ext.isClose (ks:List Nat) (h0:0 ∉ ks) (h1:1 ∉ ks) (h13:13 ∉ ks) (hi:i'=off+n∨i'=off+n+e):aIs ts' i' ks=false:=by
 unfold aIs
 rw [← Bool.not_eq_true,List.contains_iff_mem]
 intro hm
 rcases hi with rfl | rfl
 ·rcases E.nl with h | h <;> rw [h] at hm
  ·exact h0 hm
  ·exact h1 hm
 ·rcases E.close with h | h <;> rw [h] at hm
  ·exact h0 hm
  ·exact h13 hm
theorem Ext.passP (ks:List Nat) (hk:ks=[1]∨ks=[1,2]):∀ (f g i:Nat),i≤n→n - i≤f→n - i+e≤g→(aPassP ts ks f i<n∧aPassP ts' ks g (off+i)=off+aPassP ts ks f i)∨(aPassP ts ks f i=n∧aPassP ts' ks g (off+i)=off+n+e)
 | f,g,i,hi,hf,hg=>by
  by_cases h:i<n
  ·obtain ⟨f,rfl⟩:∃ q,f=q+1:=⟨f - 1,by omega⟩
   obtain ⟨g,rfl⟩:∃ q,g=q+1:=⟨g - 1,by omega⟩
   rw [aPassP,aPassP,E.is h]
   by_cases h2:aIs ts i ks=true
   ·rw [if_pos h2,if_pos h2,E.sk h,E.sk' h]
    exact Ext.passP ks hk f g (i+1) (by omega) (by omega) (by omega)
   ·rw [if_neg h2,if_neg h2]
    exact .inl ⟨h,rfl⟩
  ·obtain rfl:i=n:=by omega
   refine .inr ⟨?_,E.pass ks hk g (by omega)⟩
   have h3:aIs ts i ks=false:=E.isEnd ks (by rcases hk with rfl | rfl <;> decide)
   cases f with
   | zero=>rfl
   | succ f=>rw [aPassP,h3,if_neg Bool.false_ne_true]
theorem Ext.passJ (ks:List Nat) (hk:ks=[1]∨ks=[1,2]) (hi:JJ off n e i i'):(aPass ts ks i<n∧aPass ts' ks i'=off+aPass ts ks i∧i<n∧i'=off+i)∨(aPass ts ks i=n∧aPass ts' ks i'=off+n+e):=by
 have h1:=E.len
 have h2:=E.len'
 unfold aPass
 rcases hi with ⟨h3,rfl⟩ | ⟨rfl,rfl | rfl⟩
 ·rcases E.passP ks hk ts.length ts'.length i (by omega) (by omega) (by omega) with ⟨a,b⟩ | h
  ·exact .inl ⟨a,b,h3,rfl⟩
  ·exact .inr h
 ·rcases E.passP ks hk ts.length ts'.length i (by omega) (by omega) (by omega) with ⟨a,b⟩ | h
  ·exfalso
   have h3:aIs ts i ks=false:=E.isEnd ks (by rcases hk with rfl | rfl <;> decide)
   have h4:aPassP ts ks ts.length i=i:=by
    rw [h1,aPassP,h3,if_neg Bool.false_ne_true]
   omega
  ·exact .inr h
 ·refine .inr ⟨?_,?_⟩
  ·have h3:aIs ts i ks=false:=E.isEnd ks (by rcases hk with rfl | rfl <;> decide)
   rw [h1,aPassP,h3,if_neg Bool.false_ne_true]
  ·have h3:aIs ts' (off+i+e) ks=false:=by
    unfold aIs
    rw [← Bool.not_eq_true,List.contains_iff_mem]
    intro hm
    rcases E.close with h | h <;> rw [h] at hm <;> rcases hk with rfl | rfl <;> simp at hm
   cases ts'.length with
   | zero=>rfl
   | succ f=>rw [aPassP,h3,if_neg Bool.false_ne_true]
theorem Ext.passI (ks:List Nat) (hk:ks=[1]∨ks=[1,2]) (hi:JJ off n e i i'):JJ off n e (aPass ts ks i) (aPass ts' ks i'):=by
 rcases E.passJ ks hk hi with ⟨h1,h2,-,-⟩ | ⟨h1,h2⟩
 ·exact .inl ⟨h1,h2⟩
 ·exact .inr ⟨h1,.inr h2⟩
theorem Ext.want {α:Type} {J:Nat→Nat→Prop} {b b':Nat} {s:List UInt8} {k k':Nat→PRes α} (hi:JJ off n e i i') (hk:∀ j j',J1 off n j j'→SimP J (k j) (k' j')):SimP J (wantA ts b i s k) (wantA ts' b' i' s k'):=by
 unfold wantA
 rcases hi with ⟨h,rfl⟩ | ⟨rfl,-⟩
 ·rw [E.key h]
  exact .ite .rfl (fun _=>hk _ _ (E.skip h)) fun _=>.form
 ·rw [E.keyEnd,if_neg Bool.false_ne_true]
  exact .form
theorem Ext.wordOf {J:Nat→Nat→Prop} {aq aq':Nat→ATok→POne Prog} {b b':Nat} (hi:JJ off n e i i') (h:∀ t t',stripT t'=stripT t→SimO (aq b t) (aq' b' t')) (hJ:∀ j j',J1 off n j j'→J j j'):SimP J (wordOf aq ts b i) (wordOf aq' ts' b' i'):=by
 unfold Go.Proofs.YtepebnblbheegaaGreatDoor.wordOf
 rcases hi with ⟨hi,rfl⟩ | ⟨rfl,-⟩
 ·rw [E.is hi]
  exact .ite .rfl (fun _=>(h _ _ (E.same i hi)).at (hJ _ _ (E.skip hi))) fun _=>.form
 ·rw [E.isEnd _ (by decide),if_neg Bool.false_ne_true]
  exact .form
end
def SimF {α:Type} (X:List ATok→Nat→Nat→Nat→PRes α):Prop:=∀ ts ts' off n e,Ext ts ts' off n e→∀ b b' d d' i i',JJ off n e i i'→SimP (JJ off n e) (X ts b d i) (X ts' b' d' i')
def SimF1 {α:Type} (X:List ATok→Nat→Nat→Nat→PRes α):Prop:=∀ ts ts' off n e,Ext ts ts' off n e→∀ b b' d d' i i',J1 off n i i'→SimP (JJ off n e) (X ts b d i) (X ts' b' d' i')
def SimL {α:Type} (X:List ATok→Nat→Nat→Nat→PRes α):Prop:=∀ ts ts' off n e,Ext ts ts' off n e→∀ b b' d d' i i',JJ off n e i i'→SimP (JL off n e) (X ts b d i) (X ts' b' d' i')
structure SimA (f:Nat):Prop where
 list:SimL fun ts b d i=>aList f ts b d i
 chains:∀ l,SimL fun ts b d i=>aChains f ts b d i l
 chain:SimF fun ts b d i=>aChain f ts b d i
 chainR:∀ o,SimF fun ts b d i=>aChainR f ts b d i o
 pipe:SimF fun ts b d i=>aPipe f ts b d i
 pipeR:∀ l,SimF fun ts b d i=>aPipeR f ts b d i l
 command:SimF fun ts b d i=>aCommand f ts b d i
 body:∀ s t,SimF fun ts b d i=>aBody f ts b d i s t
 choice:SimF fun ts b d i=>aChoice f ts b d i
 whl:SimF fun ts b d i=>aWhile f ts b d i
 each:SimF fun ts b d i=>aEach f ts b d i
 fields:∀ l,SimF1 fun ts b d i=>aFields f ts b d i l
 choose:SimF fun ts b d i=>aChoose f ts b d i
 cases:∀ l,SimF fun ts b d i=>aCases f ts b d i l
 function:∀ s,SimF fun ts b d i=>aFunction f ts b d i s
 turns:∀ c l,SimF fun ts b d i=>aTurns f ts b d i c l
 simple:∀ ss ws l,SimF1 fun ts b d i=>aSimple f ts b d i ss ws l
 sub:∀ b b' d d',SubS (fun x=>aSub f b d x) (fun x=>aSub f b' d' x)
theorem lexA_last (L:List UInt8) (ts:List ATok) (h:lexA L (L.length+1) 0 = .ok ts):∃ us t,ts=us++[t]∧t.kind=0:=by
 obtain ⟨-,-,v,h3,h4⟩:=lexA_in L _ 0 ts (Nat.zero_le _) (by omega) h
 obtain ⟨us,rfl⟩:=List.getLast?_eq_some_iff.1 h3
 exact ⟨us,v,rfl,h4⟩
theorem Ext.self {us:List ATok} {t:ATok} (h:t.kind=0):Ext (us++[t]) (us++[t]) 0 us.length 0:=by
 have hk:akAt (us++[t]) us.length=t:=by unfold akAt; simp [List.getD_eq_getElem?_getD]
 refine ⟨by simp,by rw [hk]; exact h,fun k _=>by rw [Nat.zero_add],by simp,?_,?_,?_,?_⟩
 ·left; rw [Nat.zero_add,hk]; exact h
 ·left; rw [Nat.add_zero,Nat.zero_add,hk]; exact h
 ·intro ks hks f _
  rw [Nat.zero_add,Nat.add_zero]
  cases f with
  | zero=>rfl
  | succ f =>
   rw [aPassP,if_neg]
   unfold aIs
   rw [hk,h]
   rcases hks with rfl | rfl <;> decide
 ·rw [Nat.add_zero,Nat.zero_add]
  unfold aEnds aIs
  rw [hk,h]
  rfl
theorem simA:∀ f,SimA f
 | 0=>by
  constructor <;> simp [SimL,SimF,SimF1,SubS,SimP,SimO,aList,aChains,aChain,aChainR,aPipe,aPipeR,aCommand,aBody,aChoice,aWhile,aEach,aFields,aChoose,aCases,aFunction,aTurns,aSimple,aSub]
 | f+1=>by
  have ih:=simA f
  have hv:∀ b b' d d' t t',stripT t'=stripT t→SimO (valueA (fun x=>aSub f b d x) b t) (valueA (fun x=>aSub f b' d' x) b' t'):=fun b b' d d' t t' e=>value_sim (ih.sub b b' d d') b b' e
  have hf:∀ b b' d d' t t',stripT t'=stripT t→SimO (fieldA (fun x=>aSub f b d x) b t) (fieldA (fun x=>aSub f b' d' x) b' t'):=fun b b' d d' t t' e=>field_sim (ih.sub b b' d d') b b' e
  have hl:∀ b b' d d' t t',stripT t'=stripT t→SimO (livesA (fun x=>aSub f b d x) b t) (livesA (fun x=>aSub f b' d' x) b' t'):=fun b b' d d' t t' e=>lives_sim (ih.sub b b' d d') b b' e
  refine ⟨?_,?_,?_,?_,?_,?_,?_,?_,?_,?_,?_,?_,?_,?_,?_,?_,?_,?_⟩
  ·intro ts ts' off n e E b b' d d' i i' hi
   dsimp only
   rw [aList,aList]
   by_cases h:30<d'+1
   ·rw [if_pos h]
    exact fun _ _ _=>.inr ⟨_,rfl⟩
   ·rw [if_neg h]
    split
    ·exact .err
    ·exact ih.chains [] ts ts' off n e E b b' (d+1) (d'+1) i i' hi
  ·intro l ts ts' off n e E b b' d d' i i' hi
   dsimp only
   rw [aChains,aChains]
   rcases E.passJ [1,2] (.inr rfl) hi with ⟨h1,h2,h3,rfl⟩ | ⟨h1,h2⟩
   ·rw [h2,E.endsAt h1]
    refine .ite ?_ (fun _=>.ok (.inl ⟨h1,rfl⟩)) fun _=>.go (ih.chain ts ts' off n e E b b' d d' _ _ (.inl ⟨h1,rfl⟩)) fun _ j j' hj=>ih.chains _ ts ts' off n e E b b' d d' j j' hj
    rw [Nat.add_left_cancel_iff]
   ·rw [h1,h2,if_pos (.inl (by unfold aEnds aIs; rw [E.last]; rfl)),if_pos (.inl E.ends)]
    exact .ok (.inr ⟨rfl,rfl⟩)
  ·intro ts ts' off n e E b b' d d' i i' hi
   dsimp only
   rw [aChain,aChain]
   exact .go (ih.pipe ts ts' off n e E b b' d d' _ _ hi) fun _ j j' hj=>ih.chainR _ ts ts' off n e E b b' d d' j j' hj
  ·intro o ts ts' off n e E b b' d d' i i' hi
   dsimp only
   rw [aChainR,aChainR]
   rcases hi with ⟨h,rfl⟩ | ⟨rfl,h⟩
   ·rw [E.is h,E.is h]
    exact .ite .rfl (fun _=>.go (ih.pipe ts ts' off n e E b b' d d' _ _ (E.passI [1] (.inl rfl) (E.skip h).j)) fun _ j j' hj=>ih.chainR _ ts ts' off n e E b b' d d' j j' hj) fun _=>.ok (.inl ⟨h,rfl⟩)
   ·rw [E.isEnd _ (by decide),if_neg Bool.false_ne_true,E.isClose [4,5] (by decide) (by decide) (by decide) h,if_neg Bool.false_ne_true]
    exact .ok (.inr ⟨rfl,h⟩)
  ·intro ts ts' off n e E b b' d d' i i' hi
   dsimp only
   rw [aPipe,aPipe]
   rcases hi with ⟨h,rfl⟩ | ⟨rfl,h⟩
   ·rw [E.key h]
    refine .go (ih.pipeR _ ts ts' off n e E b b' d d' _ _ ?_) fun _ j j' hj=>.ok hj
    split
    ·exact (E.skip h).j
    ·exact .inl ⟨h,rfl⟩
   ·rw [E.keyEnd,if_neg Bool.false_ne_true]
    intro a j hx
    exfalso
    cases f with
    | zero=>rw [aPipeR] at hx; cases hx
    | succ f =>
     rw [aPipeR] at hx
     cases f with
     | zero=>rw [aCommand] at hx; cases hx
     | succ f =>
      rw [aCommand,E.bareEnd] at hx
      dsimp only at hx
      cases f with
      | zero=>rw [aSimple] at hx; cases hx
      | succ f =>
       rw [aSimple,if_neg (by unfold aTurning; rw [E.isEnd _ (by decide)]; simp),if_neg (by rw [E.isEnd _ (by decide)]; simp),if_pos (show ([]:List (List UInt8 × Prog)).length+([]:List Prog).length+([]:List (Nat × Prog)).length=0 from rfl)] at hx
       cases hx
  ·intro l ts ts' off n e E b b' d d' i i' hi
   dsimp only
   rw [aPipeR,aPipeR]
   refine .go (ih.command ts ts' off n e E b b' d d' _ _ hi) fun c j j' hj=>?_
   rcases hj with ⟨h,rfl⟩ | ⟨rfl,h⟩
   ·rw [E.is h]
    exact .ite .rfl (fun _=>ih.pipeR _ ts ts' off n e E b b' d d' _ _ (E.passI [1] (.inl rfl) (E.skip h).j)) fun _=>.ok (.inl ⟨h,rfl⟩)
   ·rw [E.isEnd _ (by decide),if_neg Bool.false_ne_true,E.isClose [6] (by decide) (by decide) (by decide) h,if_neg Bool.false_ne_true]
    exact .ok (.inr ⟨rfl,h⟩)
  ·intro ts ts' off n e E b b' d d' i i' hi
   dsimp only
   rw [aCommand,aCommand]
   rcases hi with ⟨h,rfl⟩ | ⟨rfl,h⟩
   ·rw [E.bare h]
    have hj:J1 off n i (off+i):=⟨by omega,rfl⟩
    cases hb:bareA (akAt ts i) with
    | none=>exact ih.simple [] [] [] ts ts' off n e E b b' d d' _ _ hj
    | some s =>
     have hJ:JJ off n e i (off+i):=.inl ⟨h,rfl⟩
     have hS:=(E.skip h).j (e:=e)
     have hT:∀ (l:Prog) (j j':Nat),JJ off n e j j'→SimP (JJ off n e) (aTurns f ts b d j l []) (aTurns f ts' b' d' j' l []):=fun l j j' hj=>ih.turns l [] ts ts' off n e E b b' d d' j j' hj
     refine .ite .rfl (fun _=>.ite ?_ (fun _=>ih.function s ts ts' off n e E b b' d d' _ _ hJ) fun _=>ih.simple [] [] [] ts ts' off n e E b b' d d' _ _ hj) fun _=>?_
     ·by_cases h2:i+1<n
      ·rw [E.sk h,E.sk' h,(strip_tok (E.same (i+1) h2)).1]
      ·obtain rfl:n=i+1:=by omega
       rw [E.sk h,E.sk' h,E.last]
       constructor
       ·rintro ⟨_,h3⟩; omega
       ·rintro ⟨_,h3⟩
        rcases E.nl with h4 | h4 <;> omega
     ·exact .ite .rfl (fun _=>.go (ih.list ts ts' off n e E b b' d d' _ _ hS) fun l j j' hj=>E.want hj.j fun a a' ha=>hT l _ _ ha.j)
       fun _=>.ite .rfl (fun _=>.go (ih.choice ts ts' off n e E b b' d d' _ _ hJ) hT)
       fun _=>.ite .rfl (fun _=>.go (ih.whl ts ts' off n e E b b' d d' _ _ hJ) hT)
       fun _=>.ite .rfl (fun _=>.go (ih.each ts ts' off n e E b b' d d' _ _ hJ) hT)
       fun _=>.ite .rfl (fun _=>.go (ih.choose ts ts' off n e E b b' d d' _ _ hJ) hT) fun _=>.form
   ·rw [E.bareEnd]
    intro a j hx
    exfalso
    cases f with
    | zero=>rw [aSimple] at hx; cases hx
    | succ f =>
     dsimp only at hx
     rw [aSimple,if_neg (by unfold aTurning; rw [E.isEnd _ (by decide)]; simp),if_neg (by rw [E.isEnd _ (by decide)]; simp),if_pos (show ([]:List (List UInt8 × Prog)).length+([]:List Prog).length+([]:List (Nat × Prog)).length=0 from rfl)] at hx
     cases hx
  ·intro s t ts ts' off n e E b b' d d' i i' hi
   dsimp only
   rw [aBody,aBody]
   refine E.want hi fun j j' hj=>.go (ih.list ts ts' off n e E b b' d d' _ _ hj.j) fun l k k' hk=>?_
   exact .ite .rfl (fun _=>.ok hk.j) fun _=>E.want hk.j fun g g' hg=>.ok hg.j
  ·intro ts ts' off n e E b b' d d' i i' hi
   dsimp only
   rw [aChoice,aChoice]
   refine .go (ih.body _ _ ts ts' off n e E b b' d d' _ _ hi) fun c j j' hj=>.go (ih.body _ _ ts ts' off n e E b b' d d' _ _ hj) fun yes k k' hk=>?_
   rcases hk with ⟨h,rfl⟩ | ⟨rfl,h⟩
   ·rw [E.key h]
    exact .go (J':=JJ off n e) (.ite .rfl (fun _=>ih.body _ _ ts ts' off n e E b b' d d' _ _ (.inl ⟨h,rfl⟩)) fun _=>.ok (.inl ⟨h,rfl⟩)) fun _ g g' hg=>E.want hg fun g g' hg=>.ok hg.j
   ·rw [E.keyEnd,if_neg Bool.false_ne_true]
    intro a j hx
    exfalso
    have hx2:(wantA ts b k [102,105] fun g=>pOk (newP 24 0 [] [c,yes,seqP []]) g)=some (.ok (a,j)):=hx
    unfold wantA at hx2
    rw [E.keyEnd,if_neg Bool.false_ne_true] at hx2
    cases hx2
  ·intro ts ts' off n e E b b' d d' i i' hi
   dsimp only
   rw [aWhile,aWhile]
   exact .go (ih.body _ _ ts ts' off n e E b b' d d' _ _ hi) fun _ j j' hj=>.go (ih.body _ _ ts ts' off n e E b b' d d' _ _ hj) fun _ k k' hk=>.ok hk
  ·intro ts ts' off n e E b b' d d' i i' hi
   dsimp only
   rw [aEach,aEach]
   rcases hi with ⟨h,rfl⟩ | ⟨rfl,h⟩
   ·rw [E.sk h,E.sk' h]
    by_cases h2:i+1<n
    ·rw [E.bare h2]
     cases hb:bareA (akAt ts (i+1)) with
     | none=>exact .form
     | some s =>
      exact .ite .rfl (fun _=>E.want (E.skip h2).j fun a a' ha=>.go (ih.fields [] ts ts' off n e E b b' d d' _ _ ha) fun ws j j' hj=>.go (ih.body _ _ ts ts' off n e E b b' d d' _ _ (E.passI [1,2] (.inr rfl) hj)) fun _ k k' hk=>.ok hk) fun _=>.form
    ·obtain rfl:n=i+1:=by omega
     rw [E.bareEnd]
     exact .form
   ·rw [E.skEnd,E.bareEnd]
    exact .form
  ·intro l ts ts' off n e E b b' d d' i i' hi
   dsimp only
   rw [aFields,aFields]
   obtain ⟨h1,rfl⟩:=hi
   by_cases h:i<n
   ·rw [E.is h]
    exact .ite .rfl (fun _=>.go (J':=J1 off n) ((hf b b' d d' _ _ (E.same i h)).at (E.skip h)) fun w j j' hj=>ih.fields _ ts ts' off n e E b b' d d' _ _ hj) fun _=>.ok (.inl ⟨h,rfl⟩)
   ·obtain rfl:i=n:=by omega
    have h3:aIs ts' (off+i) [13]=false:=by
     unfold aIs
     rcases E.nl with h4 | h4 <;> rw [h4] <;> rfl
    rw [E.isEnd _ (by decide),if_neg Bool.false_ne_true,h3,if_neg Bool.false_ne_true]
    exact .ok (.inr ⟨rfl,.inl rfl⟩)
  ·intro ts ts' off n e E b b' d d' i i' hi
   dsimp only
   rw [aChoose,aChoose]
   rcases hi with ⟨h,rfl⟩ | ⟨rfl,h⟩
   ·exact .go (E.wordOf (E.skip h).j (hv b b' d d') fun j j' hj=>hj) fun w j j' hj=>E.want (E.passI [1] (.inl rfl) hj.j) fun a a' ha=>.go (ih.cases _ ts ts' off n e E b b' d d' _ _ (E.passI [1] (.inl rfl) ha.j)) fun l k k' hk=>.ok hk
   ·rw [E.skEnd]
    unfold Go.Proofs.YtepebnblbheegaaGreatDoor.wordOf
    rw [E.isEnd _ (by decide),if_neg Bool.false_ne_true]
    exact fun _ _ hx=>by cases hx
  ·intro l ts ts' off n e E b b' d d' i i' hi
   dsimp only
   rw [aCases,aCases]
   rcases hi with ⟨h,rfl⟩ | ⟨rfl,h⟩
   ·rw [E.key h,E.is h]
    refine .ite .rfl (fun _=>.ok (E.skip h).j) fun _=>?_
    have hJ:JJ off n e (if aIs ts i [7]=true then aSk ts i else i) (if aIs ts i [7]=true then aSk ts' (off+i) else off+i):=by
     split
     ·exact (E.skip h).j
     ·exact .inl ⟨h,rfl⟩
    refine .go (E.wordOf hJ (hl b b' d d') fun j j' hj=>hj) fun w j j' hj=>?_
    obtain ⟨h1,rfl⟩:=hj
    by_cases h2:j<n
    ·rw [E.is h2]
     refine .ite .rfl (fun _=>.go (ih.list ts ts' off n e E b b' d d' _ _ (E.skip h2).j) fun c k k' hk=>ih.cases _ ts ts' off n e E b b' d d' _ _ (E.passI [1] (.inl rfl) ?_)) fun _=>.form
     rcases hk.j with ⟨h3,rfl⟩ | ⟨rfl,h3⟩
     ·rw [E.is h3]
      split
      ·exact (E.skip h3).j
      ·exact .inl ⟨h3,rfl⟩
     ·rw [E.isEnd _ (by decide),if_neg Bool.false_ne_true,E.isClose [3] (by decide) (by decide) (by decide) h3,if_neg Bool.false_ne_true]
      exact .inr ⟨rfl,h3⟩
    ·obtain rfl:j=n:=by omega
     rw [E.isEnd _ (by decide),if_neg Bool.false_ne_true]
     exact .form
   ·rw [E.keyEnd,if_neg Bool.false_ne_true,E.isEnd [7] (by decide),if_neg Bool.false_ne_true]
    unfold Go.Proofs.YtepebnblbheegaaGreatDoor.wordOf
    rw [E.isEnd _ (by decide),if_neg Bool.false_ne_true]
    exact fun _ _ hx=>by cases hx
  ·intro s ts ts' off n e E b b' d d' i i' hi
   dsimp only
   rw [aFunction,aFunction]
   rcases hi with ⟨h,rfl⟩ | ⟨rfl,h⟩
   ·rw [E.sk h,E.sk' h]
    by_cases h2:i+1<n
    ·rw [E.sk h2,E.sk' h2]
     by_cases h3:i+1+1<n
     ·rw [E.is h3]
      exact .ite .rfl (fun _=>.go (ih.body _ _ ts ts' off n e E b b' d d' _ _ (E.passI [1] (.inl rfl) (E.skip h3).j)) fun _ k k' hk=>.ok hk) fun _=>.form
     ·obtain rfl:n=i+1+1:=by omega
      rw [E.isEnd _ (by decide),if_neg Bool.false_ne_true]
      exact .form
    ·obtain rfl:n=i+1:=by omega
     rw [E.skEnd,E.isEnd _ (by decide),if_neg Bool.false_ne_true]
     exact .form
   ·rw [E.skEnd,E.skEnd,E.isEnd _ (by decide),if_neg Bool.false_ne_true]
    exact .form
  ·intro c l ts ts' off n e E b b' d d' i i' hi
   dsimp only
   rw [aTurns,aTurns]
   rcases hi with ⟨h,rfl⟩ | ⟨rfl,h⟩
   ·rw [E.turning h,(strip_tok (E.same i h)).1]
    exact .ite .rfl (fun _=>.go (E.wordOf (E.skip h).j (hv b b' d d') fun j j' hj=>hj) fun w j j' hj=>ih.turns _ _ ts ts' off n e E b b' d d' _ _ hj.j) fun _=>.ok (.inl ⟨h,rfl⟩)
   ·unfold aTurning
    rw [E.isEnd _ (by decide),if_neg Bool.false_ne_true,E.isClose _ (by decide) (by decide) (by decide) h,if_neg Bool.false_ne_true]
    exact .ok (.inr ⟨rfl,h⟩)
  ·intro ss ws l ts ts' off n e E b b' d d' i i' hi
   dsimp only
   rw [aSimple,aSimple]
   obtain ⟨h1,rfl⟩:=hi
   by_cases h:i<n
   ·rw [E.turning h,(strip_tok (E.same i h)).1,E.is h]
    refine .ite .rfl (fun _=>.go (E.wordOf (E.skip h).j (hv b b' d d') fun j j' hj=>hj) fun w j j' hj=>ih.simple _ _ _ ts ts' off n e E b b' d d' _ _ hj) fun _=>.ite .rfl (fun _=>?_) fun _=>.ite .rfl (fun _=>.form) fun _=>.ok (.inl ⟨h,rfl⟩)
    have hset:((if ws.length=0 then settingA (akAt ts i) else none)=none∧(if ws.length=0 then settingA (akAt ts' (off+i)) else none)=none)∨∃ m u u',(if ws.length=0 then settingA (akAt ts i) else none)=some (m,u)∧(if ws.length=0 then settingA (akAt ts' (off+i)) else none)=some (m,u')∧stripT u'=stripT u:=by
     by_cases hw:ws.length=0
     ·rw [if_pos hw,if_pos hw]
      exact setting_strip (E.same i h)
     ·rw [if_neg hw,if_neg hw]
      exact .inl ⟨rfl,rfl⟩
    rcases hset with ⟨e1,e2⟩ | ⟨m,u,u',e1,e2,e3⟩
    ·rw [e1,e2]
     exact .go (J':=J1 off n) ((hf b b' d d' _ _ (E.same i h)).at (E.skip h)) fun w j j' hj=>ih.simple _ _ _ ts ts' off n e E b b' d d' _ _ hj
    ·rw [e1,e2]
     exact .go (J':=J1 off n) ((hv b b' d d' _ _ e3).at (E.skip h)) fun w j j' hj=>ih.simple _ _ _ ts ts' off n e E b b' d d' _ _ hj
   ·obtain rfl:i=n:=by omega
    have h3:aIs ts' (off+i) [13]=false:=by
     unfold aIs
     rcases E.nl with h4 | h4 <;> rw [h4] <;> rfl
    have h4:aTurning ts' (off+i)=false:=E.isClose _ (by decide) (by decide) (by decide) (.inl rfl)
    rw [show aTurning ts i=false from E.isEnd _ (by decide),if_neg Bool.false_ne_true,E.isEnd _ (by decide),if_neg Bool.false_ne_true,h4,if_neg Bool.false_ne_true,h3,if_neg Bool.false_ne_true]
    exact .ite .rfl (fun _=>.form) fun _=>.ok (.inr ⟨rfl,.inl rfl⟩)
  ·intro b b' d d' x x' e
   obtain ⟨e1,e2,e3,e4⟩:=strip_part e
   dsimp only
   rw [aSub,aSub,e4]
   by_cases h:30<d'+1
   ·rw [if_pos h]
    exact fun _ _=>.inr ⟨_,rfl⟩
   ·rw [if_neg h]
    split
    ·exact .err
    ·cases hq:lexA x.text (x.text.length+1) 0 with
     | error e=>exact fun _ h=>by cases h
     | ok ts =>
      obtain ⟨us,t,rfl,ht⟩:=lexA_last _ _ hq
      have h1:=ih.list _ _ _ _ _ (Ext.self (us:=us) ht) (b+x.place+2) (b'+x'.place+2) d d' 0 0 (J1.j (e:=0) ⟨Nat.zero_le _,rfl⟩)
      dsimp only at h1 ⊢
      intro a hx
      cases hr:aList f (us++[t]) (b+x.place+2) d 0 with
      | none=>rw [hr] at hx; cases hx
      | some r =>
       rw [hr] at hx
       cases r with
       | error e=>cases hx
       | ok y =>
        obtain ⟨l,i⟩:=y
        rcases h1 l i hr with ⟨j',e5,e6⟩ | ⟨p,e5⟩
        ·rw [e5]
         have:j'=i:=by
          rcases e6 with ⟨_,h⟩ | ⟨_,h⟩ <;> omega
         subst this
         dsimp only at hx ⊢
         split at hx
         ·cases hx
         ·rename_i h7
          rw [if_neg h7]
          exact .inl hx
        ·rw [e5]
         exact .inr ⟨_,rfl⟩
end Go.Proofs.YtepebnblbheegaaGreatDoor
