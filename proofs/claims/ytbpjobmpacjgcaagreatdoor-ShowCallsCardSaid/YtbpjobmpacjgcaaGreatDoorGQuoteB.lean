/- Dialect B: words between single quotes are these texts, and a command of them. What is shown here has the tokens that are asked for. No program stands in it. -/
import Derived.Test.YtbpjobmpacjgcaaGreatDoorGZV
import Derived.Test.YtbpjobmpacjgcaaGreatDoorGQKitG
import Derived.Test.YtbpjobmpacjgcaaGreatDoorGZC
namespace Go.Proofs.YtbpjobmpacjgcaaGreatDoor
open Go Go.RowKit
def gD (s:List UInt8):aH:=⟨19,0,0,s,false⟩
def NoQ (S:List UInt8):Prop:=∀ c m,S=c :: m→c.toNat≠39
theorem LxB.blankDead {S:List UInt8}{T:List aH}(first:Bool)(s:List UInt8)(h:LxB false S T)(hS:NoQ S):LxB first (32 :: (cE s++S)) (gD s :: T):=fun p=>by
 obtain⟨us,h1,h2⟩:=h (p+1+((d8 s).length+2));have hs:(32:UInt8) :: (cE s++S)=32 :: 39 :: (d8 s++39 :: S):=by unfold cE;simp
 rw[hs];have h4:=gC.blankG (first:=first) (c:=39) (p:=p) (by rfl) (De s S (p+1) hS) (by simp) (by omega) (by simp) (by rw[Cp];exact h1)
 exact⟨_,h4,by rw[List.map_cons,h2];rfl⟩
theorem LxB.firstDead {S:List UInt8}{T:List aH}(s:List UInt8)(h:LxB false S T)(hS:NoQ S):LxB true (cE s++S) (gD s :: T):=fun p=>by
 obtain⟨us,h1,h2⟩:=h (p+((d8 s).length+2));have hs:cE s++S=39 :: (d8 s++39 :: S):=by unfold cE;simp
 rw[hs];have h4:=gC.cons (first:=true) (l:=39 :: (d8 s++39 :: S)) (p:=p) (s:=0) (by rfl) (De s S p hS) (by simp) (by omega) (by simp) (by rw[Nat.zero_add,Cp];simpa using h1)
 exact⟨_,h4,by rw[List.map_cons,h2];simp [lF,gD]⟩
theorem BM (s:List UInt8):∀ (l:List (List UInt8)),iI cE (s :: l)=cE s++oV l
 | []=>by simp [iI,oV]
 | s2 :: l=>by
  have:=BM s2 l
  rw[iI,this]
  ·simp [oV]
  ·simp
theorem LxB.tail {S:List UInt8}{T:List aH}(h:LxB false S T)(hS:NoQ S):∀ (l:List (List UInt8)),LxB false (oV l++S) (l.map gD++T)∧NoQ (oV l++S)
 | []=>⟨h,hS⟩
 | s :: l=>by
  obtain⟨h1,h2⟩:=LxB.tail h hS l;have h3:=h1.blankDead false s h2;have e:oV (s :: l)++S=32 :: (cE s++(oV l++S)):=by unfold oV;simp
  rw[e];exact⟨h3,fun c m e=>by obtain⟨rfl,_⟩:=List.cons.inj e;decide⟩
theorem BK {d:Nat}{S:List aH}(s:List UInt8)(hl:s.length≤2000)(hS:S≠[])(h1:isB S [15]=false)(h2:∀ u S',S=u :: S'→isB S [18,19,20,21,22,23,6,10]=true→u.glue=false):aQ (wE d) (gD s :: S) (aR s) S :=
 aQ.word rfl (aQ.dead rfl hS) h1 h2 rfl (Dr hl)
theorem aQ.words {d:Nat}{S:List aH}(hS:S≠[])(h1:isB S [15]=false)(h2:isB S [18,19,20,21,22,23,6,10]=false)(h3:isB S [11,12,13,14]=false):∀ (l:List (List UInt8))(ws:List aA),(∀ s∈l,s.length≤2000)→aQ (tC d ws []) (l.map gD++S) (ws++l.map aR,[]) S
 | [],ws,_=>by
  rw[List.map_nil,List.map_nil,List.append_nil];exact aQ.itemsEnd ws [] h3 h2
 | s :: l,ws,hl=>by
  rw[List.map_cons,List.map_cons,List.cons_append];refine aQ.itemsWord (S1:=l.map gD++S) (v:=aR s) rfl rfl (BK s (hl s (by simp)) (by simp [hS]) ?_ ?_) ?_
  ·cases l with
   | nil=>exact h1
   | cons s2 l=>rfl
  ·intro u S' e hi
   cases l with
   | nil =>
    rw[List.map_nil,List.nil_append] at hi;rw[h2] at hi
    cases hi
   | cons s2 l =>
    rw[List.map_cons,List.cons_append] at e
    cases e
    rfl
  ·have:=aQ.words (d:=d) hS h1 h2 h3 l (ws++[aR s]) fun x hx=>hl x (by simp [hx])
   rw[List.append_assoc] at this;exact this
def dD:List aH:=[⟨0,0,0,[],false⟩]
theorem aQ.one {d:Nat}{S:List aH}{c:aA}(hd:d+1≤30)(h0:isB S [0,1,2,7,9,17,18]=false)(hc:aQ (pO (d+1)) S c dD)(hS:S≠[]):aQ (o0 d) S c dD:=by
 obtain⟨t,S',rfl⟩:∃ t S',S=t :: S':=by cases S with | nil=>exact absurd rfl hS | cons t S'=>exact⟨t,S',rfl⟩
 unfold isB at h0;dsimp only at h0;simp only[List.contains_eq_any_beq,List.any_cons,List.any_nil,Bool.or_false,Bool.or_eq_false_iff,beq_eq_false_iff_ne] at h0
 have e0:dS [1,2] (t :: S')=t :: S':=by
  unfold dS;rw[List.dropWhile_cons,if_neg];simp only[List.contains_eq_any_beq,List.any_cons,List.any_nil,Bool.or_false,Bool.or_eq_true,beq_iff_eq];omega
 have hk:∀ ks:List Nat,(∀ k∈ks,k=0∨k=7∨k=9∨k=17∨k=18)→isB (t :: S') ks=false:=fun ks hks=>by
  unfold isB;rw[← Bool.not_eq_true];intro h;have:=hks _ (by simpa using h)
  omega
 have hp:aQ (tE (d+1)) (t :: S') c dD:=by
  have:=aQ.pipe (hk [17] (by simp)) (aQ.pipeREnd (L:=[]) hc (by decide))
  exact this
 have h2:aQ (rA (d+1) [c]) dD c dD:=aQ.chainsEnd [c] (by decide) (by decide)
 refine aQ.list hd (aQ.chainsStep (c:=c) (S1:=dD) (by rw[e0];exact hS) (by rw[e0];exact hk _ (by simp)) (.inl rfl) ?_ h2)
 rw[e0];exact aQ.chain hp (by decide)
theorem D2 {S:List UInt8}{T:List aG}(h:Lx S T)(hT:jO T):∀ ts,dA S (S.length+1) 0 = .ok ts→jO ts:=fun ts hts=>by
 obtain⟨us,h1,h2⟩:=h.lex;rw[hts] at h1
 cases h1
 intro t ht;obtain⟨q1,q2,q3⟩:=hT (gV t) (by rw[← h2];exact List.mem_map_of_mem ht)
 refine ⟨q1,fun x hx=>q2 (p5 x) (List.mem_map_of_mem hx),fun s hs=>q3 s ?_⟩
 rw[uH];exact hs
theorem DJ {S:List UInt8}{T:List aH}(h:LxB true S T)(hT:∀ t∈T,t.kind≠18∧t.kind≠21∧t.kind≠22∧t.kind≠23∧t.kind≠10):∀ ts,dZ (S.length+1) true S 0 = .ok ts→qG ts:=fun ts hts=>by
 obtain⟨us,h1,h2⟩:=h 0;have h1:dZ (S.length+1) true S 0 = .ok us:=h1 _ (by omega)
 rw[hts] at h1
 cases h1
 intro i
 by_cases hi:i<ts.length
 ·have hm:aK ts i∈ts:=by
   rw[← zU hi];exact List.getElem_mem hi
  exact hT (lF (aK ts i)) (by rw[← h2];exact List.mem_map_of_mem hm)
 ·unfold aK;rw[List.getD_eq_getElem?_getD,List.getElem?_eq_none (by omega)]
  simp
theorem Kt (l:List (List UInt8)):jO (l.map eU++d7):=fun t ht=>by
 rw[List.mem_append] at ht
 rcases ht with ht | ht
 ·obtain⟨s,-,rfl⟩:=List.mem_map.1 ht;obtain⟨-,q2,-⟩:=sG s [];refine ⟨by show (13:Nat)≠7;decide,fun x hx=>by have:=q2 x hx;omega,fun s' h=>?_⟩
  rw[(uU s).1] at h
  cases h
 ·unfold d7 at ht;rw[List.mem_singleton] at ht;subst ht;exact⟨by decide,(fun x hx=>nomatch hx),(fun s h=>nomatch h)⟩
end Go.Proofs.YtbpjobmpacjgcaaGreatDoor
