/- Dialect B: words between single quotes are these texts, and a command of them. What is shown here has the tokens that are asked for. No program stands in it. -/
import Derived.Test.YtnombfbpmmmoeaaGreatDoorGZV
import Derived.Test.YtnombfbpmmmoeaaGreatDoorGQKitG
import Derived.Test.YtnombfbpmmmoeaaGreatDoorGZC
namespace Go.Proofs.YtnombfbpmmmoeaaGreatDoor
open Go Go.RowKit
def kR (s:List UInt8):aH:=⟨19,0,0,s,false⟩
def NoQ (S:List UInt8):Prop:=∀ c m,S=c :: m→c.toNat≠39
theorem LxB.blankDead {S:List UInt8}{T:List aH}(first:Bool)(s:List UInt8)(h:LxB false S T)(hS:NoQ S):LxB first (32 :: (dS s++S)) (kR s :: T):=fun p=>by
 obtain⟨us,h1,h2⟩:=h (p+1+((dM s).length+2));have hs:(32:UInt8) :: (dS s++S)=32 :: 39 :: (dM s++39 :: S):=by unfold dS;simp
 rw[hs];have h4:=iK.blankG (first:=first) (c:=39) (p:=p) (by rfl) (Cg s S (p+1) hS) (by simp) (by omega) (by simp) (by rw[BN];exact h1)
 exact⟨_,h4,by rw[List.map_cons,h2];rfl⟩
theorem LxB.firstDead {S:List UInt8}{T:List aH}(s:List UInt8)(h:LxB false S T)(hS:NoQ S):LxB true (dS s++S) (kR s :: T):=fun p=>by
 obtain⟨us,h1,h2⟩:=h (p+((dM s).length+2));have hs:dS s++S=39 :: (dM s++39 :: S):=by unfold dS;simp
 rw[hs];have h4:=iK.cons (first:=true) (l:=39 :: (dM s++39 :: S)) (p:=p) (s:=0) (by rfl) (Cg s S p hS) (by simp) (by omega) (by simp) (by rw[Nat.zero_add,BN];simpa using h1)
 exact⟨_,h4,by rw[List.map_cons,h2];simp [lN,kR]⟩
theorem AJ (s:List UInt8):∀ (l:List (List UInt8)),dN dS (s :: l)=dS s++nK l
 | []=>by simp [dN,nK]
 | s2 :: l=>by
  have:=AJ s2 l
  rw[dN,this]
  ·simp [nK]
  ·simp
theorem LxB.tail {S:List UInt8}{T:List aH}(h:LxB false S T)(hS:NoQ S):∀ (l:List (List UInt8)),LxB false (nK l++S) (l.map kR++T)∧NoQ (nK l++S)
 | []=>⟨h,hS⟩
 | s :: l=>by
  obtain⟨h1,h2⟩:=LxB.tail h hS l;have h3:=h1.blankDead false s h2;have e:nK (s :: l)++S=32 :: (dS s++(nK l++S)):=by unfold nK;simp
  rw[e];exact⟨h3,fun c m e=>by obtain⟨rfl,_⟩:=List.cons.inj e;decide⟩
theorem Gz {d:Nat}{S:List aH}(s:List UInt8)(hl:s.length≤2000)(hS:S≠[])(h1:isB S [15]=false)(h2:∀ u S',S=u :: S'→isB S [18,19,20,21,22,23,6,10]=true→u.glue=false):bE (yP d) (kR s :: S) (a8 s) S :=
 bE.word rfl (bE.dead rfl hS) h1 h2 rfl (BV hl)
theorem bE.words {d:Nat}{S:List aH}(hS:S≠[])(h1:isB S [15]=false)(h2:isB S [18,19,20,21,22,23,6,10]=false)(h3:isB S [11,12,13,14]=false):∀ (l:List (List UInt8))(ws:List aA),(∀ s∈l,s.length≤2000)→bE (rO d ws []) (l.map kR++S) (ws++l.map a8,[]) S
 | [],ws,_=>by
  rw[List.map_nil,List.map_nil,List.append_nil];exact bE.itemsEnd ws [] h3 h2
 | s :: l,ws,hl=>by
  rw[List.map_cons,List.map_cons,List.cons_append];refine bE.itemsWord (S1:=l.map kR++S) (v:=a8 s) rfl rfl (Gz s (hl s (by simp)) (by simp [hS]) ?_ ?_) ?_
  ·cases l with
   | nil=>exact h1
   | cons s2 l=>rfl
  ·intro u S' e hi
   cases l with
   | nil =>
    rw[List.map_nil,List.nil_append] at hi;rw[h2] at hi
    cases hi
   | cons s2 l =>
    rw[List.map_cons,List.cons_append] at e
    cases e
    rfl
  ·have:=bE.words (d:=d) hS h1 h2 h3 l (ws++[a8 s]) fun x hx=>hl x (by simp [hx])
   rw[List.append_assoc] at this;exact this
def jQ:List aH:=[⟨0,0,0,[],false⟩]
theorem bE.one {d:Nat}{S:List aH}{c:aA}(hd:d+1≤30)(h0:isB S [0,1,2,7,9,17,18]=false)(hc:bE (wY (d+1)) S c jQ)(hS:S≠[]):bE (uI d) S c jQ:=by
 obtain⟨t,S',rfl⟩:∃ t S',S=t :: S':=by cases S with | nil=>exact absurd rfl hS | cons t S'=>exact⟨t,S',rfl⟩
 unfold isB at h0;dsimp only at h0;simp only[List.contains_eq_any_beq,List.any_cons,List.any_nil,Bool.or_false,Bool.or_eq_false_iff,beq_eq_false_iff_ne] at h0
 have e0:fJ [1,2] (t :: S')=t :: S':=by
  unfold fJ;rw[List.dropWhile_cons,if_neg];simp only[List.contains_eq_any_beq,List.any_cons,List.any_nil,Bool.or_false,Bool.or_eq_true,beq_iff_eq];omega
 have hk:∀ ks:List Nat,(∀ k∈ks,k=0∨k=7∨k=9∨k=17∨k=18)→isB (t :: S') ks=false:=fun ks hks=>by
  unfold isB;rw[← Bool.not_eq_true];intro h;have:=hks _ (by simpa using h)
  omega
 have hp:bE (yT (d+1)) (t :: S') c jQ:=by
  have:=bE.pipe (hk [17] (by simp)) (bE.pipeREnd (L:=[]) hc (by decide))
  exact this
 have h2:bE (rL (d+1) [c]) jQ c jQ:=bE.chainsEnd [c] (by decide) (by decide)
 refine bE.list hd (bE.chainsStep (c:=c) (S1:=jQ) (by rw[e0];exact hS) (by rw[e0];exact hk _ (by simp)) (.inl rfl) ?_ h2)
 rw[e0];exact bE.chain hp (by decide)
theorem G8 {d:Nat}(hd:d+1≤30)(l:List (List UInt8))(h0:l≠[])(hl:∀ s∈l,s.length≤2000):bE (uI d) (l.map kR++jQ) (fQ l) jQ:=by
 obtain⟨s,l',rfl⟩:∃ s l',l=s :: l':=by cases l with | nil=>exact absurd rfl h0 | cons s l'=>exact⟨s,l',rfl⟩
 refine bE.one hd rfl ?_ (by simp)
 have h1:=bE.words (d:=d+1) (S:=jQ) (by simp [jQ]) rfl rfl rfl (s :: l') [] hl
 have:=bE.commandSimple (S:=(s :: l').map kR++jQ) rfl (by simp) h1
 exact this
theorem Ac (l:List (List UInt8))(h0:l≠[])(hl:∀ s∈l,s.length≤2000)(hn:l.length≤1000)(hS:(dN dS l).length≤8192):nM (dN dS l) = .ok (fQ l)∧LxB true (dN dS l) (l.map kR++jQ):=by
 obtain⟨s,l',rfl⟩:∃ s l',l=s :: l':=by cases l with | nil=>exact absurd rfl h0 | cons s l'=>exact⟨s,l',rfl⟩
 have h1:LxB true (dN dS (s :: l')) ((s :: l').map kR++jQ):=by
  obtain⟨h2,h3⟩:=LxB.tail (LxB.nil false) (fun c m e=>nomatch e) l'
  rw[AJ,List.append_nil] at *;exact h2.firstDead s h3
 exact⟨I2 h1 (G8 (by omega) _ h0 hl) hS (sG h0 hl hn),h1⟩
theorem x6 {S:List UInt8}{T:List aF}(h:Lx S T)(hT:oZ T):∀ ts,cN S (S.length+1) 0 = .ok ts→oZ ts:=fun ts hts=>by
 obtain⟨us,h1,h2⟩:=h.lex;rw[hts] at h1
 cases h1
 intro t ht;obtain⟨q1,q2,q3⟩:=hT (gG t) (by rw[← h2];exact List.mem_map_of_mem ht)
 refine ⟨q1,fun x hx=>q2 (oS x) (List.mem_map_of_mem hx),fun s hs=>q3 s ?_⟩
 rw[vF];exact hs
theorem CO {S:List UInt8}{T:List aH}(h:LxB true S T)(hT:∀ t∈T,t.kind≠18∧t.kind≠21∧t.kind≠22∧t.kind≠23∧t.kind≠10):∀ ts,dD (S.length+1) true S 0 = .ok ts→o0 ts:=fun ts hts=>by
 obtain⟨us,h1,h2⟩:=h 0;have h1:dD (S.length+1) true S 0 = .ok us:=h1 _ (by omega)
 rw[hts] at h1
 cases h1
 intro i
 by_cases hi:i<ts.length
 ·have hm:aK ts i∈ts:=by
   rw[← x8 hi];exact List.getElem_mem hi
  exact hT (lN (aK ts i)) (by rw[← h2];exact List.mem_map_of_mem hm)
 ·unfold aK;rw[List.getD_eq_getElem?_getD,List.getElem?_eq_none (by omega)]
  simp
theorem wR (l:List (List UInt8)):oZ (l.map kB++qK):=fun t ht=>by
 rw[List.mem_append] at ht
 rcases ht with ht | ht
 ·obtain⟨s,-,rfl⟩:=List.mem_map.1 ht;obtain⟨-,q2,-⟩:=rB s [];refine ⟨by show (13:Nat)≠7;decide,fun x hx=>by have:=q2 x hx;omega,fun s' h=>?_⟩
  rw[(sW s).1] at h
  cases h
 ·unfold qK at ht;rw[List.mem_singleton] at ht;subst ht;exact⟨by decide,(fun x hx=>nomatch hx),(fun s h=>nomatch h)⟩
theorem Bh (l:List (List UInt8)):∀ t∈l.map kR++jQ,t.kind≠18∧t.kind≠21∧t.kind≠22∧t.kind≠23∧t.kind≠10:=fun t ht=>by
 rw[List.mem_append] at ht
 rcases ht with ht | ht
 ·obtain⟨s,-,rfl⟩:=List.mem_map.1 ht;simp [kR]
 ·unfold jQ at ht;rw[List.mem_singleton] at ht;subst ht;simp
end Go.Proofs.YtnombfbpmmmoeaaGreatDoor
