/- Dialect A's tokens, as plain functions on lists of bytes. No program stands in it. -/
import Derived.Test.YtbpjobmpacjgcaaGreatDoorGZA
namespace Go.Proofs.YtbpjobmpacjgcaaGreatDoor
open Go Go.RowKit
structure aD where
 kind:Nat
 place:Nat
 num:Nat
 quoted:Bool
 text:List UInt8
def aD.cells (t:aD):List Value:=[.int .i64 t.kind,.int .i64 t.place,.int .i64 t.num,.bool t.quoted,.string (bs t.text)]
structure aG where
 kind:Nat
 place:Nat
 parts:List aD
def bH:List (List UInt8):=[[],[10],[59],[59,59],[38,38],[124,124],[124],[40],[41],[60],[62],[62,62],[60,60,60]]
def jK (c:UInt8):Bool:=[32,9,10,59,38,124,40,41,60,62].contains c.toNat
def cO (b:Nat):List UInt8→Option Nat
 | []=>none
 | c :: l=>if c.toNat=b then some 0 else (cO b l).map (·+1)
def bQ (P:List aD) (j:Bool) (kind i:Nat) (s:List UInt8):List aD :=
 match P.getLast? with
 | some q=>if j=true∧q.kind=kind then P.dropLast++[{ q with text:=q.text++s }] else P++[⟨kind,i,0,false,s⟩]
 | none=>P++[⟨kind,i,0,false,s⟩]
def aX (L:List UInt8):Nat→Bool→Nat→Nat→Option Nat
 | 0,_,_,_=>none
 | f+1,false,o,i =>
  if L.length≤i then none
  else if (L.getD i 0).toNat=92 then aX L f false o (i+2)
  else if (L.getD i 0).toNat=39 then match cO 39 (L.drop (i+1)) with
   | none=>none
   | some n=>aX L f false o (i+1+n+1)
  else if (L.getD i 0).toNat=34 then match aX L f true 0 (i+1) with
   | none=>none
   | some t=>aX L f false o (t+1)
  else if (L.getD i 0).toNat=40 then aX L f false (o+1) (i+1)
  else if (L.getD i 0).toNat=41 then (if o=0 then some i else aX L f false (o - 1) (i+1))
  else aX L f false o (i+1)
 | f+1,true,_,i =>
  if L.length≤i then none
  else if (L.getD i 0).toNat=34 then some i
  else if (L.getD i 0).toNat=92 then aX L f true 0 (i+2)
  else if Lib.hasPrefix (L.drop i) [36,40] then match aX L f false 0 (i+2) with
   | none=>none
   | some t=>aX L f true 0 (t+1)
  else aX L f true 0 (i+1)
abbrev nV:=Nat×List aD×Bool
def e8 (L:List UInt8) (q:Bool) (i:Nat) (P:List aD) (j:Bool):Except (Nat×Nat) nV :=
 let name:=eG (L.drop (i+1))
 let c:=(L.getD (i+1) 0).toNat
 if name≠[] then (if bI name=true then .ok (i+1+name.length,P++[⟨3,i,0,q,name⟩],false) else .error (106,i))
 else if c=123 then match cO 125 (L.drop (i+2)) with
  | none=>.error (106,i)
  | some n=>if bI (aZ L (i+2) (i+2+n))=true then .ok (i+3+n,P++[⟨3,i,0,q,aZ L (i+2) (i+2+n)⟩],false) else .error (106,i)
 else if c=42 then .ok (i+2,P++[⟨3,i,0,q,[42]⟩],false)
 else if 49≤c∧c≤57 then .ok (i+2,P++[⟨5,i,c - 48,q,[]⟩],false)
 else if c=35 then .ok (i+2,P++[⟨6,i,0,q,[]⟩],false)
 else if c=40 then match aX L (L.length+1) false 0 (i+2) with
  | none=>.error (104,i)
  | some t=>.ok (t+1,P++[⟨4,i,0,q,aZ L (i+2) t⟩],false)
 else .ok (i+1,bQ P j (if q then 2 else 1) i [36],true)
def dR (L:List UInt8) (a:Nat):Nat→Nat→List aD→Bool→Except (Nat×Nat) nV
 | 0,_,_,_=>.error (103,a)
 | f+1,i,P,j =>
  if L.length≤i then .error (103,a)
  else if (L.getD i 0).toNat=34 then .ok (i+1,P,false)
  else if (L.getD i 0).toNat=92∧i+1<L.length then
   dR L a f (i+2) (bQ P j 2 i (if [36,34,92].contains (L.getD (i+1) 0).toNat then [L.getD (i+1) 0] else [L.getD i 0,L.getD (i+1) 0])) true
  else if (L.getD i 0).toNat=36 then match e8 L true i P j with
   | .error e=>.error e
   | .ok (i',P',j')=>dR L a f i' P' j'
  else dR L a f (i+1) (bQ P j 2 i [L.getD i 0]) true
def bO (L:List UInt8):Nat→Nat→List aD→Bool→Except (Nat×Nat) (Nat×List aD)
 | 0,i,P,_=>.ok (i,P)
 | f+1,i,P,j =>
  if L.length≤i then .ok (i,P)
  else if jK (L.getD i 0)=true then .ok (i,P)
  else if (L.getD i 0).toNat=92 then bO L f (min (i+2) L.length) (P++[⟨2,i,0,false,if i+1<L.length then [L.getD (i+1) 0] else [92]⟩]) false
  else if (L.getD i 0).toNat=39 then match cO 39 (L.drop (i+1)) with
   | none=>.error (103,i)
   | some n=>bO L f (i+n+2) (P++[⟨2,i,0,false,aZ L (i+1) (i+1+n)⟩]) false
  else if (L.getD i 0).toNat=34 then match dR L i (L.length+1) (i+1) (P++[⟨2,i,0,false,[]⟩]) true with
   | .error e=>.error e
   | .ok (i',P',j')=>bO L f i' P' j'
  else if (L.getD i 0).toNat=36 then match e8 L false i P j with
   | .error e=>.error e
   | .ok (i',P',j')=>bO L f i' P' j'
  else bO L f (i+1) (bQ P j 1 i [L.getD i 0]) true
def gA (L:List UInt8) (i:Nat):Except (Nat×Nat) (aG×Nat) :=
 if L.length≤i then .ok (⟨0,i,[]⟩,i)
 else
  let b:=bB (L.drop i) bH 0 [] 0
  if b.1≠[] then .ok (⟨b.2,i,[]⟩,i+b.1.length)
  else if (L.getD i 0).toNat=38 then .error (107,i)
  else match bO L (L.length+1) i [] false with
   | .error e=>.error e
   | .ok (k,P)=>.ok (⟨13,i,P⟩,k)
def dA (L:List UInt8):Nat→Nat→Except (Nat×Nat) (List aG)
 | 0,_=>.ok []
 | f+1,k =>
  match gA L (k+aU false (L.drop k)) with
  | .error e=>.error e
  | .ok (t,n) =>
   if t.kind=0 then .ok [t]
   else match dA L f n with
    | .error e=>.error e
    | .ok ts=>.ok (t :: ts)
structure iE (n a i:Nat) (N:List Nat):Prop where
 rise:N.Pairwise (·<·)
 lo:∀ p∈N,a≤p∧p<i∧p<n
 first:∀ p,N.head?=some p→p=a
 empty:N=[]→i=a
 le:a≤i
theorem iE.snoc {n a i i':Nat}{N:List Nat}(h:iE n a i N)(hi:i<i')(hn:i<n):iE n a i' (N++[i]):=by
 refine ⟨?_,?_,?_,?_,?_⟩
 ·rw[List.pairwise_append];refine ⟨h.rise,by simp,?_⟩
  intro x hx y hy;rw[List.mem_singleton] at hy;rw[hy];exact (h.lo x hx).2.1
 ·intro p hp;rw[List.mem_append,List.mem_singleton] at hp;have:=h.le
  rcases hp with hp | rfl
  ·have:=h.lo p hp
   omega
  ·omega
 ·intro p hp
  cases N with
  | nil =>
   have:=h.empty rfl
   simp at hp
   omega
  | cons x N=>exact h.first p hp
 ·intro e;simp at e
 ·have:=h.le
  omega
theorem iE.mono {n a i i':Nat}{N:List Nat}(h:iE n a i N)(hN:N≠[])(hi:i≤i'):iE n a i' N :=
 ⟨h.rise,fun p hp=>by have:=h.lo p hp;omega,h.first,fun e=>absurd e hN,by have:=h.le;omega⟩
abbrev places (P:List aD):List Nat:=P.map (·.place)
theorem Fw (P:List aD)(j:Bool)(k i:Nat)(s:List UInt8):(places (bQ P j k i s)=places P∧places P≠[])∨places (bQ P j k i s)=places P++[i]:=by
 unfold bQ;split
 ·rename_i q hq
  split
  ·left
   obtain⟨Q,rfl⟩:=List.getLast?_eq_some_iff.1 hq;simp
  ·right
   simp
 ·right
  simp
theorem iE.bytes {n a i i':Nat}{P:List aD}(h:iE n a i (places P))(j:Bool)(k:Nat)(s:List UInt8)(hi:i<i')(hn:i<n):iE n a i' (places (bQ P j k i s)):=by
 rcases Fw P j k i s with ⟨e,hne⟩ | e
 ·rw[e];exact h.mono hne (by omega)
 ·rw[e];exact h.snoc hi hn
theorem iE.part {n a i i':Nat}{P:List aD}(h:iE n a i (places P))(p:aD)(hp:p.place=i)(hi:i<i')(hn:i<n):iE n a i' (places (P++[p])):=by
 rw[places,List.map_append,List.map_cons,List.map_nil,hp];exact h.snoc hi hn
theorem lD (b:Nat):∀ (l:List UInt8)(n:Nat),cO b l=some n→n<l.length
 | [],n,h=>by cases h
 | c :: l,n,h=>by
  rw[cO] at h;split at h
  ·cases h;simp
  ·cases hl:cO b l with
   | none=>rw[hl] at h;cases h
   | some m =>
    rw[hl] at h
    cases h
    have:=lD b l m hl
    simp only[List.length_cons];omega
theorem iH (L:List UInt8):∀ (f:Nat)(m:Bool)(o i t:Nat),aX L f m o i=some t→i≤t∧t<L.length:=by
 intro f
 induction f with
 | zero=>intro m o i t h;cases m <;> cases h
 | succ f ih =>
  intro m o i t h
  cases m with
  | false =>
   simp only[aX] at h;split at h
   ·cases h
   split at h
   ·have:=ih _ _ _ _ h;omega
   split at h
   ·split at h
    ·cases h
    ·have:=ih _ _ _ _ h;omega
   split at h
   ·split at h
    ·cases h
    ·rename_i u hu
     have h1:=ih _ _ _ _ hu;have h2:=ih _ _ _ _ h;omega
   split at h
   ·have:=ih _ _ _ _ h;omega
   split at h
   ·split at h
    ·cases h;omega
    ·have:=ih _ _ _ _ h;omega
   ·have:=ih _ _ _ _ h;omega
  | true =>
   simp only[aX] at h;split at h
   ·cases h
   split at h
   ·cases h;omega
   split at h
   ·have:=ih _ _ _ _ h;omega
   split at h
   ·split at h
    ·cases h
    ·rename_i u hu
     have h1:=ih _ _ _ _ hu;have h2:=ih _ _ _ _ h;omega
   ·have:=ih _ _ _ _ h;omega
theorem lE (L:List UInt8)(i:Nat)(h:(L.getD i 0).toNat≠0):i<L.length:=by
 apply Classical.byContradiction
 intro hge;rw[List.getD_eq_getElem?_getD,List.getElem?_eq_none (by omega)] at h
 exact h rfl
theorem AN (L:List UInt8)(q:Bool)(a i:Nat)(P:List aD)(j:Bool)(i':Nat)(P':List aD)(j':Bool)(hi:i<L.length)(hR:iE L.length a i (places P))(h:e8 L q i P j = .ok (i',P',j')) :
  iE L.length a i' (places P')∧i<i'∧i'≤L.length:=by
 unfold e8 at h;simp only[] at h;split at h
 ·split at h
  ·cases h
   have:=sD (L.drop (i+1))
   rw[List.length_drop] at this;exact⟨hR.part _ rfl (by omega) hi,by omega,by omega⟩
  ·cases h
 split at h
 ·rename_i h123
  have hb:=lE L (i+1) (by omega)
  split at h
  ·cases h
  ·rename_i n hn
   have:=lD _ _ _ hn
   rw[List.length_drop] at this;split at h
   ·cases h
    exact⟨hR.part _ rfl (by omega) hi,by omega,by omega⟩
   ·cases h
 split at h
 ·have hb:=lE L (i+1) (by omega)
  cases h
  exact⟨hR.part _ rfl (by omega) hi,by omega,by omega⟩
 split at h
 ·have hb:=lE L (i+1) (by omega)
  cases h
  exact⟨hR.part _ rfl (by omega) hi,by omega,by omega⟩
 split at h
 ·have hb:=lE L (i+1) (by omega)
  cases h
  exact⟨hR.part _ rfl (by omega) hi,by omega,by omega⟩
 split at h
 ·split at h
  ·cases h
  ·rename_i t ht
   cases h
   have:=iH _ _ _ _ _ _ ht
   exact⟨hR.part _ rfl (by omega) hi,by omega,by omega⟩
 ·cases h
  exact⟨hR.bytes _ _ _ (by omega) hi,by omega,by omega⟩
theorem A1 (L:List UInt8)(q:Bool)(i:Nat)(P:List aD)(j:Bool)(c p:Nat)(h:e8 L q i P j = .error (c,p)):p=i∧(c=106∨c=104):=by
 unfold e8 at h;simp only[] at h
 (repeat' split at h) <;> cases h <;> simp
theorem iE.ne {n a i:Nat}{N:List Nat}(h:iE n a i N)(hi:a<i):N≠[]:=fun e=>by
 have:=h.empty e
 omega
theorem Gh (L:List UInt8)(a b:Nat):∀ (f i:Nat)(P:List aD)(j:Bool)(i':Nat)(P':List aD)(j':Bool),iE L.length a i (places P)→a<i→i≤L.length→dR L b f i P j = .ok (i',P',j') →
  iE L.length a i' (places P')∧i≤i'∧i'≤L.length:=by
 intro f
 induction f with
 | zero=>intro i P j i' P' j' _ _ _ h;cases h
 | succ f ih =>
  intro i P j i' P' j' hR ha hi h;simp only[dR] at h;split at h
  ·cases h
  rename_i hlt
  split at h
  ·rename_i h34
   cases h
   exact⟨hR.mono (hR.ne ha) (by omega),by omega,by omega⟩
  split at h
  ·have:=ih _ _ _ _ _ _ (hR.bytes j 2 _ (show i<i+2 by omega) (by omega)) (by omega) (by omega) h
   exact⟨this.1,by omega,this.2.2⟩
  split at h
  ·split at h
   ·cases h
   ·rename_i i2 P2 j2 hd
    obtain⟨h1,h2,h3⟩:=AN L true a i P j i2 P2 j2 (by omega) hR hd
    have:=ih _ _ _ _ _ _ h1 (by omega) h3 h
    exact⟨this.1,by omega,this.2.2⟩
  ·have:=ih _ _ _ _ _ _ (hR.bytes j 2 _ (show i<i+1 by omega) (by omega)) (by omega) (by omega) h
   exact⟨this.1,by omega,this.2.2⟩
theorem G0 (L:List UInt8)(b:Nat):∀ (f i:Nat)(P:List aD)(j:Bool)(c p:Nat),b<L.length→dR L b f i P j = .error (c,p)→p<L.length∧(c=103∨c=104∨c=106):=by
 intro f
 induction f with
 | zero=>intro i P j c p hb h;cases h;exact⟨hb,.inl rfl⟩
 | succ f ih =>
  intro i P j c p hb h;simp only[dR] at h;split at h
  ·cases h;exact⟨hb,.inl rfl⟩
  rename_i hlt
  split at h
  ·cases h
  split at h
  ·exact ih _ _ _ _ _ hb h
  split at h
  ·split at h
   ·rename_i e he
    cases h
    obtain⟨rfl,h2⟩:=A1 _ _ _ _ _ _ _ he;exact⟨by omega,by omega⟩
   ·exact ih _ _ _ _ _ hb h
  ·exact ih _ _ _ _ _ hb h
theorem Ix (L:List UInt8)(a:Nat):∀ (f i:Nat)(P:List aD)(j:Bool)(i':Nat)(P':List aD),iE L.length a i (places P)→i≤L.length→bO L f i P j = .ok (i',P') →
  iE L.length a i' (places P')∧i≤i'∧i'≤L.length∧(0<f→i<L.length→jK (L.getD i 0)=false→i<i'):=by
 intro f
 induction f with
 | zero=>intro i P j i' P' hR hi h;cases h;exact⟨hR,Nat.le_refl _,hi,fun e=>absurd e (by omega)⟩
 | succ f ih =>
  intro i P j i' P' hR hi h;simp only[bO] at h;split at h
  ·cases h;exact⟨hR,Nat.le_refl _,hi,fun _ e=>absurd e (by omega)⟩
  rename_i hlt
  split at h
  ·rename_i he
   cases h
   exact⟨hR,Nat.le_refl _,hi,fun _ _ e=>by rw[he] at e;cases e⟩
  split at h
  ·have:=ih _ _ _ _ _ (hR.part _ rfl (show i<min (i+2) L.length by omega) (by omega)) (by omega) h
   exact⟨this.1,by omega,this.2.2.1,fun _ _ _=>by omega⟩
  split at h
  ·split at h
   ·cases h
   ·rename_i n hn
    have hx:=lD _ _ _ hn;rw[List.length_drop] at hx;have:=ih _ _ _ _ _ (hR.part _ rfl (show i<i+n+2 by omega) (by omega)) (by omega) h
    exact⟨this.1,by omega,this.2.2.1,fun _ _ _=>by omega⟩
  split at h
  ·split at h
   ·cases h
   ·rename_i i2 P2 j2 hd
    have hle:=hR.le;obtain⟨h1,h2,h3⟩:=Gh L a i _ _ _ _ _ _ _ (hR.part ⟨2,i,0,false,[]⟩ rfl (show i<i+1 by omega) (by omega)) (by omega) (by omega) hd
    have:=ih _ _ _ _ _ h1 h3 h
    exact⟨this.1,by omega,this.2.2.1,fun _ _ _=>by omega⟩
  split at h
  ·split at h
   ·cases h
   ·rename_i i2 P2 j2 hd
    obtain⟨h1,h2,h3⟩:=AN L false a i P j i2 P2 j2 (by omega) hR hd
    have:=ih _ _ _ _ _ h1 h3 h
    exact⟨this.1,by omega,this.2.2.1,fun _ _ _=>by omega⟩
  ·have:=ih _ _ _ _ _ (hR.bytes j 1 _ (show i<i+1 by omega) (by omega)) (by omega) h
   exact⟨this.1,by omega,this.2.2.1,fun _ _ _=>by omega⟩
theorem Kx (L:List UInt8):∀ (f i:Nat)(P:List aD)(j:Bool)(c p:Nat),bO L f i P j = .error (c,p)→p<L.length∧(c=103∨c=104∨c=106):=by
 intro f
 induction f with
 | zero=>intro i P j c p h;cases h
 | succ f ih =>
  intro i P j c p h;simp only[bO] at h;split at h
  ·cases h
  rename_i hlt
  split at h
  ·cases h
  split at h
  ·exact ih _ _ _ _ _ h
  split at h
  ·split at h
   ·cases h;exact⟨by omega,.inl rfl⟩
   ·exact ih _ _ _ _ _ h
  split at h
  ·split at h
   ·rename_i e he
    cases h
    exact G0 L i _ _ _ _ _ _ (by omega) he
   ·exact ih _ _ _ _ _ h
  split at h
  ·split at h
   ·rename_i e he
    cases h
    obtain⟨rfl,h2⟩:=A1 _ _ _ _ _ _ _ he;exact⟨by omega,by omega⟩
   ·exact ih _ _ _ _ _ h
  ·exact ih _ _ _ _ _ h
theorem Dy (l:List UInt8):(bB l bH 0 [] 0=([],0))∨(bH[(bB l bH 0 [] 0).2]?=some (bB l bH 0 [] 0).1∧Lib.hasPrefix l (bB l bH 0 [] 0).1=true∧0<(bB l bH 0 [] 0).1.length):=by
 rcases xN l bH 0 [] 0 with e | ⟨j,h1,h2,h3,h4⟩
 ·exact .inl e
 ·refine .inr ⟨?_,h3,h4⟩;rw[h2,Nat.zero_add];exact h1
theorem G7 (c:UInt8)(m:List UInt8)(hb:(bB (c :: m) bH 0 [] 0).1=[])(h0:¬ (c.toNat=32∨c.toNat=9∨c.toNat=35))(h1:¬ c.toNat=38):jK c=false:=by
 have hops:∀ o:UInt8,[o]∈bH→¬ c.toNat=o.toNat:=by
  intro o ho e;have e':c=o:=UInt8.toNat_inj.1 e;subst e';have:=(CL (c :: m) bH 0 [] 0).2 [c] ho (by simp [Lib.hasPrefix,List.isPrefixOf])
  rw[hb] at this;simp at this
 have e10:¬ c.toNat=10:=hops 10 (by decide)
 have e59:¬ c.toNat=59:=hops 59 (by decide)
 have e124:¬ c.toNat=124:=hops 124 (by decide)
 have e40:¬ c.toNat=40:=hops 40 (by decide)
 have e41:¬ c.toNat=41:=hops 41 (by decide)
 have e60:¬ c.toNat=60:=hops 60 (by decide)
 have e62:¬ c.toNat=62:=hops 62 (by decide)
 rw[jK,← Bool.not_eq_true,List.contains_iff_mem];simp only[List.mem_cons,List.not_mem_nil,or_false];omega
def MQ (n:Nat) (t:aG):Prop :=
 (t.kind=13 ↔ 0<t.parts.length)∧(∀ p,t.parts[0]?=some p→p.place=t.place)∧(∀ (k:Nat) p q,t.parts[k]?=some p→t.parts[k+1]?=some q→p.place<q.place)∧∀ p∈t.parts,p.place<n
theorem uQ (L:List UInt8)(i:Nat)(t:aG)(n:Nat)(hi:i≤L.length)(hfront:∀ c m,L.drop i=c :: m→¬ (c.toNat=32∨c.toNat=9∨c.toNat=35))(h:gA L i = .ok (t,n)) :
  t.place=i∧(t.kind=0 ↔ L.length≤i)∧n≤L.length∧(t.kind≠0→i<n)∧MQ L.length t:=by
 unfold gA at h;split at h
 ·rename_i hge
  cases h
  exact⟨rfl,⟨fun _=>hge,fun _=>rfl⟩,hi,fun e=>absurd rfl e,⟨fun e=>by (cases e),fun e=>by (cases e)⟩,fun p e=>by simp at e,fun k p q e=>by simp at e,fun p e=>by (cases e)⟩
 ·rename_i hlt
  have hlt':i<L.length:=by omega
  have hd:L.drop i=L[i] :: L.drop (i+1):=List.drop_eq_getElem_cons hlt';have hg:L.getD i 0=L[i]:=by rw[List.getD_eq_getElem?_getD,List.getElem?_eq_getElem hlt'];rfl
  simp only[] at h;split at h
  ·rename_i hb
   cases h
   rcases Dy (L.drop i) with e | ⟨h1,h2,h3⟩
   ·rw[e] at hb;exact absurd rfl hb
   ·have hlen:=AZ h2;rw[List.length_drop] at hlen;have hk:(bB (L.drop i) bH 0 [] 0).2<13:=(List.getElem?_eq_some_iff.1 h1).1;refine ⟨rfl,⟨fun e=>?_,fun e=>absurd e hlt⟩,by omega,fun _=>by omega,⟨fun e=>?_,fun e=>by (cases e)⟩,fun p e=>by simp at e,fun k p q e=>by simp at e,fun p e=>by (cases e)⟩
    ·simp only at e;rw[e] at h1;simp only[bH,List.getElem?_cons_zero,Option.some.injEq] at h1;exact absurd h1.symm hb
    ·simp only at e;omega
  ·rename_i hb
   have hb':(bB (L.drop i) bH 0 [] 0).1=[]:=by simpa using hb
   split at h
   ·cases h
   ·rename_i h38
    split at h
    ·cases h
    ·rename_i k P hw
     cases h
     have hends:jK (L.getD i 0)=false:=by
      rw[hg];rw[hg] at h38;rw[hd] at hb';exact G7 _ _ hb' (hfront _ _ hd) h38
     obtain⟨h1,h2,h3,h4⟩:=Ix L i _ _ _ _ _ _ ⟨.nil,fun p e=>by simp at e,fun p e=>by simp at e,fun _=>rfl,Nat.le_refl _⟩ hi hw
     have h5:=h4 (by omega) hlt' hends
     have h6:=h1.ne h5;refine ⟨rfl,⟨fun e=>by (cases e),fun e=>absurd e hlt⟩,h3,fun _=>h5,⟨fun _=>?_,fun _=>rfl⟩,fun p e=>?_,fun k p q e1 e2=>?_,fun p e=>?_⟩
     ·apply List.length_pos_iff.2
      intro e;apply h6
      rw[show P=[] from e]
      rfl
     ·apply h1.first
      rw[places,List.head?_map,List.head?_eq_getElem?];show Option.map _ _=_
      rw[show P[0]?=some p from e]
      rfl
     ·have hr:=List.pairwise_iff_getElem.1 h1.rise;obtain⟨l1,g1⟩:=List.getElem?_eq_some_iff.1 (show P[k]?=some p from e1)
      obtain⟨l2,g2⟩:=List.getElem?_eq_some_iff.1 (show P[k+1]?=some q from e2)
      have:=hr k (k+1) (by simpa using l1) (by simpa using l2) (by omega)
      rw[List.getElem_map,List.getElem_map,g1,g2] at this;exact this
     ·exact (h1.lo p.place (List.mem_map_of_mem (show p∈P from e))).2.2
theorem IK (L:List UInt8)(i c p:Nat)(h:gA L i = .error (c,p)):p<L.length∧(c=103∨c=104∨c=106∨c=107):=by
 unfold gA at h;split at h
 ·cases h
 ·rename_i hlt
  simp only[] at h;split at h
  ·cases h
  split at h
  ·cases h
   exact⟨by omega,by omega⟩
  split at h
  ·rename_i e he
   cases h
   have:=Kx _ _ _ _ _ _ _ he
   exact⟨this.1,by omega⟩
  ·cases h
theorem Dm (L:List UInt8):∀ (f k c p:Nat),dA L f k = .error (c,p)→p<L.length∧(c=103∨c=104∨c=106∨c=107):=by
 intro f
 induction f with
 | zero=>intro k c p h;cases h
 | succ f ih =>
  intro k c p h;rw[dA] at h;split at h
  ·rename_i e he
   cases h
   exact IK _ _ _ _ he
  ·split at h
   ·cases h
   ·split at h
    ·rename_i e he
     cases h
     exact ih _ _ _ he
    ·cases h
def fC:List UInt8→List UInt8
 | []=>[]
 | c :: l=>if c.toNat=39 then 39 :: 92 :: 39 :: 39 :: fC l else c :: fC l
theorem Bi (l:List UInt8):(fC l).length≤4 * l.length:=by
 induction l with
 | nil=>exact Nat.le_refl _
 | cons c l ih=>rw[fC];split <;> simp only[List.length_cons] <;> omega
theorem jA {L:List UInt8}{i:Nat}{c:UInt8}{m:List UInt8}(h:L.drop i=c :: m):i<L.length∧L.getD i 0=c∧L.drop (i+1)=m:=by
 have hlt:i<L.length:=by
  apply Classical.byContradiction
  intro hge;rw[List.drop_eq_nil_of_le (by omega)] at h
  cases h
 rw[List.drop_eq_getElem_cons hlt] at h;injection h with h1 h2
 refine ⟨hlt,?_,h2⟩;rw[List.getD_eq_getElem?_getD,List.getElem?_eq_getElem hlt,h1];rfl
theorem qR {L a m:List UInt8}{i:Nat}(h:L.drop i=a++m):L.drop (i+a.length)=m:=by
 rw[← List.drop_drop,h,List.drop_left]
theorem D1 {L a m:List UInt8}{i:Nat}(h:L.drop i=a++m):aZ L i (i+a.length:Nat)=a:=by
 unfold aZ;rw[show ((i:Nat):Int).toNat=i from rfl,show ((i+a.length:Nat):Int).toNat=i+a.length from rfl,List.drop_take,h,show i+a.length - i=a.length from by omega,List.take_left]
theorem D7 (a m:List UInt8)(b:Nat)(c:UInt8)(hc:c.toNat=b)(ha:∀ x∈a,x.toNat≠b):cO b (a++c :: m)=some a.length:=by
 induction a with
 | nil=>rw[List.nil_append,cO,if_pos hc];rfl
 | cons x a ih =>
  rw[List.cons_append,cO,if_neg (ha x (by simp)),ih (fun y hy=>ha y (by simp [hy]))]
  rfl
def iO:List aD→List UInt8
 | []=>[]
 | p :: P=>p.text++iO P
def vL (P:List aD):Prop:=∀ p∈P,p.kind=2
structure uT (s:List UInt8):Prop where
 ne:s≠[]
 first:eL (s.headD 0)=true
 all:∀ x∈s,cP x=true
theorem uT.name {s:List UInt8}(h:uT s):bI s=decide (s.length≤20):=by
 obtain⟨h1,h2,h3⟩:=h
 cases s with
 | nil=>exact absurd rfl h1
 | cons c s =>
  have h4:(c :: s).all cP=true:=List.all_eq_true.2 h3;rw[bI,show eL c=true from h2,h4,Bool.and_true,Bool.and_true,Bool.eq_iff_iff,decide_eq_true_eq,decide_eq_true_eq,List.length_cons]
  omega
def dG (P:List aD) (i:Nat):Prop:=P.length≤i∧∀ p∈P,p.text.length≤i
theorem dG.nil (i:Nat):dG [] i:=⟨Nat.zero_le _,fun _ h=>nomatch h⟩
theorem dG.mono {P:List aD}{i k:Nat}(h:dG P i)(hk:i≤k):dG P k:=⟨by have:=h.1;omega,fun p hp=>by have:=h.2 p hp;omega⟩
theorem dG.part {P:List aD}{i k:Nat}(h:dG P i)(p:aD)(hp:p.text.length≤k)(hk:i<k):dG (P++[p]) k:=by
 refine ⟨by have:=h.1;rw[List.length_append];simp only[List.length_cons,List.length_nil];omega,fun x hx=>?_⟩
 rcases List.mem_append.1 hx with hx | hx
 ·have:=h.2 x hx;omega
 ·rw[List.mem_singleton] at hx;subst hx;exact hp
theorem dG.bytes {P:List aD}{i k:Nat}(h:dG P i)(j:Bool)(kind n:Nat)(s:List UInt8)(hs:i+s.length≤k)(hk:i<k):dG (bQ P j kind n s) k:=by
 unfold bQ;split
 ·rename_i q hq
  obtain⟨Q,rfl⟩:=List.getLast?_eq_some_iff.1 hq;split
  ·rw[List.dropLast_concat];refine ⟨by have:=h.1;simp only[List.length_append,List.length_cons,List.length_nil] at this ⊢;omega,fun x hx=>?_⟩
   rcases List.mem_append.1 hx with hx | hx
   ·have:=h.2 x (by simp [hx]);omega
   ·rw[List.mem_singleton] at hx;subst hx;have:=h.2 q (by simp)
    show (q.text++s).length≤k
    rw[List.length_append];omega
  ·exact h.part _ (by show s.length≤k;omega) hk
 ·exact h.part _ (by show s.length≤k;omega) hk
theorem m8 (L:List UInt8)(a b:Nat):(aZ L a b).length≤b - a:=by
 unfold aZ;rw[List.length_drop,List.length_take];simp only[Int.toNat_natCast];omega
theorem tP (L:List UInt8)(q:Bool)(i:Nat)(P:List aD)(j:Bool)(i':Nat)(P':List aD)(j':Bool)(hi:i<L.length)(hR:dG P i)(h:e8 L q i P j = .ok (i',P',j')) :
  dG P' i'∧i<i'∧i'≤L.length:=by
 unfold e8 at h;simp only[] at h;split at h
 ·split at h
  ·cases h
   have:=sD (L.drop (i+1))
   rw[List.length_drop] at this;exact⟨hR.part _ (by dsimp only;omega) (by omega),by omega,by omega⟩
  ·cases h
 split at h
 ·rename_i h123
  have hb:=lE L (i+1) (by omega)
  split at h
  ·cases h
  ·rename_i n hn
   have:=lD _ _ _ hn
   rw[List.length_drop] at this;split at h
   ·cases h
    exact⟨hR.part _ (by have:=m8 L (i+2) (i+2+n);dsimp only;simp only[Int.natCast_add,Int.cast_ofNat_Int] at *;omega) (by omega),by omega,by omega⟩
   ·cases h
 split at h
 ·have hb:=lE L (i+1) (by omega)
  cases h
  exact⟨hR.part _ (by simp) (by omega),by omega,by omega⟩
 split at h
 ·have hb:=lE L (i+1) (by omega)
  cases h
  exact⟨hR.part _ (by simp) (by omega),by omega,by omega⟩
 split at h
 ·have hb:=lE L (i+1) (by omega)
  cases h
  exact⟨hR.part _ (by simp) (by omega),by omega,by omega⟩
 split at h
 ·split at h
  ·cases h
  ·rename_i t ht
   cases h
   have:=iH _ _ _ _ _ _ ht
   exact⟨hR.part _ (by have:=m8 L (i+2) t;dsimp only;simp only[Int.natCast_add,Int.cast_ofNat_Int] at *;omega) (by omega),by omega,by omega⟩
 ·cases h
  exact⟨hR.bytes _ _ _ _ (by simp) (by omega),by omega,by omega⟩
theorem AE (L:List UInt8)(b:Nat):∀ (f i:Nat)(P:List aD)(j:Bool)(i':Nat)(P':List aD)(j':Bool),dG P i→i≤L.length→dR L b f i P j = .ok (i',P',j') →
  dG P' i'∧i≤i'∧i'≤L.length:=by
 intro f
 induction f with
 | zero=>intro i P j i' P' j' _ _ h;cases h
 | succ f ih =>
  intro i P j i' P' j' hR hi h;simp only[dR] at h;split at h
  ·cases h
  rename_i hlt
  split at h
  ·rename_i h34
   cases h
   exact⟨hR.mono (by omega),by omega,by omega⟩
  split at h
  ·have:=ih _ _ _ _ _ _ (hR.bytes j 2 _ _ (show i+_≤i+2 by split <;> simp) (by omega)) (by omega) h
   exact⟨this.1,by omega,this.2.2⟩
  split at h
  ·split at h
   ·cases h
   ·rename_i i2 P2 j2 hd
    obtain⟨h1,h2,h3⟩:=tP L true i P j i2 P2 j2 (by omega) hR hd
    have:=ih _ _ _ _ _ _ h1 h3 h
    exact⟨this.1,by omega,this.2.2⟩
  ·have:=ih _ _ _ _ _ _ (hR.bytes j 2 _ _ (show i+_≤i+1 by simp) (by omega)) (by omega) h
   exact⟨this.1,by omega,this.2.2⟩
def pN (c:UInt8):Prop:=eL c=true∨c.toNat=123∨c.toNat=42∨(49≤c.toNat∧c.toNat≤57)∨c.toNat=35∨c.toNat=40
def nU (c:UInt8):Prop:=jK c=false∧c.toNat≠92∧c.toNat≠39∧c.toNat≠34
def mN:List UInt8→UInt8→Prop
 | [],_=>True
 | c :: l,n=>nU c∧(c.toNat=36→¬ pN (l.headD n))∧mN l n
def EJ (S:List UInt8):Prop:=∀ (L:List UInt8) (k:Nat) (tail:List UInt8) (f:Nat),L.drop k=S++41 :: tail→L.length - k<f→aX L f false 0 k=some (k+S.length)
def oC (p:aD):Prop :=
 (p.kind=1∧p.num=0∧p.quoted=false∧p.text≠[]∧∃ n,mN p.text n) ∨
 (p.kind=2∧p.num=0∧p.quoted=false) ∨
 (p.kind=3∧p.num=0∧(p.text=[42]∨uT p.text∧p.text.length≤20)) ∨
 (p.kind=4∧p.num=0∧EJ p.text) ∨
 (p.kind=5∧1≤p.num∧p.num≤9∧p.text=[]) ∨
 (p.kind=6∧p.num=0∧p.text=[])
def lU:List aD→Prop
 | []=>True
 | [_]=>True
 | p :: q :: P=>¬ (p.kind=1∧q.kind=1)∧lU (q :: P)
theorem F2 (L:List UInt8)(q:Bool)(i:Nat)(P:List aD)(j:Bool)(h:¬ pN (L.getD (i+1) 0)):e8 L q i P j = .ok (i+1,bQ P j (if q then 2 else 1) i [36],true):=by
 have hr:eG (L.drop (i+1))=[]:=by
  cases hd:L.drop (i+1) with
  | nil=>rfl
  | cons c m =>
   obtain⟨h1,h2,h3⟩:=jA hd;rw[h2] at h;rw[eG,if_neg (fun e=>h (.inl e))]
 unfold pN at h;unfold e8;simp only[hr];rw[if_neg (by simp),if_neg (by omega),if_neg (by omega),if_neg (by omega),if_neg (by omega),if_neg (by omega)]
theorem Ce (L:List UInt8)(f i:Nat)(P:List aD)(j:Bool)(hi:i<L.length)(hp:nU (L.getD i 0))(hs:(L.getD i 0).toNat=36→¬ pN (L.getD (i+1) 0)) :
  bO L (f+1) i P j=bO L f (i+1) (bQ P j 1 i [L.getD i 0]) true:=by
 obtain⟨h1,h2,h3,h4⟩:=hp;rw[bO,if_neg (by omega),if_neg (by rw[h1];decide),if_neg h2,if_neg h3,if_neg h4]
 by_cases h36:(L.getD i 0).toNat=36
 ·rw[if_pos h36,F2 L false i P j (hs h36),show L.getD i 0=36 from UInt8.toNat_inj.1 h36]
  rfl
 ·rw[if_neg h36]
theorem FQ (P:List aD)(a i:Nat)(acc s:List UInt8):bQ (P++[⟨1,a,0,false,acc⟩]) true 1 i s=P++[⟨1,a,0,false,acc++s⟩]:=by
 unfold bQ;rw[List.getLast?_concat];simp
theorem xU (L:List UInt8)(i:Nat):L.getD i 0=(L.drop i).headD 0:=by
 rw[List.getD_eq_getElem?_getD,List.headD_eq_head?_getD,List.head?_drop]
theorem AW (l m:List UInt8)(n:UInt8):(l++m).headD n=l.headD (m.headD n):=by
 cases l <;> rfl
theorem Jt (L:List UInt8)(tail:List UInt8)(a:Nat)(P:List aD):∀ (l acc:List UInt8)(f i:Nat),L.length - i<f→L.drop i=l++tail→mN l (tail.headD 0) →
  ∃ f',bO L f i (P++[⟨1,a,0,false,acc⟩]) true=bO L f' (i+l.length) (P++[⟨1,a,0,false,acc++l⟩]) true∧L.length - (i+l.length)<f':=by
 intro l
 induction l with
 | nil=>intro acc f i hf hd _;exact⟨f,by simp,by simpa using hf⟩
 | cons c l ih =>
  intro acc f i hf hd hv;obtain⟨f,rfl⟩:∃ g,f=g+1:=⟨f - 1,by omega⟩
  obtain⟨h1,h2,h3⟩:=jA hd;obtain⟨v1,v2,v3⟩:=hv
  have hn:L.getD (i+1) 0=l.headD (tail.headD 0):=by
   rw[xU,h3];exact AW l tail 0
  obtain⟨f',e1,e2⟩:=ih (acc++[c]) f (i+1) (by omega) h3 v3
  refine ⟨f',?_,by simp only[List.length_cons];omega⟩
  rw[Ce L f i _ _ h1 (by rw[h2];exact v1) (by rw[h2,hn];exact v2),h2,FQ,e1]
  rw[show i+1+l.length=i+(c :: l).length from by simp only[List.length_cons];omega]
  simp
theorem Ii (L:List UInt8)(tail l:List UInt8)(f i:Nat)(P:List aD)(hne:l≠[])(hf:L.length - i<f)(hd:L.drop i=l++tail)(hv:mN l (tail.headD 0)) :
  ∃ f',bO L f i P false=bO L f' (i+l.length) (P++[⟨1,i,0,false,l⟩]) true∧L.length - (i+l.length)<f':=by
 cases l with
 | nil=>exact absurd rfl hne
 | cons c l =>
  obtain⟨f,rfl⟩:∃ g,f=g+1:=⟨f - 1,by omega⟩
  obtain⟨h1,h2,h3⟩:=jA hd;obtain⟨v1,v2,v3⟩:=hv
  have hn:L.getD (i+1) 0=l.headD (tail.headD 0):=by
   rw[xU,h3];exact AW l tail 0
  obtain⟨f',e1,e2⟩:=Jt L tail i P l [c] f (i+1) (by omega) h3 v3
  have hb:bQ P false 1 i [c]=P++[⟨1,i,0,false,[c]⟩]:=by
   unfold bQ;split <;> simp
  refine ⟨f',?_,by simp only[List.length_cons];omega⟩
  rw[Ce L f i _ _ h1 (by rw[h2];exact v1) (by rw[h2,hn];exact v2),h2,hb,e1]
  rw[show i+1+l.length=i+(c :: l).length from by simp only[List.length_cons];omega]
  rfl
def Ej (tail:List UInt8):Prop:=tail=[]∨∃ m,tail=32 :: m
theorem BN (b:Nat):∀ (l:List UInt8)(n:Nat)(l':List UInt8),cO b l=some n→(∀ x,x≤n→l'.getD x 0=l.getD x 0)→n<l'.length→cO b l'=some n
 | [],n,l',h,_,_=>by cases h
 | c :: l,n,l',h,he,hn=>by
  cases l' with
  | nil=>simp at hn
  | cons d l' =>
   have h0:=he 0 (Nat.zero_le _);simp only[List.getD_cons_zero] at h0;subst h0;rw[cO] at h ⊢;split at h
   ·rename_i hc
    rw[if_pos hc];exact h
   ·rename_i hc
    rw[if_neg hc]
    cases hx:cO b l with
    | none=>rw[hx] at h;cases h
    | some m =>
     rw[hx] at h;simp only[Option.map_some,Option.some.injEq] at h;subst h;rw[BN b l m l' hx (fun x hxm=>by have:=he (x+1) (by omega);simpa using this) (by simpa using hn)]
     rfl
theorem uV (L:List UInt8)(i x:Nat):(L.drop i).getD x 0=L.getD (i+x) 0:=by
 rw[List.getD_eq_getElem?_getD,List.getD_eq_getElem?_getD,List.getElem?_drop]
theorem BP (L:List UInt8)(i:Nat)(h:i<L.length):Lib.hasPrefix (L.drop i) [36,40]=decide ((L.getD i 0).toNat=36∧(L.getD (i+1) 0).toNat=40):=by
 have hd:∃ c m,L.drop i=c :: m:=by
  cases hd:L.drop i with
  | nil=>have:=congrArg List.length hd;rw[List.length_drop] at this;simp only[List.length_nil] at this;omega
  | cons c m=>exact⟨c,m,rfl⟩
 obtain⟨c,m,hd⟩:=hd;obtain⟨h1,h2,h3⟩:=jA hd;rw[hd,h2,xU L (i+1),h3]
 cases m with
 | nil =>
  rw[Bool.eq_iff_iff];simp [Lib.hasPrefix,List.isPrefixOf]
 | cons d m =>
  rw[Bool.eq_iff_iff];simp only[Lib.hasPrefix,List.isPrefixOf,List.headD_cons,Bool.and_true,Bool.and_eq_true,beq_iff_eq];constructor
  ·rintro ⟨e1,e2⟩;subst e1 e2;exact decide_eq_true ⟨rfl,rfl⟩
  ·intro e;obtain⟨e1,e2⟩:=of_decide_eq_true e;exact⟨(UInt8.toNat_inj.1 (e1.trans rfl)).symm,(UInt8.toNat_inj.1 (e2.trans rfl)).symm⟩
theorem I5 (L:List UInt8):∀ (f:Nat)(m:Bool)(o i t:Nat),aX L f m o i=some t→∀ (L':List UInt8)(k f':Nat),(∀ x,i+x≤t→L'.getD (k+x) 0=L.getD (i+x) 0)→k+(t - i)<L'.length→L'.length - k<f'→aX L' f' m o k=some (k+(t - i)):=by
 intro f
 induction f with
 | zero=>intro m o i t h;cases m <;> cases h
 | succ f ih =>
  intro m o i t h L' k f' he hk hf;obtain⟨hit,htl⟩:=iH _ _ _ _ _ _ h;obtain⟨f',rfl⟩:∃ g,f'=g+1:=⟨f' - 1,by omega⟩
  have e0:L'.getD k 0=L.getD i 0:=by have:=he 0 (by omega);simpa using this
  have next:∀ (d:Nat) (m':Bool) (o':Nat),0<d→aX L f m' o' (i+d)=some t→aX L' f' m' o' (k+d)=some (k+(t - i)):=by
   intro d m' o' hd hs;have hlt:=(iH _ _ _ _ _ _ hs).1;have:=ih m' o' (i+d) t hs L' (k+d) f' (fun x hx=>by have:=he (d+x) (by omega);rw[Nat.add_assoc,Nat.add_assoc];exact this) (by omega) (by omega)
   rw[this];congr 1
   omega
  cases m with
  | false =>
   simp only[aX] at h;split at h
   ·cases h
   rw[aX,if_neg (by omega),e0]
   split at h
   ·rename_i h92
    rw[if_pos h92];exact next 2 false o (by omega) h
   rename_i h92
   rw[if_neg h92];split at h
   ·rename_i h39
    rw[if_pos h39];split at h
    ·cases h
    ·rename_i n hn
     have hlt:=(iH _ _ _ _ _ _ h).1
     have hx:=BN 39 (L.drop (i+1)) n (L'.drop (k+1)) hn (fun x hxn=>by
      rw[uV,uV,Nat.add_assoc,Nat.add_assoc];exact he (1+x) (by omega)) (by rw[List.length_drop];omega)
     rw[hx];have:=next (1+n+1) false o (by omega) (by rw[show i+(1+n+1)=i+1+n+1 from by omega];exact h)
     rw[show k+(1+n+1)=k+1+n+1 from by omega] at this
     exact this
   rename_i h39
   rw[if_neg h39];split at h
   ·rename_i h34
    rw[if_pos h34];split at h
    ·cases h
    ·rename_i u hu
     obtain⟨hu1,hu2⟩:=iH _ _ _ _ _ _ hu;have hlt:=(iH _ _ _ _ _ _ h).1;have hq:=ih true 0 (i+1) u hu L' (k+1) f' (fun x hx=>by rw[Nat.add_assoc,Nat.add_assoc];exact he (1+x) (by omega)) (by omega) (by omega)
     rw[hq];have:=next (u+1 - i) false o (by omega) (by rw[show i+(u+1 - i)=u+1 from by omega];exact h)
     rw[show k+(u+1 - i)=k+1+(u - (i+1))+1 from by omega] at this
     exact this
   rename_i h34
   rw[if_neg h34];split at h
   ·rename_i h40
    rw[if_pos h40];exact next 1 false (o+1) (by omega) h
   rename_i h40
   rw[if_neg h40];split at h
   ·rename_i h41
    rw[if_pos h41];split at h
    ·rename_i ho
     cases h
     rw[if_pos ho];simp
    ·rename_i ho
     rw[if_neg ho];exact next 1 false (o - 1) (by omega) h
   rename_i h41
   rw[if_neg h41];exact next 1 false o (by omega) h
  | true =>
   simp only[aX] at h;split at h
   ·cases h
   rw[aX,if_neg (by omega),e0]
   split at h
   ·rename_i h34
    cases h
    rw[if_pos h34];simp
   rename_i h34
   rw[if_neg h34];split at h
   ·rename_i h92
    rw[if_pos h92];exact next 2 true 0 (by omega) h
   rename_i h92
   rw[if_neg h92];rw[BP L i (by omega)] at h
   rw[BP L' k (by omega),e0]
   split at h
   ·rename_i hp
    split at h
    ·cases h
    ·rename_i u hu
     obtain⟨hu1,hu2⟩:=iH _ _ _ _ _ _ hu;have hlt:=(iH _ _ _ _ _ _ h).1;have e1:L'.getD (k+1) 0=L.getD (i+1) 0:=he 1 (by omega)
     rw[e1,if_pos hp];have hq:=ih false 0 (i+2) u hu L' (k+2) f' (fun x hx=>by rw[Nat.add_assoc,Nat.add_assoc];exact he (2+x) (by omega)) (by omega) (by omega)
     rw[hq];have:=next (u+1 - i) true 0 (by omega) (by rw[show i+(u+1 - i)=u+1 from by omega];exact h)
     rw[show k+(u+1 - i)=k+2+(u - (i+2))+1 from by omega] at this
     exact this
   ·rename_i hp
    have hlt:=(iH _ _ _ _ _ _ h).1;have e1:L'.getD (k+1) 0=L.getD (i+1) 0:=he 1 (by omega)
    rw[e1,if_neg hp];exact next 1 true 0 (by omega) h
theorem I9 (L:List UInt8)(f i t:Nat)(h:aX L f false 0 i=some t):EJ (aZ L i t):=by
 obtain⟨hit,htl⟩:=iH _ _ _ _ _ _ h
 have hS:aZ L (i:Int) (t:Int)=(L.drop i).take (t - i):=by
  unfold aZ;rw[Int.toNat_natCast,Int.toNat_natCast,List.drop_take]
 have hlen:(aZ L (i:Int) (t:Int)).length=t - i:=by
  rw[hS,List.length_take,List.length_drop];omega
 have h41:(L.getD t 0).toNat=41:=by
  have hgen:∀ (f:Nat) (m:Bool) (o i t:Nat),aX L f m o i=some t→(L.getD t 0).toNat=if m=true then 34 else 41:=by
   intro f
   induction f with
   | zero=>intro m o i t h;cases m <;> cases h
   | succ f ih =>
    intro m o i t h
    cases m with
    | false =>
     simp only[aX] at h;split at h
     ·cases h
     split at h
     ·exact ih _ _ _ _ h
     split at h
     ·split at h
      ·cases h
      ·exact ih _ _ _ _ h
     split at h
     ·split at h
      ·cases h
      ·exact ih _ _ _ _ h
     split at h
     ·exact ih _ _ _ _ h
     split at h
     ·rename_i h41
      split at h
      ·cases h;simpa using h41
      ·exact ih _ _ _ _ h
     ·exact ih _ _ _ _ h
    | true =>
     simp only[aX] at h;split at h
     ·cases h
     split at h
     ·rename_i h34
      cases h
      simpa using h34
     split at h
     ·exact ih _ _ _ _ h
     split at h
     ·split at h
      ·cases h
      ·exact ih _ _ _ _ h
     ·exact ih _ _ _ _ h
  have:=hgen f false 0 i t h
  simpa using this
 intro L' k tail f' hd hf
 have hk:k+(t - i)<L'.length:=by
  have:=congrArg List.length hd
  rw[List.length_drop,List.length_append,hlen,List.length_cons] at this;omega
 rw[hlen];refine I5 L f false 0 i t h L' k f' (fun x hx=>?_) hk hf
 rw[← uV,hd]
 by_cases hxt:x<t - i
 ·rw[List.getD_eq_getElem?_getD,List.getElem?_append_left (by rw[hlen];exact hxt),hS,List.getElem?_take,if_pos hxt,← List.getD_eq_getElem?_getD,uV]
 ·obtain rfl:x=t - i:=by omega
  rw[List.getD_eq_getElem?_getD,List.getElem?_append_right (by rw[hlen];exact Nat.le_refl _),hlen,Nat.sub_self,List.getElem?_cons_zero,Option.getD_some,show i+(t - i)=t from by omega]
  exact (UInt8.toNat_inj.1 (h41.trans rfl)).symm
def sY:List Nat→Prop
 | []=>True
 | [_]=>True
 | a :: b :: K=>¬ (a=1∧b=1)∧sY (b :: K)
theorem xW:∀ P:List aD,lU P ↔ sY (P.map (·.kind))
 | []=>Iff.rfl
 | [_]=>Iff.rfl
 | p :: q :: P=>by
  have:=xW (q :: P)
  simp only[lU,List.map_cons,sY] at this ⊢;rw[this]
theorem A3:∀ (K:List Nat)(k:Nat),sY K→(K.getLast?=some 1→k≠1)→sY (K++[k])
 | [],k,_,_=>trivial
 | [a],k,_,h=>⟨fun e=>h (by rw[e.1];rfl) e.2,trivial⟩
 | a :: b :: K,k,h,hl=>⟨h.1,A3 (b :: K) k h.2 (by simpa using hl)⟩
theorem lU.snoc {P:List aD}(h:lU P)(p:aD)(hl:p.kind=1→∀ q,P.getLast?=some q→q.kind≠1):lU (P++[p]):=by
 rw[xW] at h ⊢;rw[List.map_append];refine A3 _ _ h fun e e1=>?_
 rw[List.getLast?_map] at e
 cases hq:P.getLast? with
 | none=>rw[hq] at e;cases e
 | some q =>
  rw[hq] at e;simp only[Option.map_some,Option.some.injEq] at e;exact hl e1 q hq e
theorem lU.same {Q:List aD}{x y:aD}(h:lU (Q++[x]))(e:y.kind=x.kind):lU (Q++[y]):=by
 rw[xW] at h ⊢;rw[List.map_append] at h ⊢;simpa [e] using h
theorem mN.snoc {l:List UInt8}:∀ {c n:UInt8},mN l c→nU c→(c.toNat=36→¬ pN n)→mN (l++[c]) n:=by
 induction l with
 | nil=>intro c n _ hp hs;exact⟨hp,hs,trivial⟩
 | cons d l ih =>
  intro c n h hp hs;refine ⟨h.1,fun e=>?_,ih h.2.2 hp hs⟩
  cases l with
  | nil=>exact h.2.1 e
  | cons d' l=>exact h.2.1 e
structure gP (L:List UInt8) (i:Nat) (P:List aD) (j:Bool):Prop where
 parts:∀ p∈P,oC p
 two:lU P
 place:∀ p∈P,p.kind=1→p.text.headD 0=L.getD p.place 0
 last:∀ q,P.getLast?=some q→q.kind=1→j=true∧mN q.text (L.getD i 0)
def nZ (P:List aD):Prop:=∀ q,P.getLast?=some q→q.kind≠1
theorem gP.nil (L:List UInt8)(i:Nat)(j:Bool):gP L i [] j:=⟨fun _ h=>(nomatch h),trivial,fun _ h=>(nomatch h),fun _ h=>(nomatch h)⟩
theorem gP.to {L:List UInt8}{i i':Nat}{P:List aD}{j j':Bool}(h:gP L i P j)(hn:nZ P):gP L i' P j':=⟨h.parts,h.two,h.place,fun q hq e=>absurd e (hn q hq)⟩
theorem gP.part {L:List UInt8}{i i':Nat}{P:List aD}{j j':Bool}(h:gP L i P j)(p:aD)(hp:oC p)(hk:p.kind≠1):gP L i' (P++[p]) j'∧nZ (P++[p]):=by
 have hn:nZ (P++[p]):=fun q hq=>by
  rw[List.getLast?_concat] at hq
  cases hq
  exact hk
 refine ⟨⟨fun x hx=>?_,h.two.snoc p (fun e=>absurd e hk),fun x hx hx1=>?_,fun q hq e=>absurd e (hn q hq)⟩,hn⟩
 ·rcases List.mem_append.1 hx with hx | hx
  ·exact h.parts x hx
  ·rw[List.mem_singleton] at hx;exact hx ▸ hp
 ·rcases List.mem_append.1 hx with hx | hx
  ·exact h.place x hx hx1
  ·rw[List.mem_singleton] at hx;subst hx;exact absurd hx1 hk
theorem gP.dead {L:List UInt8}{i i' n:Nat}{P:List aD}{j j':Bool}(h:gP L i P j)(s:List UInt8):gP L i' (bQ P j 2 n s) j'∧nZ (bQ P j 2 n s):=by
 have hnew:gP L i' (P++[⟨2,n,0,false,s⟩]) j'∧nZ (P++[⟨2,n,0,false,s⟩]):=h.part _ (.inr (.inl ⟨rfl,rfl,rfl⟩)) (by simp)
 unfold bQ;split
 ·rename_i q hq
  split
  ·rename_i hc
   obtain⟨Q,rfl⟩:=List.getLast?_eq_some_iff.1 hq;rw[List.dropLast_concat];have hqv:=h.parts q (by simp)
   have hq2:oC { q with text:=q.text++s }:=by
    have hk:=hc.2
    rcases hqv with ⟨e,_⟩ | ⟨e,h1,h2⟩ | ⟨e,_⟩ | ⟨e,_⟩ | ⟨e,_⟩ | ⟨e,_⟩
    ·omega
    ·exact .inr (.inl ⟨e,h1,h2⟩)
    all_goals omega
   have hn:nZ (Q++[{ q with text:=q.text++s }]):=fun x hx=>by
    rw[List.getLast?_concat] at hx
    cases hx
    show q.kind≠1
    omega
   refine ⟨⟨fun x hx=>?_,h.two.same rfl,fun x hx hx1=>?_,fun x hx e=>absurd e (hn x hx)⟩,hn⟩
   ·rcases List.mem_append.1 hx with hx | hx
    ·exact h.parts x (by simp [hx])
    ·rw[List.mem_singleton] at hx;exact hx ▸ hq2
   ·rcases List.mem_append.1 hx with hx | hx
    ·exact h.place x (by simp [hx]) hx1
    ·rw[List.mem_singleton] at hx;subst hx;exfalso
     have:q.kind=1:=hx1
     omega
  ·exact hnew
 ·exact hnew
theorem gP.text {L:List UInt8}{i:Nat}{P:List aD}{j:Bool}(h:gP L i P j)(hp:nU (L.getD i 0))(hs:(L.getD i 0).toNat=36→¬ pN (L.getD (i+1) 0)):gP L (i+1) (bQ P j 1 i [L.getD i 0]) true:=by
 have hnew:(∀ q,P.getLast?=some q→q.kind≠1)→gP L (i+1) (P++[⟨1,i,0,false,[L.getD i 0]⟩]) true:=fun hl=>by
  have hpv:oC ⟨1,i,0,false,[L.getD i 0]⟩:=.inl ⟨rfl,rfl,rfl,by simp,L.getD (i+1) 0,hp,hs,trivial⟩
  refine ⟨fun x hx=>?_,h.two.snoc _ (fun _=>hl),fun x hx hx1=>?_,fun q hq e=>?_⟩
  ·rcases List.mem_append.1 hx with hx | hx
   ·exact h.parts x hx
   ·rw[List.mem_singleton] at hx;exact hx ▸ hpv
  ·rcases List.mem_append.1 hx with hx | hx
   ·exact h.place x hx hx1
   ·rw[List.mem_singleton] at hx;subst hx;rfl
  ·rw[List.getLast?_concat] at hq
   cases hq
   exact⟨rfl,hp,hs,trivial⟩
 unfold bQ;split
 ·rename_i q hq
  split
  ·rename_i hc
   obtain⟨Q,rfl⟩:=List.getLast?_eq_some_iff.1 hq;rw[List.dropLast_concat];have hlast:=h.last q hq hc.2;have htv:mN (q.text++[L.getD i 0]) (L.getD (i+1) 0):=hlast.2.snoc hp hs;have hqv:=h.parts q (by simp)
   have hq2:oC { q with text:=q.text++[L.getD i 0] }:=by
    rcases hqv with ⟨e,h1,h2,h3,_⟩ | ⟨e,_⟩ | ⟨e,_⟩ | ⟨e,_⟩ | ⟨e,_⟩ | ⟨e,_⟩
    ·exact .inl ⟨e,h1,h2,by simp,_,htv⟩
    all_goals omega
   have hne:q.text≠[]:=by
    rcases hqv with ⟨e,h1,h2,h3,_⟩ | ⟨e,_⟩ | ⟨e,_⟩ | ⟨e,_⟩ | ⟨e,_⟩ | ⟨e,_⟩
    ·exact h3
    all_goals omega
   refine ⟨fun x hx=>?_,h.two.same rfl,fun x hx hx1=>?_,fun x hx e=>?_⟩
   ·rcases List.mem_append.1 hx with hx | hx
    ·exact h.parts x (by simp [hx])
    ·rw[List.mem_singleton] at hx;exact hx ▸ hq2
   ·rcases List.mem_append.1 hx with hx | hx
    ·exact h.place x (by simp [hx]) hx1
    ·rw[List.mem_singleton] at hx;subst hx;have h0:=h.place q (by simp) hc.2
     show (q.text++[L.getD i 0]).headD 0=L.getD q.place 0
     rw[← h0]
     cases hqt:q.text with
     | nil=>exact absurd hqt hne
     | cons d l=>rfl
   ·rw[List.getLast?_concat] at hx
    cases hx
    exact⟨rfl,htv⟩
  ·rename_i hc
   refine hnew fun x hx e=>?_
   rw[hq] at hx
   cases hx
   exact hc ⟨(h.last q hq e).1,e⟩
 ·rename_i hq
  exact hnew fun x hx=>by rw[hq] at hx;cases hx
theorem Ap (l:List UInt8)(h:bI l=true):uT l∧l.length≤20:=by
 cases l with
 | nil=>cases h
 | cons c l =>
  rw[bI] at h;simp only[Bool.and_eq_true,decide_eq_true_eq] at h;exact⟨⟨by simp,h.1.2,List.all_eq_true.1 h.2⟩,by simp only[List.length_cons];omega⟩
theorem Ih (L:List UInt8)(i:Nat)(h:eG (L.drop i)=[]):eL (L.getD i 0)=false:=by
 cases hd:L.drop i with
 | nil =>
  have:=congrArg List.length hd
  rw[List.length_drop] at this;simp only[List.length_nil] at this;rw[List.getD_eq_getElem?_getD,List.getElem?_eq_none (by omega)]
  rfl
 | cons c m =>
  obtain⟨h1,h2,h3⟩:=jA hd;rw[h2];rw[hd,eG] at h
  cases hb:eL c with
  | false=>rfl
  | true =>
   rw[hb,if_pos rfl,List.takeWhile_cons_of_pos (by rw[cP,hb];rfl)] at h
   cases h
theorem AD (L:List UInt8)(q:Bool)(i:Nat)(P:List aD)(j:Bool)(i':Nat)(P':List aD)(j':Bool)(h36:(L.getD i 0).toNat=36)(hI:gP L i P j)(h:e8 L q i P j = .ok (i',P',j')) :
  gP L i' P' j'∧(q=true→nZ P'):=by
 unfold e8 at h;simp only[] at h;split at h
 ·rename_i hne
  split at h
  ·rename_i hn
   cases h
   have:=hI.part (i':=i+1+(eG (L.drop (i+1))).length) (j':=false) ⟨3,i,0,q,eG (L.drop (i+1))⟩ (.inr (.inr (.inl ⟨rfl,rfl,.inr (Ap _ hn)⟩))) (by simp)
   exact⟨this.1,fun _=>this.2⟩
  ·cases h
 rename_i hne
 have hb:=Ih L (i+1) (by simpa using hne)
 split at h
 ·split at h
  ·cases h
  ·rename_i n hn
   split at h
   ·rename_i hnm
    cases h
    have:=hI.part (i':=i+3+n) (j':=false) ⟨3,i,0,q,aZ L (i+2) (i+2+n)⟩ (.inr (.inr (.inl ⟨rfl,rfl,.inr (Ap _ hnm)⟩))) (by simp)
    exact⟨this.1,fun _=>this.2⟩
   ·cases h
 rename_i h123
 split at h
 ·cases h
  have:=hI.part (i':=i+2) (j':=false) ⟨3,i,0,q,[42]⟩ (.inr (.inr (.inl ⟨rfl,rfl,.inl rfl⟩))) (by simp)
  exact⟨this.1,fun _=>this.2⟩
 rename_i h42
 split at h
 ·rename_i hd
  cases h
  have:=hI.part (i':=i+2) (j':=false) ⟨5,i,(L.getD (i+1) 0).toNat - 48,q,[]⟩ (.inr (.inr (.inr (.inr (.inl ⟨rfl,by dsimp only;omega,by dsimp only;omega,rfl⟩))))) (by simp)
  exact⟨this.1,fun _=>this.2⟩
 rename_i hd
 split at h
 ·cases h
  have:=hI.part (i':=i+2) (j':=false) ⟨6,i,0,q,[]⟩ (.inr (.inr (.inr (.inr (.inr ⟨rfl,rfl,rfl⟩))))) (by simp)
  exact⟨this.1,fun _=>this.2⟩
 rename_i h35
 split at h
 ·split at h
  ·cases h
  ·rename_i t ht
   cases h
   have hv:=I9 L _ _ _ ht;have:=hI.part (i':=t+1) (j':=false) ⟨4,i,0,q,aZ L (i+2) t⟩ (.inr (.inr (.inr (.inl ⟨rfl,rfl,by rw[show ((i:Int)+2)=((i+2:Nat):Int) from rfl];exact hv⟩)))) (by simp)
   exact⟨this.1,fun _=>this.2⟩
 rename_i h40
 cases h
 cases q with
 | true =>
  have:=hI.dead (i':=i+1) (n:=i) (j':=true) [36]
  exact⟨this.1,fun _=>this.2⟩
 | false =>
  have hc:L.getD i 0=36:=UInt8.toNat_inj.1 (h36.trans rfl);have hp:nU (L.getD i 0):=by rw[hc];unfold nU;decide
  have:=hI.text hp (fun _ e=>by
   unfold pN at e;rw[hb] at e
   rcases e with e | e | e | e | e | e
   ·cases e
   ·exact h123 e
   ·exact h42 e
   ·exact hd e
   ·exact h35 e
   ·exact h40 e)
  rw[hc] at this;exact⟨this,fun e=>by cases e⟩
theorem Fy (L:List UInt8)(b:Nat):∀ (f i:Nat)(P:List aD)(j:Bool)(i':Nat)(P':List aD)(j':Bool),gP L i P j→nZ P→dR L b f i P j = .ok (i',P',j')→gP L i' P' j'∧nZ P':=by
 intro f
 induction f with
 | zero=>intro i P j i' P' j' _ _ h;cases h
 | succ f ih =>
  intro i P j i' P' j' hI hn h;simp only[dR] at h;split at h
  ·cases h
  rename_i hlt
  split at h
  ·cases h
   exact⟨hI.to hn,hn⟩
  split at h
  ·have:=hI.dead (i':=i+2) (n:=i) (j':=true) (if [36,34,92].contains (L.getD (i+1) 0).toNat then [L.getD (i+1) 0] else [L.getD i 0,L.getD (i+1) 0])
   exact ih _ _ _ _ _ _ this.1 this.2 h
  split at h
  ·rename_i h36
   split at h
   ·cases h
   ·rename_i i2 P2 j2 hd
    have:=AD L true i P j i2 P2 j2 h36 hI hd
    exact ih _ _ _ _ _ _ this.1 (this.2 rfl) h
  ·have:=hI.dead (i':=i+1) (n:=i) (j':=true) [L.getD i 0]
   exact ih _ _ _ _ _ _ this.1 this.2 h
theorem GR (L:List UInt8):∀ (f i:Nat)(P:List aD)(j:Bool)(i':Nat)(P':List aD),gP L i P j→bO L f i P j = .ok (i',P')→(∀ p∈P',oC p)∧lU P'∧∀ p∈P',p.kind=1→p.text.headD 0=L.getD p.place 0:=by
 intro f
 induction f with
 | zero=>intro i P j i' P' hI h;cases h;exact⟨hI.parts,hI.two,hI.place⟩
 | succ f ih =>
  intro i P j i' P' hI h;simp only[bO] at h;split at h
  ·cases h;exact⟨hI.parts,hI.two,hI.place⟩
  rename_i hlt
  split at h
  ·cases h;exact⟨hI.parts,hI.two,hI.place⟩
  rename_i hen
  split at h
  ·exact ih _ _ _ _ _ (hI.part _ (.inr (.inl ⟨rfl,rfl,rfl⟩)) (by simp)).1 h
  rename_i h92
  split at h
  ·split at h
   ·cases h
   ·exact ih _ _ _ _ _ (hI.part _ (.inr (.inl ⟨rfl,rfl,rfl⟩)) (by simp)).1 h
  rename_i h39
  split at h
  ·split at h
   ·cases h
   ·rename_i i2 P2 j2 hd
    have h0:=hI.part (i':=i+1) (j':=true) ⟨2,i,0,false,[]⟩ (.inr (.inl ⟨rfl,rfl,rfl⟩)) (by simp)
    exact ih _ _ _ _ _ (Fy L i _ _ _ _ _ _ _ h0.1 h0.2 hd).1 h
  rename_i h34
  split at h
  ·rename_i h36
   split at h
   ·cases h
   ·rename_i i2 P2 j2 hd
    exact ih _ _ _ _ _ (AD L false i P j i2 P2 j2 h36 hI hd).1 h
  ·rename_i h36
   exact ih _ _ _ _ _ (hI.text ⟨by simpa using hen,h92,h39,h34⟩ (fun e=>absurd e h36)) h
def vZ (t:aG):Prop :=
 (t.kind≤12∧t.parts=[])∨(t.kind=13∧t.parts≠[]∧(∀ p∈t.parts,oC p)∧lU t.parts∧∀ p,t.parts.head?=some p→p.kind=1→(p.text.headD 0).toNat≠35)
theorem Gt (L:List UInt8)(i:Nat)(t:aG)(n:Nat)(hi:i≤L.length)(hfront:∀ c m,L.drop i=c :: m→¬ (c.toNat=32∨c.toNat=9∨c.toNat=35))(h:gA L i = .ok (t,n)):vZ t:=by
 have hok:=uQ L i t n hi hfront h;unfold gA at h;split at h
 ·cases h
  exact .inl ⟨Nat.zero_le _,rfl⟩
 rename_i hlt
 simp only[] at h;split at h
 ·cases h
  refine .inl ⟨?_,rfl⟩
  rcases Dy (L.drop i) with e | ⟨e,_,_⟩
  ·rw[e];exact Nat.zero_le _
  ·have:=(List.getElem?_eq_some_iff.1 e).1
   have h13:bH.length=13:=rfl;show (bB (L.drop i) bH 0 [] 0).2≤12
   omega
 split at h
 ·cases h
 split at h
 ·cases h
 ·rename_i k P hw
  cases h
  obtain⟨v1,v2,v3⟩:=GR L _ _ _ _ _ _ (gP.nil L i false) hw;obtain⟨o1,o2,o3,o4,t1,t2,t3,t4⟩:=hok
  have hne:P≠[]:=by
   intro e;have:=t1.1 rfl
   rw[e] at this;simp at this
  refine .inr ⟨rfl,hne,v1,v2,fun p hp e=>?_⟩
  have hmem:p∈P:=List.mem_of_mem_head? (by rw[hp];rfl)
  have hpl:=t2 p (by rw[← List.head?_eq_getElem?];exact hp)
  rw[v3 p hmem e,hpl]
  cases hd:L.drop i with
  | nil =>
   have:=congrArg List.length hd
   rw[List.length_drop] at this;simp only[List.length_nil] at this;omega
  | cons c m =>
   obtain⟨d1,d2,d3⟩:=jA hd;have:=hfront c m hd
   show (L.getD i 0).toNat≠35
   rw[d2];omega
end Go.Proofs.YtbpjobmpacjgcaaGreatDoor
