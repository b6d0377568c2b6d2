/- Dialect B's parser: what each function of it comes to, as the plain parser says. -/
import Derived.Test.YtbpjobmpacjgcaaGreatDoorGBKitG
import Derived.Deep.DeepCutAuto
import Derived.Test.YtbpjobmpacjgcaaGreatDoorGParseG
namespace Go.Proofs.YtbpjobmpacjgcaaGreatDoor
set_option maxHeartbeats 8000000
set_option maxRecDepth 100000
open Go Go.RowKit
structure iG (w:World) (b:Nat) (sent:Nat→Addr):Prop where
 env:Env w sent
 ne:∀ c g,(c,g)∈cH→g≠b
 mx:∃ m,w.cell? ⟨12,0,none⟩=some (.int .i64 m)
 mne:12≠b
theorem iG.kept {w w':World}{b:Nat}{sent:Nat→Addr}(h:iG w b sent)(hk:aB (At b) w w'):iG w' b sent :=
 ⟨fun c g hg=>hk.cell (h.env c g hg) (h.ne c g hg),h.ne,h.mx.elim fun m hm=>⟨m,hk.cell hm h.mne⟩,h.mne⟩
theorem iG.below {w w':World}{b:Nat}{sent:Nat→Addr}(h:iG w b sent)(hb:Below w.heap.size w w'):iG w' b sent:=h.kept (.ofBelow hb)
def cU (w w':World) (sent:Nat→Addr) (c p:Nat) (v:Value):Prop:=∃ eb,v = .iface 61 (.pointer (some ⟨eb,0,none⟩))∧bJ w' eb sent c p∧w.heap.size≤eb
theorem cU.kept {w w' w'':World}{sent:Nat→Addr}{c p:Nat}{v:Value}{b:Nat}(h:cU w w' sent c p v)(hb:b<w.heap.size)(hk:aB (At b) w' w''):cU w w'' sent c p v:=by
 obtain⟨eb,h1,h2,h3⟩:=h;refine ⟨eb,h1,?_,h3⟩;unfold bJ at h2 ⊢;exact h2.kept hk (fun e=>by unfold At at e;omega)
theorem cU.from {w0 w w':World}{sent:Nat→Addr}{c p:Nat}{v:Value}(h:cU w w' sent c p v)(hs:w0.heap.size≤w.heap.size):cU w0 w' sent c p v:=by
 obtain⟨eb,h1,h2,h3⟩:=h;exact⟨eb,h1,h2,Nat.le_trans hs h3⟩
def bA (w:World) (b g cap:Nat) (ts:List aH) (d m:Nat) (sent:Nat→Addr) (r:Except (Nat×Nat) (aA×Nat)) (e:Ending) (w':World):Prop :=
 aB (At b) w w'∧match r with
 | .ok (l,j)=>∃ v,e = .returned (.tuple #[v,.nilIface])∧NSl w' b v l∧PSt w' b g cap ts j d
 | .error (c,p)=>∃ v u j l,e = .returned (.tuple #[v,u])∧fO w' b v l∧l.length≤m∧cU w w' sent c p u∧PSt w' b g cap ts j d
theorem bA.ok {w w':World}{b g cap:Nat}{ts:List aH}{d m:Nat}{sent:Nat→Addr}{l:aA}{j:Nat}{v:Value}{r:Except (Nat×Nat) (aA×Nat)}{e:Ending}(hr:r = .ok (l,j))(he:e = .returned (.tuple #[v,.nilIface]))(h1:NSl w' b v l)(h2:PSt w' b g cap ts j d)(hk:aB (At b) w w'):bA w b g cap ts d m sent r e w':=by
 subst hr;exact⟨hk,v,he,h1,h2⟩
theorem bA.bad {w w':World}{b g cap:Nat}{ts:List aH}{d m:Nat}{sent:Nat→Addr}{c p j:Nat}{v u:Value}{r:Except (Nat×Nat) (aA×Nat)}{e:Ending}{l:aA}(hr:r = .error (c,p))(he:e = .returned (.tuple #[v,u]))(h0:fO w' b v l)(hl:l.length≤m)(h1:cU w w' sent c p u)(h2:PSt w' b g cap ts j d)(hk:aB (At b) w w'):bA w b g cap ts d m sent r e w':=by
 subst hr;exact⟨hk,v,u,j,l,he,h0,hl,h1,h2⟩
theorem fO.none (w:World)(b:Nat):fO w b (.slice none 0 0) []:=.inr ⟨rfl,rfl⟩
def aO (w:World) (B b:Nat) (v:Value) (L:List aA):Prop:=∃ us:List Value,us.length=L.length∧w.ownsRow B 26 1 v L.length us∧∀ (i:Nat) (u:Value) (l:aA),us[i]?=some u→L[i]?=some l→NSl w b u l
theorem aO.nil (w:World)(B b:Nat):aO w B b (.slice none 0 0) []:=⟨[],rfl,World.ownsRow_nil _ _ _ _,fun i u l h=>by simp at h⟩
theorem bM {w w':World}{B:Nat}{e:TypeId}{size:Nat}{v:Value}{n:Nat}{xs:List Value}{S:Nat→Prop}(h:w.ownsRow B e size v n xs)(hk:aB S w w')(hS:∀ k,B≤k→k<w.heap.size→¬ S k):w'.ownsRow B e size v n xs:=by
 refine ⟨h.1,?_⟩
 rcases h.2 with h2 | ⟨g,cap,cur,hv,hg,hh,r⟩
 ·exact .inl h2
 ·exact .inr ⟨g,cap,cur,hv,hg,(hk.block g (lt_of_block hh) (hS g hg (lt_of_block hh))).trans hh,r⟩
theorem aO.kept {w w':World}{B b:Nat}{v:Value}{L:List aA}(h:aO w B b v L)(hb:b<B)(hk:aB (At b) w w'):aO w' B b v L:=by
 obtain⟨us,h1,h2,h3⟩:=h;exact⟨us,h1,bM h2 hk (fun k hk _ e=>by unfold At at e;omega),fun i u l hu hl=>(h3 i u l hu hl).kept hk⟩
theorem aO.below {w w':World}{B b:Nat}{v:Value}{L:List aA}(h:aO w B b v L)(hb:b<B)(hk:Below w.heap.size w w'):aO w' B b v L:=h.kept hb (.ofBelow hk)
theorem aO.form {w:World}{B b:Nat}{v:Value}{L:List aA}(h:aO w B b v L):∃ ao cap,v = .slice ao L.length cap:=by
 obtain⟨us,h1,h2,_⟩:=h
 rcases h2.2 with ⟨hv,h0⟩ | ⟨g,cap,cur,hv,_⟩
 ·exact⟨none,0,by rw[hv,h0]⟩
 ·exact⟨_,_,hv⟩
theorem aO.ksl {w:World}{B b:Nat}{v:Value}{L:List aA}(h:aO w B b v L)(hb:b<B):KSl w b v L:=by
 obtain⟨us,h1,h2,h3⟩:=h
 by_cases hl:0<L.length
 ·obtain⟨g,cap,q1,q2,q3,q4,q5,q6⟩:=kE h2 hl;refine ⟨_,cap,q1,q2,q3,fun _=>⟨g,rfl,q5,by omega,fun i l hi=>?_⟩⟩
  have hil:=(List.getElem?_eq_some_iff.1 hi).1;have hu:us[i]?=some us[i]:=List.getElem?_eq_getElem (by omega)
  exact⟨_,q6 i _ hu,.inl (h3 i _ l hu hi)⟩
 ·have h0:L=[]:=List.length_eq_zero_iff.1 (by omega)
  subst h0
  rcases h2.2 with ⟨hv,_⟩ | ⟨g,cap,cur,hv,_,_,q1,q2,_⟩
  ·exact⟨none,0,hv,Nat.le_refl _,Nat.zero_le _,fun h=>absurd h (by simp)⟩
  ·exact⟨_,cap,hv,q1,q2,fun h=>absurd h (by simp)⟩
theorem aO.snoc {w':World}{B b:Nat}{v':Value}{L:List aA}{l:aA}{u:Value}{us:List Value}(h1:us.length=L.length)(h3:∀ (i:Nat)(u:Value)(l:aA),us[i]?=some u→L[i]?=some l→NSl w' b u l)(hu:NSl w' b u l)(hown:w'.ownsRow B 26 1 v' (L.length+1) (us++[u])):aO w' B b v' (L++[l]):=by
 refine ⟨us++[u],by simp [h1],by rw[List.length_append];exact hown,fun i x y hx hy=>?_⟩
 by_cases hi:i<us.length
 ·rw[List.getElem?_append_left hi] at hx;rw[List.getElem?_append_left (by omega)] at hy
  exact h3 i x y hx hy
 ·rw[List.getElem?_append_right (by omega)] at hx hy
  obtain⟨k,hk⟩:∃ k,i - us.length=k:=⟨_,rfl⟩;have hk2:i - L.length=k:=by omega
  rw[hk] at hx;rw[hk2] at hy
  cases k with
  | zero =>
   cases hx
   cases hy
   exact hu
  | succ k=>simp at hx
theorem aO.grown {w0 w w':World}{b:Nat}{v v':Value}{L:List aA}{l:aA}{u:Value}{us:List Value}{o:Obj}(hs:w0.heap.size≤w.heap.size)(h1:us.length=L.length)(h2:w.ownsRow w0.heap.size 26 1 v L.length us)(h3:∀ (i:Nat)(u:Value)(l:aA),us[i]?=some u→L[i]?=some l→NSl w b u l)(hu:NSl w b u l)
  (hown:w'.ownsRow w0.heap.size 26 1 v' (L.length+1) (us++[u])) (hg:(w.alloc o).grownBy w' v.ownBlock):aO w' w0.heap.size b v' (L++[l])∧Below w0.heap.size w w':=by
 have hb1:=(Below.refl w.heap.size w).alloc (Nat.le_refl _) o
 have hrow:∀ k,v.ownBlock=some k→∃ cur fz t,(w.alloc o).heap[k]?=some (.cells cur t fz)∧t≠40:=fun k hk=>by
  obtain⟨cur,fz,e⟩:=oM h2 k hk;exact⟨cur,fz,26,(hb1.block k (lt_of_block e)).trans e,by decide⟩
 have hlt:=World.ownsRow.lt h2;refine ⟨aO.snoc h1 (fun i x y hx hy=>((h3 i x y hx hy).below hb1).grown hg hrow) ((hu.below hb1).grown hg hrow) hown,?_⟩
 exact (hb1.mono hs).trans ((aB.grown (S:=fun k=>some k=v.ownBlock) (aB.refl _ _) hg (fun k h _=>h.symm)).below (by simp;omega) (fun i hi e=>by have:=hlt _ e.symm;omega))
def qG (ts:List aH):Prop:=∀ i,(aK ts i).kind≠18∧(aK ts i).kind≠21∧(aK ts i).kind≠22∧(aK ts i).kind≠23∧(aK ts i).kind≠10
structure PTs (cap:Nat) (ts:List aH):Prop where
 fix:kY cap ts
 w:∀ i,rV (aK ts i)
 cls:qG ts
def gN (b g cap:Nat) (ts:List aH) (sent:Nat→Addr) (fn:FuncId) (x:Nat→Nat→aJ aA):Prop :=
 ∀ (w:World) (i d:Nat) (r:Except (Nat×Nat) (aA×Nat)),d≤31→i<ts.length→PSt w b g cap ts i d→iG w b sent→Hid (x d i=some r)→Calls Tryz.prog fn #[.pointer (some ⟨b,0,none⟩)] w (bA w b g cap ts d (60000 * (32 - d)) sent r)
def Ae (b g cap:Nat) (ts:List aH) (sent:Nat→Addr) (fn:FuncId) (x:Nat→Nat→aJ aA):Prop :=
 ∀ (w:World) (i d:Nat) (r:Except (Nat×Nat) (aA×Nat)),d≤31→i<ts.length→PSt w b g cap ts i d→iG w b sent→Hid (x d i=some r)→Calls Tryz.prog fn #[.pointer (some ⟨b,0,none⟩)] w (bA w b g cap ts d (60000 * (31 - d)) sent r)
theorem bA.mono {w w':World}{b g cap:Nat}{ts:List aH}{d m m':Nat}{sent:Nat→Addr}{r:Except (Nat×Nat) (aA×Nat)}{e:Ending}(h:bA w b g cap ts d m sent r e w')(hm:m≤m'):bA w b g cap ts d m' sent r e w':=by
 obtain⟨h1,h2⟩:=h;refine ⟨h1,?_⟩
 cases r with
 | error x =>
  obtain⟨v,u,j,l,q1,q2,q3,q4⟩:=h2;exact⟨v,u,j,l,q1,q2,by omega,q4⟩
 | ok x=>exact h2
def wG (b g cap:Nat) (ts:List aH) (sent:Nat→Addr) (fn:FuncId) (x:Nat→Nat→aJ aA):Prop :=
 ∀ (w:World) (i d:Nat) (r:Except (Nat×Nat) (aA×Nat)),d≤31→i<ts.length→PSt w b g cap ts i d→iG w b sent→Hid (x d i=some r)→Calls Tryz.prog fn #[.pointer (some ⟨b,0,none⟩)] w (bA w b g cap ts d (60000 * (32 - d) - 1) sent r)
theorem wG.does {b g cap:Nat}{ts:List aH}{sent:Nat→Addr}{fn:FuncId}{x:Nat→Nat→aJ aA}(h:wG b g cap ts sent fn x):gN b g cap ts sent fn x :=
 fun w i d r hd hi hS hE hr=>(h w i d r hd hi hS hE hr).mono fun _ _ hp=>hp.mono (by omega)
theorem Hz {ts:List aH}{cap:Nat}(T:PTs cap ts){f d i:Nat}{l:aA}{e:Nat}(hi:i<ts.length)(h:fG ts f d i=some (.ok (l,e))):i<e∧e<ts.length∧l.length≤6 * (e - i)∧0<l.length:=by
 obtain⟨a1,a2,a3,_⟩:=((lB T.fix.good f).chain d i hi).1 l e h;obtain⟨D,hD⟩:=(qF T.w f).chain d i l e h;exact⟨a1,a2,a3,hD.pos.1⟩
theorem Gv {b g cap:Nat}{ts:List aH}{sent:Nat→Addr}(T:PTs cap ts)(f:Nat)(ih:∀ f'<f,gN b g cap ts sent 104 (fG ts f')):gN b g cap ts sent 49 (fun d i=>eK ts f d i []):=by
 intro w i d r hd hi hS hE hr;have F:=T.fix;obtain⟨k0,hk0,hk1,hk2,hk3⟩:=info_parts jB;have hbl:=hS.blt;have hgl:=hS.glt;have hcap:=F.num;have IH:=Ng ih;clear ih;go_enter Tryz.func49,Tryz.ntmps49
 go_wp2_with fail
 go_loopg [4] (ts.length - i) (fun m v wr=>∃ (k fk:Nat) (L:List aA),m=ts.length - k∧k<ts.length∧fk≤f∧L.length≤k∧L.flatten.length≤6 * k∧Hid (∀ l∈L,0<l.length)∧aB (At b) w wr∧PSt wr b g cap ts k d∧aO wr w.heap.size b v L∧Hid (eK ts fk d k L=some r))
 case atStart=>exact⟨i,f,[],rfl,hi,Nat.le_refl _,by simp,by simp,Ng (fun _ h=>nomatch h),aB.refl _ _,hS,aO.nil _ _ _,hr⟩
 case round =>
  clear hS hr hi;obtain⟨k,fk,L,rfl,hk,hfk,hL1,hL2,hL3,hK,hS,hO,hr⟩:=hrel
  obtain⟨fk,rfl⟩:∃ q,fk=q+1:=by
   cases fk with
   | zero=>have:=hr.out;rw[eK] at this;cases this
   | succ q=>exact⟨q,rfl⟩
  obtain⟨ao,acap,rfl⟩:=hO.form;have hE1:=hE.kept hK;have c1:=hS.c1;obtain⟨j,hj⟩:∃ j,iL ts [1,2] k=j:=⟨_,rfl⟩;have hjn:=(jT (ts:=ts) [1,2] hk);rw[hj] at hjn;have HR:=Ng hr.out;rw[eK] at HR;rw[hj] at HR;clear hr;go_wp2_with fail
  refine (uM F (hS.alloc _) hk [1,2] _ _ (by decide) (by decide) (show Blk _ _ [Value.int .i64 1,Value.int .i64 2] from Blk.new wr _ _) (by have:=hK.size;omega)).mono ?_
  rintro e w2 ⟨rfl,hS2,hK2⟩;rw[hj] at hS2;have hK3:=(hK.alloc (.cells #[Value.int .i64 1,Value.int .i64 2] 3)).same hK2;have hO2:=(hO.below hbl ((Below.refl _ wr).alloc (Nat.le_refl _) (.cells #[Value.int .i64 1,Value.int .i64 2] 3))).kept hbl hK2;clear hS hK hK2 hO c1 hE1;go_wp2_with fail
  refine (iY F (hS2.alloc _) hjn.2 [0,7,9] _ _ (by decide) (show Blk _ _ [Value.int .i64 0,Value.int .i64 7,Value.int .i64 9] from Blk.new w2 _ _)).mono ?_
  rintro e w3 ⟨rfl,hb3⟩;have hb3':=aE ((Below.refl _ w2).alloc (Nat.le_refl _) (.cells #[Value.int .i64 0,Value.int .i64 7,Value.int .i64 9] 3)) hb3;have hS3:=hS2.below hb3';have hO3:=hO2.below hbl hb3';have hK4:=hK3.andBelow hb3';clear hS2 hO2 hK3 hb3 hb3';have hL4:L.flatten.length≤100000000:=by omega
  have hL5:L.length≤100000000:=by omega
  by_cases x0:isK ts j [0,7,9]=true
  ·rw[if_pos (.inl x0)] at HR;have HX:=Ng (Option.some.inj (show some (Except.ok (eX L,j))=some r from HR.out)).symm
   rw[x0];have HC:=Ng (sP L b _ w3 (Nat.lt_of_lt_of_le hbl hK4.size) hL3.out hL4 hL5 (hO3.ksl hbl));clear HR x0;go_wp2_with fail
   refine HC.out.mono ?_;rintro e w4 ⟨v4,rfl,hN,hb4⟩;go_wp2_with fail
   go_ret2;exact bA.ok HX.out rfl hN (hS3.below hb4) (hK4.andBelow hb4)
  ·have x0':isK ts j [0,7,9]=false:=by simpa using x0
   rw[x0'];go_wp2_with fail
   refine (C8 F hS3 hjn.2 [99,97,115,101]).mono ?_;rintro e w4 ⟨rfl,hb4⟩;have hS4:=hS3.below hb4;have hO4:=hO3.below hbl hb4;have hK5:=hK4.andBelow hb4;clear hS3 hO3 hK4 hb4;have HC:=Ng (sP L b _ w4 (Nat.lt_of_lt_of_le hbl hK5.size) hL3.out hL4 hL5 (hO4.ksl hbl))
   by_cases x1:i6 ts j [99,97,115,101]=true
   ·rw[if_pos (.inr (.inl x1))] at HR;have HX:=Ng (Option.some.inj (show some (Except.ok (eX L,j))=some r from HR.out)).symm
    rw[x1];clear HR x0 x1 x0';go_wp2_with fail
    refine HC.out.mono ?_;rintro e w5 ⟨v5,rfl,hN,hb5⟩;go_wp2_with fail
    go_ret2;exact bA.ok HX.out rfl hN (hS4.below hb5) (hK5.andBelow hb5)
   ·have x1':i6 ts j [99,97,115,101]=false:=by simpa using x1
    rw[x1'];have c1:=hS4.c1
    by_cases x2:0<L.length∧j=k
    ·rw[if_pos (.inr (.inr x2))] at HR;have HX:=Ng (Option.some.inj (show some (Except.ok (eX L,j))=some r from HR.out)).symm
     have y1:decide ((0:Int)<(L.length:Int))=true:=by rw[decide_eq_true_eq];omega
     have y2:((j:Int)==(k:Int))=true:=by rw[beq_iff_eq];omega
     clear HR x0 x1 x0' x1';go_wp2_with fail
     refine HC.out.mono ?_;rintro e w5 ⟨v5,rfl,hN,hb5⟩;go_wp2_with fail
     go_ret2;exact bA.ok HX.out rfl hN (hS4.below hb5) (hK5.andBelow hb5)
    ·rw[if_neg (by
      rintro (h | h | h)
      ·exact x0 h
      ·exact x1 h
      ·exact x2 h)] at HR
     have hE4:=hE.kept hK5
     have y:L.length=0∨(0<L.length∧((j:Int)==(k:Int))=false):=by
      by_cases h0:0<L.length
      ·exact .inr ⟨h0,by rw[beq_eq_false_iff_ne];intro e;exact x2 ⟨h0,by omega⟩⟩
      ·exact .inl (by omega)
     clear HC x0 x1 x2 x0' x1'
     cases hq:fG ts fk d j with
     | none =>
      rw[hq] at HR;exact absurd HR.out (by simp [aJ.go])
     | some rc =>
      rw[hq] at HR;have HD:=Ng (IH.out fk (by omega) w4 j d rc hd hjn.2 hS4 hE4 (Ng hq))
      cases rc with
      | error e0 =>
       obtain⟨c0,p0⟩:=e0;have HX:=Ng (Option.some.inj (show some (Except.error (c0,p0))=some r from HR.out)).symm
       clear HR hq
       rcases y with y0 | ⟨y0,y1⟩
       ·rw[y0];go_wp2_with fail
        refine HD.out.mono ?_;rintro e w5 ⟨hK6,v,u,j',l0,rfl,_,_,⟨eb,rfl,q2,q3⟩,hS5⟩;go_wp2_with fail
        go_ret2;exact bA.bad HX.out rfl (.none _ _) (Nat.zero_le _) ⟨eb,rfl,q2,Nat.le_trans hK5.size q3⟩ hS5 (hK5.same hK6)
       ·have y2:decide ((0:Int)<(L.length:Int))=true:=by rw[decide_eq_true_eq];omega
        go_wp2_with fail
        refine HD.out.mono ?_;rintro e w5 ⟨hK6,v,u,j',l0,rfl,_,_,⟨eb,rfl,q2,q3⟩,hS5⟩;go_wp2_with fail
        go_ret2;exact bA.bad HX.out rfl (.none _ _) (Nat.zero_le _) ⟨eb,rfl,q2,Nat.le_trans hK5.size q3⟩ hS5 (hK5.same hK6)
      | ok q =>
       obtain⟨cl,ce⟩:=q;obtain⟨z1,z2,z3,z4⟩:=Hz T hjn.2 hq;have HX:=Ng (show eK ts fk d ce (L++[cl])=some r from HR.out)
       clear HR hq;have hL6:(L++[cl]).length≤ce:=by rw[List.length_append,List.length_cons,List.length_nil];omega
       have hL7:(L++[cl]).flatten.length≤6 * ce:=by rw[fD,List.length_append];omega
       have hL8:=Ng (fP hL3.out z4)
       rcases y with y0 | ⟨y0,y1⟩
       ·skip
        rw[y0] at hO4 ⊢;go_wp2_with fail
        refine HD.out.mono ?_;rintro e w5 ⟨hK6,v,rfl,hN,hS5⟩;have hK7:=hK5.same hK6;obtain⟨us,u1,u2,u3⟩:=hO4.kept hbl hK6;have hOA:∀ o,(w5.alloc o).ownsRow w.heap.size 26 1 _ L.length us:=fun o=>bM u2 (aB.ofBelow (S:=bW) ((Below.refl _ w5).alloc (Nat.le_refl _) o)) (fun _ _ _ e=>e)
        have HN:=Ng hN;have hsz5:=hK7.size;obtain⟨gc,cc,rfl,-⟩:=hN;clear hK5 hK6 hO4 hS4 HD;go_wp2_with (at_builtin;refine wpList_append_own _ rfl _ _ 25 rfl w.heap.size 26 k0 _ 1 24 Tryz.underlying25 hk0 hk1 hk2 hk3 rfl (by decide) _ _ _ rfl (hOA _) ⟨w5.heap.size,0,none⟩ 1 1 [.slice (some ⟨gc,0,none⟩) cl.length cc] rfl rfl ?c1 ?c2 ?c3 ?c4 ?c5 ?_)
        case c1=>exact cL (by simp)
        case c2 =>
         intro u hu;simp at hu
         subst hu;rfl
        case c3=>unfold maxLen;omega
        case c4=>omega
        case c5=>simp;omega
        intro v6 w6 hown' hgrow _;obtain⟨hO6,hb6⟩:=aO.grown hsz5 u1 u2 u3 HN.out (by first | exact hown' | (rw[y0];exact hown')) hgrow
        have hS6:=hS5.belowB hb6 hbl hgl;have hK8:=hK7.belowB hb6 (Nat.le_refl _);go_wp2_with fail
        go_roundg (ts.length - ce)
        case measure=>omega
        case rel=>exact⟨ce,fk,L++[cl],rfl,z2,by omega,hL6,hL7,hL8,hK8,hS6,hO6,HX⟩
       ·have y2:decide ((0:Int)<(L.length:Int))=true:=by rw[decide_eq_true_eq];omega
        go_wp2_with fail
        refine HD.out.mono ?_;rintro e w5 ⟨hK6,v,rfl,hN,hS5⟩;have hK7:=hK5.same hK6;obtain⟨us,u1,u2,u3⟩:=hO4.kept hbl hK6;have hOA:∀ o,(w5.alloc o).ownsRow w.heap.size 26 1 _ L.length us:=fun o=>bM u2 (aB.ofBelow (S:=bW) ((Below.refl _ w5).alloc (Nat.le_refl _) o)) (fun _ _ _ e=>e)
        have HN:=Ng hN;have hsz5:=hK7.size;obtain⟨gc,cc,rfl,-⟩:=hN;clear hK5 hK6 hO4 hS4 HD;go_wp2_with (at_builtin;refine wpList_append_own _ rfl _ _ 25 rfl w.heap.size 26 k0 _ 1 24 Tryz.underlying25 hk0 hk1 hk2 hk3 rfl (by decide) _ _ _ rfl (hOA _) ⟨w5.heap.size,0,none⟩ 1 1 [.slice (some ⟨gc,0,none⟩) cl.length cc] rfl rfl ?c1 ?c2 ?c3 ?c4 ?c5 ?_)
        case c1=>exact cL (by simp)
        case c2 =>
         intro u hu;simp at hu
         subst hu;rfl
        case c3=>unfold maxLen;omega
        case c4=>omega
        case c5=>simp;omega
        intro v6 w6 hown' hgrow _;obtain⟨hO6,hb6⟩:=aO.grown hsz5 u1 u2 u3 HN.out (by first | exact hown' | (rw[y0];exact hown')) hgrow
        have hS6:=hS5.belowB hb6 hbl hgl;have hK8:=hK7.belowB hb6 (Nat.le_refl _);go_wp2_with fail
        go_roundg (ts.length - ce)
        case measure=>omega
        case rel=>exact⟨ce,fk,L++[cl],rfl,z2,by omega,hL6,hL7,hL8,hK8,hS6,hO6,HX⟩
theorem BL {w:World}{b g cap:Nat}{ts:List aH}{i d:Nat}(F:kY cap ts)(h:PSt w b g cap ts i d)(hi:i<ts.length)(sent:Nat→Addr)(c:Nat) :
  Calls Tryz.prog 52 #[.pointer (some ⟨b,0,none⟩),.iface 286 (.pointer (some (sent c)))] w fun e w'=>∃ u,e = .returned u∧cU w w' sent c (aK ts i).place u∧(∃ eb,u = .iface 61 (.pointer (some ⟨eb,0,none⟩)))∧Below w.heap.size w w':=by
 refine (xD F h hi (sent c)).mono ?_;rintro e w' ⟨eb,rfl,h1,h2,h3⟩;exact⟨_,rfl,⟨eb,rfl,h1,h2⟩,⟨eb,rfl⟩,h3⟩
theorem EZ {b g cap:Nat}{ts:List aH}{sent:Nat→Addr}(T:PTs cap ts)(x:Nat→Nat→aJ aA)(ih:gN b g cap ts sent 49 x)(w:World)(i d:Nat)(r:Except (Nat×Nat) (aA×Nat))(hd:d≤31)(hi:i<ts.length)(hS:PSt w b g cap ts i d)(hE:iG w b sent)(hr:Hid ((if 30<d+1 then o8 ts i else x (d+1) i)=some r)) :
  Calls Tryz.prog 48 #[.pointer (some ⟨b,0,none⟩),.func (.func 49) #[.pointer (some ⟨b,0,none⟩)] #[]] w (bA w b g cap ts d (60000 * (31 - d)) sent r):=by
 have F:=T.fix;have hbl:=hS.blt;have c2:=hS.c2;have f2:=hS.fr 2;have hw1:IntKind.i64.wrap ((d:Int)+1)=(d:Int)+1:=by rw[IntKind.wrap_i64];omega
 have IH:=Ng ih;clear ih
 by_cases h30:30<d+1
 ·have h31:decide ((30:Int)<(d:Int)+1)=true:=by rw[decide_eq_true_eq];omega
  have HR:=Ng hr.out;rw[if_pos h30] at HR;have HX:=Ng (Option.some.inj (show some (Except.error (102,(aK ts i).place))=some r from HR.out)).symm
  have he:=p7 hE.env 102 1 (by simp [cH])
  have HS:=Ng hS;clear HR hr h30;go_enter Tryz.func48,Tryz.ntmps48
  go_upto_region 2 with fail
  go_region_held3 (fun w'=>w'.cell? ⟨1,0,none⟩=some (.iface 286 (.pointer (some (sent 102))))) (first | exact aF hb5 he | go_keep)
   (first | (go_at_call 52;refine (BL F HS.out.drew hi sent 102).mono ?_;rintro e w5 ⟨u,rfl,hP,⟨eb,rfl⟩,hb5⟩))
  go_wp2_with fail
  go_ret2;exact bA.bad HX.out rfl (.none _ _) (Nat.zero_le _) hP (HS.out.drew.below hb5) ((aB.refl (At b) w).drew.andBelow hb5)
 ·have h31:decide ((30:Int)<(d:Int)+1)=false:=by rw[decide_eq_false_iff_not];omega
  have HR:=Ng hr.out;rw[if_neg h30] at HR;have hcast:((d+1:Nat):Int)=(d:Int)+1:=by omega
  have HS1:=Ng (hS.deep (d+1));rw[hcast] at HS1;have HK1:=Ng (aB.setCell (S:=At b) (p:=⟨b,2,none⟩) (aB.refl _ w) (fun _=>rfl) (.int .i64 ((d:Int)+1)))
  have HE1:=Ng (hE.kept HK1.out);have hw2:IntKind.i64.wrap ((d:Int)+1 - 1)=(d:Int):=by rw[IntKind.wrap_i64];omega
  have hw3:(d:Int)+1 - 1=(d:Int):=by omega
  have hw4:IntKind.i64.wrap (d:Int)=(d:Int):=by rw[IntKind.wrap_i64];omega
  have hmf:∀ (fn:Fn) (first cap:Array Value) (w:World),(Instr.makeFunc fn first cap).run Tryz.prog w = .ok (.func fn first cap) w:=fun _ _ _ _=>rfl
  clear hS hE hr;go_enter Tryz.func48,Tryz.ntmps48
  go_wp2_with fail
  refine (IH.out _ i (d+1) r (by omega) hi HS1.out HE1.out HR).mono ?_
  rintro e w2 hp
  cases r with
  | error e0 =>
   obtain⟨c0,p0⟩:=e0;obtain⟨hK2,v,u,j',l0,rfl,hv0,hl0,⟨eb,rfl,q2,q3⟩,hS2⟩:=hp;have HV:=Ng (hv0.kept (aB.setCell (S:=At b) (p:=⟨b,2,none⟩) (aB.refl _ w2) (fun _=>rfl) (.int .i64 (d:Int))))
   obtain⟨va,vc,rfl⟩:=hv0.form;have HS2:=Ng (hS2.deep d);have k2:=hS2.c2;have kf:=hS2.fr 2;rw[hcast] at k2;have HK3:=Ng (aB.setCell (S:=At b) (p:=⟨b,2,none⟩) (HK1.out.same hK2) (fun _=>rfl) (.int .i64 (d:Int)))
   have hsz:=hK2.size;have HQ:=Ng (cU.kept (w:=w) (w'':=w2.setCell ⟨b,2,none⟩ (.int .i64 (d:Int))) ⟨eb,rfl,q2,by have:=HK1.out.size;omega⟩ hbl (aB.setCell (S:=At b) (p:=⟨b,2,none⟩) (aB.refl _ w2) (fun _=>rfl) (.int .i64 (d:Int))))
   clear hS2 hK2 q2 HS1 HE1 HR;go_wp2_with fail
   go_ret2;exact bA.bad rfl rfl HV.out (by omega) HQ.out HS2.out HK3.out
  | ok y =>
   obtain⟨l,j⟩:=y;obtain⟨hK2,v,rfl,hN,hS2⟩:=hp;have HS2:=Ng (hS2.deep d);have k2:=hS2.c2;have kf:=hS2.fr 2;rw[hcast] at k2;have HK3:=Ng (aB.setCell (S:=At b) (p:=⟨b,2,none⟩) (HK1.out.same hK2) (fun _=>rfl) (.int .i64 (d:Int)))
   have HN:=Ng (hN.kept (aB.setCell (S:=At b) (p:=⟨b,2,none⟩) (aB.refl _ w2) (fun _=>rfl) (.int .i64 (d:Int))))
   obtain⟨gg,gc,rfl,-⟩:=hN;clear hS2 hK2 HS1 HE1 HR;go_wp2_with fail
   go_ret2;exact bA.ok rfl rfl HN.out HS2.out HK3.out
theorem EY {b g cap:Nat}{ts:List aH}{sent:Nat→Addr}(T:PTs cap ts)(x:Nat→Nat→aJ aA)(ih:gN b g cap ts sent 284 x)(w:World)(i d:Nat)(r:Except (Nat×Nat) (aA×Nat))(hd:d≤31)(hi:i<ts.length)(hS:PSt w b g cap ts i d)(hE:iG w b sent)(hr:Hid ((if 30<d+1 then o8 ts i else x (d+1) i)=some r)) :
  Calls Tryz.prog 48 #[.pointer (some ⟨b,0,none⟩),.func (.func 284) #[.pointer (some ⟨b,0,none⟩)] #[]] w (bA w b g cap ts d (60000 * (31 - d)) sent r):=by
 have F:=T.fix;have hbl:=hS.blt;have c2:=hS.c2;have f2:=hS.fr 2;have hw1:IntKind.i64.wrap ((d:Int)+1)=(d:Int)+1:=by rw[IntKind.wrap_i64];omega
 have IH:=Ng ih;clear ih
 by_cases h30:30<d+1
 ·have h31:decide ((30:Int)<(d:Int)+1)=true:=by rw[decide_eq_true_eq];omega
  have HR:=Ng hr.out;rw[if_pos h30] at HR;have HX:=Ng (Option.some.inj (show some (Except.error (102,(aK ts i).place))=some r from HR.out)).symm
  have he:=p7 hE.env 102 1 (by simp [cH])
  have HS:=Ng hS;clear HR hr h30;go_enter Tryz.func48,Tryz.ntmps48
  go_upto_region 2 with fail
  go_region_held3 (fun w'=>w'.cell? ⟨1,0,none⟩=some (.iface 286 (.pointer (some (sent 102))))) (first | exact aF hb5 he | go_keep)
   (first | (go_at_call 52;refine (BL F HS.out.drew hi sent 102).mono ?_;rintro e w5 ⟨u,rfl,hP,⟨eb,rfl⟩,hb5⟩))
  go_wp2_with fail
  go_ret2;exact bA.bad HX.out rfl (.none _ _) (Nat.zero_le _) hP (HS.out.drew.below hb5) ((aB.refl (At b) w).drew.andBelow hb5)
 ·have h31:decide ((30:Int)<(d:Int)+1)=false:=by rw[decide_eq_false_iff_not];omega
  have HR:=Ng hr.out;rw[if_neg h30] at HR;have hcast:((d+1:Nat):Int)=(d:Int)+1:=by omega
  have HS1:=Ng (hS.deep (d+1));rw[hcast] at HS1;have HK1:=Ng (aB.setCell (S:=At b) (p:=⟨b,2,none⟩) (aB.refl _ w) (fun _=>rfl) (.int .i64 ((d:Int)+1)))
  have HE1:=Ng (hE.kept HK1.out);have hw2:IntKind.i64.wrap ((d:Int)+1 - 1)=(d:Int):=by rw[IntKind.wrap_i64];omega
  have hw3:(d:Int)+1 - 1=(d:Int):=by omega
  have hw4:IntKind.i64.wrap (d:Int)=(d:Int):=by rw[IntKind.wrap_i64];omega
  have hmf:∀ (fn:Fn) (first cap:Array Value) (w:World),(Instr.makeFunc fn first cap).run Tryz.prog w = .ok (.func fn first cap) w:=fun _ _ _ _=>rfl
  clear hS hE hr;go_enter Tryz.func48,Tryz.ntmps48
  go_wp2_with fail
  refine (IH.out _ i (d+1) r (by omega) hi HS1.out HE1.out HR).mono ?_
  rintro e w2 hp
  cases r with
  | error e0 =>
   obtain⟨c0,p0⟩:=e0;obtain⟨hK2,v,u,j',l0,rfl,hv0,hl0,⟨eb,rfl,q2,q3⟩,hS2⟩:=hp;have HV:=Ng (hv0.kept (aB.setCell (S:=At b) (p:=⟨b,2,none⟩) (aB.refl _ w2) (fun _=>rfl) (.int .i64 (d:Int))))
   obtain⟨va,vc,rfl⟩:=hv0.form;have HS2:=Ng (hS2.deep d);have k2:=hS2.c2;have kf:=hS2.fr 2;rw[hcast] at k2;have HK3:=Ng (aB.setCell (S:=At b) (p:=⟨b,2,none⟩) (HK1.out.same hK2) (fun _=>rfl) (.int .i64 (d:Int)))
   have hsz:=hK2.size;have HQ:=Ng (cU.kept (w:=w) (w'':=w2.setCell ⟨b,2,none⟩ (.int .i64 (d:Int))) ⟨eb,rfl,q2,by have:=HK1.out.size;omega⟩ hbl (aB.setCell (S:=At b) (p:=⟨b,2,none⟩) (aB.refl _ w2) (fun _=>rfl) (.int .i64 (d:Int))))
   clear hS2 hK2 q2 HS1 HE1 HR;go_wp2_with fail
   go_ret2;exact bA.bad rfl rfl HV.out (by omega) HQ.out HS2.out HK3.out
  | ok y =>
   obtain⟨l,j⟩:=y;obtain⟨hK2,v,rfl,hN,hS2⟩:=hp;have HS2:=Ng (hS2.deep d);have k2:=hS2.c2;have kf:=hS2.fr 2;rw[hcast] at k2;have HK3:=Ng (aB.setCell (S:=At b) (p:=⟨b,2,none⟩) (HK1.out.same hK2) (fun _=>rfl) (.int .i64 (d:Int)))
   have HN:=Ng (hN.kept (aB.setCell (S:=At b) (p:=⟨b,2,none⟩) (aB.refl _ w2) (fun _=>rfl) (.int .i64 (d:Int))))
   obtain⟨gg,gc,rfl,-⟩:=hN;clear hS2 hK2 HS1 HE1 HR;go_wp2_with fail
   go_ret2;exact bA.ok rfl rfl HN.out HS2.out HK3.out
theorem I1 {b g cap:Nat}{ts:List aH}{sent:Nat→Addr}(T:PTs cap ts)(f:Nat)(ih:gN b g cap ts sent 49 (fun d i=>eK ts f d i [])):Ae b g cap ts sent 23 (dI ts (f+1)):=by
 intro w i d r hd hi hS hE hr;have hmf:∀ (fn:Fn) (first cap:Array Value) (w:World),(Instr.makeFunc fn first cap).run Tryz.prog w = .ok (.func fn first cap) w:=fun _ _ _ _=>rfl
 have HD:=Ng (EZ T (fun d i=>eK ts f d i []) ih w i d r hd hi hS hE (Ng (by have:=hr.out;rw[dI] at this;exact this)))
 clear hS hE hr ih;go_enter Tryz.func23,Tryz.ntmps23
 go_wp2_with fail
 refine HD.out.mono ?_;rintro e w2 hp
 cases r with
 | error e0 =>
  obtain⟨c0,p0⟩:=e0;obtain⟨hK2,v,u,j',l0,rfl,hv0,hl0,hPE,hS2⟩:=hp;go_wp2_with fail
  go_ret2;exact bA.bad rfl rfl hv0 hl0 hPE hS2 hK2
 | ok y =>
  obtain⟨l,j⟩:=y;obtain⟨hK2,v,rfl,hN,hS2⟩:=hp;go_wp2_with fail
  go_ret2;exact bA.ok rfl rfl hN hS2 hK2
theorem Eb {ts:List aH}{cap:Nat}(T:PTs cap ts){f d i:Nat}{l:aA}{e:Nat}(hi:i<ts.length)(h:dI ts f d i=some (.ok (l,e))):e<ts.length:=(((lB T.fix.good f).list d i hi).1 l e h).2.1
theorem Db {ts:List aH}{cap:Nat}(T:PTs cap ts){f d i:Nat}{l:aA}{e:Nat}(hi:i<ts.length)(h:dI ts f d i=some (.ok (l,e))):l.length≤50000:=by
 have:=((lB T.fix.good f).list d i hi).1 l e h
 have:=T.fix.num
 omega
theorem sJ {ts:List aH}{i:Nat} {α:Type}{r:Except (Nat×Nat) (α×Nat)}(h:(jJ ts i:aJ α)=some r):r = .error (if isK ts i [0]=true then 109 else 108,(aK ts i).place):=(Option.some.inj (show some (Except.error (if isK ts i [0]=true then 109 else 108,(aK ts i).place))=some r from h)).symm
theorem GP {b g cap:Nat}{ts:List aH}{sent:Nat→Addr}(T:PTs cap ts)(f:Nat)(ih:Ae b g cap ts sent 23 (dI ts f)):wG b g cap ts sent 203 (fT ts (f+1)):=by
 intro w i d r hd hi hS hE hr;have F:=T.fix;have hbl:=hS.blt;have HR:=Ng hr.out;rw[fT] at HR;have IH:=Ng ih;clear ih hr
 by_cases x0:isK ts i [8]=true
 ·have HR1:=Ng HR.out;unfold fL at HR1;rw[if_pos x0] at HR1;have hj:=(nF (ts:=ts) hi).2;obtain⟨j,hjj⟩:∃ j,skP ts i=j:=⟨_,rfl⟩;rw[hjj] at HR1 hj;clear HR;go_enter Tryz.func203,Tryz.ntmps203
  go_wp2_with fail
  refine (xX F (hS.alloc _) hi [8] _ _ (by decide) (show Blk _ _ [Value.int .i64 8] from Blk.new _ _ _) x0).mono ?_
  rintro e w1 ⟨rfl,hS1,hK7⟩;have hK1:=((aB.refl (At b) w).alloc (.cells #[Value.int .i64 8] 3)).same hK7;clear hK7;rw[hjj] at hS1;have hE1:=hE.kept hK1;clear hS hE x0
  cases hq:dI ts f d j with
  | none =>
   rw[hq] at HR1;exact absurd HR1.out (by simp [aJ.go])
  | some rc =>
   rw[hq] at HR1;have HD:=Ng (IH.out w1 j d rc hd hj hS1 hE1 (Ng hq))
   cases rc with
   | error e0 =>
    obtain⟨c0,p0⟩:=e0;have HX:=Ng (Option.some.inj (show some (Except.error (c0,p0))=some r from HR1.out)).symm
    have hsz:=hK1.size;clear HR1 hq hS1;go_wp2_with fail
    refine HD.out.mono ?_;rintro e w2 ⟨hK2,v,u,j',l0,rfl,hv0,hl0,hPE,hS2⟩;have HPE:=Ng (hPE.from hsz)
    have HV:=Ng hv0;obtain⟨va,vc,rfl⟩:=hv0.form;obtain⟨eb,rfl,-⟩:=hPE;go_wp2_with fail
    go_ret2;exact bA.bad HX.out rfl HV.out (by omega) HPE.out hS2 (hK1.same hK2)
   | ok q =>
    obtain⟨l,k⟩:=q;have hk:=Eb T hj hq;have hll:=Db T hj hq;have HR2:=Ng (show (if isK ts k [9]=true then pOk l (skP ts k) else jJ ts k)=some r from HR1.out)
    clear HR1 hq hS1;go_wp2_with fail
    refine HD.out.mono ?_;rintro e w2 ⟨hK2,v,rfl,hN,hS2⟩;have hK3:=hK1.same hK2;have hE2:=hE1.kept hK2;have hsz:=hK3.size;clear hK1 hK2 hE1 HD
    by_cases x0:isK ts k [9]=true
    ·have HX:=Ng HR2.out;rw[if_pos x0] at HX;have HX2:=Ng (Option.some.inj (show some (Except.ok (l,skP ts k))=some r from HX.out)).symm
     clear HX HR2;go_wp2_with fail
     refine (xX F (hS2.alloc _) hk [9] _ _ (by decide) (show Blk _ _ [Value.int .i64 9] from Blk.new _ _ _) x0).mono ?_
     rintro e w3 ⟨rfl,hS3,hK7⟩;have hK4:=((aB.refl (At b) w2).alloc (.cells #[Value.int .i64 9] 3)).same hK7;clear hK7;go_wp2_with fail
     go_ret2;exact bA.ok HX2.out rfl (hN.kept hK4) hS3 (hK3.same hK4)
    ·have x0:isK ts k [9]=false:=by simpa using x0
     have HX:=Ng HR2.out;rw[x0,if_neg (by simp)] at HX
     have HX2:=Ng (sJ HX.out);clear HX HR2;go_wp2_with fail
     refine (yM F (hS2.alloc _) hk [9] _ _ (by decide) (show Blk _ _ [Value.int .i64 9] from Blk.new _ _ _) x0 sent (hE2.env.below ((Below.refl _ _).alloc (Nat.le_refl _) _))).mono ?_
     rintro e w7 ⟨eb,rfl,hE7,hl7,hb7⟩;have hb8:=aE ((Below.refl _ w2).alloc (Nat.le_refl _) (.cells #[Value.int .i64 9] 3)) hb7;go_wp2_with fail
     go_ret2;exact bA.bad HX2.out rfl (.inl (hN.below hb8)) (by omega) ⟨eb,rfl,hE7,by have:=hl7;simp at this;omega⟩ (hS2.below hb8) (hK3.andBelow hb8)
 ·have x0:isK ts i [8]=false:=by simpa using x0
  have HR1:=Ng HR.out;unfold fL at HR1;rw[x0,if_neg (by simp)] at HR1
  have HX2:=Ng (sJ HR1.out);clear HR HR1;go_enter Tryz.func203,Tryz.ntmps203
  go_wp2_with fail
  refine (yM F (hS.alloc _) hi [8] _ _ (by decide) (show Blk _ _ [Value.int .i64 8] from Blk.new _ _ _) x0 sent (hE.env.below ((Below.refl _ _).alloc (Nat.le_refl _) _))).mono ?_
  rintro e w7 ⟨eb,rfl,hE7,hl7,hb7⟩;have hb8:=aE ((Below.refl _ w).alloc (Nat.le_refl _) (.cells #[Value.int .i64 8] 3)) hb7;go_wp2_with fail
  go_ret2;exact bA.bad HX2.out rfl (.none _ _) (Nat.zero_le _) ⟨eb,rfl,hE7,by have:=hl7;simp at this;omega⟩ (hS.below hb8) ((aB.refl _ w).andBelow hb8)
theorem eP {α:Type}{c p:Nat}{r:Except (Nat×Nat) (α×Nat)}(h:(some (Except.error (c,p)):aJ α)=some r):r = .error (c,p):=(Option.some.inj h).symm
theorem gI {α:Type}{a:α}{i:Nat}{r:Except (Nat×Nat) (α×Nat)}(h:(some (Except.ok (a,i)):aJ α)=some r):r = .ok (a,i):=(Option.some.inj h).symm
theorem xJ {ts:List aH}{cap:Nat}(T:PTs cap ts){f d i:Nat}{l:aA}{e:Nat}(hi:i<ts.length)(h:eC ts f d i=some (.ok (l,e))):i<e∧e<ts.length∧l.length≤6 * (e - i):=by
 have:=((lB T.fix.good f).pipe d i hi).1 l e h
 omega
theorem GH {b g cap:Nat}{ts:List aH}{sent:Nat→Addr}(T:PTs cap ts)(f:Nat)(ih:∀ f'≤f,gN b g cap ts sent 150 (eC ts f')):gN b g cap ts sent 104 (fG ts (f+1)):=by
 intro w i d r hd hi hS hE hr;have hbl:=hS.blt;have F:=T.fix;have hcap:=F.num;have HR:=Ng hr.out;rw[fG] at HR;have IH:=Ng ih;clear hr ih
 cases hq:eC ts f d i with
 | none =>
  rw[hq] at HR;exact absurd HR.out (by simp [aJ.go])
 | some rc =>
  rw[hq] at HR;have HD:=Ng (IH.out f (Nat.le_refl _) w i d rc hd hi hS hE (Ng hq));go_enter Tryz.func104,Tryz.ntmps104
  go_wp2_with fail
  refine HD.out.mono ?_;intro e w2 hp
  have hstart:∃ o er,e = .returned (.tuple #[o,er])∧((∃ k fk l,er = .nilIface∧k<ts.length∧fk≤f∧l.length≤6 * k∧aB (At b) w w2∧PSt w2 b g cap ts k d∧NSl w2 b o l∧Hid (gR ts fk d k l=some r))∨(∃ c p k l,r = .error (c,p)∧cU w w2 sent c p er∧fO w2 b o l∧l.length≤60000 * (32 - d)∧PSt w2 b g cap ts k d∧aB (At b) w w2)):=by
   cases rc with
   | error e0 =>
    obtain⟨c0,p0⟩:=e0;obtain⟨hK2,v,u,j',l0,rfl,hv0,hl0,hPE,hS2⟩:=hp;exact⟨v,u,rfl,.inr ⟨c0,p0,j',l0,eP HR.out,hPE,hv0,hl0,hS2,hK2⟩⟩
   | ok q =>
    obtain⟨l,j⟩:=q;obtain⟨z1,z2,z3⟩:=xJ T hi hq;obtain⟨hK2,v,rfl,hN,hS2⟩:=hp;exact⟨v,.nilIface,rfl,.inl ⟨j,f,l,rfl,z2,Nat.le_refl _,by omega,hK2,hS2,hN,Ng HR.out⟩⟩
  obtain⟨o,er,rfl,hst⟩:=hstart
  have hform:∃ ao n c,o = .slice ao n c:=by
   rcases hst with ⟨k,fk,l,_,_,_,_,_,_,hN,_⟩ | ⟨c,p,k,l,_,_,hN,_⟩
   ·obtain⟨gg,gc,h,-⟩:=hN;exact⟨_,_,_,h⟩
   ·obtain⟨ao,gc,h⟩:=hN.form;exact⟨_,_,_,h⟩
  obtain⟨ao,an,ac,rfl⟩:=hform
  obtain⟨m0,hst⟩:∃ m0,(∃ k fk l,m0=ts.length - k+1∧er = .nilIface∧k<ts.length∧fk≤f∧l.length≤6 * k∧aB (At b) w w2∧PSt w2 b g cap ts k d∧NSl w2 b (.slice ao an ac) l∧Hid (gR ts fk d k l=some r))∨(m0=0∧∃ c p k l,r = .error (c,p)∧cU w w2 sent c p er∧fO w2 b (.slice ao an ac) l∧l.length≤60000 * (32 - d)∧PSt w2 b g cap ts k d∧aB (At b) w w2):=by
   rcases hst with ⟨k,fk,l,h⟩ | h
   ·exact⟨ts.length - k+1,.inl ⟨k,fk,l,rfl,h⟩⟩
   ·exact⟨0,.inr ⟨rfl,h⟩⟩
  clear hp HR hq hS HD;go_wp2_with fail
  go_loopg [4,5,6,7] m0 (fun m o er kd nx wr=>(∃ k fk l,m=ts.length - k+1∧er = .nilIface∧k<ts.length∧fk≤f∧l.length≤6 * k∧aB (At b) w wr∧PSt wr b g cap ts k d∧NSl wr b o l∧Hid (gR ts fk d k l=some r))∨(m=0∧∃ c p k l,r = .error (c,p)∧cU w wr sent c p er∧fO wr b o l∧l.length≤60000 * (32 - d)∧PSt wr b g cap ts k d∧aB (At b) w wr))
  case atStart=>exact hst
  case round =>
   clear hst
   rcases hrel with ⟨k,fk,l,rfl,rfl,hk,hfk,hl6,hK,hS,hN,hr⟩ | ⟨rfl,c,p,k,l,rfl,⟨eb,rfl,q2,q3⟩,hN,hl6,hS,hK⟩
   ·obtain⟨fk,rfl⟩:∃ q,fk=q+1:=by
     cases fk with
     | zero=>have:=hr.out;rw[gR] at this;cases this
     | succ q=>exact⟨q,rfl⟩
    have HR:=Ng hr.out;rw[gR] at HR;clear hr;go_wp2_with fail
    refine (iY F (hS.alloc _) hk [3,4] _ _ (by decide) (show Blk _ _ [Value.int .i64 3,Value.int .i64 4] from Blk.new wr _ _)).mono ?_
    rintro e w3 ⟨rfl,hb3⟩;have hb4:=aE ((Below.refl _ wr).alloc (Nat.le_refl _) _) hb3;have hS3:=hS.below hb4;have hN3:=hN.below hb4;have hK3:=hK.andBelow hb4;clear hS hN hK hb3 hb4
    by_cases x0:isK ts k [3,4]=true
    ·rw[if_pos x0] at HR;rw[x0];obtain⟨s1,s2⟩:=fR F.good hk (by decide) x0
     rw[s1] at HR;clear x0;obtain⟨kd,hkd⟩:∃ kd:Int,(if isK ts k [4]=true then (26:Int) else 25)=kd:=⟨_,rfl⟩
     rw[hkd] at HR;have HKD:=Ng hkd;go_wp2_with fail
     refine (iY F (hS3.alloc _) hk [4] _ _ (by decide) (show Blk _ _ [Value.int .i64 4] from Blk.new w3 _ _)).mono ?_
     rintro e w4 ⟨rfl,hb4⟩;have hb5:=aE ((Below.refl _ w3).alloc (Nat.le_refl _) _) hb4;have hS4:=hS3.below hb5;have hN4:=hN3.below hb5;have hK4:=hK3.andBelow hb5;clear hS3 hN3 hK3 hb4 hb5 hkd;have hj:=jT (ts:=ts) [1] s2;obtain⟨j,hjj⟩:∃ j,iL ts [1] (k+1)=j:=⟨_,rfl⟩;rw[hjj] at HR hj
     cases x4:isK ts k [4] with
     | true =>
      obtain rfl:(26:Int)=kd:=by have:=HKD.out;rw[x4,if_pos rfl] at this;exact this
      clear HKD x4;go_wp2_with fail
      refine (mC F hS4 hk).mono ?_;rintro e w5 ⟨rfl,hS5,hK5⟩;rw[s1] at hS5;have hN5:=hN4.kept hK5;have hK6:=hK4.same hK5;have hsz6:=hK6.size;clear hS4 hN4 hK4 hK5;go_wp2_with fail
      refine (uM F (hS5.alloc _) s2 [1] _ _ (by decide) (by decide) (show Blk _ _ [Value.int .i64 1] from Blk.new w5 _ _) (by omega)).mono ?_
      rintro e w6 ⟨rfl,hS6,hK7⟩;rw[hjj] at hS6;have hK8:=((aB.refl (At b) w5).alloc _).same hK7;have hN6:=hN5.kept hK8;have hK9:=hK6.same hK8;have hE6:=hE.kept hK9;have hsz9:=hK9.size;clear hS5 hN5 hK6 hK7 hK8
      cases hq:eC ts fk d j with
      | none =>
       rw[hq] at HR;exact absurd HR.out (by simp [aJ.go])
      | some rc =>
       rw[hq] at HR;have HD:=Ng (IH.out fk (by omega) w6 j d rc hd hj.2 hS6 hE6 (Ng hq))
       clear hS6 hE6;go_wp2_with fail
       refine HD.out.mono ?_
       cases rc with
       | error e0 =>
        obtain⟨c0,p0⟩:=e0;have HX:=Ng (eP HR.out);clear HR hq HD;rintro e w7 ⟨hKa,v7,u,j',l0,rfl,h0,hl0,⟨eb,rfl,q2,q3⟩,hS7⟩;obtain⟨va,vc,rfl⟩:=h0.form;have hN7:=hN6.kept hKa;have hKb:=hK9.same hKa;go_wp2_with fail
        go_roundg 0
        case measure=>omega
        case rel=>exact .inr ⟨rfl,c0,p0,j',l,HX.out,⟨eb,rfl,q2,by omega⟩,.inl hN7,by omega,hS7,hKb⟩
       | ok q =>
        obtain⟨l2,k2⟩:=q;obtain⟨z1,z2,z3⟩:=xJ T hj.2 hq;have HX:=Ng HR.out;clear HR hq HD;rintro e w7 ⟨hKa,v7,rfl,hN2,hS7⟩;have hN7:=hN6.kept hKa;have hKb:=hK9.same hKa;have hszb:=hKb.size;clear hN6 hK9 hKa;obtain⟨ga,gc,ha,-⟩:=id hN7;obtain⟨va,vc,rfl,-⟩:=id hN2
        cases ha
        have HN:=Ng (bT 26 0 [] [l,l2] b _ _ (by simp;omega) (KSl.new2 (w:=w7) (by omega) (.inl hN7) (.inl hN2)) (by simp;omega) (by simp))
        clear hN7 hN2;go_wp2_with fail
        refine HN.out.mono ?_;rintro e w8 ⟨v8,rfl,hN8,hb8⟩;have hb9:=aE ((Below.refl _ w7).alloc (Nat.le_refl _) _) hb8;obtain⟨g4,c4,rfl,-⟩:=id hN8;have hS9:=hS7.below hb9;have hKc:=hKb.andBelow hb9;go_wp2_with fail
        go_roundg (ts.length - k2+1)
        case measure=>omega
        case rel=>exact .inl ⟨k2,fk,_,rfl,rfl,z2,by omega,by rw[(jF _ _ _ _ _).1];omega,hKc,hS9,hN8,HX⟩
     | false =>
      obtain rfl:(25:Int)=kd:=by have:=HKD.out;rw[x4,if_neg (by simp)] at this;exact this
      clear HKD x4;go_wp2_with fail
      refine (mC F hS4 hk).mono ?_;rintro e w5 ⟨rfl,hS5,hK5⟩;rw[s1] at hS5;have hN5:=hN4.kept hK5;have hK6:=hK4.same hK5;have hsz6:=hK6.size;clear hS4 hN4 hK4 hK5;go_wp2_with fail
      refine (uM F (hS5.alloc _) s2 [1] _ _ (by decide) (by decide) (show Blk _ _ [Value.int .i64 1] from Blk.new w5 _ _) (by omega)).mono ?_
      rintro e w6 ⟨rfl,hS6,hK7⟩;rw[hjj] at hS6;have hK8:=((aB.refl (At b) w5).alloc _).same hK7;have hN6:=hN5.kept hK8;have hK9:=hK6.same hK8;have hE6:=hE.kept hK9;have hsz9:=hK9.size;clear hS5 hN5 hK6 hK7 hK8
      cases hq:eC ts fk d j with
      | none =>
       rw[hq] at HR;exact absurd HR.out (by simp [aJ.go])
      | some rc =>
       rw[hq] at HR;have HD:=Ng (IH.out fk (by omega) w6 j d rc hd hj.2 hS6 hE6 (Ng hq))
       clear hS6 hE6;go_wp2_with fail
       refine HD.out.mono ?_
       cases rc with
       | error e0 =>
        obtain⟨c0,p0⟩:=e0;have HX:=Ng (eP HR.out);clear HR hq HD;rintro e w7 ⟨hKa,v7,u,j',l0,rfl,h0,hl0,⟨eb,rfl,q2,q3⟩,hS7⟩;obtain⟨va,vc,rfl⟩:=h0.form;have hN7:=hN6.kept hKa;have hKb:=hK9.same hKa;go_wp2_with fail
        go_roundg 0
        case measure=>omega
        case rel=>exact .inr ⟨rfl,c0,p0,j',l,HX.out,⟨eb,rfl,q2,by omega⟩,.inl hN7,by omega,hS7,hKb⟩
       | ok q =>
        obtain⟨l2,k2⟩:=q;obtain⟨z1,z2,z3⟩:=xJ T hj.2 hq;have HX:=Ng HR.out;clear HR hq HD;rintro e w7 ⟨hKa,v7,rfl,hN2,hS7⟩;have hN7:=hN6.kept hKa;have hKb:=hK9.same hKa;have hszb:=hKb.size;clear hN6 hK9 hKa;obtain⟨ga,gc,ha,-⟩:=id hN7;obtain⟨va,vc,rfl,-⟩:=id hN2
        cases ha
        have HN:=Ng (bT 25 0 [] [l,l2] b _ _ (by simp;omega) (KSl.new2 (w:=w7) (by omega) (.inl hN7) (.inl hN2)) (by simp;omega) (by simp))
        clear hN7 hN2;go_wp2_with fail
        refine HN.out.mono ?_;rintro e w8 ⟨v8,rfl,hN8,hb8⟩;have hb9:=aE ((Below.refl _ w7).alloc (Nat.le_refl _) _) hb8;obtain⟨g4,c4,rfl,-⟩:=id hN8;have hS9:=hS7.below hb9;have hKc:=hKb.andBelow hb9;go_wp2_with fail
        go_roundg (ts.length - k2+1)
        case measure=>omega
        case rel=>exact .inl ⟨k2,fk,_,rfl,rfl,z2,by omega,by rw[(jF _ _ _ _ _).1];omega,hKc,hS9,hN8,HX⟩
    ·have x0:isK ts k [3,4]=false:=by simpa using x0
     rw[x0,if_neg (by simp)] at HR
     rw[x0];have HX:=Ng (gI HR.out);go_wp2_with fail
     go_ret2;exact bA.ok HX.out rfl hN3 hS3 hK3
   ·go_wp2_with fail
    go_ret2;exact bA.bad rfl rfl hN hl6 ⟨eb,rfl,q2,q3⟩ hS hK
theorem Fm {ts:List aH}{cap:Nat}(T:PTs cap ts){f d i:Nat}{l:aA}{e:Nat}(hi:i<ts.length)(h:eE ts f d i=some (.ok (l,e))):i<e∧e<ts.length∧l.length≤6 * (e - i)∧0<l.length:=by
 have h1:=((lB T.fix.good f).command d i hi).1 l e h;obtain⟨D,hD⟩:=(qF T.w f).command d i l e h;have:=hD.pos.1
 omega
theorem KSl.first {w:World}{b:Nat}{v:Value}{L:List aA}(h:KSl w b v L)(hp:0<L.length)(hne:∀ l∈L,0<l.length):∃ g cap u,v = .slice (some ⟨g,0,none⟩) L.length cap∧L.length≤cap∧w.cell? ⟨g,0,none⟩=some u∧NSl w b u (L.headD []):=by
 obtain⟨ao,cap,rfl,h1,h2,h3⟩:=h;obtain⟨g,rfl,_,_,h4⟩:=h3 hp
 cases L with
 | nil=>simp at hp
 | cons l L =>
  obtain⟨u,h5,h6⟩:=h4 0 l rfl;refine ⟨g,cap,u,rfl,h1,h5,?_⟩
  rcases h6 with h6 | ⟨_,rfl⟩
  ·exact h6
  ·have:=hne [] (by simp)
   simp at this
theorem Jp {b g cap:Nat}{ts:List aH}{sent:Nat→Addr}(T:PTs cap ts)(f:Nat)(ih:∀ f'≤f,gN b g cap ts sent 185 (eE ts f')):gN b g cap ts sent 150 (eC ts (f+1)):=by
 intro w i d r hd hi hS hE hr;have hbl:=hS.blt;have hgl:=hS.glt;have F:=T.fix;have hcap:=F.num;obtain⟨k0,hk0,hk1,hk2,hk3⟩:=info_parts jB;have HR:=Ng hr.out;rw[eC] at HR;have IH:=Ng ih;clear hr ih;obtain⟨nt,hnt⟩:∃ nt,isK ts i [17]=nt:=⟨_,rfl⟩;rw[hnt] at HR;obtain⟨j0,hj0⟩:∃ j0,(if nt=true then skP ts i else i)=j0:=⟨_,rfl⟩
 rw[hj0] at HR
 have hj:j0<ts.length:=by
  rw[← hj0];split
  ·exact (nF hi).2
  ·exact hi
 cases hq:eR ts f d j0 [] with
 | none =>
  rw[hq] at HR;exact absurd HR.out (by simp [aJ.go])
 | some rr =>
  rw[hq] at HR;have HQ:=Ng hq;clear hq;go_enter Tryz.func150,Tryz.ntmps150
  go_wp2_with fail
  refine (iY F (hS.alloc _) hi [17] _ _ (by decide) (show Blk _ _ [Value.int .i64 17] from Blk.new w _ _)).mono ?_
  rintro e w1 ⟨rfl,hb1⟩;have hb2:=aE ((Below.refl _ w).alloc (Nat.le_refl _) _) hb1;have hS1:=hS.below hb2;have hK1:=(aB.refl (At b) w).andBelow hb2;rw[hnt];clear hS hb1 hb2;go_wp2_with fail
  refine (Iv F hS1 hi nt).mono ?_;rintro e w2 ⟨rfl,hS2,hK2⟩;rw[hj0] at hS2;have hK3:=hK1.same hK2;clear hS1 hK1 hK2 hj0 hnt hi;go_wp2_with fail
  go_loopg [5,6,7] (ts.length - j0) (fun m v cc er wr=>∃ (k fk:Nat) (L:List aA),m=ts.length - k∧k<ts.length∧fk≤f∧L.length≤k∧L.flatten.length≤6 * k∧Hid (∀ l∈L,0<l.length)∧aB (At b) w wr∧PSt wr b g cap ts k d∧aO wr w.heap.size b v L∧Hid (eR ts fk d k L=some rr))
  case atStart=>exact⟨j0,f,[],rfl,hj,Nat.le_refl _,by simp,by simp,Ng (fun _ h=>nomatch h),hK3,hS2,aO.nil _ _ _,HQ⟩
  case round =>
   clear hS2 HQ hj hK3;obtain⟨k,fk,L,rfl,hk,hfk,hL1,hL2,hL3,hK,hS,hO,hr⟩:=hrel
   obtain⟨fk,rfl⟩:∃ q,fk=q+1:=by
    cases fk with
    | zero=>have:=hr.out;rw[eR] at this;cases this
    | succ q=>exact⟨q,rfl⟩
   obtain⟨ao,acap,rfl⟩:=hO.form;have hE1:=hE.kept hK;have hsz:=hK.size;have HP:=Ng hr.out;rw[eR] at HP;clear hr
   cases hq:eE ts fk d k with
   | none =>
    rw[hq] at HP;exact absurd HP.out (by simp [aJ.go])
   | some rc =>
    rw[hq] at HP;have HD:=Ng (IH.out fk (by omega) wr k d rc hd hk hS hE1 (Ng hq))
    clear hS hE1;go_wp2_with fail
    refine HD.out.mono ?_
    cases rc with
    | error e0 =>
     obtain⟨c0,p0⟩:=e0;have HX:=Ng (eP HP.out)
     have HX2:=Ng (show r = .error (c0,p0) from by
      have:=HR.out
      rw[HX.out] at this;exact eP this)
     clear HP hq HD HR HX;rintro e w3 ⟨hK2,v,u,j',l0,rfl,-,-,⟨eb,rfl,q2,q3⟩,hS2⟩;go_wp2_with fail
     go_ret2;exact bA.bad HX2.out rfl (.none _ _) (Nat.zero_le _) ⟨eb,rfl,q2,by omega⟩ hS2 (hK.same hK2)
    | ok q =>
     obtain⟨c,e2⟩:=q;obtain⟨z1,z2,z3,z4⟩:=Fm T hk hq;have HP2:=Ng (show (if isK ts e2 [5]=true then eR ts fk d (iL ts [1] (skP ts e2)) (L++[c]) else pOk (L++[c]) e2)=some rr from HP.out)
     have hL6:(L++[c]).length≤e2:=by rw[List.length_append,List.length_cons,List.length_nil];omega
     have hL7:(L++[c]).flatten.length≤6 * e2:=by rw[fD,List.length_append];omega
     have hL8:=Ng (fP hL3.out z4);have hL9:0<(L++[c]).length:=by simp
     clear HP hq;rintro e w3 ⟨hK2,v,rfl,hN,hS2⟩;have hK4:=hK.same hK2;obtain⟨us,u1,u2,u3⟩:=hO.kept hbl hK2;have hOA:∀ o,(w3.alloc o).ownsRow w.heap.size 26 1 _ L.length us:=fun o=>bM u2 (aB.ofBelow (S:=bW) ((Below.refl _ w3).alloc (Nat.le_refl _) o)) (fun _ _ _ e=>e)
     have HN:=Ng hN;have hsz4:=hK4.size;obtain⟨gc,cc',rfl,-⟩:=hN;clear hK hK2 hO HD;go_upto_region 8 with (at_builtin;refine wpList_append_own _ rfl _ _ 25 rfl w.heap.size 26 k0 _ 1 24 Tryz.underlying25 hk0 hk1 hk2 hk3 rfl (by decide) _ _ _ rfl (hOA _) ⟨w3.heap.size,0,none⟩ 1 1 [.slice (some ⟨gc,0,none⟩) c.length cc'] rfl rfl (cL (by simp)) (by intro u hu;simp at hu;subst hu;rfl) (by unfold maxLen;omega) (by omega) (by simp;omega) ?_;intro v6 w6 hown' hgrow _)
     obtain⟨hO6,hb6⟩:=aO.grown hsz4 u1 u2 u3 HN.out hown' hgrow;have hS6:=hS2.belowB hb6 hbl hgl;have hK6:=hK4.belowB hb6 (Nat.le_refl _);have hsz6:=hK6.size;obtain⟨M,hM⟩:∃ M,L++[c]=M:=⟨_,rfl⟩;rw[hM] at HP2 hL6 hL7 hL8 hL9 hO6;clear hM hS2 hK4 hb6 hown' hgrow hOA u1 u2 u3 HN;obtain⟨g1,cap1,hd1,rfl,hc1,hu1,hN1⟩:=(hO6.ksl hbl).first hL9 hL8.out;go_wp2_with fail
     refine (iY F (hS6.alloc _) z2 [5] _ _ (by decide) (show Blk _ _ [Value.int .i64 5] from Blk.new w6 _ _)).mono ?_
     rintro e w7 ⟨rfl,hb7⟩;have hb8:=aE ((Below.refl _ w6).alloc (Nat.le_refl _) _) hb7;have hS7:=hS6.below hb8;have hO7:=hO6.below hbl hb8;have hK7:=hK6.andBelow hb8;have hsz7:=hK7.size;have hu7:=aF hb8 hu1;have hN7:=hN1.below hb8;clear hS6 hO6 hK6 hb7 hb8 hu1 hN1
     by_cases x0:isK ts e2 [5]=true
     ·rw[if_pos x0] at HP2;rw[x0];obtain⟨s1,s2⟩:=fR F.good z2 (by decide) x0
      rw[s1] at HP2;clear x0 hu7 hN7;have hj:=jT (ts:=ts) [1] s2;obtain⟨j,hjj⟩:∃ j,iL ts [1] (e2+1)=j:=⟨_,rfl⟩;rw[hjj] at HP2 hj;go_wp2_with fail
      refine (mC F hS7 z2).mono ?_;rintro e w8 ⟨rfl,hS8,hK8⟩;rw[s1] at hS8;have hO8:=hO7.kept hbl hK8;have hK9:=hK7.same hK8;have hsz9:=hK9.size;clear hS7 hO7 hK7 hK8;go_wp2_with fail
      refine (uM F (hS8.alloc _) s2 [1] _ _ (by decide) (by decide) (show Blk _ _ [Value.int .i64 1] from Blk.new w8 _ _) (by omega)).mono ?_
      rintro e w9 ⟨rfl,hS9,hKa⟩;rw[hjj] at hS9;have hKb:=((aB.refl (At b) w8).alloc _).same hKa;have hO9:=hO8.kept hbl hKb;have hKc:=hK9.same hKb;go_wp2_with fail
      go_roundg (ts.length - j)
      case measure=>omega
      case rel=>exact⟨j,fk,M,rfl,hj.2,by omega,by omega,by omega,hL8,hKc,hS9,hO9,HP2⟩
     ·have x0:isK ts e2 [5]=false:=by simpa using x0
      rw[x0,if_neg (by simp)] at HP2
      rw[x0];have HRR:=Ng (gI HP2.out);have HX:=Ng HR.out;rw[HRR.out] at HX
      have HX2:=Ng (gI (show some (Except.ok (if nt=true then aC 27 0 [] [if 1<M.length then aC 32 0 [] M else M.headD []] else (if 1<M.length then aC 32 0 [] M else M.headD []),e2))=some r from by
       have:=HX.out
       simp only[aJ.go,pOk] at this;exact this))
      clear HX HRR HP2 x0;have hM1:M.length≤100000000:=by omega
      have hM2:M.flatten.length≤100000000:=by omega
      have hhd:=sM M
      by_cases x1:1<M.length
      ·rw[if_pos x1] at HX2;have y1:decide ((1:Int)<(M.length:Int))=true:=by rw[decide_eq_true_eq];omega
       have HN:=Ng (bT 32 0 [] M b _ w7 (by omega) (hO7.ksl hbl) (by omega) hM1)
       have hlen:(aC 32 0 [] M).length≤50000000:=by rw[bN];omega
       obtain⟨body,hbd⟩:∃ x,aC 32 0 [] M=x:=⟨_,rfl⟩;rw[hbd] at HX2 HN hlen;generalize M.length=mlen at *;obtain⟨ga,gc',rfl,-⟩:=id hN7;clear hN7 hO7 hbd;go_wp2_with fail
       refine HN.out.mono ?_;rintro e w8 ⟨v8,rfl,hN8,hb8⟩;have hS8:=hS7.below hb8;have hK8:=hK7.andBelow hb8;have hsz8:=hK8.size;obtain⟨gd,gf,rfl,-⟩:=id hN8
       cases nt with
       | true =>
        rw[if_pos rfl] at HX2;have HN2:=Ng (fun (w9:World) (u:Value) (h1:b<w9.heap.size) (h2:NSl w9 b u body)=>bT 27 0 [] [body] b _ _ (by simp;omega) (KSl.new1 (w:=w9) (u:=u) h1 (.inl h2)) (by simp;omega) (by simp))
        go_wp2_with fail
        refine (HN2.out _ _ (by omega) hN8).mono ?_
        rintro e w9 ⟨v9,rfl,hN9,hb9⟩;have hba:=aE ((Below.refl _ _).alloc (Nat.le_refl _) _) hb9;obtain⟨gh,gi,rfl,-⟩:=id hN9;go_wp2_with fail
        go_ret2;exact bA.ok HX2.out rfl hN9 (hS8.below hba) (hK8.andBelow hba)
       | false =>
        rw[if_neg (by simp)] at HX2
        go_wp2_with fail
        go_ret2;exact bA.ok HX2.out rfl hN8 hS8 hK8
      ·rw[if_neg x1] at HX2;have y1:decide ((1:Int)<(M.length:Int))=false:=by rw[decide_eq_false_iff_not];omega
       have hlen:(M.headD []).length≤50000000:=by omega
       obtain⟨body,hbd⟩:∃ x,M.headD []=x:=⟨_,rfl⟩;rw[hbd] at HX2 hN7 hlen hhd;generalize M.length=mlen at *;obtain⟨gd,gf,rfl,-⟩:=id hN7;obtain⟨w8,hw8⟩:∃ w8,w8=w7:=⟨_,rfl⟩;have hN8:=hN7;have hS8:=hS7;have hK8:=hK7;have hsz8:=hK8.size;clear hO7 hbd hw8
       cases nt with
       | true =>
        rw[if_pos rfl] at HX2;have HN2:=Ng (fun (w9:World) (u:Value) (h1:b<w9.heap.size) (h2:NSl w9 b u body)=>bT 27 0 [] [body] b _ _ (by simp;omega) (KSl.new1 (w:=w9) (u:=u) h1 (.inl h2)) (by simp;omega) (by simp))
        go_wp2_with fail
        refine (HN2.out _ _ (by omega) hN8).mono ?_
        rintro e w9 ⟨v9,rfl,hN9,hb9⟩;have hba:=aE ((Below.refl _ _).alloc (Nat.le_refl _) _) hb9;obtain⟨gh,gi,rfl,-⟩:=id hN9;go_wp2_with fail
        go_ret2;exact bA.ok HX2.out rfl hN9 (hS8.below hba) (hK8.andBelow hba)
       | false =>
        rw[if_neg (by simp)] at HX2
        go_wp2_with fail
        go_ret2;exact bA.ok HX2.out rfl hN8 hS8 hK8
theorem rH (l m:List UInt8):bs l++bs m=bs (l++m):=by
 unfold bs;apply ByteArray.ext
 simp
set_option maxHeartbeats 16000000
theorem bA.tuple {w w':World}{b g cap:Nat}{ts:List aH}{d m:Nat}{sent:Nat→Addr}{r:Except (Nat×Nat) (aA×Nat)}{e:Ending}(h:bA w b g cap ts d m sent r e w'):∃ v u,e = .returned (.tuple #[v,u]):=by
 obtain⟨_,h⟩:=h
 cases r with
 | error x=>obtain⟨v,u,_,_,h,_⟩:=h;exact⟨v,u,h⟩
 | ok x=>obtain⟨v,h,_⟩:=h;exact⟨v,_,h⟩
theorem bA.after {w0 w w':World}{b g cap:Nat}{ts:List aH}{d m:Nat}{sent:Nat→Addr}{r:Except (Nat×Nat) (aA×Nat)}{e:Ending}(h:bA w b g cap ts d m sent r e w')(hk:aB (At b) w0 w):bA w0 b g cap ts d m sent r e w':=by
 obtain⟨h1,h2⟩:=h;refine ⟨hk.same h1,?_⟩
 cases r with
 | error x =>
  obtain⟨v,u,j,l,q1,q2,q3,q4,q5⟩:=h2;exact⟨v,u,j,l,q1,q2,q3,q4.from hk.size,q5⟩
 | ok x=>exact h2
def Af (b g cap:Nat) (ts:List aH) (sent:Nat→Addr) (f:Nat):Prop :=
 ∀ (w:World) (i d:Nat) (r:Except (Nat×Nat) (aA×Nat)) (c:aA) (vc:Value),d≤31→i<ts.length→PSt w b g cap ts i d→iG w b sent→NSl w b vc c→c.length≤60000→Hid (eQ ts f d i c []=some r) →
  Calls Tryz.prog 204 #[.pointer (some ⟨b,0,none⟩),vc] w (bA w b g cap ts d (60000 * (32 - d)) sent r)
theorem Hg {ts:List aH}{cap:Nat}(T:PTs cap ts){f d i:Nat}{l:aA}{e:Nat}(hi:i<ts.length)(h:fT ts f d i=some (.ok (l,e))):e<ts.length∧l.length≤50000:=by
 have:=((lB T.fix.good f).block d i hi).1 l e h
 have:=T.fix.num
 omega
theorem EB {cap:Nat}{ts:List aH}(T:PTs cap ts)(i:Nat):isK ts i [18]=false:=by
 rw[← Bool.not_eq_true,pV];have:=(T.cls i).1
 simpa using this
theorem FF {b g cap:Nat}{ts:List aH}{sent:Nat→Addr}(T:PTs cap ts)(f:Nat)(ihB:gN b g cap ts sent 203 (fT ts f))(ihT:Af b g cap ts sent f)(ihS:gN b g cap ts sent 205 (gS ts f)) :
  gN b g cap ts sent 185 (eE ts (f+1)):=by
 intro w i d r hd hi hS hE hr;have hbl:=hS.blt;have F:=T.fix;have HR:=Ng hr.out;rw[eE] at HR;have IHB:=Ng ihB;have IHT:=Ng ihT;have IHS:=Ng ihS;have hf3:=zZ;clear hr ihB ihT ihS;go_enter Tryz.func185,Tryz.ntmps185
 go_wp2_with fail
 refine (iY F (hS.alloc _) hi [8] _ _ (by decide) (show Blk _ _ [Value.int .i64 8] from Blk.new w _ _)).mono ?_
 rintro e w1 ⟨rfl,hb1⟩;have hb2:=aE ((Below.refl _ w).alloc (Nat.le_refl _) _) hb1;have hS1:=hS.below hb2;have hE1:=hE.below hb2;have hK1:=(aB.refl (At b) w).andBelow hb2;clear hS hE hb1 hb2
 by_cases x0:isK ts i [8]=true
 ·rw[if_pos x0] at HR;rw[x0]
  cases hq:fT ts f d i with
  | none =>
   rw[hq] at HR;exact absurd HR.out (by simp [aJ.go])
  | some rc =>
   rw[hq] at HR;have HD:=Ng (IHB.out w1 i d rc hd hi hS1 hE1 (Ng hq));clear hS1 x0;go_wp2_with fail
   refine HD.out.mono ?_
   cases rc with
   | error e0 =>
    obtain⟨c0,p0⟩:=e0;have HX:=Ng (eP HR.out);clear HR hq HD;have hsz:=hK1.size;rintro e w2 ⟨hK2,v,u,j',l0,rfl,-,-,⟨eb,rfl,q2,q3⟩,hS2⟩;go_wp2_with fail
    go_ret2;exact bA.bad HX.out rfl (.none _ _) (Nat.zero_le _) ⟨eb,rfl,q2,by omega⟩ hS2 (hK1.same hK2)
   | ok q =>
    obtain⟨l,j⟩:=q;obtain⟨z2,z3⟩:=Hg T hi hq;have HX:=Ng (show eQ ts f d j l []=some r from HR.out)
    clear HR hq HD;rintro e w2 ⟨hK2,v,rfl,hN,hS2⟩;have hE2:=hE1.kept hK2;have hK9:=hK1.same hK2;have HD:=Ng (IHT.out w2 j d r l v hd z2 hS2 hE2 hN (by omega) HX)
    obtain⟨ga,gc,rfl,-⟩:=id hN;clear hS2 hE2 hN hE1 hK1 hK2;go_wp2_with fail
    refine (HD.out).mono ?_;rintro e w3 hp;have hq:=Ng (hp.after hK9);obtain⟨v,u,rfl⟩:=hp.tuple;go_wp2_with fail
    go_ret2;exact hq.out
 ·have x0:isK ts i [8]=false:=by simpa using x0
  rw[x0,if_neg (by simp)] at HR
  rw[x0];clear x0;go_wp2_with fail
  refine (iY F (hS1.alloc _) hi [18] _ _ (by decide) (show Blk _ _ [Value.int .i64 18] from Blk.new w1 _ _)).mono ?_
  rintro e w2 ⟨rfl,hb2⟩;have hb3:=aE ((Below.refl _ w1).alloc (Nat.le_refl _) _) hb2;have hS2:=hS1.below hb3;have hE2:=hE1.below hb3;have hK2:=hK1.andBelow hb3;clear hS1 hE1 hK1 hb2 hb3;have x1:isK ts i [18]=false:=EB T i;rw[x1] at HR ⊢;rw[if_pos (.inl rfl)] at HR;have HD:=Ng (IHS.out w2 i d r hd hi hS2 hE2 HR);have hK9:=hK2;clear x1 hS2 hE2 hK2;go_wp2_with fail
  refine (HD.out).mono ?_;rintro e w5 hp;have hq:=Ng (hp.after hK9);obtain⟨v,u,rfl⟩:=hp.tuple;go_wp2_with fail
  go_ret2;exact hq.out
theorem AR {w:World}{b g cap:Nat}{ts:List aH}{i d:Nat}(F:kY cap ts)(h:PSt w b g cap ts i d)(hi:i<ts.length) :
  Calls Tryz.prog 229 #[.pointer (some ⟨b,0,none⟩)] w fun e w'=>e = .returned (.bool (iP ts i))∧Below w.heap.size w w':=by
 go_enter Tryz.func229,Tryz.ntmps229
 go_wp2_with fail
 refine (iY F (h.alloc _) hi [11,12,13,14] _ _ (by decide) (show Blk _ _ [Value.int .i64 11,Value.int .i64 12,Value.int .i64 13,Value.int .i64 14] from Blk.new w _ _)).mono ?_
 rintro e w1 ⟨rfl,hb1⟩;have hb2:=aE ((Below.refl _ w).alloc (Nat.le_refl _) _) hb1;rw[← iP];go_wp2_with fail
 go_ret;exact⟨rfl,hb2⟩
theorem uL {w:World}{b g cap:Nat}{ts:List aH}{i d:Nat}(F:kY cap ts)(h:PSt w b g cap ts i d)(hi:i<ts.length) :
  Calls Tryz.prog 234 #[.pointer (some ⟨b,0,none⟩)] w fun e w'=>e = .returned (.bool (eV ts i))∧Below w.heap.size w w':=by
 go_enter Tryz.func234,Tryz.ntmps234
 go_wp2_with fail
 refine (iY F (h.alloc _) hi [18,19,20,21,22,23,6,10] _ _ (by decide) (show Blk _ _ [Value.int .i64 18,Value.int .i64 19,Value.int .i64 20,Value.int .i64 21,Value.int .i64 22,Value.int .i64 23,Value.int .i64 6,Value.int .i64 10] from Blk.new w _ _)).mono ?_
 rintro e w1 ⟨rfl,hb1⟩;have hb2:=aE ((Below.refl _ w).alloc (Nat.le_refl _) _) hb1;rw[← eV];go_wp2_with fail
 go_ret;exact⟨rfl,hb2⟩
def qE (w:World) (b g cap:Nat) (ts:List aH) (d:Nat) (sent:Nat→Addr) (r:Except (Nat×Nat) (List aA×Nat)) (e:Ending) (w':World):Prop :=
 aB (At b) w w'∧match r with
 | .ok (L,j)=>∃ v,e = .returned (.tuple #[v,.nilIface])∧KSl w' b v L∧PSt w' b g cap ts j d
 | .error (c,p)=>∃ u j,e = .returned (.tuple #[.slice none 0 0,u])∧cU w w' sent c p u∧PSt w' b g cap ts j d
theorem qE.ok {w w':World}{b g cap:Nat}{ts:List aH}{d:Nat}{sent:Nat→Addr}{L:List aA}{j:Nat}{v:Value}{r:Except (Nat×Nat) (List aA×Nat)}{e:Ending}(hr:r = .ok (L,j))(he:e = .returned (.tuple #[v,.nilIface]))(h1:KSl w' b v L)(h2:PSt w' b g cap ts j d)(hk:aB (At b) w w'):qE w b g cap ts d sent r e w':=by
 subst hr;exact⟨hk,v,he,h1,h2⟩
theorem qE.bad {w w':World}{b g cap:Nat}{ts:List aH}{d:Nat}{sent:Nat→Addr}{c p j:Nat}{u:Value}{r:Except (Nat×Nat) (List aA×Nat)}{e:Ending}(hr:r = .error (c,p))(he:e = .returned (.tuple #[.slice none 0 0,u]))(h1:cU w w' sent c p u)(h2:PSt w' b g cap ts j d)(hk:aB (At b) w w'):qE w b g cap ts d sent r e w':=by
 subst hr;exact⟨hk,u,j,he,h1,h2⟩
theorem KSl.kept {w w':World}{b:Nat}{v:Value}{L:List aA}(h:KSl w b v L)(hk:aB (At b) w w'):KSl w' b v L:=by
 obtain⟨ao,cap,h1,h2,h3,h4⟩:=h;refine ⟨ao,cap,h1,h2,h3,fun hl=>?_⟩
 obtain⟨g,e1,e2,e3,e4⟩:=h4 hl;refine ⟨g,e1,Nat.lt_of_lt_of_le e2 hk.size,e3,fun i l hi=>?_⟩
 obtain⟨u,u1,u2⟩:=e4 i l hi;exact⟨u,hk.cell u1 e3,u2.kept hk⟩
def rR (b g cap:Nat) (ts:List aH) (sent:Nat→Addr) (f:Nat):Prop :=
 ∀ (w:World) (i d how:Nat) (r:Except (Nat×Nat) (aA×Nat)),d≤31→how≤0→i<ts.length→PSt w b g cap ts i d→iG w b sent→Hid (dJ ts f d i how=some r) →
  Calls Tryz.prog 233 #[.pointer (some ⟨b,0,none⟩),.int .i64 how] w (bA w b g cap ts d (60000 * (32 - d)) sent r)
def zP (b g cap:Nat) (ts:List aH) (sent:Nat→Addr) (f:Nat):Prop :=
 ∀ (w:World) (i d how:Nat) (r:Except (Nat×Nat) (List aA×Nat)),d≤31→how≤0→i<ts.length→PSt w b g cap ts i d→iG w b sent→Hid (fI ts f d i how []=some r) →
  Calls Tryz.prog 239 #[.pointer (some ⟨b,0,none⟩),.int .i64 how] w (qE w b g cap ts d sent r)
theorem uB {ts:List aH}{cap:Nat}(T:PTs cap ts){f d i how:Nat}{l:aA}{e:Nat}(hh:how≤1)(hi:i<ts.length)(h:dJ ts f d i how=some (.ok (l,e))):i<e∧e<ts.length∧l.length≤6 * (e - i)∧0<l.length:=by
 have h1:=((lB T.fix.good f).word d i how hi).1 l e h;obtain⟨D,hD⟩:=(qF T.w f).word d i how hh l e h;have:=hD.pos.1
 omega
theorem G1 {ts:List aH}{cap:Nat}(T:PTs cap ts){f d i how:Nat}{L:List aA}{e:Nat}(hh:how≤1)(hi:i<ts.length)(h:fI ts f d i how []=some (.ok (L,e))):e<ts.length∧L.flatten.length≤50000∧L.length≤10000∧∀ l∈L,0<l.length:=by
 have h1:=((lB T.fix.good f).words d i how [] hi).1 L e h;have h2:=(qF T.w f).words d i how [] hh (fun _ h=>nomatch h) L e h
 have:=T.fix.num
 simp only[List.flatten_nil,List.length_nil] at h1;refine ⟨by omega,by omega,by omega,fun l hl=>?_⟩
 obtain⟨D,hD⟩:=h2 l hl;exact hD.pos.1
theorem G9 {b g cap:Nat}{ts:List aH}{sent:Nat→Addr}(T:PTs cap ts)(f:Nat)(ih:∀ f'<f,rR b g cap ts sent f'):zP b g cap ts sent f:=by
 intro w i d how r hd hh hi hS hE hr;have hbl:=hS.blt;have hgl:=hS.glt;have F:=T.fix;have hcap:=F.num;obtain⟨k0,hk0,hk1,hk2,hk3⟩:=info_parts jB;have IH:=Ng ih;clear ih;go_enter Tryz.func239,Tryz.ntmps239
 go_wp2_with fail
 go_loopg [6,7,8] (ts.length - i) (fun m v cc er wr=>∃ (k fk:Nat) (L:List aA),m=ts.length - k∧k<ts.length∧fk≤f∧L.length≤k∧L.flatten.length≤6 * k∧Hid (∀ l∈L,0<l.length)∧aB (At b) w wr∧PSt wr b g cap ts k d∧aO wr w.heap.size b v L∧Hid (fI ts fk d k how L=some r))
 case atStart=>exact⟨i,f,[],rfl,hi,Nat.le_refl _,by simp,by simp,Ng (fun _ h=>nomatch h),aB.refl _ _,hS,aO.nil _ _ _,hr⟩
 case round =>
  clear hS hr hi;obtain⟨k,fk,L,rfl,hk,hfk,hL1,hL2,hL3,hK,hS,hO,hr⟩:=hrel
  obtain⟨fk,rfl⟩:∃ q,fk=q+1:=by
   cases fk with
   | zero=>have:=hr.out;rw[fI] at this;cases this
   | succ q=>exact⟨q,rfl⟩
  obtain⟨ao,acap,rfl⟩:=hO.form;have HP:=Ng hr.out;rw[fI] at HP;clear hr;go_wp2_with fail
  refine (uL F hS hk).mono ?_;rintro e w1 ⟨rfl,hb1⟩;have hS1:=hS.below hb1;have hO1:=hO.below hbl hb1;have hK1:=hK.andBelow hb1;have hE1:=hE.kept hK1;have hsz:=hK1.size;clear hS hO hK hb1
  by_cases x0:eV ts k=true
  ·rw[if_pos x0] at HP;rw[x0]
   cases hq:dJ ts fk d k how with
   | none =>
    rw[hq] at HP;exact absurd HP.out (by simp [aJ.go])
   | some rc =>
    rw[hq] at HP;have HD:=Ng (IH.out fk (by omega) w1 k d how rc hd hh hk hS1 hE1 (Ng hq))
    clear hS1 hE1 x0;go_wp2_with fail
    refine HD.out.mono ?_
    cases rc with
    | error e0 =>
     obtain⟨c0,p0⟩:=e0;have HX:=Ng (eP HP.out);clear HP hq HD;rintro e w3 ⟨hK2,v,u,j',l0,rfl,h0,-,⟨eb,rfl,q2,q3⟩,hS2⟩;obtain⟨va,vc,rfl⟩:=h0.form;go_wp2_with fail
     go_ret2;exact qE.bad HX.out rfl ⟨eb,rfl,q2,by omega⟩ hS2 (hK1.same hK2)
    | ok q =>
     obtain⟨c,e2⟩:=q;obtain⟨z1,z2,z3,z4⟩:=uB T (by omega) hk hq
     have HX:=Ng (show fI ts fk d e2 how (L++[c])=some r from HP.out)
     have hL6:(L++[c]).length≤e2:=by rw[List.length_append,List.length_cons,List.length_nil];omega
     have hL7:(L++[c]).flatten.length≤6 * e2:=by rw[fD,List.length_append];omega
     have hL8:=Ng (fP hL3.out z4);clear HP hq;rintro e w5 ⟨hK6,v,rfl,hN,hS5⟩;have hK7:=hK1.same hK6;obtain⟨us,u1,u2,u3⟩:=hO1.kept hbl hK6;have hOA:∀ o,(w5.alloc o).ownsRow w.heap.size 26 1 _ L.length us:=fun o=>bM u2 (aB.ofBelow (S:=bW) ((Below.refl _ w5).alloc (Nat.le_refl _) o)) (fun _ _ _ e=>e)
     have HN:=Ng hN;have hsz5:=hK7.size;obtain⟨gc,cc,rfl,-⟩:=hN;clear hK1 hK6 hO1 HD;go_wp2_with (at_builtin;refine wpList_append_own _ rfl _ _ 25 rfl w.heap.size 26 k0 _ 1 24 Tryz.underlying25 hk0 hk1 hk2 hk3 rfl (by decide) _ _ _ rfl (hOA _) ⟨w5.heap.size,0,none⟩ 1 1 [.slice (some ⟨gc,0,none⟩) c.length cc] rfl rfl ?c1 ?c2 ?c3 ?c4 ?c5 ?_)
     case c1=>exact cL (by simp)
     case c2 =>
      intro u hu;simp at hu
      subst hu;rfl
     case c3=>unfold maxLen;omega
     case c4=>omega
     case c5=>simp;omega
     intro v6 w6 hown' hgrow _;obtain⟨hO6,hb6⟩:=aO.grown hsz5 u1 u2 u3 HN.out hown' hgrow;have hS6:=hS5.belowB hb6 hbl hgl;have hK8:=hK7.belowB hb6 (Nat.le_refl _);go_wp2_with fail
     go_roundg (ts.length - e2)
     case measure=>omega
     case rel=>exact⟨e2,fk,L++[c],rfl,z2,by omega,hL6,hL7,hL8,hK8,hS6,hO6,HX⟩
  ·have x0:eV ts k=false:=by simpa using x0
   rw[x0,if_neg (by simp)] at HP
   rw[x0];have HX:=Ng (Option.some.inj (show some (Except.ok (L,k))=some r from HP.out)).symm
   clear HP;go_wp2_with fail
   go_ret2;exact qE.ok HX.out rfl (hO1.ksl hbl) hS1 hK1
def tK (ts:List aH) (f d i:Nat):aJ aA:=(fI ts f d (skP ts i) 0 []).go fun l j=>fL ts j [7] fun e=>pOk (aC 3 0 [] l) e
theorem FC {b g cap:Nat}{ts:List aH}{sent:Nat→Addr}(T:PTs cap ts)(f:Nat)(ih:zP b g cap ts sent f):gN b g cap ts sent 284 (tK ts f):=by
 intro w i d r hd hi hS hE hr;have hbl:=hS.blt;have F:=T.fix;have HR:=Ng hr.out;unfold tK at HR;have IH:=Ng ih;clear hr ih;have hj:=(nF (ts:=ts) hi).2;obtain⟨j,hjj⟩:∃ j,skP ts i=j:=⟨_,rfl⟩;rw[hjj] at HR hj;go_enter Tryz.func284,Tryz.ntmps284
 go_wp2_with fail
 refine (mC F hS hi).mono ?_;rintro e w1 ⟨rfl,hS1,hK1⟩;rw[hjj] at hS1;have hE1:=hE.kept hK1;clear hS hE
 cases hq:fI ts f d j 0 [] with
 | none =>
  rw[hq] at HR;exact absurd HR.out (by simp [aJ.go])
 | some rc =>
  rw[hq] at HR;have HD:=Ng (IH.out w1 j d 0 rc hd (by omega) hj hS1 hE1 (Ng hq))
  clear hS1;go_wp2_with fail
  refine HD.out.mono ?_
  cases rc with
  | error e0 =>
   obtain⟨c0,p0⟩:=e0;have HX:=Ng (eP HR.out);clear HR hq HD;rintro e w3 ⟨hK2,u,j',rfl,⟨eb,rfl,q2,q3⟩,hS2⟩;have hsz:=hK1.size;have hsz2:=hK2.size;have HN:=Ng (bT 3 0 [] [] b _ w3 (by omega) (KSl.nil _ _) (by simp) (by simp))
   go_wp2_with fail
   refine HN.out.mono ?_;rintro e w4 ⟨v4,rfl,hN4,hb4⟩;have hP:=Ng (cU.kept (w:=w) (w':=w3) (w'':=w4) (b:=b) ⟨eb,rfl,q2,by omega⟩ hbl (aB.ofBelow hb4))
   obtain⟨g4,c4,rfl,-⟩:=id hN4;go_wp2_with fail
   go_ret2;exact bA.bad HX.out rfl (.inl hN4) (by simp [aC];omega) hP.out (hS2.below hb4) ((hK1.same hK2).andBelow hb4)
  | ok q =>
   obtain⟨L,k⟩:=q;obtain⟨y1,y2,y3,y4⟩:=G1 T (by omega) hj hq
   have HR2:=Ng (show (if isK ts k [7]=true then pOk (aC 3 0 [] L) (skP ts k) else jJ ts k)=some r from HR.out)
   clear HR hq HD;rintro e w2 ⟨hK2,v,rfl,hO,hS2⟩;have hK3:=hK1.same hK2;have hE2:=hE1.kept hK2;have hsz:=hK3.size;clear hK1 hK2 hE1
   by_cases x0:isK ts k [7]=true
   ·rw[if_pos x0] at HR2;have HX:=Ng (gI HR2.out);clear HR2;have hO0:=hO;obtain⟨ao,ac,rfl,-⟩:=hO;go_wp2_with fail
    refine (xX F (hS2.alloc _) y1 [7] _ _ (by decide) (show Blk _ _ [Value.int .i64 7] from Blk.new _ _ _) x0).mono ?_
    rintro e w4 ⟨rfl,hS4,hK7⟩;have hK4:=((aB.refl (At b) w2).alloc (.cells #[Value.int .i64 7] 3)).same hK7;clear hK7;have hO4:=hO0.kept hK4;have hK5:=hK3.same hK4;have hsz5:=hK5.size;have HN:=Ng (bT 3 0 [] L b _ w4 (by omega) hO4 (by omega) (by omega))
    go_wp2_with fail
    refine HN.out.mono ?_;rintro e w5 ⟨v5,rfl,hN5,hb5⟩;obtain⟨g4,c4,rfl,-⟩:=id hN5;go_wp2_with fail
    go_ret2;exact bA.ok HX.out rfl hN5 (hS4.below hb5) (hK5.andBelow hb5)
   ·have x0:isK ts k [7]=false:=by simpa using x0
    rw[x0,if_neg (by simp)] at HR2
    have HX2:=Ng (sJ HR2.out);clear HR2;have hO0:=hO;obtain⟨ao,ac,rfl,-⟩:=hO;go_wp2_with fail
    refine (yM F (hS2.alloc _) y1 [7] _ _ (by decide) (show Blk _ _ [Value.int .i64 7] from Blk.new _ _ _) x0 sent (hE2.env.below ((Below.refl _ _).alloc (Nat.le_refl _) _))).mono ?_
    rintro e w7 ⟨eb,rfl,hE7,hl7,hb7⟩;have hb8:=aE ((Below.refl _ w2).alloc (Nat.le_refl _) (.cells #[Value.int .i64 7] 3)) hb7;have hsz8:=hb8.size;have HN:=Ng (bT 3 0 [] L b _ w7 (by omega) (hO0.below hb8) (by omega) (by omega))
    have hl8:w.heap.size≤eb:=by have:=hl7;simp at this;omega
    clear hl7;go_wp2_with fail
    refine HN.out.mono ?_;rintro e w9 ⟨v9,rfl,hN9,hb9⟩;have hP:=Ng (cU.kept (w:=w) (w':=w7) (w'':=w9) (b:=b) ⟨eb,rfl,hE7,hl8⟩ hbl (aB.ofBelow hb9));obtain⟨g4,c4,rfl,-⟩:=id hN9;go_wp2_with fail
    go_ret2;exact bA.bad HX2.out rfl (.inl hN9) (by rw[bN];omega) hP.out ((hS2.below hb8).below hb9) ((hK3.andBelow hb8).andBelow hb9)
def wD (b g cap:Nat) (ts:List aH) (sent:Nat→Addr) (f:Nat):Prop :=
 ∀ (w:World) (i d:Nat) (r:Except (Nat×Nat) (aA×Nat)),d≤31→i<ts.length→eV ts i=true→PSt w b g cap ts i d→iG w b sent→Hid (gG ts f d i=some r) →
  Calls Tryz.prog 264 #[.pointer (some ⟨b,0,none⟩)] w (bA w b g cap ts d (60000 * (32 - d)) sent r)
theorem vT {w w':World}{o:Obj}(h:Below (w.alloc o).heap.size (w.alloc o) w'):Below w.heap.size w w':=aE ((Below.refl _ w).alloc (Nat.le_refl _) o) h
theorem JP {b g cap:Nat}{ts:List aH}{sent:Nat→Addr}(T:PTs cap ts)(f:Nat)(ihB:gN b g cap ts sent 284 (tK ts f)):wD b g cap ts sent (f+1):=by
 intro w i d r hd hi hit hS hE hr;have hbl:=hS.blt;have F:=T.fix;have hlen:=F.good.text i;have HR:=Ng hr.out;rw[gG] at HR;have IHB:=Ng ihB;have hmf:∀ (fn:Fn) (first cap:Array Value) (w:World),(Instr.makeFunc fn first cap).run Tryz.prog w = .ok (.func fn first cap) w:=fun _ _ _ _=>rfl
 clear hr ihB;go_enter Tryz.func264,Tryz.ntmps264
 go_wp2_with fail
 refine (oU F hS hi).mono ?_;rintro e w1 ⟨rfl,hb1⟩;unfold aH.cells;have hB2:=Blk.new w1 [Value.int .i64 (aK ts i).kind,.int .i64 (aK ts i).place,.int .i64 (aK ts i).num,.string (bs (aK ts i).text),.bool (aK ts i).glue] 87;have hb2:=aE hb1 ((Below.refl _ w1).alloc (Nat.le_refl _) (.cells #[Value.int .i64 (aK ts i).kind,.int .i64 (aK ts i).place,.int .i64 (aK ts i).num,.string (bs (aK ts i).text),.bool (aK ts i).glue] 87));have hS2:=hS.below hb2;have hE2:=hE.below hb2;have hK2:=(aB.refl (At b) w).andBelow hb2;have hsz1:=hb1.size;clear hS hE hb1 hb2;go_wp2_with fail
 refine (bT 2 0 (aK ts i).text [] b _ _ (by simp;omega) (KSl.nil _ _) (by simp) (by simp)).mono ?_
 rintro e w3 ⟨v3,rfl,hV,hb3⟩;have hB3:=hB2.below hb3;have hS3:=hS2.below hb3;have hE3:=hE2.below hb3;have hK3:=hK2.andBelow hb3;have hsz3:=hK3.size;clear hB2 hS2 hE2 hK2 hb3;have tc0:=hB3.cell 0 rfl;have tc1:=hB3.cell 1 rfl;have tc2:=hB3.cell 2 rfl;have tc3:=hB3.cell 3 rfl;have tc4:=hB3.cell 4 rfl;have tf0:=hB3.free 0;have tf1:=hB3.free 1;have tf2:=hB3.free 2;have tf3:=hB3.free 3;have tf4:=hB3.free 4;have hlt3:=hB3.lt;generalize w1.heap.size=tb at *;unfold eV at hit;rw[pV] at hit;simp only[List.mem_cons,List.not_mem_nil,or_false] at hit
 rcases hit with hk | hk | hk | hk | hk | hk | hk | hk
 ·exact absurd hk (T.cls i).1
 ·rw[show (((aK ts i).kind:Nat):Int)=19 by rw[hk];rfl] at tc0
  rw[hk] at HR
  repeat rw[if_neg (by decide)] at HR
  rw[if_pos (by decide)] at HR
  obtain⟨ga,gc,rfl,-⟩:=hV;go_wp2_with fail
  refine (qW (aK ts i).text b w3 (by omega)).mono ?_
  rintro e w4 ⟨v4,rfl,hN4,hb4⟩;have hS4:=hS3.below hb4;have hK4:=hK3.andBelow hb4;have HX:=Ng (gI HR.out);clear HR;obtain⟨ga,gc,rfl,-⟩:=id hN4;go_wp2_with fail
  refine (mC F hS4 hi).mono ?_;rintro e w9 ⟨rfl,hS9,hK9⟩;go_wp2_with fail
  go_ret2;exact bA.ok HX.out rfl (hN4.kept hK9) hS9 (hK4.same hK9)
 ·rw[show (((aK ts i).kind:Nat):Int)=20 by rw[hk];rfl] at tc0
  rw[hk] at HR
  repeat rw[if_neg (by decide)] at HR
  have HX:=Ng (gI HR.out);clear HR;obtain⟨ga,gc,rfl,-⟩:=id hV;go_wp2_with fail
  refine (mC F hS3 hi).mono ?_;rintro e w9 ⟨rfl,hS9,hK9⟩;go_wp2_with fail
  go_ret2;exact bA.ok HX.out rfl (hV.kept hK9) hS9 (hK3.same hK9)
 ·exact absurd hk (T.cls i).2.1
 ·exact absurd hk (T.cls i).2.2.1
 ·exact absurd hk (T.cls i).2.2.2.1
 ·rw[show (((aK ts i).kind:Nat):Int)=6 by rw[hk];rfl] at tc0
  rw[hk] at HR
  repeat rw[if_neg (by decide)] at HR
  rw[if_pos (by decide)] at HR
  have HD:=Ng (EY T (tK ts f) IHB.out w3 i d r hd hi hS3 hE3 (Ng HR.out));obtain⟨ga,gc,rfl,-⟩:=hV;go_wp2_with fail
  refine HD.out.mono ?_;rintro e w4 hp;have hq:=Ng ((hp.after hK3).mono (show 60000 * (31 - d)≤60000 * (32 - d) by omega))
  obtain⟨v,u,rfl⟩:=hp.tuple;go_wp2_with fail
  go_ret2;exact hq.out
 ·exact absurd hk (T.cls i).2.2.2.2
end Go.Proofs.YtbpjobmpacjgcaaGreatDoor
