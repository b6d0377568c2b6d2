/- The document's parser of dialect B: lists. -/
import Derived.Test.YtbplbehhlbkklaaGreatDoorGZPipe
import Derived.Test.YtbplbehhlbkklaaGreatDoorGZC
namespace Go.Proofs.YtbplbehhlbkklaaGreatDoor
open Go Go.RowKit
theorem pass_no {ts:List BTok}{ks:List Nat}{k:Nat}(h:isK ts k ks=false):passT ts ks k=k:=by
 unfold passT
 cases ts.length with
 | zero=>rfl
 | succ n=>rw[passP,h,if_neg (by simp)]
theorem pass_yes {ts:List BTok}{ks:List Nat}{k:Nat}(_hk:k<ts.length)(h:isK ts k ks=true)(hs:skP ts k=k+1∧k+1<ts.length):k<passT ts ks k:=by
 unfold passT;obtain⟨n,hn⟩:∃ n,ts.length=n+1:=⟨ts.length - 1,by omega⟩
 rw[hn,passP,if_pos h,hs.1];have:=(passP_le (ts:=ts) ks n hs.2).1
 omega
theorem tree_seq {L:List Prog}(h:∀ l∈L,Tree l):Tree (seqP L):=by
 match L,h with
 | [],_=>exact Tree.leaf _ _ _
 | [l],h=>exact h l (by simp)
 | l :: l2 :: L,h=>exact .node _ _ _ _ h
def overP (ts:List BTok) (i:Nat):Bool:=isK ts i [0,7,9] || keyAt ts i [99,97,115,101]
def LRes (X:PRes Prog) (f:Option (Nat×Nat)) (a:Prog) (k:Nat):Prop:=match f with | some x=>X=some (.error x) | none=>X=some (.ok (a,k))
structure ListAt (ts:List BTok) (f0 d i0:Nat) (X:PRes Prog) (k:Nat) (L:List Prog):Prop where
 le:i0≤k
 lt:k<ts.length
 size:L.flatten.length≤6 * (k - i0)
 trees:∀ l∈L,Tree l
 num:L.length≤k - i0
 res:∃ fk,fk≤f0∧(if overP ts k=true then pOk (seqP L) k else (pChain ts fk d k).go fun c e=>pChains ts fk d e (L++[c]))=X
structure ListEnd (ts:List BTok) (f0 d i0:Nat) (X:PRes Prog) (k:Nat) (f:Option (Nat×Nat)) (L:List Prog):Prop where
 le:i0≤k
 lt:k<ts.length
 size:L.flatten.length≤6 * (k - i0)+(if f=none then 0 else zS d+2)
 trees:∀ l∈L,Tree l
 pos:0<L.length
 num:L.length≤k - i0+(if f=none then 0 else 1)
 res:match f with | some x=>X=some (.error x) | none=>∃ fk,fk≤f0∧pChains ts fk d k L=X
structure ChainAt (ts:List BTok) (f0 d k0:Nat) (X:PRes Prog) (k:Nat) (f:Option (Nat×Nat)) (c:Prog):Prop where
 le:k0≤k
 lt:k<ts.length
 size:c.length≤6 * (k - k0)+(if f=none then 0 else zS d+2)
 tree:Tree c
 res:match f with | some x=>X=some (.error x) | none=>k0<k∧∃ fk,fk≤f0∧pChainR ts fk d k c=X
theorem pChains_at (ts:List BTok)(q d i:Nat)(L:List Prog)(h:L.length=0∨passT ts [1,2] i≠i):pChains ts (q+1) d i L=(if overP ts (passT ts [1,2] i)=true then pOk (seqP L) (passT ts [1,2] i) else (pChain ts q d (passT ts [1,2] i)).go fun c e=>pChains ts q d e (L++[c])):=by
 rw[pChains];unfold overP
 by_cases h1:isK ts (passT ts [1,2] i) [0,7,9]=true
 ·rw[if_pos (.inl h1),if_pos (by rw[h1];rfl)]
 ·by_cases h2:keyAt ts (passT ts [1,2] i) [99,97,115,101]=true
  ·rw[if_pos (.inr (.inl h2)),if_pos (by rw[h2,Bool.or_true])]
  ·rw[if_neg (by rintro (h3 | h3 | ⟨h3,h4⟩) <;> first | exact h1 h3 | exact h2 h3 | (rcases h with h | h <;> first | omega | exact h h4)),if_neg (by rw[Bool.or_eq_true];rintro (h3 | h3);exact h1 h3;exact h2 h3)]
theorem ListEnd.done {ts:List BTok}{f0 d i0 k:Nat}{X:PRes Prog}{f:Option (Nat×Nat)}{L:List Prog}(h:ListEnd ts f0 d i0 X k f L)(hX:X≠none)(hn:(f.isNone&&isK ts k [1,2])=false):LRes X f (seqP L) k:=by
 have hr:=h.res;have hp:=h.pos
 cases f with
 | some x=>exact hr
 | none =>
  obtain⟨fk,h1,h2⟩:=hr
  cases fk with
  | zero =>
   rw[pChains] at h2;exact absurd h2.symm hX
  | succ q =>
   have hj:passT ts [1,2] k=k:=pass_no (by simpa using hn)
   rw[pChains] at h2;rw[hj,if_pos (.inr (.inr ⟨hp,rfl⟩))] at h2;exact h2.symm
theorem ListEnd.more {cap:Nat}{ts:List BTok}(F:ZFix cap ts){f0 d i0 k:Nat}{X:PRes Prog}{f:Option (Nat×Nat)}{L:List Prog}(h:ListEnd ts f0 d i0 X k f L)(hX:X≠none)(hn:(f.isNone&&isK ts k [1,2])=true):f=none∧k<passT ts [1,2] k∧ListAt ts f0 d i0 X (passT ts [1,2] k) L:=by
 obtain⟨hle,hlt0,hsz,htr,hpos,hnum,hres⟩:=h
 cases f with
 | some x=>cases hn
 | none =>
  have hn:isK ts k [1,2]=true:=by simpa using hn
  obtain⟨fk,h1,h2⟩:=hres;have hs:=skip_of F.T.fix.good hlt0 (by decide) hn
  have hj:=pass_yes hlt0 hn hs;have hp:=passT_le (ts:=ts) [1,2] hlt0;rw[if_pos rfl] at hsz hnum
  cases fk with
  | zero =>
   rw[pChains] at h2;exact absurd h2.symm hX
  | succ q =>
   rw[pChains_at _ _ _ _ _ (.inr (by omega))] at h2
   exact⟨rfl,hj,by omega,hp.2,by omega,htr,by omega,q,by omega,h2⟩
theorem ListAt.done {ts:List BTok}{f0 d i0 k:Nat}{X:PRes Prog}{L:List Prog}(h:ListAt ts f0 d i0 X k L)(hn:overP ts k=true):X=some (.ok (seqP L,k)):=by
 obtain⟨fk,h1,h2⟩:=h.res;rw[if_pos hn] at h2;exact h2.symm
theorem ListAt.more {cap:Nat}{ts:List BTok}(F:ZFix cap ts){f0 d i0 k:Nat}{X:PRes Prog}{L:List Prog}(h:ListAt ts f0 d i0 X k L)(hX:X≠none)(hn:overP ts k=false):∃ q Xc,q<f0∧Xc≠none∧pPipe ts q d k≠none ∧
  (∀ k' f' l,Tree l→k≤k'→k'<ts.length→ZRelW k none (zS d+2) (pPipe ts q d k) k' f' l→ChainAt ts f0 d k Xc k' f' l) ∧
  (∀ k' f' c,ChainAt ts f0 d k Xc k' f' c→LRes Xc f' c k'→ListEnd ts f0 d i0 X k' f' (L++[c])):=by
 obtain⟨hle,hlt0,hsz,htr,hnum,fk,h1,h2⟩:=h;rw[if_neg (by rw[hn];simp)] at h2
 have hc:pChain ts fk d k≠none:=fun e=>hX (by rw[← h2,e];rfl)
 cases fk with
 | zero=>exact absurd (by rw[pChain]) hc
 | succ q =>
  have hpn:pPipe ts q d k≠none:=fun e=>hc (by rw[pChain,e];rfl)
  refine ⟨q,pChain ts (q+1) d k,by omega,hc,hpn,fun k' f' l hT hle' hlt' hR=>?_,fun k' f' c hA hL=>?_⟩
  ·cases hq:pPipe ts q d k with
   | none=>exact absurd hq hpn
   | some r =>
    rw[hq] at hR
    cases r with
    | error x =>
     obtain⟨rfl,hl⟩:=hR;exact⟨hle',hlt',by rw[if_neg (by simp)];exact hl,hT,by rw[pChain,hq];rfl⟩
    | ok p =>
     obtain⟨a,e⟩:=p;obtain⟨rfl,rfl,rfl⟩:=hR;obtain⟨z1,z2,z3⟩:=pipe_facts F.T hlt0 hq;exact⟨hle',hlt',by rw[if_pos rfl];exact z3,hT,z1,q,by omega,by rw[pChain,hq];rfl⟩
  ·obtain⟨a1,a2,a3,a4,a5⟩:=hA;have htr':∀ x∈L++[c],Tree x:=snoc_all htr a4;have e1:(L++[c]).flatten.length=L.flatten.length+c.length:=by rw[flat_snoc,List.length_append]
   have e2:(L++[c]).length=L.length+1:=by simp
   cases f' with
   | some x =>
    rw[if_neg (by simp)] at a3
    refine ⟨by omega,a2,?_,htr',by omega,?_,?_⟩
    ·rw[if_neg (by simp)]
     omega
    ·rw[if_neg (by simp)]
     omega
    ·rw[← h2,show pChain ts (q+1) d k=some (.error x) from hL]
     rfl
   | none =>
    obtain⟨z1,-⟩:=a5;rw[if_pos rfl] at a3;refine ⟨by omega,a2,?_,htr',by omega,?_,q+1,h1,?_⟩
    ·rw[if_pos rfl];omega
    ·rw[if_pos rfl];omega
    ·rw[← h2,show pChain ts (q+1) d k=some (.ok (c,k')) from hL]
     rfl
theorem ChainAt.done {ts:List BTok}{f0 d k0 k:Nat}{X:PRes Prog}{f:Option (Nat×Nat)}{c:Prog}(h:ChainAt ts f0 d k0 X k f c)(hX:X≠none)(hn:(f.isNone&&isK ts k [3,4])=false):LRes X f c k:=by
 have hr:=h.res
 cases f with
 | some x=>exact hr
 | none =>
  obtain⟨-,fk,h1,h2⟩:=hr
  cases fk with
  | zero =>
   rw[pChainR] at h2;exact absurd h2.symm hX
  | succ q =>
   rw[pChainR,if_neg (by simpa using hn)] at h2
   exact h2.symm
theorem ChainAt.more {cap:Nat}{ts:List BTok}(F:ZFix cap ts){f0 d k0 k:Nat}{X:PRes Prog}{f:Option (Nat×Nat)}{c:Prog}(h:ChainAt ts f0 d k0 X k f c)(hX:X≠none)(hn:(f.isNone&&isK ts k [3,4])=true):f=none∧skP ts k=k+1∧k+1<ts.length∧∃ p,passT ts [1] (k+1)=p∧k+1≤p∧p<ts.length∧∃ q,q<f0∧pPipe ts q d p≠none ∧
  ∀ k' f' l,Tree l→p≤k'→k'<ts.length→ZRelW p none (zS d+2) (pPipe ts q d p) k' f' l→ChainAt ts f0 d k0 X k' f' (newP (if isK ts k [4]=true then 26 else 25) 0 [] [c,l]):=by
 obtain⟨hle,hlt0,hsz,htr,hres⟩:=h
 cases f with
 | some x=>cases hn
 | none =>
  have hn:isK ts k [3,4]=true:=by simpa using hn
  obtain⟨s1,s2⟩:=skip_of F.T.fix.good hlt0 (by decide) hn
  obtain⟨hk0,fk,h1,h2⟩:=hres;rw[if_pos rfl] at hsz;have hp:=passT_le (ts:=ts) [1] s2;refine ⟨rfl,s1,s2,_,rfl,hp.1,hp.2,?_⟩
  cases fk with
  | zero =>
   rw[pChainR] at h2;exact absurd h2.symm hX
  | succ q =>
   rw[pChainR,if_pos hn,s1] at h2;have hpn:pPipe ts q d (passT ts [1] (k+1))≠none:=fun e=>hX (by rw[← h2,e];rfl)
   refine ⟨q,by omega,hpn,fun k' f' l hT hle' hlt' hR=>?_⟩
   generalize passT ts [1] (k+1)=p at *;have e1:∀ n:Int,(newP n 0 [] [c,l]).length=c.length+l.length+1:=fun n=>by rw[len_newP];simp
   cases hq:pPipe ts q d p with
   | none=>exact absurd hq hpn
   | some r =>
    rw[hq] at hR h2
    cases r with
    | error x =>
     obtain⟨rfl,hl⟩:=hR;refine ⟨by omega,hlt',?_,Tree.two htr hT,h2.symm⟩
     rw[e1,if_neg (by simp)]
     omega
    | ok r =>
     obtain⟨a,e⟩:=r;obtain⟨rfl,rfl,rfl⟩:=hR;obtain⟨z1,z2,z3⟩:=pipe_facts F.T hp.2 hq;refine ⟨by omega,hlt',?_,Tree.two htr hT,by omega,q,by omega,h2⟩
     rw[e1,if_pos rfl];omega
theorem list_rel {ts:List BTok}{f0 d i k:Nat}{f1:Option (Nat×Nat)}{L:List Prog}{X:PRes Prog}(hd:d+1≤30)(h:ListEnd ts f0 (d+1) i X k f1 L)(hr:LRes X f1 (seqP L) k):ZRelW i none (zS d - 14) X k f1 (seqP L):=by
 have hs:=h.size;have hl:=(len_seqP L).1
 cases f1 with
 | some x =>
  rw[show X=some (.error x) from hr]
  rw[if_neg (by simp)] at hs
  exact⟨rfl,by unfold zS at hs ⊢;omega⟩
 | none =>
  rw[show X=some (.ok (seqP L,k)) from hr]
  exact⟨rfl,rfl,rfl⟩
theorem ListAt.start {ts:List BTok}{f0 d i:Nat}(hd:d+1≤30)(hi:i<ts.length)(hX:pList ts (f0+1) d i≠none):ListAt ts f0 (d+1) i (pList ts (f0+1) d i) (passT ts [1,2] i) []:=by
 have hp:=passT_le (ts:=ts) [1,2] hi;rw[pList,if_neg (by omega)] at hX ⊢
 cases f0 with
 | zero=>exact absurd (by rw[pChains]) hX
 | succ q=>exact⟨hp.1,hp.2,by simp,(fun _ h=>nomatch h),by simp,q,by omega,(pChains_at _ _ _ _ _ (.inl rfl)).symm⟩
section
variable {b g cap:Nat} {ts:List BTok}
set_option maxHeartbeats 16000000
set_option maxRecDepth 100000
theorem zlist_walk (F:ZFix cap ts)(f0:Nat)(hP:∀ f',f'≤f0→ZDoes b g cap ts 50 0 (fun d=>zS d+2) (pPipe ts f')):ZDoes b g cap ts 20 1 (fun d=>zS d - 14) (pList ts (f0+1)):=by
 intro w i d dz f hdz hi hS hX;obtain⟨k0,hk0,hk1,hk2,hk3⟩:=info_parts infoNodes;have hbl:=hS.blt;have hgl:=hS.glt;have HP:=Lib.hid hP;clear hP;obtain⟨f1,hf1⟩:∃ f1,deepF ts i (d+1) f=f1:=⟨_,rfl⟩;have HF1:=Lib.hid hf1;obtain⟨Y,hY⟩:∃ Y,pList ts (f0+1) d i=Y:=⟨_,rfl⟩;have HY:=Lib.hid hY;have HDZ:=Lib.hid (show f=none→dz=((d+1:Nat):Int) from fun e=>by have:=hdz e;omega)
 have HD30:=Lib.hid (show f=none→d≤30 from fun e=>(hdz e).2)
 clear hdz hY
 cases f1 with
 | some x =>
  have HR:=Lib.hid (show ∀ l:Prog,l.length≤1→ZRelW i f (zS d - 14) (pList ts (f0+1) d i) i (some x) l from fun l hl=>by
   cases f with
   | some y =>
    have e:some y=some x:=hf1;rw[e];exact⟨rfl,hl⟩
   | none =>
    unfold deepF at hf1;dsimp only at hf1;split at hf1
    ·rename_i h30
     injection hf1 with hf1
     rw[← hf1,pList,if_pos h30];exact⟨rfl,by have:=HD30.out rfl;unfold zS;omega⟩
    ·cases hf1)
  clear hX HP hf1;go_enter Tryz.func20,Tryz.ntmps20
  go_wp2_with fail
  refine (zdeep_any F hS hi (d+1) dz HDZ.out).mono ?_;rintro e w1 ⟨rfl,h1,hK1⟩;rw[HF1.out] at h1;go_wp2_with fail
  refine (zlines_any F h1 hi true).mono ?_;rintro e w2 ⟨rfl,h2,hK2⟩;rw[if_pos rfl,show linesI ts i (some x) [1,2]=i from rfl] at h2
  have hK12:=hK1.same hK2;go_wp2_with fail
  go_loopg [5,6,7] 0 (fun m s5 _ _ wr=>m=0∧s5 = .slice none 0 0∧wr=w2)
  case atStart=>exact⟨rfl,rfl,rfl⟩
  case round =>
   obtain⟨rfl,rfl,rfl⟩:=hrel;rename World=>w2
   go_wp2_with fail
   refine (zover_any F h2 hi).mono ?_;rintro e w3 ⟨rfl,hb3⟩;have h3:=h2.below hb3;have hK3:=hK12.andBelow hb3;rw[show ((some x).isSome || (isK ts i [0,7,9] || keyAt ts i [99,97,115,101]))=true from rfl]
   go_wp2_with fail
   refine (r5Seq_any [] _ h3.blt (fun _ h=>nomatch h) (by simp) (by simp) (KSl.nil _ _)).mono ?_
   rintro e w4 ⟨v4,rfl,hN4,hb4⟩;obtain⟨g4,c4,rfl,-⟩:=id hN4;go_wp2_with fail
   go_ret;exact ZOutW.mk rfl hN4 (tree_seq (fun _ h=>nomatch h)) (h3.below hb4) (Nat.le_refl _) hi (hK3.andBelow hb4) (HR.out _ (by simp [seqP,newP]))
 | none =>
  have hfd:f=none∧d+1≤30:=by
   cases f with
   | some x=>cases hf1
   | none =>
    unfold deepF at hf1;dsimp only at hf1;split at hf1
    ·cases hf1
    ·exact⟨rfl,by omega⟩
  obtain⟨rfl,hd⟩:=hfd;have hX1:=hX.out rfl;have hA:=ListAt.start hd hi hX1;rw[HY.out] at hA hX1 ⊢;obtain⟨k1,hk⟩:∃ k1,passT ts [1,2] i=k1:=⟨_,rfl⟩;rw[hk] at hA;have HA:=Lib.hid hA;have HXN:=Lib.hid hX1;have HK:=Lib.hid (show linesI ts i none [1,2]=k1 from hk)
  have HD:=Lib.hid (HDZ.out rfl);clear hX hf1 hA hX1 hk HY HD30;go_enter Tryz.func20,Tryz.ntmps20
  go_wp2_with fail
  refine (zdeep_any F hS hi (d+1) dz fun _=>HD.out).mono ?_
  rintro e w1 ⟨rfl,h1,hK1⟩;rw[HF1.out] at h1;go_wp2_with fail
  refine (zlines_any F h1 hi true).mono ?_;rintro e w2 ⟨rfl,h2,hK2⟩;rw[if_pos rfl,HK.out] at h2;have hK12:=hK1.same hK2;clear hS h1 hK1 hK2 HF1 HK HDZ;go_wp2_with fail
  go_loopg [5,6,7] (ts.length - k1) (fun m s5 _ _ wr=>∃ (k:Nat) (L:List Prog),m=ts.length - k∧KOwn wr w.heap.size b s5 L∧ZIn wr b g cap ts k none∧Kept (At b) w wr∧Hid (ListAt ts f0 (d+1) i Y k L))
  case atStart=>exact⟨k1,[],rfl,KOwn.nil _ _ _,h2,hK12,HA⟩
  case round =>
   clear h2 hK12 HA;obtain⟨k,L,rfl,hO,h4,hK4,HA⟩:=hrel;have hlt4:=HA.out.lt;have hle4:=HA.out.le;have hnum4:L.length≤1000:=by have h1:=HA.out.num;have:=F.few;omega
   obtain⟨ra,rc,rfl⟩:=hO.form;go_wp2_with fail
   refine (zover_any F h4 hlt4).mono ?_;rintro e w5 ⟨rfl,hb5⟩;rw[show ((none:Option (Nat×Nat)).isSome || (isK ts k [0,7,9] || keyAt ts k [99,97,115,101]))=overP ts k from rfl]
   have h5:=h4.below hb5;have hO5:=hO.below hbl hb5;have hK5:=hK4.andBelow hb5;clear h4 hO hK4 hb5
   cases hov:overP ts k with
   | true =>
    have hdone:=HA.out.done hov;have HR:=Lib.hid (show ZRelW i none (zS d - 14) Y k none (seqP L) from by rw[hdone];exact⟨rfl,rfl,rfl⟩)
    have HT:=Lib.hid (tree_seq HA.out.trees);have HKS:=Lib.hid (hO5.ksl hbl);have HS:=Lib.hid (r5Seq_any L _ h5.blt (fun l hl=>(HA.out.trees l hl).pos) (by have:=HA.out.size;have:=F.few;omega) (by omega) HKS.out)
    clear hov hdone HA;generalize L.length=ll at *;go_wp2_with fail
    refine HS.out.mono ?_;rintro e w6 ⟨v6,rfl,hN6,hb6⟩;obtain⟨g6,c6,rfl,-⟩:=id hN6;go_wp2_with fail
    go_ret;exact ZOutW.mk rfl hN6 HT.out (h5.below hb6) hle4 hlt4 (hK5.andBelow hb6) HR.out
   | false =>
    obtain⟨q,Xc,hq0,hXc,hq1,hst1,hst2⟩:=ListAt.more F HA.out HXN.out hov;have HST1:=Lib.hid hst1;have HST2:=Lib.hid hst2;have HXC:=Lib.hid hXc;clear hst1 hst2 hXc HA hov;go_wp2_with fail
    refine (HP.out q (by omega) w5 k (d+1) dz none (fun _=>⟨by have:=HD.out;omega,hd⟩) hlt4 h5 (Lib.hid fun _=>hq1)).mono ?_
    rintro e w6 ⟨v6,l6,k6,f6,rfl,hN6,hT6,h6,hle6,hlt6,hK6,hR6⟩;have HC6:=Lib.hid (HST1.out k6 f6 l6 hT6 hle6 hlt6 hR6);have hO6:=hO5.kept hbl hK6;have hK56:=hK5.same hK6;obtain⟨g6,c6,rfl,-⟩:=id hN6;clear h5 hO5 hK5 hK6 hR6 HST1 hq1;go_wp2_with fail
    go_loopg [6,7] (if f6=none then ts.length - k6+1 else 0) (fun m s6 _ wr=>∃ (kc:Nat) (fc:Option (Nat×Nat)) (c:Prog),m=(if fc=none then ts.length - kc+1 else 0)∧NSl wr b s6 c∧KOwn wr w.heap.size b (.slice ra L.length rc) L∧ZIn wr b g cap ts kc fc∧Kept (At b) w wr∧Hid (ChainAt ts f0 (d+1) k Xc kc fc c))
    case atStart=>exact⟨k6,f6,l6,rfl,hN6,hO6,h6,hK56,HC6⟩
    case round =>
     clear hN6 hO6 h6 hK56 HC6;obtain⟨kc,fc,c,rfl,hN7,hO7,h7,hK7,HC⟩:=hrel;have hlt7:=HC.out.lt;have hle7:=HC.out.le;obtain⟨g7,c7,rfl,-⟩:=id hN7
     have hcl:c.length≤90000:=by
      have h1:=HC.out.size;have:=F.few
      unfold zS at h1;split at h1 <;> omega
     go_wp2_with fail
     refine (zkind_any F h7 hlt7 3 _ rfl).mono ?_;rintro e w8 ⟨rfl,hb8⟩;have h8:=h7.below hb8;have hN8:=hN7.below hb8;have hO8:=hO7.below hbl hb8;have hK8:=hK7.andBelow hb8;clear h7 hN7 hO7 hK7 hb8
     by_cases x3:(fc.isNone&&isK ts kc [3])=true
     ·have HK4:=Lib.hid (show isK ts kc [4]=false from by
       have h3:isK ts kc [3]=true:=by simp at x3;exact x3.2
       rw[isK_one,decide_eq_true_eq] at h3;rw[isK_one,decide_eq_false_iff_not];omega)
      have hit:(fc.isNone&&isK ts kc [3,4])=true:=by
       rw[isK_two];simp at x3
       simp [x3.1,x3.2]
      rw[x3];clear x3;obtain⟨w9,hw9⟩:∃ w9,w9=w8:=⟨_,rfl⟩;subst hw9;rename World=>w9
      have h9:=h8;have hN9:=hN8;have hO9:=hO8;have hK9:=hK8;clear h8 hN8 hO8 hK8;obtain⟨rfl,hsk,hkn,p,hp,hpl,hpn,q2,hq2,hne2,hstep⟩:=ChainAt.more F HC.out HXC.out hit;have HPP:=Lib.hid (show linesI ts (kc+1) none (if false=true then [1,2] else [1])=p from hp)
      have HST:=Lib.hid (show ∀ k' f' l,Tree l→p≤k'→k'<ts.length→ZRelW p none (zS (d+1)+2) (pPipe ts q2 (d+1) p) k' f' l→ChainAt ts f0 (d+1) k Xc k' f' (newP 25 0 [] [c,l]) from fun k' f' l e1 e2 e3 e4=>by
       have h:=hstep k' f' l e1 e2 e3 e4;rw[HK4.out] at h;exact h)
      clear hit hstep hp HC;go_wp2_with fail
      refine (zkind_any F h9 hlt7 4 _ rfl).mono ?_;rintro e wA ⟨rfl,hbA⟩;rw[show ((none:Option (Nat×Nat)).isNone&&isK ts kc [4])=false from HK4.out]
      have hA:=h9.below hbA;have hNA:=hN9.below hbA;have hOA:=hO9.below hbl hbA;have hKA:=hK9.andBelow hbA;clear h9 hN9 hO9 hK9 hbA;go_wp2_with fail
      refine (znext_any F hA hlt7).mono ?_;rintro e wB ⟨rfl,hB,hK2⟩;rw[hsk] at hB;have hNB:=hNA.kept hK2;have hOB:=hOA.kept hbl hK2;have hKB:=hKA.same hK2;clear hA hNA hOA hKA hK2;go_wp2_with fail
      refine (zlines_any F hB hkn false).mono ?_;rintro e wC ⟨rfl,hCi,hK2⟩;rw[HPP.out] at hCi;have hNC:=hNB.kept hK2;have hOC:=hOB.kept hbl hK2;have hKC:=hKB.same hK2;clear hB hNB hOB hKB hK2;go_wp2_with fail
      refine (HP.out q2 (by omega) wC p (d+1) dz none (fun _=>⟨by have:=HD.out;omega,hd⟩) hpn hCi (Lib.hid fun _=>hne2)).mono ?_
      rintro e wD ⟨vD,lD,kD,fD,rfl,hND,hTD,hDi,hleD,hltD,hK2,hRD⟩;have HCD:=Lib.hid (HST.out kD fD lD hTD hleD hltD hRD);have HNC:=Lib.hid (hNC.kept hK2);have hOD:=hOC.kept hbl hK2;have hKD:=hKC.same hK2;obtain⟨gD,cD,rfl,-⟩:=id hND
      have hlD:lD.length≤90000:=by
       have h1:=HCD.out.size;have:=F.few
       have e1:(newP 25 0 [] [c,lD]).length=c.length+lD.length+1:=by rw[len_newP];simp
       unfold zS at h1;split at h1 <;> omega
      have hblD:=hDi.blt;have HND:=Lib.hid (z12node_any 25 0 [] [c,lD] _ (by simp;omega) (KSl.new2 (w:=wD) hblD (.inl HNC.out) (.inl hND)) (by simp;omega) (by simp))
      clear hCi hNC hOC hKC hK2 hRD hND HST hne2;go_wp2_with fail
      refine HND.out.mono ?_;rintro e wE ⟨vE,rfl,hNE,hbE⟩;have hbE:=bNext ((Below.refl _ _).alloc (Nat.le_refl _) _) hbE;have hEi:=hDi.below hbE;have hOE:=hOD.below hbl hbE;have hKE:=hKD.andBelow hbE;obtain⟨gE,cE,rfl,-⟩:=id hNE;go_wp2_with fail
      go_roundg (if fD=none then ts.length - kD+1 else 0)
      case measure =>
       by_cases hf':fD=none
       ·rw[if_pos hf'];omega
       ·rw[if_neg hf'];omega
      case rel=>exact⟨kD,fD,newP 25 0 [] [c,lD],rfl,hNE,hOE,hEi,hKE,HCD⟩
     ·have x3:(fc.isNone&&isK ts kc [3])=false:=by simpa using x3
      rw[x3];go_wp2_with fail
      refine (zkind_any F h8 hlt7 4 _ rfl).mono ?_;rintro e w9 ⟨rfl,hb9⟩;have h9:=h8.below hb9;have hN9:=hN8.below hb9;have hO9:=hO8.below hbl hb9;have hK9:=hK8.andBelow hb9;clear h8 hN8 hO8 hK8 hb9
      by_cases x4:(fc.isNone&&isK ts kc [4])=true
      ·have HK4:=Lib.hid (show isK ts kc [4]=true from by simp at x4;exact x4.2)
       have hit:(fc.isNone&&isK ts kc [3,4])=true:=by
        rw[isK_two];simp at x4
        simp [x4.1,x4.2]
       rw[x4];clear x3 x4;obtain⟨rfl,hsk,hkn,p,hp,hpl,hpn,q2,hq2,hne2,hstep⟩:=ChainAt.more F HC.out HXC.out hit;have HPP:=Lib.hid (show linesI ts (kc+1) none (if false=true then [1,2] else [1])=p from hp)
       have HST:=Lib.hid (show ∀ k' f' l,Tree l→p≤k'→k'<ts.length→ZRelW p none (zS (d+1)+2) (pPipe ts q2 (d+1) p) k' f' l→ChainAt ts f0 (d+1) k Xc k' f' (newP 26 0 [] [c,l]) from fun k' f' l e1 e2 e3 e4=>by
        have h:=hstep k' f' l e1 e2 e3 e4;rw[HK4.out] at h;exact h)
       clear hit hstep hp HC;go_wp2_with fail
       refine (zkind_any F h9 hlt7 4 _ rfl).mono ?_;rintro e wA ⟨rfl,hbA⟩;rw[show ((none:Option (Nat×Nat)).isNone&&isK ts kc [4])=true from HK4.out]
       have hA:=h9.below hbA;have hNA:=hN9.below hbA;have hOA:=hO9.below hbl hbA;have hKA:=hK9.andBelow hbA;clear h9 hN9 hO9 hK9 hbA;go_wp2_with fail
       refine (znext_any F hA hlt7).mono ?_;rintro e wB ⟨rfl,hB,hK2⟩;rw[hsk] at hB;have hNB:=hNA.kept hK2;have hOB:=hOA.kept hbl hK2;have hKB:=hKA.same hK2;clear hA hNA hOA hKA hK2;go_wp2_with fail
       refine (zlines_any F hB hkn false).mono ?_;rintro e wC ⟨rfl,hCi,hK2⟩;rw[HPP.out] at hCi;have hNC:=hNB.kept hK2;have hOC:=hOB.kept hbl hK2;have hKC:=hKB.same hK2;clear hB hNB hOB hKB hK2;go_wp2_with fail
       refine (HP.out q2 (by omega) wC p (d+1) dz none (fun _=>⟨by have:=HD.out;omega,hd⟩) hpn hCi (Lib.hid fun _=>hne2)).mono ?_
       rintro e wD ⟨vD,lD,kD,fD,rfl,hND,hTD,hDi,hleD,hltD,hK2,hRD⟩;have HCD:=Lib.hid (HST.out kD fD lD hTD hleD hltD hRD);have HNC:=Lib.hid (hNC.kept hK2);have hOD:=hOC.kept hbl hK2;have hKD:=hKC.same hK2;obtain⟨gD,cD,rfl,-⟩:=id hND
       have hlD:lD.length≤90000:=by
        have h1:=HCD.out.size;have:=F.few
        have e1:(newP 26 0 [] [c,lD]).length=c.length+lD.length+1:=by rw[len_newP];simp
        unfold zS at h1;split at h1 <;> omega
       have hblD:=hDi.blt;have HND:=Lib.hid (z12node_any 26 0 [] [c,lD] _ (by simp;omega) (KSl.new2 (w:=wD) hblD (.inl HNC.out) (.inl hND)) (by simp;omega) (by simp))
       clear hCi hNC hOC hKC hK2 hRD hND HST hne2;go_wp2_with fail
       refine HND.out.mono ?_;rintro e wE ⟨vE,rfl,hNE,hbE⟩;have hbE:=bNext ((Below.refl _ _).alloc (Nat.le_refl _) _) hbE;have hEi:=hDi.below hbE;have hOE:=hOD.below hbl hbE;have hKE:=hKD.andBelow hbE;obtain⟨gE,cE,rfl,-⟩:=id hNE;go_wp2_with fail
       go_roundg (if fD=none then ts.length - kD+1 else 0)
       case measure =>
        by_cases hf':fD=none
        ·rw[if_pos hf'];omega
        ·rw[if_neg hf'];omega
       case rel=>exact⟨kD,fD,newP 26 0 [] [c,lD],rfl,hNE,hOE,hEi,hKE,HCD⟩
      ·have x4:(fc.isNone&&isK ts kc [4])=false:=by simpa using x4
       have hit:(fc.isNone&&isK ts kc [3,4])=false:=by
        rw[isK_two,Bool.and_or_distrib_left,x3,x4];rfl
       rw[x4];have HE:=Lib.hid (HST2.out kc fc c HC.out (HC.out.done HXC.out hit));have HO:=Lib.hid hO9;have HN:=Lib.hid hN9;have hsz1:=hK9.size;clear x3 x4 hit HST2 HC hO9 hN9;obtain⟨us,u1,u2,u3⟩:=HO.out;have U1:=Lib.hid u1;have U2:=Lib.hid u2;have U3:=Lib.hid u3;have hOA:∀ o,(w9.alloc o).ownsRow w.heap.size 23 1 (.slice ra L.length rc) L.length us:=fun o=>ownsRow_kept U2.out (Kept.ofBelow (S:=Nowhere) ((Below.refl _ w9).alloc (Nat.le_refl _) o)) (fun _ _ _ e=>e)
       clear u1 u2 u3;go_wp2_with (at_builtin;refine wpList_append_own _ rfl _ _ 99 rfl w.heap.size 23 k0 _ 1 24 Tryz.underlying99 hk0 hk1 hk2 hk3 rfl (by decide) _ L.length _ rfl (hOA _) ⟨w9.heap.size,0,none⟩ 1 1 [.slice (some ⟨g7,0,none⟩) (c).length c7] rfl rfl ?c1 ?c2 ?c3 ?c4 ?c5 ?_)
       case c1=>exact cells_new (by simp)
       case c2=>intro u9 hu9;simp at hu9;subst hu9;rfl
       case c3=>unfold maxLen;omega
       case c4=>omega
       case c5=>simp;omega
       intro v6 w6 hown' hgrow _;have hS6:=(h9).grown hgrow (row_tag U2.out (by decide)) hbl hgl
       obtain⟨hO6,hb6⟩:=KOwn.grown hsz1 U1.out U2.out U3.out HN.out hown' hgrow;clear hOA hown' hgrow U1 U2 U3;have hKA:=hK9.belowB hb6 (Nat.le_refl _);obtain⟨ra6,rc6,rfl⟩:=hO6.form;obtain⟨M,hM⟩:∃ M,L++[c]=M:=⟨_,rfl⟩;rw[hM] at hO6 HE ⊢;clear hM;go_wp2_with fail
       refine (zkind_any F hS6 hlt7 1 _ rfl).mono ?_;rintro e wB ⟨rfl,hbB⟩;have hB:=hS6.below hbB;have hOB:=hO6.below hbl hbB;have hKB:=hKA.andBelow hbB;clear hS6 hO6 hKA hbB hb6 hK9 h9
       by_cases x1:(fc.isNone&&isK ts kc [1])=true
       ·have hit:(fc.isNone&&isK ts kc [1,2])=true:=by
         rw[isK_two];simp at x1
         simp [x1.1,x1.2]
        rw[x1];clear x1;obtain⟨wC,hwC⟩:∃ wC,wC=wB:=⟨_,rfl⟩;subst hwC;rename World=>wC
        have hCi:=hB;have hOC:=hOB;have hKC:=hKB;clear hB hOB hKB;obtain⟨rfl,hlt9,hA9⟩:=ListEnd.more F HE.out HXN.out hit;obtain⟨p,hp⟩:∃ p,passT ts [1,2] kc=p:=⟨_,rfl⟩;rw[hp] at hlt9 hA9;have HA9:=Lib.hid hA9;have HPP:=Lib.hid (show linesI ts kc none [1,2]=p from hp)
        clear hit hA9 hp HE;go_wp2_with fail
        refine (zlines_any F hCi hlt7 true).mono ?_;rintro e wD ⟨rfl,hDi,hK2⟩;replace hDi:ZIn wD b g cap ts p none:=by rw[← HPP.out];exact hDi
        have hOD:=hOC.kept hbl hK2;have hKD:=hKC.same hK2;have hpl:=HA9.out.lt;go_wp2_with fail
        go_roundg (ts.length - p)
        case measure=>omega
        case rel=>exact⟨p,M,rfl,hOD,hDi,hKD,HA9⟩
       ·have x1:(fc.isNone&&isK ts kc [1])=false:=by simpa using x1
        rw[x1];go_wp2_with fail
        refine (zkind_any F hB hlt7 2 _ rfl).mono ?_;rintro e wC ⟨rfl,hbC⟩;have hCi:=hB.below hbC;have hOC:=hOB.below hbl hbC;have hKC:=hKB.andBelow hbC;clear hB hOB hKB hbC
        by_cases x2:(fc.isNone&&isK ts kc [2])=true
        ·have hit:(fc.isNone&&isK ts kc [1,2])=true:=by
          rw[isK_two];simp at x2
          simp [x2.1,x2.2]
         rw[x2];clear x1 x2;obtain⟨rfl,hlt9,hA9⟩:=ListEnd.more F HE.out HXN.out hit;obtain⟨p,hp⟩:∃ p,passT ts [1,2] kc=p:=⟨_,rfl⟩;rw[hp] at hlt9 hA9;have HA9:=Lib.hid hA9;have HPP:=Lib.hid (show linesI ts kc none [1,2]=p from hp)
         clear hit hA9 hp HE;go_wp2_with fail
         refine (zlines_any F hCi hlt7 true).mono ?_;rintro e wD ⟨rfl,hDi,hK2⟩;replace hDi:ZIn wD b g cap ts p none:=by rw[← HPP.out];exact hDi
         have hOD:=hOC.kept hbl hK2;have hKD:=hKC.same hK2;have hpl:=HA9.out.lt;go_wp2_with fail
         go_roundg (ts.length - p)
         case measure=>omega
         case rel=>exact⟨p,M,rfl,hOD,hDi,hKD,HA9⟩
        ·have x2:(fc.isNone&&isK ts kc [2])=false:=by simpa using x2
         have hit:(fc.isNone&&isK ts kc [1,2])=false:=by
          rw[isK_two,Bool.and_or_distrib_left,x1,x2];rfl
         rw[x2];have HR:=Lib.hid (list_rel hd HE.out (HE.out.done HXN.out hit));have HT:=Lib.hid (tree_seq HE.out.trees);have HKS:=Lib.hid (hOC.ksl hbl);have hmm:M.length≤1001:=by have h1:=HE.out.num;have:=F.few;have:=HE.out.lt;split at h1 <;> omega
         have hff:M.flatten.length≤90000:=by
          have h1:=HE.out.size;have:=F.few
          have:=HE.out.lt
          unfold zS at h1;split at h1 <;> omega
         have HS:=Lib.hid (r5Seq_any M _ hCi.blt (fun l hl=>(HE.out.trees l hl).pos) (by omega) (by omega) HKS.out)
         clear x1 x2 hit HE hmm hff hOC;generalize M.length=ll at *;go_wp2_with fail
         refine HS.out.mono ?_;rintro e wD ⟨vD,rfl,hND,hbD⟩;obtain⟨gD,cD,rfl,-⟩:=id hND;go_wp2_with fail
         go_ret;exact ZOutW.mk rfl hND HT.out (hCi.below hbD) (by omega) hlt7 (hKC.andBelow hbD) HR.out
end
end Go.Proofs.YtbplbehhlbkklaaGreatDoor
