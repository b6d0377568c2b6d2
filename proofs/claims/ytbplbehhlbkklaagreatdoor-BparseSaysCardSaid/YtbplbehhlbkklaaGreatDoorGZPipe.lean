/- The document's parser of dialect B: commands with |. -/
import Derived.Test.YtbplbehhlbkklaaGreatDoorGZOne
import Derived.Test.YtbplbehhlbkklaaGreatDoorGZC
namespace Go.Proofs.YtbplbehhlbkklaaGreatDoor
open Go Go.RowKit
theorem KOwn.only {w:World}{B b:Nat}{u:Value}{l:Prog}(hB:B≤w.heap.size)(h:NSl w b u l):KOwn (w.alloc (.cells #[u] 23)) B b (.slice (some ⟨w.heap.size,0,none⟩) 1 1) [l]:=by
 refine ⟨[u],rfl,⟨rfl,.inr ⟨w.heap.size,1,#[u],rfl,hB,Array.getElem?_push_size,Nat.le_refl _,by unfold maxLen;omega,rfl,rfl⟩⟩,fun i v m hi hm=>?_⟩
 cases i with
 | zero =>
  simp only[List.getElem?_cons_zero,Option.some.injEq] at hi hm;subst hi hm;exact h.below ((Below.refl _ w).alloc (Nat.le_refl _) _)
 | succ i=>simp at hi
structure PipeIn (ts:List BTok) (f0 d i0:Nat) (X:PRes (List Prog)) (j:Nat) (L:List Prog):Prop where
 le:i0≤j
 lt:j<ts.length
 size:L.flatten.length≤6 * (j - i0)
 trees:∀ l∈L,Tree l
 num:L.length≤j - i0
 res:∃ fk,fk≤f0∧pPipeR ts fk d j L=X
structure PipeAt (ts:List BTok) (f0 d i0:Nat) (X:PRes (List Prog)) (sl:Nat) (k:Nat) (f:Option (Nat×Nat)) (L:List Prog):Prop where
 le:i0≤k
 lt:k<ts.length
 size:L.flatten.length≤6 * (k - i0)+(if f=none then 0 else sl)
 trees:∀ l∈L,Tree l
 pos:0<L.length
 num:L.length≤k - i0+(if f=none then 0 else 1)
 res:match f with | some x=>X=some (.error x) | none=>∃ fk,fk≤f0∧(if isK ts k [5]=true then pPipeR ts fk d (passT ts [1] (skP ts k)) L else pOk L k)=X
theorem PipeIn.step {cap:Nat}{ts:List BTok}(F:ZFix cap ts){f0 d i0 j:Nat}{X:PRes (List Prog)}{L:List Prog}(h:PipeIn ts f0 d i0 X j L)(hX:X≠none):∃ q,q<f0∧pCommand ts q d j≠none ∧
  ∀ k' f' l,Tree l→j≤k'→k'<ts.length→ZRelW j none (zS d) (pCommand ts q d j) k' f' l→PipeAt ts f0 d i0 X (zS d) k' f' (L++[l])∧(f'=none→j<k'):=by
 obtain⟨hle,hlt0,hsz,htr,hnum,fk,h1,h2⟩:=h
 cases fk with
 | zero =>
  rw[pPipeR] at h2;exact absurd h2.symm hX
 | succ q =>
  rw[pPipeR] at h2;have hne:pCommand ts q d j≠none:=fun e=>hX (by rw[← h2,e];rfl)
  refine ⟨q,by omega,hne,fun k' f' l hT hle' hlt hR=>?_⟩
  have htr':∀ x∈L++[l],Tree x:=snoc_all htr hT
  cases hq:pCommand ts q d j with
  | none=>exact absurd hq hne
  | some r =>
   rw[hq] at hR h2
   cases r with
   | error x =>
    obtain⟨rfl,hl⟩:=hR;refine ⟨⟨by omega,hlt,?_,htr',by simp,?_,h2.symm⟩,fun e=>by cases e⟩
    ·rw[if_neg (by simp),flat_snoc,List.length_append]
     omega
    ·rw[if_neg (by simp),List.length_append]
     simp only[List.length_cons,List.length_nil];omega
   | ok p =>
    obtain⟨a,e⟩:=p;obtain⟨rfl,rfl,rfl⟩:=hR;obtain⟨z1,z2,z3,z4⟩:=command_facts F.T hlt0 hq;refine ⟨⟨by omega,hlt,?_,htr',by simp,?_,q,by omega,h2⟩,fun _=>z1⟩
    ·rw[if_pos rfl,flat_snoc,List.length_append];omega
    ·rw[if_pos rfl,List.length_append];simp only[List.length_cons,List.length_nil];omega
theorem PipeAt.more {cap:Nat}{ts:List BTok}(F:ZFix cap ts){f0 d i0 sl k:Nat}{X:PRes (List Prog)}{f:Option (Nat×Nat)}{L:List Prog}(h:PipeAt ts f0 d i0 X sl k f L)(hn:(f.isNone&&isK ts k [5])=true):f=none∧skP ts k=k+1∧k+1<ts.length∧PipeIn ts f0 d i0 X (passT ts [1] (k+1)) L∧k+1≤passT ts [1] (k+1):=by
 obtain⟨hle,hlt0,hsz,htr,hpos,hnum,hres⟩:=h
 cases f with
 | some x=>cases hn
 | none =>
  have hn:isK ts k [5]=true:=by simpa using hn
  obtain⟨s1,s2⟩:=skip_of F.T.fix.good hlt0 (by decide) hn
  obtain⟨fk,h1,h2⟩:=hres;rw[if_pos hn,s1] at h2;rw[if_pos rfl] at hsz hnum;have hp:=passT_le (ts:=ts) [1] s2;exact⟨rfl,s1,s2,⟨by omega,hp.2,by omega,htr,by omega,fk,h1,h2⟩,hp.1⟩
theorem PipeAt.done {ts:List BTok}{f0 d i0 sl k:Nat}{X:PRes (List Prog)}{f:Option (Nat×Nat)}{L:List Prog}(h:PipeAt ts f0 d i0 X sl k f L)(hn:(f.isNone&&isK ts k [5])=false):WRes X f L k:=by
 have hr:=h.res
 cases f with
 | some x=>exact hr
 | none =>
  obtain⟨fk,h1,h2⟩:=hr;rw[if_neg (by simpa using hn)] at h2
  exact h2.symm
def pipeMid (L:List Prog):Prog:=if 1<L.length then newP 32 0 [] L else L.headD []
def pipeOut (nt:Bool) (L:List Prog):Prog:=if nt=true then newP 27 0 [] [pipeMid L] else pipeMid L
theorem mid_len (L:List Prog):(pipeMid L).length≤L.flatten.length+1:=by
 unfold pipeMid;split
 ·rw[len_newP];omega
 ·have:=(headD_le L).1
  omega
theorem pipe_len (nt:Bool)(L:List Prog):(pipeOut nt L).length≤L.flatten.length+2:=by
 have h:=mid_len L;unfold pipeOut;split
 ·rw[len_newP];simpa using h
 ·omega
theorem tree_mid {L:List Prog}(h:∀ l∈L,Tree l)(hp:0<L.length):Tree (pipeMid L):=by
 unfold pipeMid;split
 ·exact .node _ _ _ _ h
 ·cases L with
  | nil=>simp at hp
  | cons x L=>exact h x (by simp)
theorem tree_pipe (nt:Bool){L:List Prog}(h:∀ l∈L,Tree l)(hp:0<L.length):Tree (pipeOut nt L):=by
 unfold pipeOut;split
 ·exact Tree.one (tree_mid h hp)
 ·exact tree_mid h hp
theorem pipe_rel {ts:List BTok}{f0 d i j k:Nat}{nt:Bool}{f1:Option (Nat×Nat)}{L:List Prog}{X:PRes (List Prog)}{Y:PRes Prog}(hij:i≤j)(h:PipeAt ts f0 d j X (zS d) k f1 L)(hr:WRes X f1 L k)(hY:(X.go fun l e=>pOk (pipeOut nt l) e)=Y):ZRelW i none (zS d+2) Y k f1 (pipeOut nt L):=by
 have hs:=h.size;have hl:=pipe_len nt L;have hle:=h.le
 cases f1 with
 | some x =>
  rw[show X=some (.error x) from hr] at hY
  subst hY;rw[if_neg (by simp)] at hs
  exact⟨rfl,by omega⟩
 | none =>
  rw[show X=some (.ok (L,k)) from hr] at hY
  subst hY;exact⟨rfl,rfl,rfl⟩
section
variable {b g cap:Nat} {ts:List BTok}
set_option maxHeartbeats 16000000
set_option maxRecDepth 100000
theorem zpipe_walk (F:ZFix cap ts)(f0:Nat)(hC:∀ f',f'≤f0→ZDoes b g cap ts 87 0 zS (pCommand ts f')):ZDoes b g cap ts 50 0 (fun d=>zS d+2) (pPipe ts (f0+1)):=by
 intro w i d dz f hdz hi hS hX;obtain⟨k0,hk0,hk1,hk2,hk3⟩:=info_parts infoNodes;have hbl:=hS.blt;have hgl:=hS.glt;have HC:=Lib.hid hC;clear hC
 cases f with
 | some x =>
  have HC0:=Lib.hid (HC.out f0 (Nat.le_refl _));clear hdz hX HC;go_enter Tryz.func50,Tryz.ntmps50
  go_wp2_with fail
  refine (zkind_any F hS hi 17 _ rfl).mono ?_;rintro e w1 ⟨rfl,hb1⟩;have h1:=hS.below hb1;go_wp2_with fail
  refine (HC0.out w1 i d dz (some x) (fun e=>by cases e) hi h1 (Lib.hid fun e=>by cases e)).mono ?_
  rintro e w2 ⟨v,l,i',f',rfl,hN,hT,h2,hle,hlt,hK,hR⟩;obtain⟨rfl,hl⟩:=hR;obtain⟨gv,cv,rfl,-⟩:=id hN;have hbA:Below w2.heap.size w2 (w2.alloc (.cells #[.slice (some ⟨gv,0,none⟩) l.length cv] 23)):=(Below.refl _ w2).alloc (Nat.le_refl _) _;have hcell:(w2.alloc (.cells #[.slice (some ⟨gv,0,none⟩) l.length cv] 23)).cell? ⟨w2.heap.size,0,none⟩=some (.slice (some ⟨gv,0,none⟩) l.length cv):=(show Blk _ _ [Value.slice (some ⟨gv,0,none⟩) l.length cv] from Blk.new w2 _ _).cell 0 rfl
  have h3:=h2.below hbA;have hN3:=hN.below hbA;have hK3:=((Kept.ofBelow (S:=At b) hb1).same hK).andBelow hbA;obtain⟨ll,hll⟩:∃ ll,l.length=ll:=⟨_,rfl⟩;rw[hll] at hcell hN3 h3 hK3 ⊢;have HN3:=Lib.hid hN3;have HLL:=Lib.hid hll;clear hbA hN hll hN3;obtain⟨w3,hw3⟩:∃ w3,w2.alloc (.cells #[.slice (some ⟨gv,0,none⟩) ll cv] 23)=w3:=⟨_,rfl⟩;obtain⟨gs,hgs⟩:∃ gs,w2.heap.size=gs:=⟨_,rfl⟩;have HW3:=Lib.hid hw3;have HGS:=Lib.hid hgs;rw[hw3] at hcell h3 hK3 HN3;rw[hgs] at hcell;clear hw3 hgs;go_wp2_with fail
  go_loopg [6] 0 (fun m s6 wr=>m=0∧s6 = .slice (some ⟨gs,0,none⟩) 1 1∧wr=w3)
  case atStart=>exact⟨rfl,by rw[HGS.out],HW3.out⟩
  case round =>
   obtain⟨rfl,rfl,rfl⟩:=hrel;rename World=>w3
   go_wp2_with fail
   refine (zkind_any F h3 hlt 5 _ rfl).mono ?_;rintro e w4 ⟨rfl,hb4⟩;have hcell4:=bSome hb4 hcell;have HN4:=Lib.hid (HN3.out.below hb4);have h4:=h3.below hb4;have hK4:=hK3.andBelow hb4;go_wp2_with fail
   go_ret;exact ZOutW.mk rfl HN4.out hT h4 hle hlt hK4 ⟨rfl,hl⟩
 | none =>
  obtain⟨rfl,hd⟩:=hdz rfl;clear hdz;obtain⟨nt,hnt⟩:∃ nt,isK ts i [17]=nt:=⟨_,rfl⟩;obtain⟨Y,hY⟩:∃ Y,pPipe ts (f0+1) d i=Y:=⟨_,rfl⟩;obtain⟨j,hj⟩:∃ j,(if nt=true then skP ts i else i)=j:=⟨_,rfl⟩
  obtain⟨X,hXE⟩:∃ X,pPipeR ts f0 d j []=X:=⟨_,rfl⟩
  have HY:=Lib.hid (show (X.go fun l e=>pOk (pipeOut nt l) e)=Y from by
   rw[← hY,pPipe,hnt,hj,hXE];rfl)
  have HXN:=Lib.hid (show X≠none from fun e=>by
   have h:=hX.out rfl;rw[hY,← HY.out,e] at h;exact h rfl)
  have hij:i≤j∧j<ts.length:=by
   have h:=skP_le (ts:=ts) hi;unfold skP at h hj;rw[← hj];split
   ·omega
   ·exact⟨Nat.le_refl _,hi⟩
  have HI:=Lib.hid (show PipeIn ts f0 d j X j [] from ⟨Nat.le_refl _,hij.2,by simp,(fun _ h=>nomatch h),by simp,f0,Nat.le_refl _,hXE⟩)
  rw[hY];have HJ:=Lib.hid hj;have HNT:=Lib.hid (show ((none:Option (Nat×Nat)).isNone&&isK ts i [17])=nt from hnt)
  clear hX hXE hY hj hnt;go_enter Tryz.func50,Tryz.ntmps50
  go_wp2_with fail
  refine (zkind_any F hS hi 17 _ rfl).mono ?_;rintro e w1 ⟨rfl,hb1⟩;rw[HNT.out];have h1:=hS.below hb1;have hK1:=Kept.ofBelow (S:=At b) hb1;clear hS hb1;go_upto_if 10 with fail
  go_cut [] (fun w9=>ZIn w9 b g cap ts j none∧Kept (At b) w w9)
  case first =>
   cases nt with
   | true =>
    go_wp2_with fail
    refine (znext_any F h1 hi).mono ?_;rintro e w2 ⟨rfl,h2,hK2⟩;rw[show skP ts i=j from HJ.out] at h2
    go_wp2_with fail
    go_meet
    case rel=>exact⟨h2,hK1.same hK2⟩
   | false =>
    go_wp2_with fail
    go_meet
    case rel=>exact⟨by rw[← show i=j from HJ.out];exact h1,hK1⟩
  case rest =>
  rename World=>w2
  obtain⟨h2,hK2⟩:=hcut;clear h1 hK1 HJ;obtain⟨q,hq0,hq1,hstep⟩:=PipeIn.step F HI.out HXN.out;have HST:=Lib.hid hstep;clear HI hstep;go_wp2_with fail
  refine (HC.out q (by omega) w2 j d _ none (fun _=>⟨by omega,hd⟩) hij.2 h2 (Lib.hid fun _=>hq1)).mono ?_
  rintro e w3 ⟨v3,l3,k3,f3,rfl,hN3,hT3,h3,hle3,hlt3,hK3,hR3⟩;obtain⟨HA3,-⟩:=HST.out k3 f3 l3 hT3 hle3 hlt3 hR3;have HA3:=Lib.hid (show PipeAt ts f0 d j X (zS d) k3 f3 [l3] from HA3)
  have hK23:=hK2.same hK3;have hO3:=KOwn.only hK23.size hN3;have hbA:Below w3.heap.size w3 (w3.alloc (.cells #[v3] 23)):=(Below.refl _ w3).alloc (Nat.le_refl _) _;have h3A:=h3.below hbA;have hKA:=hK23.andBelow hbA;obtain⟨gv,cv,rfl,-⟩:=id hN3;clear h2 hK2 hK3 hK23 hbA HST hR3 hq1 h3 hN3;go_wp2_with fail
  go_loopg [6] (if f3=none then ts.length - k3+1 else 0) (fun m s6 wr=>∃ (k:Nat) (f1:Option (Nat×Nat)) (L:List Prog),m=(if f1=none then ts.length - k+1 else 0)∧KOwn wr w.heap.size b s6 L∧ZIn wr b g cap ts k f1∧Kept (At b) w wr∧Hid (PipeAt ts f0 d j X (zS d) k f1 L))
  case atStart=>exact⟨k3,f3,[l3],rfl,hO3,h3A,hKA,HA3⟩
  case round =>
   clear hO3 h3A hKA HA3;obtain⟨k,f1,L,rfl,hO,h4,hK4,HA⟩:=hrel;have hlt4:=HA.out.lt;have hle4:=HA.out.le;have hnum4:L.length≤1001:=by have h1:=HA.out.num;have:=F.few;split at h1 <;> omega
   obtain⟨ra,rc,rfl⟩:=hO.form;go_wp2_with fail
   refine (zkind_any F h4 hlt4 5 _ rfl).mono ?_;rintro e w5 ⟨rfl,hb5⟩;have h5:=h4.below hb5;have hO5:=hO.below hbl hb5;have hK5:=hK4.andBelow hb5;clear h4 hO hK4 hb5
   by_cases hit:(f1.isNone&&isK ts k [5])=true
   ·rw[hit];obtain⟨rfl,hsk,hkn,HI,hpas⟩:=PipeAt.more F HA.out hit;obtain⟨p,hp⟩:∃ p,passT ts [1] (k+1)=p:=⟨_,rfl⟩;rw[hp] at HI hpas;have HP:=Lib.hid (show linesI ts (k+1) none (if false=true then [1,2] else [1])=p from hp)
    obtain⟨q,hq0,hq1,hstep⟩:=PipeIn.step F HI HXN.out;have hplt:=HI.lt;have HST:=Lib.hid hstep;clear HA hit HI hstep hp;go_wp2_with fail
    refine (znext_any F h5 hlt4).mono ?_;rintro e w6 ⟨rfl,h6,hK6⟩;rw[hsk] at h6;have hK56:=hK5.same hK6;have hO6:=hO5.kept hbl hK6;clear h5 hO5 hK5 hK6;go_wp2_with fail
    refine (zlines_any F h6 hkn false).mono ?_;rintro e w7 ⟨rfl,h7,hK7⟩;rw[HP.out] at h7;have hK57:=hK56.same hK7;have hO7:=hO6.kept hbl hK7;clear h6 hO6 hK56 hK7;go_wp2_with fail
    refine (HC.out q (by omega) w7 p d _ none (fun _=>⟨by omega,hd⟩) hplt h7 (Lib.hid fun _=>hq1)).mono ?_
    rintro e w9 ⟨v9,l,k',f',rfl,hN9,hT9,h9,hle9,hlt9,hK9,hR9⟩;obtain⟨HA9,hmove⟩:=HST.out k' f' l hT9 hle9 hlt9 hR9;have HA9:=Lib.hid HA9;have HN:=Lib.hid hN9;obtain⟨g9,cp9,rfl,-⟩:=hN9;have hK59:=hK57.same hK9;have HO:=Lib.hid (hO7.kept hbl hK9);have hsz1:=hK59.size;clear h7 hO7 hK57 hK9 HST hR9 hq1;obtain⟨us,u1,u2,u3⟩:=HO.out;have U1:=Lib.hid u1;have U2:=Lib.hid u2;have U3:=Lib.hid u3;have hOA:∀ o,(w9.alloc o).ownsRow w.heap.size 23 1 (.slice ra L.length rc) L.length us:=fun o=>ownsRow_kept U2.out (Kept.ofBelow (S:=Nowhere) ((Below.refl _ w9).alloc (Nat.le_refl _) o)) (fun _ _ _ e=>e)
    clear u1 u2 u3;go_wp2_with (at_builtin;refine wpList_append_own _ rfl _ _ 99 rfl w.heap.size 23 k0 _ 1 24 Tryz.underlying99 hk0 hk1 hk2 hk3 rfl (by decide) _ L.length _ rfl (hOA _) ⟨w9.heap.size,0,none⟩ 1 1 [.slice (some ⟨g9,0,none⟩) (l).length cp9] rfl rfl ?c1 ?c2 ?c3 ?c4 ?c5 ?_)
    case c1=>exact cells_new (by simp)
    case c2=>intro u9 hu9;simp at hu9;subst hu9;rfl
    case c3=>unfold maxLen;omega
    case c4=>omega
    case c5=>simp;omega
    intro v6 w6 hown' hgrow _;have hS6:=(h9).grown hgrow (row_tag U2.out (by decide)) hbl hgl
    obtain⟨hO6,hb6⟩:=KOwn.grown hsz1 U1.out U2.out U3.out HN.out hown' hgrow;clear hOA hown' hgrow U1 U2 U3;have hK6:=hK59.belowB hb6 (Nat.le_refl _);go_wp2_with fail
    go_roundg (if f'=none then ts.length - k'+1 else 0)
    case measure =>
     by_cases hf':f'=none
     ·rw[if_pos hf'];have:=hmove hf'
      omega
     ·rw[if_neg hf'];omega
    case rel=>exact⟨k',f',L++[l],rfl,hO6,hS6,hK6,HA9⟩
   ·have hit:(f1.isNone&&isK ts k [5])=false:=by simpa using hit
    have HR:=Lib.hid (pipe_rel (nt:=nt) hij.1 HA.out (HA.out.done hit) HY.out);have HT:=Lib.hid (tree_pipe nt HA.out.trees HA.out.pos);have HPOS:=Lib.hid HA.out.pos;have HSZ:=Lib.hid HA.out.size;have HNE:=Lib.hid (fun l hl=>(HA.out.trees l hl).pos)
    have HKS:=Lib.hid (hO5.ksl hbl);rw[hit]
    have HFL:=Lib.hid (show L.flatten.length≤90000 from by
     have h1:=HSZ.out;have:=F.few
     unfold zS at h1;split at h1 <;> omega)
    have HML:=Lib.hid (show (pipeMid L).length≤90001 from by have:=HFL.out;have:=mid_len L;omega)
    have hbl5:=h5.blt;clear hit HA hO5;obtain⟨g1,cap1,u1,e1,hc1,hu1,hN1⟩:=HKS.out.first HPOS.out HNE.out;injection e1 with e11 e12 e13
    subst e11 e13;clear e12;obtain⟨gu,cu,rfl,-⟩:=id hN1
    by_cases x1:1<L.length
    ·have HN1:=Lib.hid hN1;have y1:decide ((1:Int)<(L.length:Int))=true:=by rw[decide_eq_true_eq];omega
     have HC1:=Lib.hid (z12node_any 32 0 [] L _ hbl5 HKS.out (by have:=HFL.out;omega) (by omega))
     have HMD:=Lib.hid (show newP 32 0 [] L=pipeMid L from by unfold pipeMid;rw[if_pos x1])
     rw[HMD.out] at HC1;clear hN1 x1;generalize L.length=ll at *;go_wp2_with fail
     refine HC1.out.mono ?_;rintro e w8 ⟨v8,rfl,hN8,hb8⟩;have hK8:=hK5.andBelow hb8;have h8:=h5.below hb8;obtain⟨g8,cp8,rfl,-⟩:=id hN8;have HN8:=Lib.hid hN8;have hbl8:=h8.blt;clear hN8
     cases nt with
     | false =>
      generalize (pipeMid L).length=lm at *;go_wp2_with fail
      go_ret;exact ZOutW.mk (l:=pipeMid L) rfl HN8.out HT.out h8 (by omega) hlt4 hK8 HR.out
     | true =>
      have HC8:=Lib.hid (z12node_any 27 0 [] [pipeMid L] _ (by simp;omega) (KSl.new1 hbl8 (.inl HN8.out)) (by have:=HML.out;simp;omega) (by simp))
      generalize (pipeMid L).length=lm at *;go_wp2_with fail
      refine HC8.out.mono ?_;rintro e w9 ⟨v9,rfl,hN9,hb9⟩;have hb9:=bNext ((Below.refl _ _).alloc (Nat.le_refl _) _) hb9;have h9:=h8.below hb9;obtain⟨g9,cp9,rfl,-⟩:=id hN9;go_wp2_with fail
      go_ret;exact ZOutW.mk rfl hN9 HT.out h9 (by omega) hlt4 (hK8.andBelow hb9) HR.out
    ·have y1:decide ((1:Int)<(L.length:Int))=false:=by rw[decide_eq_false_iff_not];omega
     have HMD:L.headD []=pipeMid L:=by unfold pipeMid;rw[if_neg x1]
     rw[HMD] at hN1 hu1;have HN8:=Lib.hid hN1;clear x1 HMD hN1;generalize L.length=ll at *;obtain⟨w8,hw8⟩:∃ w8,w8=w5:=⟨_,rfl⟩;subst hw8;rename World=>w8
     have hK8:=hK5;have h8:=h5;have hbl8:=hbl5
     cases nt with
     | false =>
      generalize (pipeMid L).length=lm at *;go_wp2_with fail
      go_ret;exact ZOutW.mk (l:=pipeMid L) rfl HN8.out HT.out h8 (by omega) hlt4 hK8 HR.out
     | true =>
      have HC8:=Lib.hid (z12node_any 27 0 [] [pipeMid L] _ (by simp;omega) (KSl.new1 hbl8 (.inl HN8.out)) (by have:=HML.out;simp;omega) (by simp))
      generalize (pipeMid L).length=lm at *;go_wp2_with fail
      refine HC8.out.mono ?_;rintro e w9 ⟨v9,rfl,hN9,hb9⟩;have hb9:=bNext ((Below.refl _ _).alloc (Nat.le_refl _) _) hb9;have h9:=h8.below hb9;obtain⟨g9,cp9,rfl,-⟩:=id hN9;go_wp2_with fail
      go_ret;exact ZOutW.mk rfl hN9 HT.out h9 (by omega) hlt4 (hK8.andBelow hb9) HR.out
end
end Go.Proofs.YtbplbehhlbkklaaGreatDoor
