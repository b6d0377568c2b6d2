/- aparse.setting: a name and the word behind its =. -/
import Derived.Test.YtbpjobmpacjgcaaGreatDoorGQKitG
import Derived.Test.YtbpjobmpacjgcaaGreatDoorGAlexI
import Derived.Lib.IndexMore
import Derived.Test.YtbpjobmpacjgcaaGreatDoorGQChainG
import Derived.Test.YtbpjobmpacjgcaaGreatDoorGZD
namespace Go.Proofs.YtbpjobmpacjgcaaGreatDoor
set_option maxHeartbeats 8000000
set_option maxRecDepth 100000
open Go Go.RowKit
theorem r6 {P:Program}{fn:Func}{t p u:Tmp}{ty:TypeId}(h:fn.results=#[.tmp t,.cell p ty,.tmp u])(tmps:Array Value)(w:World)(g:Nat)(cs:List Value)(d:TypeDesc)
  (hp:tmps.getD p undef = .pointer (some ⟨g,0,none⟩)) (hg:Blk w g cs) (hu:P.underlying ty=some d) (hd:(match d with | .struct _ | .array _ _=>true | _=>false)=true) (hi:(P.info? ty).map (·.size)=some cs.length) :
  (results fn tmps).run P w = .ok (.tuple #[tmps.getD t undef,.agg cs.toArray,tmps.getD u undef]) w:=by
 obtain⟨tt,hg⟩:=hg
 have h1:(results fn tmps).run P w=((asAddr (tmps.getD p undef)).run P w).andThen fun a w₁=>((loadVar ty a).run P w₁).andThen fun v w₂=>.ok (.tuple #[tmps.getD t undef,v,tmps.getD u undef]) w₂:=by
  simp only[results,h];simp [Sem.run_bind,Result.andThen]
 rw[h1,hp];simp only[asAddr,Sem.run_pure,Result.andThen_ok];rw[run_loadVar_row w g tt ty cs.toArray (0,0) d hg hu hd (by simpa using hi)]
 rfl
theorem DM:∀ (L:List UInt8),Lib.indexByte L 61=match cO 61 L with | some n=>(n:Int) | none=>-1
 | []=>rfl
 | c :: l=>by
  rw[Lib.indexByte,cO,DM l]
  by_cases h:c.toNat=61
  ·have h2:c=61:=UInt8.toNat_inj.1 h;subst h2;rfl
  ·have h2:(c==61)=false:=by
    rw[beq_eq_false_iff_ne];intro e;exact h (by rw[e];rfl)
   rw[if_neg h,h2]
   cases cO 61 l with
   | none=>rfl
   | some n =>
    have h3:((n:Int)==-1)=false:=by rw[beq_eq_false_iff_ne];omega
    simp [h3]
theorem Ef (L:List UInt8):Lib.cut L [61]=match cO 61 L with | some n=>(L.take n,L.drop (n+1),true) | none=>(L,[],false):=by
 unfold Lib.cut;rw[Lib.index_one,DM]
 cases cO 61 L with
 | none=>rfl
 | some n =>
  dsimp only;rw[if_pos (Int.natCast_nonneg n)];rfl
theorem Ds {α:Type}(f:α→List Value)(m:Nat)(hm:0<m)(hf:∀ a,(f a).length=m):∀ (l:List α)(j:Nat)(u:Value),(l.flatMap f)[j]?=some u→∃ i a k,l[i]?=some a∧(f a)[k]?=some u∧j=i * m+k
 | [],j,u,h=>by simp at h
 | a :: l,j,u,h=>by
  rw[List.flatMap_cons] at h
  by_cases hj:j<m
  ·rw[List.getElem?_append_left (by rw[hf];exact hj)] at h
   exact⟨0,a,j,rfl,h,by omega⟩
  ·rw[List.getElem?_append_right (by rw[hf];omega),hf] at h
   obtain⟨i,a',k,h1,h2,h3⟩:=Ds f m hm hf l (j - m) u h;exact⟨i+1,a',k,by simpa using h1,h2,by rw[Nat.succ_mul];omega⟩
theorem Kh (P:List aD):∀ u∈P.flatMap aD.cells,u.oneCell'=true:=by
 intro u hu;rw[List.mem_flatMap] at hu;obtain⟨x,_,hx⟩:=hu;simp only[aD.cells,List.mem_cons,List.not_mem_nil,or_false] at hx
 rcases hx with rfl | rfl | rfl | rfl | rfl <;> rfl
theorem CG (P:List aD):(P.flatMap aD.cells).length=P.length * 5:=by
 induction P with
 | nil=>rfl
 | cons p P ih=>rw[List.flatMap_cons,List.length_append,ih,xK,List.length_cons];omega
theorem Gm (P:List aD)(g cap:Nat)(w:World)(hl:0<P.length)(hsz:P.length≤100000000)(h:qC w g P) :
  Calls Tryz.prog 250 #[.slice (some ⟨g,0,none⟩) P.length cap] w fun e w'=>∃ v',e = .returned v'∧bF w' w.heap.size v' P∧Below w.heap.size w w':=by
 obtain⟨i0,hi0,hz0,hz1,hz2⟩:=info_parts Ci;have qT:∀ (w:World) (a:Option Addr) (n c n' c':Nat),(binOp .eql 109 (.slice a n c) (.slice none n' c')).run Tryz.prog w = .ok (.bool a.isNone) w:=fun w a n c n' c'=>Lib.run_eql_slice_nil w _ _ a n c n' c' Tryz.underlying109
 have hO:bF (w.alloc (.cells #[] 189)) w.heap.size (.slice (some ⟨w.heap.size,0,none⟩) 0 0) []:=by
  refine ⟨rfl,.inr ⟨w.heap.size,0,#[],rfl,Nat.le_refl _,?_,Nat.le_refl _,Nat.zero_le _,rfl,rfl⟩⟩;show (w.heap.push _)[w.heap.size]?=_
  rw[Array.getElem?_push,if_pos rfl]
 have hr:∀ j u,(P.flatMap aD.cells)[j]?=some u→(w.alloc (.cells #[] 189)).cell? ((⟨g,0,none⟩:Addr).add j)=some u:=fun j u hu=>by
  obtain⟨i,a,k,q1,q2,q3⟩:=Ds aD.cells 5 (by omega) xK P j u hu
  have:=aF ((Below.refl w.heap.size w).alloc (Nat.le_refl _) (.cells #[] 189)) (h i a q1 k u q2)
  rw[← q3] at this
  cases j <;> simpa [Addr.add] using this
 have hB1:=(Below.refl w.heap.size w).alloc (Nat.le_refl _) (.cells #[] 189);obtain⟨n,hn⟩:∃ n,P.length=n:=⟨_,rfl⟩;have HN:=Ng hn;rw[hn] at hsz hl ⊢;clear hn;go_enter Tryz.func250,Tryz.ntmps250
 go_wp2_with (at_builtin;refine wpList_append_own _ rfl _ _ 109 rfl w.heap.size 189 i0 _ 5 48 Tryz.underlying109 hi0 hz0 hz1 hz2 rfl (by decide) _ 0 _ rfl hO ⟨g,0,none⟩ n cap (P.flatMap aD.cells) rfl (by rw[CG,HN.out]) hr (Kh P) ?c3 ?c4 ?c5 ?_)
 case c3=>unfold maxLen;omega
 case c4=>omega
 case c5=>simp
 intro v' w5 hown' hgrow _
 have hO5:bF w5 w.heap.size v' P:=by
  unfold bF;rw[HN.out];exact hown'
 have hb5:Below w.heap.size w w5:=hB1.trans ((aB.grown (S:=fun k=>k=w.heap.size) (aB.refl _ _) hgrow (fun k h _=>by cases h;rfl)).below (by simp) (fun i hi e=>by omega))
 go_wp2_with fail
 go_ret;exact⟨_,rfl,hO5,hb5⟩
theorem bF.setHead {w:World}{B n:Nat}{p:aD}{P:List aD}{g cap:Nat}(h:bF w B (.slice (some ⟨g,0,none⟩) n cap) (p :: P))(s:List UInt8):bF (w.setCell ⟨g,4,none⟩ (.string (bs s))) B (.slice (some ⟨g,0,none⟩) n cap) ({ p with text:=s } :: P):=by
 refine ⟨by rw[CG],?_⟩
 rcases h.2 with ⟨hv,h0⟩ | ⟨g',cap',cur,hv,hg,hh,hc1,hc2,hsz,ht⟩
 ·simp at h0
 ·injection hv with e1 e2 e3
  injection e1 with e1
  injection e1 with e1
  subst e1 e2 e3;have hgl:=lt_of_block hh;refine .inr ⟨g,cap,cur.set! 4 (.string (bs s)),by simp,hg,?_,by simpa using hc1,hc2,by simpa using hsz,?_⟩
  ·show (w.heap.modify g _)[g]?=_
   have h':w.heap[g] = .cells cur 189 (0,0):=by simpa [Array.getElem?_eq_getElem hgl] using hh
   rw[Array.getElem?_eq_getElem (by simpa using hgl),Array.getElem_modify_self,h']
   simp
  ·rw[Array.set!_eq_setIfInBounds,Array.toList_setIfInBounds,List.take_set];have e:({ p with text:=s } :: P).length * 5=(p :: P).length * 5:=by simp
   rw[e,ht,List.flatMap_cons,List.flatMap_cons];rfl
theorem bF.free {w:World}{B:Nat}{v:Value}{P:List aD}(h:bF w B v P)(h0:0<P.length):∃ g cap,v = .slice (some ⟨g,0,none⟩) P.length cap∧B≤g∧∀ n,w.frozen? ⟨g,n,none⟩=false:=by
 rcases h.2 with ⟨_,hz⟩ | ⟨g,cap,cur,hv,hB,hh,_⟩
 ·omega
 ·exact⟨g,cap,hv,hB,fun n=>by simp [World.frozen?,hh]⟩
def nW (w:World) (t:aG) (r:Option (List UInt8×aG)) (e:Ending) (w':World):Prop :=
 Below w.heap.size w w'∧match r with
 | some (s,t')=>∃ tv',e = .returned (.tuple #[.string (bs s),tv',.bool true])∧iW w' tv' t'
 | none=>∃ tv',e = .returned (.tuple #[.string ⟨#[]⟩,tv',.bool false])∧iW w' tv' t
theorem nW.no {w w':World}{t:aG}{tv':Value}{r:Option (List UInt8×aG)}{e:Ending}(hr:r=none)(he:e = .returned (.tuple #[.string ⟨#[]⟩,tv',.bool false]))(h:iW w' tv' t)(hb:Below w.heap.size w w'):nW w t r e w':=by
 subst hr;exact⟨hb,tv',he,h⟩
theorem nW.yes {w w':World}{t t':aG}{s:List UInt8}{tv':Value}{r:Option (List UInt8×aG)}{e:Ending}(hr:r=some (s,t'))(he:e = .returned (.tuple #[.string (bs s),tv',.bool true]))(h:iW w' tv' t')(hb:Below w.heap.size w w'):nW w t r e w':=by
 subst hr;exact⟨hb,tv',he,h⟩
theorem bF.others {w w':World}{B:Nat}{v:Value}{P:List aD}(h:bF w B v P)(hk:∀ k,B≤k→k<w.heap.size→w'.heap[k]?=w.heap[k]?):bF w' B v P:=by
 refine ⟨h.1,?_⟩
 rcases h.2 with hh | ⟨g,cap,cur,hv,hB,hh,q⟩
 ·exact .inl hh
 ·exact .inr ⟨g,cap,cur,hv,hB,(hk g hB (lt_of_block hh)).trans hh,q⟩
theorem bF.headCell {w:World}{B g n cap:Nat}{p:aD}{P:List aD}(h:bF w B (.slice (some ⟨g,0,none⟩) n cap) (p :: P)):w.cell? ⟨g,4,none⟩=some (.string (bs p.text)):=by
 obtain⟨g',cap',hv,h1,h2,h3,h4,h5⟩:=kE h (by simp)
 injection hv with e1 e2 e3
 injection e1 with e1
 injection e1 with e1
 subst e1;exact h5 4 _ rfl
theorem FJ (w:World)(tv:Value)(t:aG)(hv:iW w tv t)(hlen:∀ x∈t.parts,x.text.length≤8192)(hP:t.parts.length≤30000)(mx:Int)(hm:w.cell? ⟨12,0,none⟩=some (.int .i64 mx)) :
  Calls Tryz.prog 221 #[tv] w (nW w t (eZ t)):=by
 obtain⟨tk,tp,P⟩:=t;obtain⟨r,hr⟩:∃ r,eZ ⟨tk,tp,P⟩=r:=⟨_,rfl⟩;rw[hr];have HV:=Ng hv;obtain⟨v2,rfl,hps⟩:=hv;obtain⟨ao,pc,rfl,g1,g2,g3⟩:=id hps;dsimp only at hlen hP hps g1 g2 g3 ⊢;unfold eZ at hr;dsimp only at hr;have hb1:=((Below.refl w.heap.size w).alloc (Nat.le_refl _) (.cells #[.int .i64 tk,.int .i64 tp,.slice ao P.length pc] 113)).alloc (by simp) (.cells #[.int .i64 0,.int .i64 0,.slice none 0 0] 113)
 have hB0:=(Blk.new w [.int .i64 tk,.int .i64 tp,.slice ao P.length pc] 113).alloc (.cells #[.int .i64 0,.int .i64 0,.slice none 0 0] 113);have hB1:=Blk.newAt (w:=w.alloc (.cells #[.int .i64 tk,.int .i64 tp,.slice ao P.length pc] 113)) (b:=w.heap.size+1) [.int .i64 0,.int .i64 0,.slice none 0 0] 113 (by simp)
 have HNO:=Ng (show ∀ (W:World),r=none→Below w.heap.size w W→Blk W (w.heap.size+1) [.int .i64 0,.int .i64 0,.slice none 0 0] →
   Blk (((W.setCell ⟨w.heap.size+1,0,none⟩ (.int .i64 tk)).setCell ⟨w.heap.size+1,1,none⟩ (.int .i64 tp)).setCell ⟨w.heap.size+1,2,none⟩ (.slice ao P.length pc)).drew (w.heap.size+1) [.int .i64 tk,.int .i64 tp,.slice ao P.length pc] ∧
   nW w ⟨tk,tp,P⟩ r (.returned (.tuple #[.string ⟨#[]⟩,.agg #[.int .i64 tk,.int .i64 tp,.slice ao P.length pc],.bool false])) (((W.setCell ⟨w.heap.size+1,0,none⟩ (.int .i64 tk)).setCell ⟨w.heap.size+1,1,none⟩ (.int .i64 tp)).setCell ⟨w.heap.size+1,2,none⟩ (.slice ao P.length pc)).drew from fun W hr h1 h3=>by
  have hb:=(((h1.setCell (p:=⟨w.heap.size+1,0,none⟩) (by simp) (.int .i64 tk)).setCell (p:=⟨w.heap.size+1,1,none⟩) (by simp) (.int .i64 tp)).setCell (p:=⟨w.heap.size+1,2,none⟩) (by simp) (.slice ao P.length pc)).drew
  exact⟨(((h3.set 0 (.int .i64 tk)).set 1 (.int .i64 tp)).set 2 (.slice ao P.length pc)).drew,nW.no hr rfl (HV.out.below hb) hb⟩)
 clear HV
 rcases P with _ | ⟨p,ps⟩
 ·dsimp only at hr;dsimp only[List.length_nil] at *;have HR:=Ng hr.symm;clear hps g1 g2 g3 hlen hP hr;go_enter Tryz.func221,Tryz.ntmps221
  go_upto_region 1 with fail
  obtain⟨W,hW⟩:∃ W,(w.alloc (.cells #[.int .i64 tk,.int .i64 tp,.slice ao 0 pc] 113)).alloc (.cells #[.int .i64 0,.int .i64 0,.slice none 0 0] 113)=W:=⟨_,rfl⟩;rw[hW] at hb1 hB0 hB1 ⊢;clear hW;have HX:=Ng (HNO.out W HR.out hb1 hB1);have c2:=hB0.cell 2 rfl;go_upto_region 2 with fail
  have c0:=hB0.cell 0 rfl;have c1:=hB0.cell 1 rfl;have c2:=hB0.cell 2 rfl;have z0:=hB1.cell 0 rfl;have z1:=hB1.cell 1 rfl;have z2:=hB1.cell 2 rfl;have f0:=hB1.free 0;have f1:=hB1.free 1;have f2:=hB1.free 2;go_region
  go_wp2_with fail
  exact bodyPost_ret (r6 (t:=2) (p:=3) (u:=4) rfl _ _ _ _ _ rfl HX.out.1 Tryz.underlying113 rfl (by kernel_rfl)) rfl HX.out.2
 ·obtain⟨g,rfl,hg,hrow⟩:=g3 (by simp)
  obtain⟨p0,-,-,-,p4⟩:=hrow.facts 0 p rfl;rw[Nat.zero_mul] at p0;rw[show 0 * 5+4=4 from rfl] at p4
  have hl1:=hlen p (by simp)
  obtain⟨n,hn⟩:∃ n,(p :: ps).length=n:=⟨_,rfl⟩;have HN:=Ng hn;have hn1:1≤n:=by rw[← hn];simp
  have HROW:=Ng hrow;clear hps g3 hlen hrow;rw[hn] at hP g1 hb1 hB0 hB1 HNO ⊢;clear hn;have n0:((n:Int)==0)=false:=by rw[beq_eq_false_iff_ne];omega
  have n1:(0:Int)<(n:Int):=by omega
  have HB1:=Ng hb1;dsimp only at hr
  by_cases hk:p.kind=1
  ·rw[if_pos hk] at hr;have HR:=Ng hr;clear hr;rw[hk] at p0;go_enter Tryz.func221,Tryz.ntmps221
   go_upto_region 1 with fail
   obtain⟨W,hW⟩:∃ W,(w.alloc (.cells #[.int .i64 tk,.int .i64 tp,.slice (some ⟨g,0,none⟩) n pc] 113)).alloc (.cells #[.int .i64 0,.int .i64 0,.slice none 0 0] 113)=W:=⟨_,rfl⟩;rw[hW] at hb1 hB0 hB1 ⊢;clear hW HB1;have hsW:=hb1.size;have p0:=aF hb1 p0;have p4:=aF hb1 p4;have hm1:=aF hb1 hm;have c0:=hB0.cell 0 rfl;have c1:=hB0.cell 1 rfl;have c2:=hB0.cell 2 rfl;have HC:=Ng (fun (w9:World)=>Tryz.strings_Cut (bs p.text) ⟨#[61]⟩ mx w9 (by rw[aY];omega))
   cases hx:cO 61 p.text with
   | none =>
    have HR2:=Ng (show r=none by have h:=HR.out;rw[hx] at h;exact h.symm)
    have HCT:=Ng (show Lib.cut (bs p.text).data.toList [61]=(p.text,[],false) by rw[bK,Ef,hx])
    go_upto_region 5 with (go_at_call 249;refine (HC.out _ hm1).mono ?_;rintro e w2 ⟨rfl,nd,rfl⟩;rw[show (⟨#[61]⟩:ByteArray).data.toList=[61] from rfl,HCT.out])
    have hb2:=sZ (Below.refl W.heap.size W) nd;generalize W.drewN nd=W2 at *;replace hB0:=hB0.below hb2;replace hB1:=hB1.below hb2;have HX:=Ng (HNO.out W2 HR2.out (aE hb1 hb2) hB1);clear p0 p4 hm1 c0 c1 c2 hb2;have c0:=hB0.cell 0 rfl;have c1:=hB0.cell 1 rfl;have c2:=hB0.cell 2 rfl;have z0:=hB1.cell 0 rfl;have z1:=hB1.cell 1 rfl;have z2:=hB1.cell 2 rfl;have f0:=hB1.free 0;have f1:=hB1.free 1;have f2:=hB1.free 2;go_region
    go_wp2_with fail
    exact bodyPost_ret (r6 (t:=2) (p:=3) (u:=4) rfl _ _ _ _ _ rfl HX.out.1 Tryz.underlying113 rfl (by kernel_rfl)) rfl HX.out.2
   | some k =>
    have hkl:=lD _ _ _ hx;have HCT:=Ng (show Lib.cut (bs p.text).data.toList [61]=(p.text.take k,p.text.drop (k+1),true) by rw[bK,Ef,hx])
    obtain⟨nm,hnm⟩:∃ nm,p.text.take k=nm:=⟨_,rfl⟩;obtain⟨rs,hrs⟩:∃ rs,p.text.drop (k+1)=rs:=⟨_,rfl⟩;have hnl:nm.length≤8192:=by rw[← hnm,List.length_take];omega
    rw[hnm,hrs] at HCT
    cases hnb:bI nm with
    | false =>
     have HR2:=Ng (show r=none by have h:=HR.out;rw[hx] at h;dsimp only at h;rw[hnm,hnb] at h;exact h.symm)
     go_upto_region 5 with (first
      | (go_at_call 249;refine (HC.out _ hm1).mono ?_;rintro e w2 ⟨rfl,nd,rfl⟩;rw[show (⟨#[61]⟩:ByteArray).data.toList=[61] from rfl,HCT.out])
      | (go_at_call 120;refine (mV (bs nm) _ (by rw[aY];omega)).mono ?_;rintro e w3 ⟨rfl,rfl⟩;rw[bK,hnb]))
     have hb2:=sZ (Below.refl W.heap.size W) nd;generalize W.drewN nd=W2 at *;replace hB0:=hB0.below hb2;replace hB1:=hB1.below hb2;have HX:=Ng (HNO.out W2 HR2.out (aE hb1 hb2) hB1);clear p0 p4 hm1 c0 c1 c2 hb2;have c0:=hB0.cell 0 rfl;have c1:=hB0.cell 1 rfl;have c2:=hB0.cell 2 rfl;have z0:=hB1.cell 0 rfl;have z1:=hB1.cell 1 rfl;have z2:=hB1.cell 2 rfl;have f0:=hB1.free 0;have f1:=hB1.free 1;have f2:=hB1.free 2;go_region
     go_wp2_with fail
     exact bodyPost_ret (r6 (t:=2) (p:=3) (u:=4) rfl _ _ _ _ _ rfl HX.out.1 Tryz.underlying113 rfl (by kernel_rfl)) rfl HX.out.2
    | true =>
     have HR2:=Ng (show r=some (nm,⟨tk,tp,{ p with text:=rs } :: ps⟩) by have h:=HR.out;rw[hx] at h;dsimp only at h;rw[hnm,hrs,hnb] at h;exact h.symm)
     go_upto_region 6 with (first
      | (go_at_call 249;refine (HC.out _ hm1).mono ?_;rintro e w2 ⟨rfl,nd,rfl⟩;rw[show (⟨#[61]⟩:ByteArray).data.toList=[61] from rfl,HCT.out])
      | (go_at_call 120;refine (mV (bs nm) _ (by rw[aY];omega)).mono ?_;rintro e w3 ⟨rfl,rfl⟩;rw[bK,hnb]))
     have hb2:=sZ (Below.refl W.heap.size W) nd;generalize W.drewN nd=W2 at *;replace hB0:=hB0.below hb2;replace hB1:=hB1.below hb2;replace hb2:=aE hb1 hb2;have hs2:=hb2.size;have hl0:=hB1.lt;clear p0 p4 hm1 c0 c1 c2 hb1 HNO HC HCT hsW;have HCL:=Ng (Gm (p :: ps) g pc W2 (by simp) (by rw[HN.out];omega) (HROW.out.below hb2))
     rw[HN.out] at HCL;have c2:=hB0.cell 2 rfl;go_upto_region 7 with (go_at_call 250;refine HCL.out.mono ?_;rintro e w5 ⟨v5,rfl,hO5,hb5⟩;obtain⟨g5,cap5,rfl,hg5,hfr5⟩:=hO5.free (by simp);rw[HN.out] at hO5 ⊢;have c2b:=aF hb5 c2;have f2b:=(hB0.below hb5).free 2)
     replace hB0:=(hB0.below hb5).set 2 (.slice (some ⟨g5,0,none⟩) n cap5);replace hB1:=(hB1.below hb5).other (p:=⟨w.heap.size,2,none⟩) (by show w.heap.size≠w.heap.size+1;omega) (.slice (some ⟨g5,0,none⟩) n cap5)
     have hs5:=hb5.size;have hb6:=(aE hb2 hb5).setCell (p:=⟨w.heap.size,2,none⟩) (Nat.le_refl _) (.slice (some ⟨g5,0,none⟩) n cap5);replace hO5:=hO5.others (w':=w5.setCell ⟨w.heap.size,2,none⟩ (.slice (some ⟨g5,0,none⟩) n cap5)) fun k h1 _=>Below.heap_setCell _ _ _ _ (by show k≠w.heap.size;omega)
     have f4:(w5.setCell ⟨w.heap.size,2,none⟩ (.slice (some ⟨g5,0,none⟩) n cap5)).frozen? ⟨g5,4,none⟩=false:=by
      obtain⟨g6,cap6,e6,_,hf6⟩:=hO5.free (by simp)
      injection e6 with e6
      injection e6 with e6
      injection e6 with e6
      subst e6;exact hf6 4
     generalize w5.setCell ⟨w.heap.size,2,none⟩ (.slice (some ⟨g5,0,none⟩) n cap5)=W6 at *;clear c2 c2b f2b hb5 hfr5 HCL;have h4:=hO5.headCell;have c2:=hB0.cell 2 rfl;go_upto_region 8 with fail
     replace hB0:=(hB0.other (p:=⟨g5,4,none⟩) (by show g5≠w.heap.size;omega) (.string ⟨rs.toArray⟩))
     replace hB1:=(hB1.other (p:=⟨g5,4,none⟩) (by show g5≠w.heap.size+1;omega) (.string ⟨rs.toArray⟩))
     have hb7:=(hb6.setCell (p:=⟨g5,4,none⟩) (by show w.heap.size≤g5;omega) (.string ⟨rs.toArray⟩))
     have hO7:bF (W6.setCell ⟨g5,4,none⟩ (.string ⟨rs.toArray⟩)) W2.heap.size (.slice (some ⟨g5,0,none⟩) n cap5) ({ p with text:=rs } :: ps):=(hO5.setHead rs).others fun _ _ _=>rfl
     refine eJ (fun W7=>Blk W7 w.heap.size [.int .i64 tk,.int .i64 tp,.slice (some ⟨g5,0,none⟩) n cap5]∧Blk W7 (w.heap.size+1) [.int .i64 0,.int .i64 0,.slice none 0 0]∧Below w.heap.size w W7∧bF W7 W2.heap.size (.slice (some ⟨g5,0,none⟩) n cap5) ({ p with text:=rs } :: ps)) ⟨hB0,hB1,hb7,hO7⟩ ?_
     clear hB0 hB1 hb7 hO7;rintro W7 ⟨hB0,hB1,hb7,hO7⟩;clear c2 f4 h4 hb6 hO5
     have HX:=Ng (show Blk (((W7.setCell ⟨w.heap.size+1,0,none⟩ (.int .i64 tk)).setCell ⟨w.heap.size+1,1,none⟩ (.int .i64 tp)).setCell ⟨w.heap.size+1,2,none⟩ (.slice (some ⟨g5,0,none⟩) n cap5)).drew (w.heap.size+1) [.int .i64 tk,.int .i64 tp,.slice (some ⟨g5,0,none⟩) n cap5] ∧
      nW w ⟨tk,tp,p :: ps⟩ r (.returned (.tuple #[.string (bs nm),.agg #[.int .i64 tk,.int .i64 tp,.slice (some ⟨g5,0,none⟩) n cap5],.bool true])) (((W7.setCell ⟨w.heap.size+1,0,none⟩ (.int .i64 tk)).setCell ⟨w.heap.size+1,1,none⟩ (.int .i64 tp)).setCell ⟨w.heap.size+1,2,none⟩ (.slice (some ⟨g5,0,none⟩) n cap5)).drew from by
       have hb:=(((hb7.setCell (p:=⟨w.heap.size+1,0,none⟩) (by simp) (.int .i64 tk)).setCell (p:=⟨w.heap.size+1,1,none⟩) (by simp) (.int .i64 tp)).setCell (p:=⟨w.heap.size+1,2,none⟩) (by simp) (.slice (some ⟨g5,0,none⟩) n cap5)).drew
       refine ⟨(((hB1.set 0 (.int .i64 tk)).set 1 (.int .i64 tp)).set 2 (.slice (some ⟨g5,0,none⟩) n cap5)).drew,nW.yes HR2.out rfl ⟨_,rfl,bF.psl (B:=W2.heap.size) (hO7.others fun k h1 _=>?_)⟩ hb⟩
       have hne:∀ (p:Addr),p.block=w.heap.size+1→k≠p.block:=fun p hp=>by omega
       exact ((Below.heap_setCell _ _ _ _ (hne ⟨w.heap.size+1,2,none⟩ rfl)).trans (Below.heap_setCell _ _ _ _ (hne ⟨w.heap.size+1,1,none⟩ rfl))).trans (Below.heap_setCell _ _ _ _ (hne ⟨w.heap.size+1,0,none⟩ rfl)))
     clear hO7 hb7;have c0:=hB0.cell 0 rfl;have c1:=hB0.cell 1 rfl;have c2:=hB0.cell 2 rfl;have z0:=hB1.cell 0 rfl;have z1:=hB1.cell 1 rfl;have z2:=hB1.cell 2 rfl;have f0:=hB1.free 0;have f1:=hB1.free 1;have f2:=hB1.free 2;go_region
     go_wp2_with fail
     exact bodyPost_ret (r6 (t:=2) (p:=3) (u:=4) rfl _ _ _ _ _ rfl HX.out.1 Tryz.underlying113 rfl (by kernel_rfl)) rfl HX.out.2
  ·rw[if_neg hk] at hr;have HR:=Ng hr.symm;clear hr;have k1:((p.kind:Int)==1)=false:=by rw[beq_eq_false_iff_ne];omega
   go_enter Tryz.func221,Tryz.ntmps221
   go_upto_region 1 with fail
   obtain⟨W,hW⟩:∃ W,(w.alloc (.cells #[.int .i64 tk,.int .i64 tp,.slice (some ⟨g,0,none⟩) n pc] 113)).alloc (.cells #[.int .i64 0,.int .i64 0,.slice none 0 0] 113)=W:=⟨_,rfl⟩;rw[hW] at hb1 hB0 hB1 ⊢;clear hW HB1;have p0:=aF hb1 p0;have HX:=Ng (HNO.out W HR.out hb1 hB1);have c2:=hB0.cell 2 rfl;go_upto_region 2 with fail
   have c0:=hB0.cell 0 rfl;have c1:=hB0.cell 1 rfl;have c2:=hB0.cell 2 rfl;have z0:=hB1.cell 0 rfl;have z1:=hB1.cell 1 rfl;have z2:=hB1.cell 2 rfl;have f0:=hB1.free 0;have f1:=hB1.free 1;have f2:=hB1.free 2;go_region
   go_wp2_with fail
   exact bodyPost_ret (r6 (t:=2) (p:=3) (u:=4) rfl _ _ _ _ _ rfl HX.out.1 Tryz.underlying113 rfl (by kernel_rfl)) rfl HX.out.2
theorem I3 {sent:Nat→Addr}(f:Nat)(ih:∀ f'≤f,o9 sent 181 (fun ts b d i=>eI f' ts b d i)):mM sent 144 (fun ts b d i=>eD (f+1) ts b d i):=by
 intro w b g cap n base i d ts r hd hi F hQ hE hr;have hbl:=hQ.blt;have hlen:=F.good.len;obtain⟨k0,hk0,hk1,hk2,hk3⟩:=info_parts jB;have HR:=Ng (show eD (f+1) ts base d i=some r from hr.out)
 rw[eD] at HR;have IH:=Ng ih;clear hr ih;obtain⟨nt,hnt⟩:∃ nt,eN ts i [[33]]=nt:=⟨_,rfl⟩;rw[hnt] at HR;obtain⟨j0,hj0⟩:∃ j0,(if nt=true then aSk ts i else i)=j0:=⟨_,rfl⟩
 rw[hj0] at HR
 have hj:j0<ts.length:=by
  rw[← hj0];split
  ·exact (rI hi).2
  ·exact hi
 have hj24:=F.good.rem_le hj
 cases hq:eS f ts base d j0 [] with
 | none =>
  rw[hq] at HR;exact absurd HR.out (by simp [aJ.go])
 | some rr =>
  rw[hq] at HR;have HQ:=Ng hq;clear hq;go_enter Tryz.func144,Tryz.ntmps144
  go_wp2_with fail
  refine (uW F (hQ.alloc _) hi [[33]] _ _ (by decide) (show Blk _ _ [Value.string ⟨#[33]⟩] from Blk.new w _ _)).mono ?_
  rintro e w1 ⟨rfl,hb1⟩;have hb2:=aE ((Below.refl _ w).alloc (Nat.le_refl _) _) hb1;have hQ1:=hQ.below hb2;have hK1:=(aB.refl (At b) w).andBelow hb2;rw[hnt];clear hQ hb1 hb2 hnt;go_upto_if 14 with fail
  go_cut [] (fun w2=>QSt w2 b g cap ts base j0 d∧aB (At b) w w2)
  case first =>
   cases nt with
   | true =>
    rw[if_pos rfl] at hj0;go_wp2_with fail
    refine (lL F hQ1 hi).mono ?_;rintro e w2 ⟨rfl,hS2,hK2⟩;rw[hj0] at hS2;go_wp2_with fail
    go_meet
    case rel=>exact⟨hS2,hK1.same hK2⟩
   | false =>
    rw[if_neg (by simp)] at hj0
    subst hj0;go_wp2_with fail
    go_meet
    case rel=>exact⟨hQ1,hK1⟩
  case rest =>
   rename World=>w2
   obtain⟨hS2,hK3⟩:=hcut;clear hQ1 hK1 hj0 hi;go_wp2_with fail
   go_loopg [5,6,7] (ts.length - j0) (fun m v cc er wr=>∃ (k fk:Nat) (L:List aA),m=ts.length - k∧k<ts.length∧fk≤f∧L.length≤k∧L.flatten.length+8 * aI ts k≤8 * aI ts j0∧Hid (∀ l∈L,0<l.length)∧aB (At b) w wr∧QSt wr b g cap ts base k d∧aO wr w.heap.size b v L∧Hid (eS fk ts base d k L=some rr))
   case atStart=>exact⟨j0,f,[],rfl,hj,Nat.le_refl _,by simp,by simp,Ng (fun _ h=>nomatch h),hK3,hS2,aO.nil _ _ _,HQ⟩
   case round =>
    clear hS2 HQ hj hK3;obtain⟨k,fk,L,rfl,hk,hfk,hL1,hL2,hL3,hK,hS,hO,hr⟩:=hrel
    obtain⟨fk,rfl⟩:∃ q,fk=q+1:=by
     cases fk with
     | zero=>have:=hr.out;rw[eS] at this;cases this
     | succ q=>exact⟨q,rfl⟩
    obtain⟨ao,acap,rfl⟩:=hO.form;have hE1:=hE.kept hK;have hsz:=hK.size;have HP:=Ng hr.out;rw[eS] at HP;clear hr
    cases hq:eI fk ts base d k with
    | none =>
     rw[hq] at HP;exact absurd HP.out (by simp [aJ.go])
    | some rc =>
     rw[hq] at HP;have HD:=Ng (IH.out fk (by omega) wr b g cap n base k d ts rc hd hk F hS hE1 (Ng hq))
     clear hS hE1;go_wp2_with fail
     refine HD.out.mono ?_
     cases rc with
     | error e0 =>
      obtain⟨c0,p0⟩:=e0;have HX:=Ng (eP HP.out)
      have HX2:=Ng (show r = .error (c0,p0) from by
       have:=HR.out
       rw[HX.out] at this;exact eP this)
      clear HP hq HD HR HX;rintro e w3 ⟨hK2,v,u,j',rfl,⟨eb,rfl,q2,q3⟩,hS2,va,vn,vc,rfl⟩;go_wp2_with fail
      go_ret2;exact fB.bad HX2.out rfl ⟨eb,rfl,q2,by omega⟩ hS2 (hK.same hK2)
     | ok q =>
      obtain⟨c,e2⟩:=q;obtain⟨z1,z2,z4,z3,-⟩:=((kG fk).command F.good base d k hk).1 c e2 hq;have HP2:=Ng (show (if aIs ts e2 [6]=true then eS fk ts base d (fK ts [1] (aSk ts e2)) (L++[c]) else pOk (L++[c]) e2)=some rr from HP.out)
      have hre:=rem_le (ts:=ts) (Nat.le_of_lt z1) (Nat.le_of_lt z2);have hL6:(L++[c]).length≤e2:=by rw[List.length_append,List.length_cons,List.length_nil];omega
      have hL7:(L++[c]).flatten.length+8 * aI ts e2≤8 * aI ts j0:=by rw[fD,List.length_append];omega
      have hL10:=Ng (show L.length+1=(L++[c]).length by simp)
      have hL8:=Ng (fP hL3.out z4);have hL9:0<(L++[c]).length:=by simp
      clear HP hq;rintro e w3 ⟨hK2,v,rfl,hN,hS2⟩;have hK4:=hK.same hK2;obtain⟨us,u1,u2,u3⟩:=hO.kept hbl hK2;have hOA:∀ o,(w3.alloc o).ownsRow w.heap.size 26 1 _ L.length us:=fun o=>bM u2 (aB.ofBelow (S:=bW) ((Below.refl _ w3).alloc (Nat.le_refl _) o)) (fun _ _ _ e=>e)
      have HN:=Ng hN;have hsz4:=hK4.size;obtain⟨gc,cc',rfl,-⟩:=hN;clear hK hK2 hO HD;go_wp2_with (at_builtin;refine wpList_append_own _ rfl _ _ 25 rfl w.heap.size 26 k0 _ 1 24 Tryz.underlying25 hk0 hk1 hk2 hk3 rfl (by decide) _ _ _ rfl (hOA _) ⟨w3.heap.size,0,none⟩ 1 1 [.slice (some ⟨gc,0,none⟩) c.length cc'] rfl rfl ?c1 ?c2 ?c3 ?c4 ?c5 ?_)
      case c1=>exact cL (by simp)
      case c2 =>
       intro u hu;simp at hu
       subst hu;rfl
      case c3=>unfold maxLen;omega
      case c4=>omega
      case c5=>simp;omega
      intro v6 w6 hown' hgrow _;obtain⟨hO6,hb6⟩:=aO.grown hsz4 u1 u2 u3 HN.out hown' hgrow;have hS6:=hS2.belowB hb6 hbl;have hK6:=hK4.belowB hb6 (Nat.le_refl _);have hsz6:=hK6.size;obtain⟨M,hM⟩:∃ M,L++[c]=M:=⟨_,rfl⟩;rw[hM] at HP2 hL6 hL7 hL8 hL9 hL10 hO6;replace hL10:=hL10.out;clear hM hS2 hK4 hb6 hown' hgrow hOA u1 u2 u3 HN;obtain⟨g1,cap1,hd1,rfl,hc1,hu1,hN1⟩:=(hO6.ksl hbl).first hL9 hL8.out;go_wp2_with fail
      refine (m6 F (hS6.alloc _) z2 [6] _ _ (by decide) (show Blk _ _ [Value.int .i64 6] from Blk.new w6 _ _)).mono ?_
      rintro e w7 ⟨rfl,hb7⟩;have hb8:=aE ((Below.refl _ w6).alloc (Nat.le_refl _) _) hb7;have hS7:=hS6.below hb8;have hO7:=hO6.below hbl hb8;have hK7:=hK6.andBelow hb8;have hsz7:=hK7.size;have hu7:=aF hb8 hu1;have hN7:=hN1.below hb8;clear hS6 hO6 hK6 hb7 hb8 hu1 hN1
      by_cases x0:aIs ts e2 [6]=true
      ·rw[if_pos x0] at HP2;rw[x0];obtain⟨s1,s2⟩:=uY F.good z2 (by decide) x0
       rw[s1] at HP2;clear x0 hu7 hN7;have hj:=vB (ts:=ts) [1] s2;have hre2:=rem_le (ts:=ts) (show e2≤e2+1 by omega) (Nat.le_of_lt s2)
       obtain⟨j,hjj⟩:∃ j,fK ts [1] (e2+1)=j:=⟨_,rfl⟩;rw[hjj] at HP2 hj;have hre3:=rem_le (ts:=ts) hj.1 (Nat.le_of_lt hj.2);go_wp2_with fail
       refine (lL F hS7 z2).mono ?_;rintro e w8 ⟨rfl,hS8,hK8⟩;rw[s1] at hS8;have hO8:=hO7.kept hbl hK8;have hK9:=hK7.same hK8;have hsz9:=hK9.size;clear hS7 hO7 hK7 hK8;go_wp2_with fail
       refine (uN F (hS8.alloc _) s2 [1] _ _ (by decide) (by decide) (show Blk _ _ [Value.int .i64 1] from Blk.new w8 _ _) (by omega)).mono ?_
       rintro e w9 ⟨rfl,hS9,hKa⟩;rw[hjj] at hS9;have hKb:=((aB.refl (At b) w8).alloc _).same hKa;have hO9:=hO8.kept hbl hKb;have hKc:=hK9.same hKb;go_wp2_with fail
       go_roundg (ts.length - j)
       case measure=>omega
       case rel=>exact⟨j,fk,M,rfl,hj.2,by omega,by omega,by omega,hL8,hKc,hS9,hO9,HP2⟩
      ·have x0:aIs ts e2 [6]=false:=by simpa using x0
       rw[x0,if_neg (by simp)] at HP2
       rw[x0];have HRR:=Ng (gI HP2.out);have HX:=Ng HR.out;rw[HRR.out] at HX
       have HX2:=Ng (gI (show some (Except.ok (if nt=true then aC 27 0 [] [if 1<M.length then aC 32 0 [] M else M.headD []] else (if 1<M.length then aC 32 0 [] M else M.headD []),e2))=some r from by
        have:=HX.out
        simp only[aJ.go,pOk] at this;exact this))
       clear HX HRR HP2 x0;have hM1:M.length≤100000000:=by omega
       have hM2:M.flatten.length≤100000000:=by omega
       have hhd:=sM M
       by_cases x1:1<M.length
       ·rw[if_pos x1] at HX2;have y1:decide ((1:Int)<(M.length:Int))=true:=by rw[decide_eq_true_eq];omega
        have HN:=Ng (bT 32 0 [] M b _ w7 (by omega) (hO7.ksl hbl) (by omega) hM1)
        have hlen:(aC 32 0 [] M).length≤50000000:=by rw[bN];omega
        obtain⟨body,hbd⟩:∃ x,aC 32 0 [] M=x:=⟨_,rfl⟩;rw[hbd] at HX2 HN hlen;generalize M.length=mlen at *;obtain⟨ga,gc',rfl,-⟩:=id hN7;clear hN7 hO7 hbd;go_wp2_with fail
        refine HN.out.mono ?_;rintro e w8 ⟨v8,rfl,hN8,hb8⟩;have hS8:=hS7.below hb8;have hK8:=hK7.andBelow hb8;have hsz8:=hK8.size;obtain⟨gd,gf,rfl,-⟩:=id hN8
        cases nt with
        | true =>
         rw[if_pos rfl] at HX2;have HN2:=Ng (fun (w9:World) (u:Value) (h1:b<w9.heap.size) (h2:NSl w9 b u body)=>bT 27 0 [] [body] b _ _ (by simp;omega) (KSl.new1 (w:=w9) (u:=u) h1 (.inl h2)) (by simp;omega) (by simp))
         go_wp2_with fail
         refine (HN2.out _ _ (by omega) hN8).mono ?_
         rintro e w9 ⟨v9,rfl,hN9,hb9⟩;have hba:=aE ((Below.refl _ _).alloc (Nat.le_refl _) _) hb9;obtain⟨gh,gi,rfl,-⟩:=id hN9;go_wp2_with fail
         go_ret2;exact fB.ok HX2.out rfl hN9 (hS8.below hba) (hK8.andBelow hba)
        | false =>
         rw[if_neg (by simp)] at HX2
         go_wp2_with fail
         go_ret2;exact fB.ok HX2.out rfl hN8 hS8 hK8
       ·rw[if_neg x1] at HX2;have y1:decide ((1:Int)<(M.length:Int))=false:=by rw[decide_eq_false_iff_not];omega
        have hlen:(M.headD []).length≤50000000:=by omega
        obtain⟨body,hbd⟩:∃ x,M.headD []=x:=⟨_,rfl⟩;rw[hbd] at HX2 hN7 hlen hhd;generalize M.length=mlen at *;obtain⟨gd,gf,rfl,-⟩:=id hN7;obtain⟨w8,hw8⟩:∃ w8,w8=w7:=⟨_,rfl⟩;have hN8:=hN7;have hS8:=hS7;have hK8:=hK7;have hsz8:=hK8.size;clear hO7 hbd hw8
        cases nt with
        | true =>
         rw[if_pos rfl] at HX2;have HN2:=Ng (fun (w9:World) (u:Value) (h1:b<w9.heap.size) (h2:NSl w9 b u body)=>bT 27 0 [] [body] b _ _ (by simp;omega) (KSl.new1 (w:=w9) (u:=u) h1 (.inl h2)) (by simp;omega) (by simp))
         go_wp2_with fail
         refine (HN2.out _ _ (by omega) hN8).mono ?_
         rintro e w9 ⟨v9,rfl,hN9,hb9⟩;have hba:=aE ((Below.refl _ _).alloc (Nat.le_refl _) _) hb9;obtain⟨gh,gi,rfl,-⟩:=id hN9;go_wp2_with fail
         go_ret2;exact fB.ok HX2.out rfl hN9 (hS8.below hba) (hK8.andBelow hba)
        | false =>
         rw[if_neg (by simp)] at HX2
         go_wp2_with fail
         go_ret2;exact fB.ok HX2.out rfl hN8 hS8 hK8
end Go.Proofs.YtbpjobmpacjgcaaGreatDoor
