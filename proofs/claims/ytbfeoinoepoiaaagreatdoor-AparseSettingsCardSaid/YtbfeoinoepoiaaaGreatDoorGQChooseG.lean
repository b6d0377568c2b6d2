/- aparse.setting: a name and the word behind its =. -/
import Derived.Test.YtbfeoinoepoiaaaGreatDoorGQKitG
import Derived.Test.YtbfeoinoepoiaaaGreatDoorGAlexI
import Derived.Lib.IndexMore
import Derived.Test.YtbfeoinoepoiaaaGreatDoorGQChainG
import Derived.Test.YtbfeoinoepoiaaaGreatDoorGZD
namespace Go.Proofs.YtbfeoinoepoiaaaGreatDoor
set_option maxHeartbeats 32000000
set_option maxRecDepth 100000
open Go Go.RowKit
theorem results_mid {P:Program} {fn:Func} {t p u:Tmp} {ty:TypeId} (h:fn.results=#[.tmp t,.cell p ty,.tmp u]) (tmps:Array Value) (w:World) (g:Nat) (cs:List Value) (d:TypeDesc)
  (hp:tmps.getD p undef = .pointer (some ⟨g,0,none⟩)) (hg:Blk w g cs) (hu:P.underlying ty=some d) (hd:(match d with | .struct _ | .array _ _=>true | _=>false)=true) (hi:(P.info? ty).map (·.size)=some cs.length) :
  (results fn tmps).run P w = .ok (.tuple #[tmps.getD t undef,.agg cs.toArray,tmps.getD u undef]) w:=by
 obtain ⟨tt,hg⟩:=hg
 have h1:(results fn tmps).run P w=((asAddr (tmps.getD p undef)).run P w).andThen fun a w₁=>((loadVar ty a).run P w₁).andThen fun v w₂=>.ok (.tuple #[tmps.getD t undef,v,tmps.getD u undef]) w₂:=by
  simp only [results,h]
  simp [Sem.run_bind,Result.andThen]
 rw [h1,hp]
 simp only [asAddr,Sem.run_pure,Result.andThen_ok]
 rw [run_loadVar_row w g tt ty cs.toArray (0,0) d hg hu hd (by simpa using hi)]
 rfl
theorem idx_cut:∀ (L:List UInt8),Lib.indexByte L 61=match idxA 61 L with | some n=>(n:Int) | none=>-1
 | []=>rfl
 | c :: l=>by
  rw [Lib.indexByte,idxA,idx_cut l]
  by_cases h:c.toNat=61
  ·have h2:c=61:=UInt8.toNat_inj.1 h
   subst h2
   rfl
  ·have h2:(c == 61)=false:=by
    rw [beq_eq_false_iff_ne]
    intro e
    exact h (by rw [e]; rfl)
   rw [if_neg h,h2]
   cases idxA 61 l with
   | none=>rfl
   | some n =>
    have h3:((n:Int) == -1)=false:=by rw [beq_eq_false_iff_ne]; omega
    simp [h3]
theorem cut_eq (L:List UInt8):Lib.cut L [61]=match idxA 61 L with | some n=>(L.take n,L.drop (n+1),true) | none=>(L,[],false):=by
 unfold Lib.cut
 rw [Lib.index_one,idx_cut]
 cases idxA 61 L with
 | none=>rfl
 | some n =>
  dsimp only
  rw [if_pos (Int.natCast_nonneg n)]
  rfl
theorem flat_inv {α:Type} (f:α→List Value) (m:Nat) (hm:0<m) (hf:∀ a,(f a).length=m):∀ (l:List α) (j:Nat) (u:Value),(l.flatMap f)[j]?=some u→∃ i a k,l[i]?=some a∧(f a)[k]?=some u∧j=i * m+k
 | [],j,u,h=>by simp at h
 | a :: l,j,u,h=>by
  rw [List.flatMap_cons] at h
  by_cases hj:j<m
  ·rw [List.getElem?_append_left (by rw [hf]; exact hj)] at h
   exact ⟨0,a,j,rfl,h,by omega⟩
  ·rw [List.getElem?_append_right (by rw [hf]; omega),hf] at h
   obtain ⟨i,a',k,h1,h2,h3⟩:=flat_inv f m hm hf l (j - m) u h
   exact ⟨i+1,a',k,by simpa using h1,h2,by rw [Nat.succ_mul]; omega⟩
theorem parts_one (P:List APart):∀ u∈P.flatMap APart.cells,u.oneCell'=true:=by
 intro u hu
 rw [List.mem_flatMap] at hu
 obtain ⟨x,_,hx⟩:=hu
 simp only [APart.cells,List.mem_cons,List.not_mem_nil,or_false] at hx
 rcases hx with rfl | rfl | rfl | rfl | rfl <;> rfl
theorem parts_len (P:List APart):(P.flatMap APart.cells).length=P.length * 5:=by
 induction P with
 | nil=>rfl
 | cons p P ih=>rw [List.flatMap_cons,List.length_append,ih,part_cells,List.length_cons]; omega
theorem slCloneP_any (P:List APart) (g cap:Nat) (w:World) (hl:0<P.length) (hsz:P.length≤100000000) (h:PRow w g P) :
  Calls Tryz.prog 252 #[.slice (some ⟨g,0,none⟩) P.length cap] w fun e w'=>∃ v',e = .returned v'∧PartsAt w' w.heap.size v' P∧Below w.heap.size w w':=by
 obtain ⟨i0,hi0,hz0,hz1,hz2⟩:=info_parts infoAPart
 have qT:∀ (w:World) (a:Option Addr) (n c n' c':Nat),(binOp .eql 157 (.slice a n c) (.slice none n' c')).run Tryz.prog w = .ok (.bool a.isNone) w:=fun w a n c n' c'=>Lib.run_eql_slice_nil w _ _ a n c n' c' Tryz.underlying157
 have hO:PartsAt (w.alloc (.cells #[] 214)) w.heap.size (.slice (some ⟨w.heap.size,0,none⟩) 0 0) []:=by
  refine ⟨rfl,.inr ⟨w.heap.size,0,#[],rfl,Nat.le_refl _,?_,Nat.le_refl _,Nat.zero_le _,rfl,rfl⟩⟩
  show (w.heap.push _)[w.heap.size]?=_
  rw [Array.getElem?_push,if_pos rfl]
 have hr:∀ j u,(P.flatMap APart.cells)[j]?=some u→(w.alloc (.cells #[] 214)).cell? ((⟨g,0,none⟩:Addr).add j)=some u:=fun j u hu=>by
  obtain ⟨i,a,k,q1,q2,q3⟩:=flat_inv APart.cells 5 (by omega) part_cells P j u hu
  have:=bSome ((Below.refl w.heap.size w).alloc (Nat.le_refl _) (.cells #[] 214)) (h i a q1 k u q2)
  rw [← q3] at this
  cases j <;> simpa [Addr.add] using this
 have hB1:=(Below.refl w.heap.size w).alloc (Nat.le_refl _) (.cells #[] 214)
 obtain ⟨n,hn⟩:∃ n,P.length=n:=⟨_,rfl⟩
 have HN:=Lib.hid hn
 rw [hn] at hsz hl ⊢
 clear hn
 go_enter Tryz.func252,Tryz.ntmps252
 go_wp2_with (at_builtin; refine wpList_append_own _ rfl _ _ 157 rfl w.heap.size 214 i0 _ 5 48 Tryz.underlying157 hi0 hz0 hz1 hz2 rfl (by decide) _ 0 _ rfl hO ⟨g,0,none⟩ n cap (P.flatMap APart.cells) rfl (by rw [parts_len,HN.out]) hr (parts_one P) ?c3 ?c4 ?c5 ?_)
 case c3=>unfold maxLen; omega
 case c4=>omega
 case c5=>simp
 intro v' w5 hown' hgrow _
 have hO5:PartsAt w5 w.heap.size v' P:=by
  unfold PartsAt
  rw [HN.out]
  exact hown'
 have hb5:Below w.heap.size w w5:=hB1.trans ((Kept.grown (S:=fun k=>k=w.heap.size) (Kept.refl _ _) hgrow (fun k h _=>by cases h; rfl)).below (by simp) (fun i hi e=>by omega))
 go_wp2_with fail
 go_ret
 exact ⟨_,rfl,hO5,hb5⟩
theorem PartsAt.setHead {w:World} {B n:Nat} {p:APart} {P:List APart} {g cap:Nat} (h:PartsAt w B (.slice (some ⟨g,0,none⟩) n cap) (p :: P)) (s:List UInt8):PartsAt (w.setCell ⟨g,4,none⟩ (.string (bs s))) B (.slice (some ⟨g,0,none⟩) n cap) ({ p with text:=s } :: P):=by
 refine ⟨by rw [parts_len],?_⟩
 rcases h.2 with ⟨hv,h0⟩ | ⟨g',cap',cur,hv,hg,hh,hc1,hc2,hsz,ht⟩
 ·simp at h0
 ·injection hv with e1 e2 e3
  injection e1 with e1
  injection e1 with e1
  subst e1 e2 e3
  have hgl:=lt_of_block hh
  refine .inr ⟨g,cap,cur.set! 4 (.string (bs s)),by simp,hg,?_,by simpa using hc1,hc2,by simpa using hsz,?_⟩
  ·show (w.heap.modify g _)[g]?=_
   have h':w.heap[g] = .cells cur 214 (0,0):=by simpa [Array.getElem?_eq_getElem hgl] using hh
   rw [Array.getElem?_eq_getElem (by simpa using hgl),Array.getElem_modify_self,h']
   simp
  ·rw [Array.set!_eq_setIfInBounds,Array.toList_setIfInBounds,List.take_set]
   have e:({ p with text:=s } :: P).length * 5=(p :: P).length * 5:=by simp
   rw [e,ht,List.flatMap_cons,List.flatMap_cons]
   rfl
theorem PartsAt.free {w:World} {B:Nat} {v:Value} {P:List APart} (h:PartsAt w B v P) (h0:0<P.length):∃ g cap,v = .slice (some ⟨g,0,none⟩) P.length cap∧B≤g∧∀ n,w.frozen? ⟨g,n,none⟩=false:=by
 rcases h.2 with ⟨_,hz⟩ | ⟨g,cap,cur,hv,hB,hh,_⟩
 ·omega
 ·exact ⟨g,cap,hv,hB,fun n=>by simp [World.frozen?,hh]⟩
def SetOut (w:World) (t:ATok) (r:Option (List UInt8 × ATok)) (e:Ending) (w':World):Prop :=
 Below w.heap.size w w'∧match r with
 | some (s,t')=>∃ tv',e = .returned (.tuple #[.string (bs s),tv',.bool true])∧ATokV w' tv' t'
 | none=>∃ tv',e = .returned (.tuple #[.string ⟨#[]⟩,tv',.bool false])∧ATokV w' tv' t
theorem SetOut.no {w w':World} {t:ATok} {tv':Value} {r:Option (List UInt8 × ATok)} {e:Ending} (hr:r=none) (he:e = .returned (.tuple #[.string ⟨#[]⟩,tv',.bool false])) (h:ATokV w' tv' t) (hb:Below w.heap.size w w'):SetOut w t r e w':=by
 subst hr
 exact ⟨hb,tv',he,h⟩
theorem SetOut.yes {w w':World} {t t':ATok} {s:List UInt8} {tv':Value} {r:Option (List UInt8 × ATok)} {e:Ending} (hr:r=some (s,t')) (he:e = .returned (.tuple #[.string (bs s),tv',.bool true])) (h:ATokV w' tv' t') (hb:Below w.heap.size w w'):SetOut w t r e w':=by
 subst hr
 exact ⟨hb,tv',he,h⟩
theorem PartsAt.others {w w':World} {B:Nat} {v:Value} {P:List APart} (h:PartsAt w B v P) (hk:∀ k,B≤k→k<w.heap.size→w'.heap[k]?=w.heap[k]?):PartsAt w' B v P:=by
 refine ⟨h.1,?_⟩
 rcases h.2 with hh | ⟨g,cap,cur,hv,hB,hh,q⟩
 ·exact .inl hh
 ·exact .inr ⟨g,cap,cur,hv,hB,(hk g hB (lt_of_block hh)).trans hh,q⟩
theorem PartsAt.headCell {w:World} {B g n cap:Nat} {p:APart} {P:List APart} (h:PartsAt w B (.slice (some ⟨g,0,none⟩) n cap) (p :: P)):w.cell? ⟨g,4,none⟩=some (.string (bs p.text)):=by
 obtain ⟨g',cap',hv,h1,h2,h3,h4,h5⟩:=row_cell h (by simp)
 injection hv with e1 e2 e3
 injection e1 with e1
 injection e1 with e1
 subst e1
 exact h5 4 _ rfl
theorem qSetting_any (w:World) (tv:Value) (t:ATok) (hv:ATokV w tv t) (hlen:∀ x∈t.parts,x.text.length≤8192) (hP:t.parts.length≤30000) (mx:Int) (hm:w.cell? ⟨9,0,none⟩=some (.int .i64 mx)) :
  Calls Tryz.prog 237 #[tv] w (SetOut w t (settingA t)):=by
 obtain ⟨tk,tp,P⟩:=t
 obtain ⟨r,hr⟩:∃ r,settingA ⟨tk,tp,P⟩=r:=⟨_,rfl⟩
 rw [hr]
 have HV:=Lib.hid hv
 obtain ⟨v2,rfl,hps⟩:=hv
 obtain ⟨ao,pc,rfl,g1,g2,g3⟩:=id hps
 dsimp only at hlen hP hps g1 g2 g3 ⊢
 unfold settingA at hr
 dsimp only at hr
 have hb1:=((Below.refl w.heap.size w).alloc (Nat.le_refl _) (.cells #[.int .i64 tk,.int .i64 tp,.slice ao P.length pc] 161)).alloc (by simp) (.cells #[.int .i64 0,.int .i64 0,.slice none 0 0] 161)
 have hB0:=(Blk.new w [.int .i64 tk,.int .i64 tp,.slice ao P.length pc] 161).alloc (.cells #[.int .i64 0,.int .i64 0,.slice none 0 0] 161)
 have hB1:=Blk.newAt (w:=w.alloc (.cells #[.int .i64 tk,.int .i64 tp,.slice ao P.length pc] 161)) (b:=w.heap.size+1) [.int .i64 0,.int .i64 0,.slice none 0 0] 161 (by simp)
 have HNO:=Lib.hid (show ∀ (W:World),r=none→Below w.heap.size w W→Blk W (w.heap.size+1) [.int .i64 0,.int .i64 0,.slice none 0 0] →
   Blk (((W.setCell ⟨w.heap.size+1,0,none⟩ (.int .i64 tk)).setCell ⟨w.heap.size+1,1,none⟩ (.int .i64 tp)).setCell ⟨w.heap.size+1,2,none⟩ (.slice ao P.length pc)).drew (w.heap.size+1) [.int .i64 tk,.int .i64 tp,.slice ao P.length pc] ∧
   SetOut w ⟨tk,tp,P⟩ r (.returned (.tuple #[.string ⟨#[]⟩,.agg #[.int .i64 tk,.int .i64 tp,.slice ao P.length pc],.bool false])) (((W.setCell ⟨w.heap.size+1,0,none⟩ (.int .i64 tk)).setCell ⟨w.heap.size+1,1,none⟩ (.int .i64 tp)).setCell ⟨w.heap.size+1,2,none⟩ (.slice ao P.length pc)).drew from fun W hr h1 h3=>by
  have hb:=(((h1.setCell (p:=⟨w.heap.size+1,0,none⟩) (by simp) (.int .i64 tk)).setCell (p:=⟨w.heap.size+1,1,none⟩) (by simp) (.int .i64 tp)).setCell (p:=⟨w.heap.size+1,2,none⟩) (by simp) (.slice ao P.length pc)).drew
  exact ⟨(((h3.set 0 (.int .i64 tk)).set 1 (.int .i64 tp)).set 2 (.slice ao P.length pc)).drew,SetOut.no hr rfl (HV.out.below hb) hb⟩)
 clear HV
 rcases P with _ | ⟨p,ps⟩
 ·dsimp only at hr
  dsimp only [List.length_nil] at *
  have HR:=Lib.hid hr.symm
  clear hps g1 g2 g3 hlen hP hr
  go_enter Tryz.func237,Tryz.ntmps237
  go_upto_region 1 with fail
  obtain ⟨W,hW⟩:∃ W,(w.alloc (.cells #[.int .i64 tk,.int .i64 tp,.slice ao 0 pc] 161)).alloc (.cells #[.int .i64 0,.int .i64 0,.slice none 0 0] 161)=W:=⟨_,rfl⟩
  rw [hW] at hb1 hB0 hB1 ⊢
  clear hW
  have HX:=Lib.hid (HNO.out W HR.out hb1 hB1)
  have c2:=hB0.cell 2 rfl
  go_upto_region 2 with fail
  have c0:=hB0.cell 0 rfl
  have c1:=hB0.cell 1 rfl
  have c2:=hB0.cell 2 rfl
  have z0:=hB1.cell 0 rfl
  have z1:=hB1.cell 1 rfl
  have z2:=hB1.cell 2 rfl
  have f0:=hB1.free 0
  have f1:=hB1.free 1
  have f2:=hB1.free 2
  go_region
  go_wp2_with fail
  exact bodyPost_ret (results_mid (t:=2) (p:=3) (u:=4) rfl _ _ _ _ _ rfl HX.out.1 Tryz.underlying161 rfl (by kernel_rfl)) rfl HX.out.2
 ·obtain ⟨g,rfl,hg,hrow⟩:=g3 (by simp)
  obtain ⟨p0,-,-,-,p4⟩:=hrow.facts 0 p rfl
  rw [Nat.zero_mul] at p0
  rw [show 0 * 5+4=4 from rfl] at p4
  have hl1:=hlen p (by simp)
  obtain ⟨n,hn⟩:∃ n,(p :: ps).length=n:=⟨_,rfl⟩
  have HN:=Lib.hid hn
  have hn1:1≤n:=by rw [← hn]; simp
  have HROW:=Lib.hid hrow
  clear hps g3 hlen hrow
  rw [hn] at hP g1 hb1 hB0 hB1 HNO ⊢
  clear hn
  have n0:((n:Int) == 0)=false:=by rw [beq_eq_false_iff_ne]; omega
  have n1:(0:Int)<(n:Int):=by omega
  have HB1:=Lib.hid hb1
  dsimp only at hr
  by_cases hk:p.kind=1
  ·rw [if_pos hk] at hr
   have HR:=Lib.hid hr
   clear hr
   rw [hk] at p0
   go_enter Tryz.func237,Tryz.ntmps237
   go_upto_region 1 with fail
   obtain ⟨W,hW⟩:∃ W,(w.alloc (.cells #[.int .i64 tk,.int .i64 tp,.slice (some ⟨g,0,none⟩) n pc] 161)).alloc (.cells #[.int .i64 0,.int .i64 0,.slice none 0 0] 161)=W:=⟨_,rfl⟩
   rw [hW] at hb1 hB0 hB1 ⊢
   clear hW HB1
   have hsW:=hb1.size
   have p0:=bSome hb1 p0
   have p4:=bSome hb1 p4
   have hm1:=bSome hb1 hm
   have c0:=hB0.cell 0 rfl
   have c1:=hB0.cell 1 rfl
   have c2:=hB0.cell 2 rfl
   have HC:=Lib.hid (fun (w9:World)=>Tryz.strings_Cut (bs p.text) ⟨#[61]⟩ mx w9 (by rw [bs_size]; omega))
   cases hx:idxA 61 p.text with
   | none =>
    have HR2:=Lib.hid (show r=none by have h:=HR.out; rw [hx] at h; exact h.symm)
    have HCT:=Lib.hid (show Lib.cut (bs p.text).data.toList [61]=(p.text,[],false) by rw [bs_list,cut_eq,hx])
    go_upto_region 5 with (go_at_call 251; refine (HC.out _ hm1).mono ?_; rintro e w2 ⟨rfl,nd,rfl⟩; rw [show (⟨#[61]⟩:ByteArray).data.toList=[61] from rfl,HCT.out])
    have hb2:=bDrewN (Below.refl W.heap.size W) nd
    generalize W.drewN nd=W2 at *
    replace hB0:=hB0.below hb2
    replace hB1:=hB1.below hb2
    have HX:=Lib.hid (HNO.out W2 HR2.out (bNext hb1 hb2) hB1)
    clear p0 p4 hm1 c0 c1 c2 hb2
    have c0:=hB0.cell 0 rfl
    have c1:=hB0.cell 1 rfl
    have c2:=hB0.cell 2 rfl
    have z0:=hB1.cell 0 rfl
    have z1:=hB1.cell 1 rfl
    have z2:=hB1.cell 2 rfl
    have f0:=hB1.free 0
    have f1:=hB1.free 1
    have f2:=hB1.free 2
    go_region
    go_wp2_with fail
    exact bodyPost_ret (results_mid (t:=2) (p:=3) (u:=4) rfl _ _ _ _ _ rfl HX.out.1 Tryz.underlying161 rfl (by kernel_rfl)) rfl HX.out.2
   | some k =>
    have hkl:=idxA_lt _ _ _ hx
    have HCT:=Lib.hid (show Lib.cut (bs p.text).data.toList [61]=(p.text.take k,p.text.drop (k+1),true) by rw [bs_list,cut_eq,hx])
    obtain ⟨nm,hnm⟩:∃ nm,p.text.take k=nm:=⟨_,rfl⟩
    obtain ⟨rs,hrs⟩:∃ rs,p.text.drop (k+1)=rs:=⟨_,rfl⟩
    have hnl:nm.length≤8192:=by rw [← hnm,List.length_take]; omega
    rw [hnm,hrs] at HCT
    cases hnb:nameB nm with
    | false =>
     have HR2:=Lib.hid (show r=none by have h:=HR.out; rw [hx] at h; dsimp only at h; rw [hnm,hnb] at h; exact h.symm)
     go_upto_region 5 with (first
      | (go_at_call 251; refine (HC.out _ hm1).mono ?_; rintro e w2 ⟨rfl,nd,rfl⟩; rw [show (⟨#[61]⟩:ByteArray).data.toList=[61] from rfl,HCT.out])
      | (go_at_call 127; refine (tName_any (bs nm) _ (by rw [bs_size]; omega)).mono ?_; rintro e w3 ⟨rfl,rfl⟩; rw [bs_list,hnb]))
     have hb2:=bDrewN (Below.refl W.heap.size W) nd
     generalize W.drewN nd=W2 at *
     replace hB0:=hB0.below hb2
     replace hB1:=hB1.below hb2
     have HX:=Lib.hid (HNO.out W2 HR2.out (bNext hb1 hb2) hB1)
     clear p0 p4 hm1 c0 c1 c2 hb2
     have c0:=hB0.cell 0 rfl
     have c1:=hB0.cell 1 rfl
     have c2:=hB0.cell 2 rfl
     have z0:=hB1.cell 0 rfl
     have z1:=hB1.cell 1 rfl
     have z2:=hB1.cell 2 rfl
     have f0:=hB1.free 0
     have f1:=hB1.free 1
     have f2:=hB1.free 2
     go_region
     go_wp2_with fail
     exact bodyPost_ret (results_mid (t:=2) (p:=3) (u:=4) rfl _ _ _ _ _ rfl HX.out.1 Tryz.underlying161 rfl (by kernel_rfl)) rfl HX.out.2
    | true =>
     have HR2:=Lib.hid (show r=some (nm,⟨tk,tp,{ p with text:=rs } :: ps⟩) by have h:=HR.out; rw [hx] at h; dsimp only at h; rw [hnm,hrs,hnb] at h; exact h.symm)
     go_upto_region 6 with (first
      | (go_at_call 251; refine (HC.out _ hm1).mono ?_; rintro e w2 ⟨rfl,nd,rfl⟩; rw [show (⟨#[61]⟩:ByteArray).data.toList=[61] from rfl,HCT.out])
      | (go_at_call 127; refine (tName_any (bs nm) _ (by rw [bs_size]; omega)).mono ?_; rintro e w3 ⟨rfl,rfl⟩; rw [bs_list,hnb]))
     have hb2:=bDrewN (Below.refl W.heap.size W) nd
     generalize W.drewN nd=W2 at *
     replace hB0:=hB0.below hb2
     replace hB1:=hB1.below hb2
     replace hb2:=bNext hb1 hb2
     have hs2:=hb2.size
     have hl0:=hB1.lt
     clear p0 p4 hm1 c0 c1 c2 hb1 HNO HC HCT hsW
     have HCL:=Lib.hid (slCloneP_any (p :: ps) g pc W2 (by simp) (by rw [HN.out]; omega) (HROW.out.below hb2))
     rw [HN.out] at HCL
     have c2:=hB0.cell 2 rfl
     go_upto_region 7 with (go_at_call 252; refine HCL.out.mono ?_; rintro e w5 ⟨v5,rfl,hO5,hb5⟩; obtain ⟨g5,cap5,rfl,hg5,hfr5⟩:=hO5.free (by simp); rw [HN.out] at hO5 ⊢; have c2b:=bSome hb5 c2; have f2b:=(hB0.below hb5).free 2)
     replace hB0:=(hB0.below hb5).set 2 (.slice (some ⟨g5,0,none⟩) n cap5)
     replace hB1:=(hB1.below hb5).other (p:=⟨w.heap.size,2,none⟩) (by show w.heap.size≠w.heap.size+1; omega) (.slice (some ⟨g5,0,none⟩) n cap5)
     have hs5:=hb5.size
     have hb6:=(bNext hb2 hb5).setCell (p:=⟨w.heap.size,2,none⟩) (Nat.le_refl _) (.slice (some ⟨g5,0,none⟩) n cap5)
     replace hO5:=hO5.others (w':=w5.setCell ⟨w.heap.size,2,none⟩ (.slice (some ⟨g5,0,none⟩) n cap5)) fun k h1 _=>Below.heap_setCell _ _ _ _ (by show k≠w.heap.size; omega)
     have f4:(w5.setCell ⟨w.heap.size,2,none⟩ (.slice (some ⟨g5,0,none⟩) n cap5)).frozen? ⟨g5,4,none⟩=false:=by
      obtain ⟨g6,cap6,e6,_,hf6⟩:=hO5.free (by simp)
      injection e6 with e6
      injection e6 with e6
      injection e6 with e6
      subst e6
      exact hf6 4
     generalize w5.setCell ⟨w.heap.size,2,none⟩ (.slice (some ⟨g5,0,none⟩) n cap5)=W6 at *
     clear c2 c2b f2b hb5 hfr5 HCL
     have h4:=hO5.headCell
     have c2:=hB0.cell 2 rfl
     go_upto_region 8 with fail
     replace hB0:=(hB0.other (p:=⟨g5,4,none⟩) (by show g5≠w.heap.size; omega) (.string ⟨rs.toArray⟩))
     replace hB1:=(hB1.other (p:=⟨g5,4,none⟩) (by show g5≠w.heap.size+1; omega) (.string ⟨rs.toArray⟩))
     have hb7:=(hb6.setCell (p:=⟨g5,4,none⟩) (by show w.heap.size≤g5; omega) (.string ⟨rs.toArray⟩))
     have hO7:PartsAt (W6.setCell ⟨g5,4,none⟩ (.string ⟨rs.toArray⟩)) W2.heap.size (.slice (some ⟨g5,0,none⟩) n cap5) ({ p with text:=rs } :: ps):=(hO5.setHead rs).others fun _ _ _=>rfl
     refine wp_world (fun W7=>Blk W7 w.heap.size [.int .i64 tk,.int .i64 tp,.slice (some ⟨g5,0,none⟩) n cap5]∧Blk W7 (w.heap.size+1) [.int .i64 0,.int .i64 0,.slice none 0 0]∧Below w.heap.size w W7∧PartsAt W7 W2.heap.size (.slice (some ⟨g5,0,none⟩) n cap5) ({ p with text:=rs } :: ps)) ⟨hB0,hB1,hb7,hO7⟩ ?_
     clear hB0 hB1 hb7 hO7
     rintro W7 ⟨hB0,hB1,hb7,hO7⟩
     clear c2 f4 h4 hb6 hO5
     have HX:=Lib.hid (show Blk (((W7.setCell ⟨w.heap.size+1,0,none⟩ (.int .i64 tk)).setCell ⟨w.heap.size+1,1,none⟩ (.int .i64 tp)).setCell ⟨w.heap.size+1,2,none⟩ (.slice (some ⟨g5,0,none⟩) n cap5)).drew (w.heap.size+1) [.int .i64 tk,.int .i64 tp,.slice (some ⟨g5,0,none⟩) n cap5] ∧
      SetOut w ⟨tk,tp,p :: ps⟩ r (.returned (.tuple #[.string (bs nm),.agg #[.int .i64 tk,.int .i64 tp,.slice (some ⟨g5,0,none⟩) n cap5],.bool true])) (((W7.setCell ⟨w.heap.size+1,0,none⟩ (.int .i64 tk)).setCell ⟨w.heap.size+1,1,none⟩ (.int .i64 tp)).setCell ⟨w.heap.size+1,2,none⟩ (.slice (some ⟨g5,0,none⟩) n cap5)).drew from by
       have hb:=(((hb7.setCell (p:=⟨w.heap.size+1,0,none⟩) (by simp) (.int .i64 tk)).setCell (p:=⟨w.heap.size+1,1,none⟩) (by simp) (.int .i64 tp)).setCell (p:=⟨w.heap.size+1,2,none⟩) (by simp) (.slice (some ⟨g5,0,none⟩) n cap5)).drew
       refine ⟨(((hB1.set 0 (.int .i64 tk)).set 1 (.int .i64 tp)).set 2 (.slice (some ⟨g5,0,none⟩) n cap5)).drew,SetOut.yes HR2.out rfl ⟨_,rfl,PartsAt.psl (B:=W2.heap.size) (hO7.others fun k h1 _=>?_)⟩ hb⟩
       have hne:∀ (p:Addr),p.block=w.heap.size+1→k≠p.block:=fun p hp=>by omega
       exact ((Below.heap_setCell _ _ _ _ (hne ⟨w.heap.size+1,2,none⟩ rfl)).trans (Below.heap_setCell _ _ _ _ (hne ⟨w.heap.size+1,1,none⟩ rfl))).trans (Below.heap_setCell _ _ _ _ (hne ⟨w.heap.size+1,0,none⟩ rfl)))
     clear hO7 hb7
     have c0:=hB0.cell 0 rfl
     have c1:=hB0.cell 1 rfl
     have c2:=hB0.cell 2 rfl
     have z0:=hB1.cell 0 rfl
     have z1:=hB1.cell 1 rfl
     have z2:=hB1.cell 2 rfl
     have f0:=hB1.free 0
     have f1:=hB1.free 1
     have f2:=hB1.free 2
     go_region
     go_wp2_with fail
     exact bodyPost_ret (results_mid (t:=2) (p:=3) (u:=4) rfl _ _ _ _ _ rfl HX.out.1 Tryz.underlying161 rfl (by kernel_rfl)) rfl HX.out.2
  ·rw [if_neg hk] at hr
   have HR:=Lib.hid hr.symm
   clear hr
   have k1:((p.kind:Int) == 1)=false:=by rw [beq_eq_false_iff_ne]; omega
   go_enter Tryz.func237,Tryz.ntmps237
   go_upto_region 1 with fail
   obtain ⟨W,hW⟩:∃ W,(w.alloc (.cells #[.int .i64 tk,.int .i64 tp,.slice (some ⟨g,0,none⟩) n pc] 161)).alloc (.cells #[.int .i64 0,.int .i64 0,.slice none 0 0] 161)=W:=⟨_,rfl⟩
   rw [hW] at hb1 hB0 hB1 ⊢
   clear hW HB1
   have p0:=bSome hb1 p0
   have HX:=Lib.hid (HNO.out W HR.out hb1 hB1)
   have c2:=hB0.cell 2 rfl
   go_upto_region 2 with fail
   have c0:=hB0.cell 0 rfl
   have c1:=hB0.cell 1 rfl
   have c2:=hB0.cell 2 rfl
   have z0:=hB1.cell 0 rfl
   have z1:=hB1.cell 1 rfl
   have z2:=hB1.cell 2 rfl
   have f0:=hB1.free 0
   have f1:=hB1.free 1
   have f2:=hB1.free 2
   go_region
   go_wp2_with fail
   exact bodyPost_ret (results_mid (t:=2) (p:=3) (u:=4) rfl _ _ _ _ _ rfl HX.out.1 Tryz.underlying161 rfl (by kernel_rfl)) rfl HX.out.2
end Go.Proofs.YtbfeoinoepoiaaaGreatDoor
namespace Go.Proofs.YtbfeoinoepoiaaaGreatDoor
set_option maxHeartbeats 32000000
set_option maxRecDepth 100000
open Go Go.RowKit
theorem qPipe_walk {sent:Nat→Addr} (f:Nat) (ih:∀ f'≤f,QDoes sent 193 (fun ts b d i=>aCommand f' ts b d i)):QDoesN sent 160 (fun ts b d i=>aPipe (f+1) ts b d i):=by
 intro w b g cap n base i d ts r hd hi F hQ hE hr
 have hbl:=hQ.blt
 have hlen:=F.good.len
 obtain ⟨k0,hk0,hk1,hk2,hk3⟩:=info_parts infoNodes
 have HR:=Lib.hid (show aPipe (f+1) ts base d i=some r from hr.out)
 rw [aPipe] at HR
 have IH:=Lib.hid ih
 clear hr ih
 obtain ⟨nt,hnt⟩:∃ nt,aKey ts i [[33]]=nt:=⟨_,rfl⟩
 rw [hnt] at HR
 obtain ⟨j0,hj0⟩:∃ j0,(if nt=true then aSk ts i else i)=j0:=⟨_,rfl⟩
 rw [hj0] at HR
 have hj:j0<ts.length:=by
  rw [← hj0]
  split
  ·exact (aSk_le hi).2
  ·exact hi
 have hj24:=F.good.rem_le hj
 cases hq:aPipeR f ts base d j0 [] with
 | none =>
  rw [hq] at HR
  exact absurd HR.out (by simp [PRes.go])
 | some rr =>
  rw [hq] at HR
  have HQ:=Lib.hid hq
  clear hq
  go_enter Tryz.func160,Tryz.ntmps160
  go_wp2_with fail
  refine (qKey_any F (hQ.alloc _) hi [[33]] _ _ (by decide) (show Blk _ _ [Value.string ⟨#[33]⟩] from Blk.new w _ _)).mono ?_
  rintro e w1 ⟨rfl,hb1⟩
  have hb2:=bNext ((Below.refl _ w).alloc (Nat.le_refl _) _) hb1
  have hQ1:=hQ.below hb2
  have hK1:=(Kept.refl (At b) w).andBelow hb2
  rw [hnt]
  clear hQ hb1 hb2 hnt
  go_upto_if 14 with fail
  go_cut [] (fun w2=>QSt w2 b g cap ts base j0 d∧Kept (At b) w w2)
  case first =>
   cases nt with
   | true =>
    rw [if_pos rfl] at hj0
    go_wp2_with fail
    refine (qSkip_any F hQ1 hi).mono ?_
    rintro e w2 ⟨rfl,hS2,hK2⟩
    rw [hj0] at hS2
    go_wp2_with fail
    go_meet
    case rel=>exact ⟨hS2,hK1.same hK2⟩
   | false =>
    rw [if_neg (by simp)] at hj0
    subst hj0
    go_wp2_with fail
    go_meet
    case rel=>exact ⟨hQ1,hK1⟩
  case rest =>
   rename World=>w2
   obtain ⟨hS2,hK3⟩:=hcut
   clear hQ1 hK1 hj0 hi
   go_wp2_with fail
   go_loopg [5,6,7] (ts.length - j0) (fun m v cc er wr=>∃ (k fk:Nat) (L:List Prog),m=ts.length - k∧k<ts.length∧fk≤f∧L.length≤k∧L.flatten.length+8 * remA ts k≤8 * remA ts j0∧Hid (∀ l∈L,0<l.length)∧Kept (At b) w wr∧QSt wr b g cap ts base k d∧KOwn wr w.heap.size b v L∧Hid (aPipeR fk ts base d k L=some rr))
   case atStart=>exact ⟨j0,f,[],rfl,hj,Nat.le_refl _,by simp,by simp,Lib.hid (fun _ h=>nomatch h),hK3,hS2,KOwn.nil _ _ _,HQ⟩
   case round =>
    clear hS2 HQ hj hK3
    obtain ⟨k,fk,L,rfl,hk,hfk,hL1,hL2,hL3,hK,hS,hO,hr⟩:=hrel
    obtain ⟨fk,rfl⟩:∃ q,fk=q+1:=by
     cases fk with
     | zero=>have:=hr.out; rw [aPipeR] at this; cases this
     | succ q=>exact ⟨q,rfl⟩
    obtain ⟨ao,acap,rfl⟩:=hO.form
    have hE1:=hE.kept hK
    have hsz:=hK.size
    have HP:=Lib.hid hr.out
    rw [aPipeR] at HP
    clear hr
    cases hq:aCommand fk ts base d k with
    | none =>
     rw [hq] at HP
     exact absurd HP.out (by simp [PRes.go])
    | some rc =>
     rw [hq] at HP
     have HD:=Lib.hid (IH.out fk (by omega) wr b g cap n base k d ts rc hd hk F hS hE1 (Lib.hid hq))
     clear hS hE1
     go_wp2_with fail
     refine HD.out.mono ?_
     cases rc with
     | error e0 =>
      obtain ⟨c0,p0⟩:=e0
      have HX:=Lib.hid (some_err HP.out)
      have HX2:=Lib.hid (show r = .error (c0,p0) from by
       have:=HR.out
       rw [HX.out] at this
       exact some_err this)
      clear HP hq HD HR HX
      rintro e w3 ⟨hK2,v,u,j',rfl,⟨eb,rfl,q2,q3⟩,hS2,va,vn,vc,rfl⟩
      go_wp2_with fail
      go_ret2
      exact QOutN.bad HX2.out rfl ⟨eb,rfl,q2,by omega⟩ hS2 (hK.same hK2)
     | ok q =>
      obtain ⟨c,e2⟩:=q
      obtain ⟨z1,z2,z4,z3,-⟩:=((postAllA fk).command F.good base d k hk).1 c e2 hq
      have HP2:=Lib.hid (show (if aIs ts e2 [6]=true then aPipeR fk ts base d (aPass ts [1] (aSk ts e2)) (L++[c]) else pOk (L++[c]) e2)=some rr from HP.out)
      have hre:=rem_le (ts:=ts) (Nat.le_of_lt z1) (Nat.le_of_lt z2)
      have hL6:(L++[c]).length≤e2:=by rw [List.length_append,List.length_cons,List.length_nil]; omega
      have hL7:(L++[c]).flatten.length+8 * remA ts e2≤8 * remA ts j0:=by rw [flat_snoc,List.length_append]; omega
      have hL10:=Lib.hid (show L.length+1=(L++[c]).length by simp)
      have hL8:=Lib.hid (snoc_all hL3.out z4)
      have hL9:0<(L++[c]).length:=by simp
      clear HP hq
      rintro e w3 ⟨hK2,v,rfl,hN,hS2⟩
      have hK4:=hK.same hK2
      obtain ⟨us,u1,u2,u3⟩:=hO.kept hbl hK2
      have hOA:∀ o,(w3.alloc o).ownsRow w.heap.size 23 1 _ L.length us:=fun o=>ownsRow_kept u2 (Kept.ofBelow (S:=Nowhere) ((Below.refl _ w3).alloc (Nat.le_refl _) o)) (fun _ _ _ e=>e)
      have HN:=Lib.hid hN
      have hsz4:=hK4.size
      obtain ⟨gc,cc',rfl,-⟩:=hN
      clear hK hK2 hO HD
      go_wp2_with (at_builtin; refine wpList_append_own _ rfl _ _ 38 rfl w.heap.size 23 k0 _ 1 24 Tryz.underlying38 hk0 hk1 hk2 hk3 rfl (by decide) _ _ _ rfl (hOA _) ⟨w3.heap.size,0,none⟩ 1 1 [.slice (some ⟨gc,0,none⟩) c.length cc'] rfl rfl ?c1 ?c2 ?c3 ?c4 ?c5 ?_)
      case c1=>exact cells_new (by simp)
      case c2 =>
       intro u hu
       simp at hu
       subst hu
       rfl
      case c3=>unfold maxLen; omega
      case c4=>omega
      case c5=>simp; omega
      intro v6 w6 hown' hgrow _
      obtain ⟨hO6,hb6⟩:=KOwn.grown hsz4 u1 u2 u3 HN.out hown' hgrow
      have hS6:=hS2.belowB hb6 hbl
      have hK6:=hK4.belowB hb6 (Nat.le_refl _)
      have hsz6:=hK6.size
      obtain ⟨M,hM⟩:∃ M,L++[c]=M:=⟨_,rfl⟩
      rw [hM] at HP2 hL6 hL7 hL8 hL9 hL10 hO6
      replace hL10:=hL10.out
      clear hM hS2 hK4 hb6 hown' hgrow hOA u1 u2 u3 HN
      obtain ⟨g1,cap1,hd1,rfl,hc1,hu1,hN1⟩:=(hO6.ksl hbl).first hL9 hL8.out
      go_wp2_with fail
      refine (qIs_any F (hS6.alloc _) z2 [6] _ _ (by decide) (show Blk _ _ [Value.int .i64 6] from Blk.new w6 _ _)).mono ?_
      rintro e w7 ⟨rfl,hb7⟩
      have hb8:=bNext ((Below.refl _ w6).alloc (Nat.le_refl _) _) hb7
      have hS7:=hS6.below hb8
      have hO7:=hO6.below hbl hb8
      have hK7:=hK6.andBelow hb8
      have hsz7:=hK7.size
      have hu7:=bSome hb8 hu1
      have hN7:=hN1.below hb8
      clear hS6 hO6 hK6 hb7 hb8 hu1 hN1
      by_cases x0:aIs ts e2 [6]=true
      ·rw [if_pos x0] at HP2
       rw [x0]
       obtain ⟨s1,s2⟩:=askip_of F.good z2 (by decide) x0
       rw [s1] at HP2
       clear x0 hu7 hN7
       have hj:=aPass_le (ts:=ts) [1] s2
       have hre2:=rem_le (ts:=ts) (show e2≤e2+1 by omega) (Nat.le_of_lt s2)
       obtain ⟨j,hjj⟩:∃ j,aPass ts [1] (e2+1)=j:=⟨_,rfl⟩
       rw [hjj] at HP2 hj
       have hre3:=rem_le (ts:=ts) hj.1 (Nat.le_of_lt hj.2)
       go_wp2_with fail
       refine (qSkip_any F hS7 z2).mono ?_
       rintro e w8 ⟨rfl,hS8,hK8⟩
       rw [s1] at hS8
       have hO8:=hO7.kept hbl hK8
       have hK9:=hK7.same hK8
       have hsz9:=hK9.size
       clear hS7 hO7 hK7 hK8
       go_wp2_with fail
       refine (qPass_any F (hS8.alloc _) s2 [1] _ _ (by decide) (by decide) (show Blk _ _ [Value.int .i64 1] from Blk.new w8 _ _) (by omega)).mono ?_
       rintro e w9 ⟨rfl,hS9,hKa⟩
       rw [hjj] at hS9
       have hKb:=((Kept.refl (At b) w8).alloc _).same hKa
       have hO9:=hO8.kept hbl hKb
       have hKc:=hK9.same hKb
       go_wp2_with fail
       go_roundg (ts.length - j)
       case measure=>omega
       case rel=>exact ⟨j,fk,M,rfl,hj.2,by omega,by omega,by omega,hL8,hKc,hS9,hO9,HP2⟩
      ·have x0:aIs ts e2 [6]=false:=by simpa using x0
       rw [x0,if_neg (by simp)] at HP2
       rw [x0]
       have HRR:=Lib.hid (some_ok HP2.out)
       have HX:=Lib.hid HR.out
       rw [HRR.out] at HX
       have HX2:=Lib.hid (some_ok (show some (Except.ok (if nt=true then newP 27 0 [] [if 1<M.length then newP 32 0 [] M else M.headD []] else (if 1<M.length then newP 32 0 [] M else M.headD []),e2))=some r from by
        have:=HX.out
        simp only [PRes.go,pOk] at this
        exact this))
       clear HX HRR HP2 x0
       have hM1:M.length≤100000000:=by omega
       have hM2:M.flatten.length≤100000000:=by omega
       have hhd:=headD_le M
       by_cases x1:1<M.length
       ·rw [if_pos x1] at HX2
        have y1:decide ((1:Int)<(M.length:Int))=true:=by rw [decide_eq_true_eq]; omega
        have HN:=Lib.hid (cNewS_any 32 0 [] M b _ w7 (by omega) (hO7.ksl hbl) (by omega) hM1)
        have hlen:(newP 32 0 [] M).length≤50000000:=by rw [len_newP]; omega
        obtain ⟨body,hbd⟩:∃ x,newP 32 0 [] M=x:=⟨_,rfl⟩
        rw [hbd] at HX2 HN hlen
        generalize M.length=mlen at *
        obtain ⟨ga,gc',rfl,-⟩:=id hN7
        clear hN7 hO7 hbd
        go_wp2_with fail
        refine HN.out.mono ?_
        rintro e w8 ⟨v8,rfl,hN8,hb8⟩
        have hS8:=hS7.below hb8
        have hK8:=hK7.andBelow hb8
        have hsz8:=hK8.size
        obtain ⟨gd,gf,rfl,-⟩:=id hN8
        cases nt with
        | true =>
         rw [if_pos rfl] at HX2
         have HN2:=Lib.hid (fun (w9:World) (u:Value) (h1:b<w9.heap.size) (h2:NSl w9 b u body)=>cNewS_any 27 0 [] [body] b _ _ (by simp; omega) (KSl.new1 (w:=w9) (u:=u) h1 (.inl h2)) (by simp; omega) (by simp))
         go_wp2_with fail
         refine (HN2.out _ _ (by omega) hN8).mono ?_
         rintro e w9 ⟨v9,rfl,hN9,hb9⟩
         have hba:=bNext ((Below.refl _ _).alloc (Nat.le_refl _) _) hb9
         obtain ⟨gh,gi,rfl,-⟩:=id hN9
         go_wp2_with fail
         go_ret2
         exact QOutN.ok HX2.out rfl hN9 (hS8.below hba) (hK8.andBelow hba)
        | false =>
         rw [if_neg (by simp)] at HX2
         go_wp2_with fail
         go_ret2
         exact QOutN.ok HX2.out rfl hN8 hS8 hK8
       ·rw [if_neg x1] at HX2
        have y1:decide ((1:Int)<(M.length:Int))=false:=by rw [decide_eq_false_iff_not]; omega
        have hlen:(M.headD []).length≤50000000:=by omega
        obtain ⟨body,hbd⟩:∃ x,M.headD []=x:=⟨_,rfl⟩
        rw [hbd] at HX2 hN7 hlen hhd
        generalize M.length=mlen at *
        obtain ⟨gd,gf,rfl,-⟩:=id hN7
        obtain ⟨w8,hw8⟩:∃ w8,w8=w7:=⟨_,rfl⟩
        have hN8:=hN7
        have hS8:=hS7
        have hK8:=hK7
        have hsz8:=hK8.size
        clear hO7 hbd hw8
        cases nt with
        | true =>
         rw [if_pos rfl] at HX2
         have HN2:=Lib.hid (fun (w9:World) (u:Value) (h1:b<w9.heap.size) (h2:NSl w9 b u body)=>cNewS_any 27 0 [] [body] b _ _ (by simp; omega) (KSl.new1 (w:=w9) (u:=u) h1 (.inl h2)) (by simp; omega) (by simp))
         go_wp2_with fail
         refine (HN2.out _ _ (by omega) hN8).mono ?_
         rintro e w9 ⟨v9,rfl,hN9,hb9⟩
         have hba:=bNext ((Below.refl _ _).alloc (Nat.le_refl _) _) hb9
         obtain ⟨gh,gi,rfl,-⟩:=id hN9
         go_wp2_with fail
         go_ret2
         exact QOutN.ok HX2.out rfl hN9 (hS8.below hba) (hK8.andBelow hba)
        | false =>
         rw [if_neg (by simp)] at HX2
         go_wp2_with fail
         go_ret2
         exact QOutN.ok HX2.out rfl hN8 hS8 hK8
end Go.Proofs.YtbfeoinoepoiaaaGreatDoor
namespace Go.Proofs.YtbfeoinoepoiaaaGreatDoor
set_option maxHeartbeats 32000000
set_option maxRecDepth 100000
open Go Go.RowKit
theorem qChoice_walk {sent:Nat→Addr} (f:Nat) (hB:QDoesB sent (fun ts b d i s t=>aBody f ts b d i s t)):QDoes sent 214 (fun ts b d i=>aChoice (f+1) ts b d i):=by
 intro w b g cap n base i d ts r hd hi F hQ hE hr
 have HR:=Lib.hid (show aChoice (f+1) ts base d i=some r from hr.out)
 rw [aChoice] at HR
 have hbl:=hQ.blt
 have HB:=Lib.hid hB
 clear hr hB
 cases hq:aBody f ts base d i [105,102] [] with
 | none=>rw [hq] at HR; exact absurd HR.out (by simp [PRes.go])
 | some rc =>
  rw [hq] at HR
  have HC:=Lib.hid (HB.out w b g cap n base i d ts [105,102] [] rc hd hi F hQ hE (Lib.hid hq))
  go_enter Tryz.func214,Tryz.ntmps214
  go_wp2_with fail
  refine HC.out.mono ?_
  rintro e w1 ⟨hK1,h4⟩
  have hsz1:=hK1.size
  clear HC hQ
  cases rc with
  | error q =>
   obtain ⟨c,p⟩:=q
   have HX:=Lib.hid (some_err HR.out)
   obtain ⟨v,u,j,l0,rfl,h0,-,⟨eb,rfl,hEb,hle⟩,hQ2⟩:=h4
   obtain ⟨va,vc,rfl⟩:=h0.form
   clear HR
   go_wp2_with fail
   go_ret2
   exact QOut.bad HX.out rfl ⟨eb,rfl,hEb,hle⟩ hQ2 hK1 ⟨_,_,_,rfl⟩
  | ok y =>
   obtain ⟨c,j⟩:=y
   obtain ⟨v,rfl,hN,hQ1⟩:=h4
   obtain ⟨hjl,hcl⟩:=body_lenA F.good hi hq
   have hE1:=hE.kept hK1
   have HR2:=Lib.hid (show (aBody f ts base d j [116,104,101,110] []).go (fun yes k =>
   (if aKey ts k [[101,108,115,101]]=true then aBody f ts base d k [101,108,115,101] [] else pOk (seqP []) k).go fun no e =>
    wantA ts base e [102,105] fun g=>pOk (newP 24 0 [] [c,yes,no]) g)=some r from HR.out)
   clear HR hq hE
   cases hq:aBody f ts base d j [116,104,101,110] [] with
   | none=>rw [hq] at HR2; exact absurd HR2.out (by simp [PRes.go])
   | some rc2 =>
    rw [hq] at HR2
    have HC:=Lib.hid (HB.out w1 b g cap n base j d ts [116,104,101,110] [] rc2 hd hjl F hQ1 hE1 (Lib.hid hq))
    have hN1:=hN
    obtain ⟨gv,cv,rfl,-⟩:=hN
    clear hQ1
    go_wp2_with fail
    refine HC.out.mono ?_
    rintro e w2 ⟨hK2,h5⟩
    have hK3:=hK1.same hK2
    have hN2:=hN1.kept hK2
    have hE2:=hE1.kept hK2
    have hsz3:=hK3.size
    clear HC hK2 hN1 hE1 hK1
    cases rc2 with
    | error q =>
     obtain ⟨c9,p9⟩:=q
     have HX:=Lib.hid (some_err HR2.out)
     obtain ⟨v,u,j2,l0,rfl,h0,-,⟨eb,rfl,hEb,hle⟩,hQ2⟩:=h5
     obtain ⟨va,vc,rfl⟩:=h0.form
     clear HR2
     go_wp2_with fail
     go_ret2
     exact QOut.bad HX.out rfl ⟨eb,rfl,hEb,Nat.le_trans hsz1 hle⟩ hQ2 hK3 ⟨_,_,_,rfl⟩
    | ok y =>
     obtain ⟨yes,k⟩:=y
     obtain ⟨v,rfl,hNy,hQ2⟩:=h5
     obtain ⟨hkl,hyl⟩:=body_lenA F.good hjl hq
     have HR3:=Lib.hid (show (if aKey ts k [[101,108,115,101]]=true then aBody f ts base d k [101,108,115,101] [] else pOk (seqP []) k).go (fun no e =>
    wantA ts base e [102,105] fun g=>pOk (newP 24 0 [] [c,yes,no]) g)=some r from HR2.out)
     have hNy1:=hNy
     obtain ⟨gy,cy,rfl,-⟩:=hNy
     clear HR2 hq
     go_wp2_with fail
     refine (cSeq_any [] b _ w2 (by omega) (fun _ h=>nomatch h) (by simp) (by simp) (KSl.nil _ _)).mono ?_
     rintro e w4 ⟨v4,rfl,hN4,hb4⟩
     have hQ4:=hQ2.below hb4
     have hE4:=hE2.below hb4
     have hN5:=hN2.below hb4
     have hN6:=hNy1.below hb4
     have hK5:=hK3.andBelow hb4
     have hsz5:=hK5.size
     clear hQ2 hE2 hN2 hNy1 hK3 hb4
     have hN4c:=hN4
     obtain ⟨gs,cs,rfl,-⟩:=hN4c
     go_wp2_with fail
     refine (qKey_any F (hQ4.alloc _) hkl [[101,108,115,101]] _ _ (by decide) (show Blk _ _ [Value.string ⟨#[101,108,115,101]⟩] from Blk.new w4 _ _)).mono ?_
     rintro e w5 ⟨rfl,hb5⟩
     have hb6:=bNext ((Below.refl _ w4).alloc (Nat.le_refl _) _) hb5
     have hQ5:=hQ4.below hb6
     have hE5:=hE4.below hb6
     have hN7:=hN5.below hb6
     have hN8:=hN6.below hb6
     have hN9:=hN4.below hb6
     have hK6:=hK5.andBelow hb6
     have hsz6:=hK6.size
     clear hQ4 hE4 hN5 hN6 hN4 hK5 hb5 hb6
     by_cases x0:aKey ts k [[101,108,115,101]]=true
     ·rw [if_pos x0] at HR3
      rw [x0]
      clear hN9 x0
      cases hq:aBody f ts base d k [101,108,115,101] [] with
      | none=>rw [hq] at HR3; exact absurd HR3.out (by simp [PRes.go])
      | some rc3 =>
       rw [hq] at HR3
       have HC:=Lib.hid (HB.out w5 b g cap n base k d ts [101,108,115,101] [] rc3 hd hkl F hQ5 hE5 (Lib.hid hq))
       clear hQ5 HB
       go_wp2_with fail
       refine HC.out.mono ?_
       rintro e w7 ⟨hK7,h6⟩
       have hNa:=hN7.kept hK7
       have hNb:=hN8.kept hK7
       have hEa:=hE5.kept hK7
       have hKa:=hK6.same hK7
       clear HC hK7 hN7 hN8 hE5 hK6
       cases rc3 with
       | error q =>
        obtain ⟨c9,p9⟩:=q
        have HX:=Lib.hid (some_err HR3.out)
        obtain ⟨v,u,j2,l0,rfl,h0,-,⟨eb,rfl,hEb,hle⟩,hQ7⟩:=h6
        obtain ⟨va,vc,rfl⟩:=h0.form
        clear HR3
        go_wp2_with fail
        go_ret2
        exact QOut.bad HX.out rfl ⟨eb,rfl,hEb,Nat.le_trans hsz6 hle⟩ hQ7 hKa ⟨_,_,_,rfl⟩
       | ok y =>
        obtain ⟨no,m⟩:=y
        obtain ⟨v,rfl,hN9,hQ5⟩:=h6
        obtain ⟨hm,hno⟩:=body_lenA F.good hkl hq
        have HR4:=Lib.hid (show wantA ts base m [102,105] (fun g=>pOk (newP 24 0 [] [c,yes,no]) g)=some r from HR3.out)
        have hN7:=hNa
        have hN8:=hNb
        have hE5:=hEa
        have hK6:=hKa
        clear HR3 hq hNa hNb hEa hKa
        have hN9c:=hN9
        obtain ⟨ua,uc,rfl,-⟩:=hN9c
        have hNc:=hN7
        have hNy:=hN8
        have hNn:=hN9
        have hbW:=hQ5.blt
        have HN:=Lib.hid (show Calls Tryz.prog 14 #[.int .i64 24,.int .i64 0,.string ⟨#[]⟩,.slice (some ⟨w7.heap.size,0,none⟩) 3 3] (w7.alloc (.cells #[.slice (some ⟨gv,0,none⟩) c.length cv,.slice (some ⟨gy,0,none⟩) yes.length cy,.slice (some ⟨ua,0,none⟩) (no).length uc] 23)).drew fun e w'=>∃ v',e = .returned v'∧NSl w' b v' (newP 24 0 [] [c,yes,no])∧Below w7.heap.size w7 w' from by
         refine (cNewS_any 24 0 [] [c,yes,no] b _ _ (by simp; omega) ((KSl.new3 (w:=w7) (by omega) (.inl hNc) (.inl hNy) (.inl hNn)).below (Below.refl _ _).drew) (by simp at hno ⊢; omega) (by simp)).mono ?_
         rintro e w' ⟨v',q1,q2,q3⟩
         exact ⟨v',q1,q2,bNext ((Below.refl w7.heap.size w7).alloc (Nat.le_refl _) _).drew q3⟩)
        clear hN7 hN8 hN9 hNc hNy hNn
        unfold wantA at HR4
        by_cases hx:aKey ts m [[102,105]]=true
        ·rw [if_pos hx] at HR4
         have HX:=Lib.hid (some_ok HR4.out)
         have HW:=Lib.hid (show ∀ W':World,Below w7.heap.size w7 W'→Calls Tryz.prog 213 #[.pointer (some ⟨b,0,none⟩),.string (bs [102,105])] W' fun e w'=>e = .returned .nilIface∧QSt w' b g cap ts base (aSk ts m) d∧Kept (At b) W' w' from fun W' h=>qWant_yes F (hQ5.below h) hm [102,105] hx)
         clear HR4 hx
         go_wp2_with fail
         go_region_with (first
          | (go_at_call 14; refine HN.out.mono ?_; rintro e w8 ⟨v8,rfl,hNf,hb8⟩; have hNf2:=hNf; obtain ⟨g4,c4,rfl,-⟩:=hNf2)
          | (go_at_call 213; refine (HW.out _ hb8).mono ?_; rintro e w9 ⟨rfl,hQ9,hK9⟩))
         go_wp2_with fail
         go_ret2
         exact QOut.ok HX.out rfl (hNf.kept hK9) hQ9 ((hK6.andBelow hb8).same hK9)
        ·have hx:aKey ts m [[102,105]]=false:=by simpa using hx
         rw [if_neg (by rw [hx]; simp)] at HR4
         have HX:=Lib.hid (form_errA HR4.out)
         have hszW:=hK6.size
         have HW:=Lib.hid (show ∀ W':World,Below w7.heap.size w7 W'→Calls Tryz.prog 213 #[.pointer (some ⟨b,0,none⟩),.string (bs [102,105])] W' fun e w'=>∃ eb,e = .returned (.iface 58 (.pointer (some ⟨eb,0,none⟩)))∧ErrAt w' eb sent (if aIs ts m [0]=true then 109 else 108) (base+(akAt ts m).place)∧W'.heap.size≤eb∧Below W'.heap.size W' w' from fun W' h=>qWant_no F (hQ5.below h) hm [102,105] hx sent (hE5.below h).env.env)
         clear HR4 hx
         go_wp2_with fail
         go_region_with (first
          | (go_at_call 14; refine HN.out.mono ?_; rintro e w8 ⟨v8,rfl,hNf,hb8⟩; have hNf2:=hNf; obtain ⟨g4,c4,rfl,-⟩:=hNf2)
          | (go_at_call 213; refine (HW.out _ hb8).mono ?_; rintro e w9 ⟨eb,rfl,hEb,hle,hb9⟩))
         go_wp2_with fail
         go_ret2
         exact QOut.bad HX.out rfl ⟨eb,rfl,hEb,Nat.le_trans (Nat.le_trans hszW hb8.size) hle⟩ (hQ5.below (bNext hb8 hb9)) (hK6.andBelow (bNext hb8 hb9)) ⟨_,_,_,rfl⟩
     ·rw [if_neg x0] at HR3
      have x0:aKey ts k [[101,108,115,101]]=false:=by simpa using x0
      rw [x0]
      have hm:=hkl
      have hno:(seqP []).length≤200000:=by simp [seqP,newP]
      have HR4:=Lib.hid (show wantA ts base k [102,105] (fun g=>pOk (newP 24 0 [] [c,yes,seqP []]) g)=some r from HR3.out)
      clear HR3 HB
      have hNc:=hN7
      have hNy:=hN8
      have hNn:=hN9
      have hbW:=hQ5.blt
      have HN:=Lib.hid (show Calls Tryz.prog 14 #[.int .i64 24,.int .i64 0,.string ⟨#[]⟩,.slice (some ⟨w5.heap.size,0,none⟩) 3 3] (w5.alloc (.cells #[.slice (some ⟨gv,0,none⟩) c.length cv,.slice (some ⟨gy,0,none⟩) yes.length cy,.slice (some ⟨gs,0,none⟩) ((seqP [])).length cs] 23)).drew fun e w'=>∃ v',e = .returned v'∧NSl w' b v' (newP 24 0 [] [c,yes,(seqP [])])∧Below w5.heap.size w5 w' from by
       refine (cNewS_any 24 0 [] [c,yes,(seqP [])] b _ _ (by simp; omega) ((KSl.new3 (w:=w5) (by omega) (.inl hNc) (.inl hNy) (.inl hNn)).below (Below.refl _ _).drew) (by simp [newP,seqP] at hno ⊢; omega) (by simp)).mono ?_
       rintro e w' ⟨v',q1,q2,q3⟩
       exact ⟨v',q1,q2,bNext ((Below.refl w5.heap.size w5).alloc (Nat.le_refl _) _).drew q3⟩)
      clear hN7 hN8 hN9 hNc hNy hNn
      unfold wantA at HR4
      by_cases hx:aKey ts k [[102,105]]=true
      ·rw [if_pos hx] at HR4
       have HX:=Lib.hid (some_ok HR4.out)
       have HW:=Lib.hid (show ∀ W':World,Below w5.heap.size w5 W'→Calls Tryz.prog 213 #[.pointer (some ⟨b,0,none⟩),.string (bs [102,105])] W' fun e w'=>e = .returned .nilIface∧QSt w' b g cap ts base (aSk ts k) d∧Kept (At b) W' w' from fun W' h=>qWant_yes F (hQ5.below h) hm [102,105] hx)
       clear HR4 hx
       go_wp2_with fail
       go_region_with (first
        | (go_at_call 14; refine HN.out.mono ?_; rintro e w8 ⟨v8,rfl,hNf,hb8⟩; have hNf2:=hNf; obtain ⟨g4,c4,rfl,-⟩:=hNf2)
        | (go_at_call 213; refine (HW.out _ hb8).mono ?_; rintro e w9 ⟨rfl,hQ9,hK9⟩))
       go_wp2_with fail
       go_ret2
       exact QOut.ok HX.out rfl (hNf.kept hK9) hQ9 ((hK6.andBelow hb8).same hK9)
      ·have hx:aKey ts k [[102,105]]=false:=by simpa using hx
       rw [if_neg (by rw [hx]; simp)] at HR4
       have HX:=Lib.hid (form_errA HR4.out)
       have hszW:=hK6.size
       have HW:=Lib.hid (show ∀ W':World,Below w5.heap.size w5 W'→Calls Tryz.prog 213 #[.pointer (some ⟨b,0,none⟩),.string (bs [102,105])] W' fun e w'=>∃ eb,e = .returned (.iface 58 (.pointer (some ⟨eb,0,none⟩)))∧ErrAt w' eb sent (if aIs ts k [0]=true then 109 else 108) (base+(akAt ts k).place)∧W'.heap.size≤eb∧Below W'.heap.size W' w' from fun W' h=>qWant_no F (hQ5.below h) hm [102,105] hx sent (hE5.below h).env.env)
       clear HR4 hx
       go_wp2_with fail
       go_region_with (first
        | (go_at_call 14; refine HN.out.mono ?_; rintro e w8 ⟨v8,rfl,hNf,hb8⟩; have hNf2:=hNf; obtain ⟨g4,c4,rfl,-⟩:=hNf2)
        | (go_at_call 213; refine (HW.out _ hb8).mono ?_; rintro e w9 ⟨eb,rfl,hEb,hle,hb9⟩))
       go_wp2_with fail
       go_ret2
       exact QOut.bad HX.out rfl ⟨eb,rfl,hEb,Nat.le_trans (Nat.le_trans hszW hb8.size) hle⟩ (hQ5.below (bNext hb8 hb9)) (hK6.andBelow (bNext hb8 hb9)) ⟨_,_,_,rfl⟩
end Go.Proofs.YtbfeoinoepoiaaaGreatDoor
namespace Go.Proofs.YtbfeoinoepoiaaaGreatDoor
set_option maxHeartbeats 32000000
set_option maxRecDepth 100000
open Go Go.RowKit
theorem enters_live:∀ args w,(callFunc 243 args).run Tryz.prog w = .ok (.enter 243 args) w:=enters_of Tryz.func243 (by kernel_rfl) rfl
theorem qChoose_walk {sent:Nat→Addr} (f:Nat) (hV:DoesV sent 238 (fun b d t=>valueA (fun x=>aSub f b d x) b t)) (hLv:∀ f'<f,DoesV sent 243 (fun b d t=>livesA (fun x=>aSub f' b d x) b t)) (hL:∀ f'<f,QDoesN sent 74 (fun ts b d i=>aList f' ts b d i)):QDoes sent 217 (fun ts b d i=>aChoose (f+1) ts b d i):=by
 intro w b g cap n base i d ts r hd hi F hQ hE hr
 have hmf:∀ (fn:Fn) (first cap:Array Value) (w:World),(Instr.makeFunc fn first cap).run Tryz.prog w = .ok (.func fn first cap) w:=fun _ _ _ _=>rfl
 have HR:=Lib.hid (show aChoose (f+1) ts base d i=some r from hr.out)
 rw [aChoose] at HR
 obtain ⟨k0,ik0,ik1,ik2,ik3⟩:=info_parts infoNodes
 have HV:=Lib.hid hV
 have HLv:=Lib.hid hLv
 have HL:=Lib.hid hL
 have hbl:=hQ.blt
 have hlen:=F.good.len
 have h1:=(aSk_le (ts:=ts) hi).2
 obtain ⟨i1,hi1⟩:∃ q,aSk ts i=q:=⟨_,rfl⟩
 rw [hi1] at HR h1
 clear hr hV hLv hL
 cases hq:wordOf (valueA (fun x=>aSub f base d x)) ts base i1 with
 | none=>rw [hq] at HR; exact absurd HR.out (by simp [PRes.go])
 | some rc =>
 rw [hq] at HR
 go_enter Tryz.func217,Tryz.ntmps217
 go_wp2_with fail
 refine (qSkip_any F hQ hi).mono ?_
 rintro e w1 ⟨rfl,hQ1,hK1⟩
 rw [hi1] at hQ1
 have hE1:=hE.kept hK1
 have hsz1:=hK1.size
 clear hQ hi1 hi
 have HD:=Lib.hid (qWord_walk (V:=fun b d t=>valueA (fun x=>aSub f b d x) b t) 238 enters_value HV.out w1 b g cap n base i1 d ts rc hd h1 F hQ1 hE1 (Lib.hid hq))
 clear hQ1 hE1 HV
 go_wp2_with fail
 refine HD.out.mono ?_
 rintro e w2 ⟨hK2,h2⟩
 have hK3:=hK1.same hK2
 have hsz3:=hK3.size
 clear HD hK1 hK2
 cases rc with
 | error q =>
  obtain ⟨c0,p0⟩:=q
  have HX:=Lib.hid (some_err HR.out)
  obtain ⟨v,u,j,rfl,⟨eb,rfl,hEb,hle⟩,hQ2,va,vn,vc,rfl⟩:=h2
  clear HR hq
  go_wp2_with fail
  go_ret2
  exact QOut.bad HX.out rfl ⟨eb,rfl,hEb,Nat.le_trans hsz1 hle⟩ hQ2 hK3 ⟨_,_,_,rfl⟩
 | ok q =>
  obtain ⟨wd,j⟩:=q
  obtain ⟨v,rfl,hNw,hQ2⟩:=h2
  obtain ⟨y1,y2,y3,y4,y5⟩:=wordV_facts F.good h1 hq
  have hj:=aPass_le (ts:=ts) [1] y2
  have HR:=Lib.hid (show (wantA ts base (aPass ts [1] j) [105,110] fun a=>(aCases f ts base d (aPass ts [1] a) [wd]).go fun l e=>pOk (newP 30 0 [] l) e)=some r from HR.out)
  obtain ⟨j1,hjj⟩:∃ q,aPass ts [1] j=q:=⟨_,rfl⟩
  rw [hjj] at HR hj
  have hNw2:=hNw
  obtain ⟨gw,cw,rfl,-⟩:=hNw
  clear hq
  unfold wantA at HR
  go_wp2_with fail
  refine (qPass_any F (hQ2.alloc _) y2 [1] _ _ (by decide) (by decide) (show Blk _ _ [Value.int .i64 1] from Blk.new w2 _ _) (by omega)).mono ?_
  rintro e w3 ⟨rfl,hQ3,hKa⟩
  rw [hjj] at hQ3
  have hKb:=((Kept.refl (At b) w2).alloc (.cells #[Value.int .i64 1] 3)).same hKa
  have hNw3:=hNw2.kept hKb
  have hK4:=hK3.same hKb
  have hE3:=hE.kept hK4
  have hsz4:=hK4.size
  clear hQ2 hKa hKb hNw2 hK3 hjj
  cases xw:aKey ts j1 [[105,110]] with
  | false =>
   rw [xw,if_neg (by simp)] at HR
   have HX:=Lib.hid (form_errA HR.out)
   have HW:=Lib.hid (qWant_no F hQ3 hj.2 [105,110] xw sent hE3.env.env)
   clear HR
   go_wp2_with fail
   refine HW.out.mono ?_
   rintro e w6 ⟨eb,rfl,hEb,hle,hb7⟩
   go_wp2_with fail
   go_ret2
   exact QOut.bad HX.out rfl ⟨eb,rfl,hEb,Nat.le_trans hsz4 hle⟩ (hQ3.below hb7) (hK4.andBelow hb7) ⟨_,_,_,rfl⟩
  | true =>
   rw [xw,if_pos rfl] at HR
   obtain ⟨s1,s2⟩:=akey_of F.good hj.2 xw
   have HW:=Lib.hid (qWant_yes F hQ3 hj.2 [105,110] xw)
   rw [s1] at HR HW
   have hp:=aPass_le (ts:=ts) [1] s2
   have hre:=rem_le (ts:=ts) (show i1≤j1+1 by omega) (Nat.le_of_lt s2)
   have hre1:=rem_le (ts:=ts) (show j≤j1+1 by omega) (Nat.le_of_lt s2)
   clear xw s1
   go_wp2_with fail
   refine HW.out.mono ?_
   rintro e w5 ⟨rfl,hQ5,hK6⟩
   have hNw5:=hNw3.kept hK6
   have hK7:=hK4.same hK6
   have hsz7:=hK7.size
   clear hQ3 hE3 hK4 hK6 HW hNw3
   obtain ⟨p2,hpp⟩:∃ q,aPass ts [1] (j1+1)=q:=⟨_,rfl⟩
   rw [hpp] at HR hp
   have hre2:=rem_le (ts:=ts) hp.1 (Nat.le_of_lt hp.2)
   go_wp2_with fail
   refine (qPass_any F (hQ5.alloc _) s2 [1] _ _ (by decide) (by decide) (show Blk _ _ [Value.int .i64 1] from Blk.new w5 _ _) (by omega)).mono ?_
   rintro e w6 ⟨rfl,hQ6,hKa⟩
   rw [hpp] at hQ6
   have hKb:=((Kept.refl (At b) w5).alloc (.cells #[Value.int .i64 1] 3)).same hKa
   have hNw6:=hNw5.kept hKb
   have hK8:=hK7.same hKb
   have hsz8:=hK8.size
   clear hQ5 hKa hKb hNw5 hK7 hpp
   have hO6:=KOwn.one (B:=w.heap.size) (w:=w6) hsz8 hNw6
   cases hq:aCases f ts base d p2 [wd] with
   | none=>rw [hq] at HR; exact absurd HR.out (by simp [PRes.go])
   | some rr =>
    rw [hq] at HR
    have HQ:=Lib.hid hq
    have hi24:=F.good.rem_le h1
    have hfl:[wd].flatten.length+8 * remA ts p2≤8 * remA ts i1:=by simp; omega
    clear hq hNw6
    go_wp2_with fail
    have hQ7:=hQ6.alloc (.cells #[.slice (some ⟨gw,0,none⟩) wd.length cw] 23)
    have hK9:=hK8.alloc (.cells #[.slice (some ⟨gw,0,none⟩) wd.length cw] 23)
    have hsz9:w6.heap.size≤(w6.alloc (.cells #[.slice (some ⟨gw,0,none⟩) wd.length cw] 23)).heap.size:=by simp
    obtain ⟨w8,hw8⟩:∃ w8,w6.alloc (.cells #[.slice (some ⟨gw,0,none⟩) wd.length cw] 23)=w8:=⟨_,rfl⟩
    rw [hw8] at hQ7 hK9 hO6 hsz9 ⊢
    obtain ⟨q7,hq7⟩:∃ q,w6.heap.size=q:=⟨_,rfl⟩
    rw [hq7] at hO6 hsz9 ⊢
    clear hw8 hq7 hQ6 hK8 hsz8
    go_loopg [7,8,9,10] (ts.length - p2) (fun m v ws er c wr=>∃ (k fk:Nat) (L:List Prog),m=ts.length - k∧k<ts.length∧fk≤f∧L.length≤k+1∧L.flatten.length+8 * remA ts k≤8 * remA ts i1∧Hid (∀ l∈L,0<l.length)∧Kept (At b) w wr∧QSt wr b g cap ts base k d∧KOwn wr w.heap.size b v L∧Hid (aCases fk ts base d k L=some rr))
    case atStart=>exact ⟨p2,f,[wd],rfl,hp.2,Nat.le_refl _,by simp,hfl,Lib.hid (fun l hl=>by rw [List.mem_singleton] at hl; subst hl; omega),hK9,hQ7,hO6,HQ⟩
    case round =>
     clear hQ7 hO6 HQ hK9 hfl
     obtain ⟨k,fk,L,rfl,hk,hfk,hL1,hL2,hL3,hK,hS,hO,hr⟩:=hrel
     obtain ⟨fk,rfl⟩:∃ q,fk=q+1:=by
      cases fk with
      | zero=>have:=hr.out; rw [aCases] at this; cases this
      | succ q=>exact ⟨q,rfl⟩
     obtain ⟨ao,acap,rfl⟩:=hO.form
     have HP:=Lib.hid hr.out
     rw [aCases] at HP
     clear hr
     go_wp2_with fail
     refine (qKey_any F (hS.alloc _) hk [[101,115,97,99]] _ _ (by decide) (show Blk _ _ [Value.string ⟨#[101,115,97,99]⟩] from Blk.new wr _ _)).mono ?_
     rintro e w1 ⟨rfl,hb1⟩
     have hb2:=bNext ((Below.refl _ wr).alloc (Nat.le_refl _) (.cells #[Value.string ⟨#[101,115,97,99]⟩] 9)) hb1
     have hS1:=hS.below hb2
     have hO1:=hO.below hbl hb2
     have hKx:=hK.andBelow hb2
     have hszx:=hKx.size
     clear hS hO hK hb1 hb2
     cases x0:aKey ts k [[101,115,97,99]] with
     | true =>
      rw [x0,if_pos rfl] at HP
      have HRR:=Lib.hid (some_ok HP.out)
      rw [HRR.out] at HR
      have HX:=Lib.hid (some_ok HR.out)
      have HN:=Lib.hid (fun (w9:World) (h9:KOwn w9 w.heap.size b (.slice ao L.length acap) L) (hb9:b<w9.heap.size)=>cNewS_any 30 0 [] L b _ w9 hb9 (h9.ksl hbl) (by omega) (by omega))
      clear HP HRR HR x0
      go_wp2_with fail
      refine (qSkip_any F hS1 hk).mono ?_
      rintro e w2 ⟨rfl,hS2,hKy⟩
      have hO2:=hO1.kept hbl hKy
      have hKz:=hKx.same hKy
      have hszz:=hKz.size
      go_wp2_with fail
      refine (HN.out w2 hO2 (by omega)).mono ?_
      rintro e w3 ⟨v3,rfl,hN3,hb3⟩
      go_wp2_with fail
      go_ret2
      exact QOut.ok HX.out rfl hN3 (hS2.below hb3) (hKz.andBelow hb3)
     | false =>
      rw [x0,if_neg (by simp)] at HP
      clear x0
      go_wp2_with fail
      refine (qIs_any F (hS1.alloc _) hk [7] _ _ (by decide) (show Blk _ _ [Value.int .i64 7] from Blk.new w1 _ _)).mono ?_
      rintro e w2 ⟨rfl,hb2⟩
      have hb3:=bNext ((Below.refl _ w1).alloc (Nat.le_refl _) (.cells #[Value.int .i64 7] 3)) hb2
      have hS2:=hS1.below hb3
      have hO2:=hO1.below hbl hb3
      have hKy:=hKx.andBelow hb3
      have hszy:=hKy.size
      clear hS1 hO1 hKx hb2 hb3
      obtain ⟨k1,hk1e⟩:∃ q,(if aIs ts k [7]=true then aSk ts k else k)=q:=⟨_,rfl⟩
      rw [hk1e] at HP
      have hk1:k≤k1∧k1<ts.length:=by
       rw [← hk1e]
       split
       ·exact aSk_le hk
       ·exact ⟨Nat.le_refl _,hk⟩
      have hrk:=rem_le (ts:=ts) hk1.1 (Nat.le_of_lt hk1.2)
      have HK1:=Lib.hid hk1e
      clear hk1e
      obtain ⟨x7,hx7⟩:∃ x,aIs ts k [7]=x:=⟨_,rfl⟩
      rw [hx7] at HK1 ⊢
      clear hx7
      go_upto_if 54 with fail
      go_cut [] (fun w3=>QSt w3 b g cap ts base k1 d∧Kept (At b) w2 w3)
      case first =>
       cases x7 with
       | true =>
        have hk1e:=HK1.out
        rw [if_pos rfl] at hk1e
        go_wp2_with fail
        refine (qSkip_any F hS2 hk).mono ?_
        rintro e w3 ⟨rfl,hS3,hK3⟩
        rw [hk1e] at hS3
        go_wp2_with fail
        go_meet
        case rel=>exact ⟨hS3,hK3⟩
       | false =>
        have hk1e:=HK1.out
        rw [if_neg (by simp)] at hk1e
        subst hk1e
        go_wp2_with fail
        go_meet
        case rel=>exact ⟨hS2,Kept.refl _ _⟩
      case rest =>
       rename World=>w3
       obtain ⟨hS3,hK3⟩:=hcut
       have hO3:=hO2.kept hbl hK3
       have hKz:=hKy.same hK3
       have hEz:=hE.kept hKz
       have hszz:=hKz.size
       clear hS2 hO2 hKy hK3 HK1
       cases hq:wordOf (livesA (fun x=>aSub fk base d x)) ts base k1 with
       | none=>rw [hq] at HP; exact absurd HP.out (by simp [PRes.go])
       | some rw' =>
        rw [hq] at HP
        have HD:=Lib.hid (qWord_walk (V:=fun b d t=>livesA (fun x=>aSub fk b d x) b t) 243 enters_live (HLv.out fk (by omega)) w3 b g cap n base k1 d ts rw' hd hk1.2 F hS3 hEz (Lib.hid hq))
        clear hS3 hEz
        go_wp2_with fail
        refine HD.out.mono ?_
        rintro e w4 ⟨hK4,h4⟩
        have hKa:=hKz.same hK4
        have hsza:=hKa.size
        cases rw' with
        | error q =>
         obtain ⟨c0,p0⟩:=q
         have HX0:=Lib.hid (some_err HP.out)
         have HX:=Lib.hid (show r = .error (c0,p0) from by
          have:=HR.out
          rw [HX0.out] at this
          exact some_err this)
         obtain ⟨v,u,j9,rfl,⟨eb,rfl,hEb,hle⟩,hQ9,va,vn,vc,rfl⟩:=h4
         clear HP HD hq HX0 HR
         go_wp2_with fail
         go_ret2
         exact QOut.bad HX.out rfl ⟨eb,rfl,hEb,by omega⟩ hQ9 hKa ⟨_,_,_,rfl⟩
        | ok q =>
         obtain ⟨wl,jw⟩:=q
         obtain ⟨z1,z2,z3,z4,z5⟩:=wordL_facts F.good hk1.2 hq
         obtain ⟨v,rfl,hNl,hS4⟩:=h4
         have HP2:=Lib.hid (show (if aIs ts jw [8]=true then (aList fk ts base d (aSk ts jw)).go fun c e=>aCases fk ts base d (aPass ts [1] (if aIs ts e [3]=true then aSk ts e else e)) (L++[wl,c]) else formA ts base jw)=some rr from HP.out)
         have hO4:=hO3.kept hbl hK4
         have hNl4:=hNl
         obtain ⟨gl,cl,rfl,-⟩:=hNl
         clear HP HD hq hO3 hKz hK4
         go_wp2_with fail
         refine (qIs_any F (hS4.alloc _) z2 [8] _ _ (by decide) (show Blk _ _ [Value.int .i64 8] from Blk.new w4 _ _)).mono ?_
         rintro e w5 ⟨rfl,hb5⟩
         have hb6:=bNext ((Below.refl _ w4).alloc (Nat.le_refl _) (.cells #[Value.int .i64 8] 3)) hb5
         have hS5:=hS4.below hb6
         have hO5:=hO4.below hbl hb6
         have hNl5:=hNl4.below hb6
         have hKb:=hKa.andBelow hb6
         have hEb5:=hE.kept hKb
         have hszb:=hKb.size
         clear hS4 hO4 hNl4 hKa hb5 hb6
         cases x8:aIs ts jw [8] with
         | false =>
          rw [x8,if_neg (by simp)] at HP2
          have HX0:=Lib.hid (form_errA HP2.out)
          have HX:=Lib.hid (show r = .error (if aIs ts jw [0]=true then 109 else 108,base+(akAt ts jw).place) from by
           have:=HR.out
           rw [HX0.out] at this
           exact some_err this)
          have HF:=Lib.hid (qForm_any F hS5 z2 sent hEb5.env.env)
          clear HP2 HX0 HR x8
          go_wp2_with fail
          refine HF.out.mono ?_
          rintro e w6 ⟨eb,rfl,hEb,hle,hb7⟩
          go_wp2_with fail
          go_ret2
          exact QOut.bad HX.out rfl ⟨eb,rfl,hEb,by omega⟩ (hS5.below hb7) (hKb.andBelow hb7) ⟨_,_,_,rfl⟩
         | true =>
          rw [x8,if_pos rfl] at HP2
          obtain ⟨t1,t2⟩:=askip_of F.good z2 (by decide) x8
          rw [t1] at HP2
          clear x8
          go_wp2_with fail
          refine (qSkip_any F hS5 z2).mono ?_
          rintro e w6 ⟨rfl,hS6,hK6⟩
          rw [t1] at hS6
          have hO6:=hO5.kept hbl hK6
          have hNl6:=hNl5.kept hK6
          have hKc:=hKb.same hK6
          have hE6:=hE.kept hKc
          have hszc:=hKc.size
          clear hS5 hO5 hNl5 hKb hK6 hEb5
          cases hq:aList fk ts base d (jw+1) with
          | none=>rw [hq] at HP2; exact absurd HP2.out (by simp [PRes.go])
          | some rl =>
           rw [hq] at HP2
           have HD:=Lib.hid (HL.out fk (by omega) w6 b g cap n base (jw+1) d ts rl hd t2 F hS6 hE6 (Lib.hid hq))
           clear hS6 hE6
           go_wp2_with fail
           refine HD.out.mono ?_
           rintro e w7 ⟨hK7,h7⟩
           have hKd:=hKc.same hK7
           have hszd:=hKd.size
           cases rl with
           | error q =>
            obtain ⟨c0,p0⟩:=q
            have HX0:=Lib.hid (some_err HP2.out)
            have HX:=Lib.hid (show r = .error (c0,p0) from by
             have:=HR.out
             rw [HX0.out] at this
             exact some_err this)
            obtain ⟨u,j9,rfl,⟨eb,rfl,hEb,hle⟩,hQ9⟩:=h7
            clear HP2 HD hq HX0 HR
            go_wp2_with fail
            go_ret2
            exact QOut.bad HX.out rfl ⟨eb,rfl,hEb,by omega⟩ hQ9 hKd ⟨_,_,_,rfl⟩
           | ok q =>
            obtain ⟨cc,e2⟩:=q
            obtain ⟨u1',u2',u3',u4',-⟩:=((postAllA fk).list F.good base d (jw+1) t2).1 cc e2 hq
            obtain ⟨v,rfl,hNc,hS7⟩:=h7
            have hO7:=hO6.kept hbl hK7
            have hNl7:=hNl6.kept hK7
            have HNl:=Lib.hid hNl7
            have HNc:=Lib.hid hNc
            obtain ⟨gc,c9,rfl,-⟩:=hNc
            obtain ⟨us,u1,u2,u3⟩:=hO7
            have hOA:∀ o,(w7.alloc o).ownsRow w.heap.size 23 1 _ L.length us:=fun o=>ownsRow_kept u2 (Kept.ofBelow (S:=Nowhere) ((Below.refl _ w7).alloc (Nat.le_refl _) o)) (fun _ _ _ e=>e)
            have HP3:=Lib.hid (show aCases fk ts base d (aPass ts [1] (if aIs ts e2 [3]=true then aSk ts e2 else e2)) (L++[wl,cc])=some rr from HP2.out)
            have hHL:=Lib.hid (show ∀ l∈L++[wl,cc],0<l.length from fun l hl=>by
             rcases List.mem_append.1 hl with hl | hl
             ·exact hL3.out l hl
             ·simp only [List.mem_cons,List.not_mem_nil,or_false] at hl
              rcases hl with rfl | rfl
              ·exact z3
              ·exact u3')
            have hrj:=remA_step z2
            unfold wtT at hrj
            have hM2:(L++[wl,cc]).flatten.length+8 * remA ts e2≤8 * remA ts i1:=by
             rw [List.flatten_append,List.length_append]
             simp only [List.flatten_cons,List.flatten_nil,List.append_nil,List.length_append]
             omega
            have hM1:(L++[wl,cc]).length≤e2+1:=by simp; omega
            clear hO6 hNl6 hNl7 HP2 HD hq hKc hK7
            go_wp2_with (at_builtin; refine wpList_append_own _ rfl _ _ 38 rfl w.heap.size 23 k0 _ 1 24 Tryz.underlying38 ik0 ik1 ik2 ik3 rfl (by decide) _ _ _ rfl (hOA _) ⟨w7.heap.size,0,none⟩ 2 2 [.slice (some ⟨gl,0,none⟩) wl.length cl,.slice (some ⟨gc,0,none⟩) cc.length c9] rfl rfl ?c1 ?c2 ?c3 ?c4 ?c5 ?_)
            case c1=>exact cells_new (by simp)
            case c2 =>
             intro u hu
             simp at hu
             rcases hu with rfl | rfl <;> rfl
            case c3=>unfold maxLen; omega
            case c4=>omega
            case c5=>simp; omega
            intro v8 w8 hown' hgrow _
            obtain ⟨hO8,hb8⟩:=KOwn.grown2 (w0:=w) hszd u1 u2 u3 HNl.out HNc.out hown' hgrow
            have hS8:=hS7.belowB hb8 hbl
            have hKe:=hKd.belowB hb8 (Nat.le_refl _)
            have hsze:=hKe.size
            obtain ⟨M,hM⟩:∃ M,L++[wl,cc]=M:=⟨_,rfl⟩
            rw [hM] at hO8 HP3 hHL hM1 hM2
            obtain ⟨ao9,ac9,rfl⟩:=hO8.form
            clear hOA u1 u2 u3 hown' hgrow hS7 hKd HNl HNc hM hb8
            go_wp2_with fail
            refine (qIs_any F (hS8.alloc _) u2' [3] _ _ (by decide) (show Blk _ _ [Value.int .i64 3] from Blk.new w8 _ _)).mono ?_
            rintro e w9 ⟨rfl,hb9⟩
            have hba:=bNext ((Below.refl _ w8).alloc (Nat.le_refl _) (.cells #[Value.int .i64 3] 3)) hb9
            have hS9:=hS8.below hba
            have hO9:=hO8.below hbl hba
            have hKf:=hKe.andBelow hba
            have hszf:=hKf.size
            clear hS8 hO8 hKe hb9 hba
            obtain ⟨e3,he3⟩:∃ q,(if aIs ts e2 [3]=true then aSk ts e2 else e2)=q:=⟨_,rfl⟩
            rw [he3] at HP3
            have he3b:e2≤e3∧e3<ts.length:=by
             rw [← he3]
             split
             ·exact aSk_le u2'
             ·exact ⟨Nat.le_refl _,u2'⟩
            have hre3:=rem_le (ts:=ts) he3b.1 (Nat.le_of_lt he3b.2)
            have HE3:=Lib.hid he3
            obtain ⟨x3,hx3⟩:∃ x,aIs ts e2 [3]=x:=⟨_,rfl⟩
            rw [hx3] at HE3 ⊢
            clear hx3 he3
            go_upto_if 100 with fail
            go_cut [] (fun wa=>QSt wa b g cap ts base e3 d∧Kept (At b) w9 wa)
            case first =>
             cases x3 with
             | true =>
              have he3:=HE3.out
              rw [if_pos rfl] at he3
              go_wp2_with fail
              refine (qSkip_any F hS9 u2').mono ?_
              rintro e wa ⟨rfl,hSa,hKg⟩
              rw [he3] at hSa
              go_wp2_with fail
              go_meet
              case rel=>exact ⟨hSa,hKg⟩
             | false =>
              have he3:=HE3.out
              rw [if_neg (by simp)] at he3
              subst he3
              go_wp2_with fail
              go_meet
              case rel=>exact ⟨hS9,Kept.refl _ _⟩
            case rest =>
             rename World=>wa
             obtain ⟨hSa,hKg⟩:=hcut
             have hOa:=hO9.kept hbl hKg
             have hKh:=hKf.same hKg
             have hszh:=hKh.size
             have hp9:=aPass_le (ts:=ts) [1] he3b.2
             obtain ⟨e4,he4⟩:∃ q,aPass ts [1] e3=q:=⟨_,rfl⟩
             rw [he4] at HP3 hp9
             have hre4:=rem_le (ts:=ts) hp9.1 (Nat.le_of_lt hp9.2)
             clear hS9 hO9 hKf hKg HE3
             go_wp2_with fail
             refine (qPass_any F (hSa.alloc _) he3b.2 [1] _ _ (by decide) (by decide) (show Blk _ _ [Value.int .i64 1] from Blk.new wa _ _) (by omega)).mono ?_
             rintro e wb ⟨rfl,hSb,hKi⟩
             rw [he4] at hSb
             have hKj:=((Kept.refl (At b) wa).alloc (.cells #[Value.int .i64 1] 3)).same hKi
             have hOb:=hOa.kept hbl hKj
             have hKk:=hKh.same hKj
             go_wp2_with fail
             go_roundg (ts.length - e4)
             case measure=>omega
             case rel=>exact ⟨e4,fk,M,rfl,hp9.2,by omega,by omega,by omega,hHL,hKk,hSb,hOb,HP3⟩
end Go.Proofs.YtbfeoinoepoiaaaGreatDoor
