/- The document's Lex of dialect B. -/
import Derived.Test.YtbplbehhlbkklaaGreatDoorGZKit
import Derived.Test.YtbplbehhlbkklaaGreatDoorGZLexO
import Derived.Test.YtbplbehhlbkklaaGreatDoorGZA
import Derived.Deep.CutBlock
import Derived.Deep.RegionHeld3
import Derived.Deep.DeepCutAuto
namespace Go.Proofs.YtbplbehhlbkklaaGreatDoor
open Go Go.RowKit
theorem infoZTok:(Tryz.prog.info? 95).map (fun i=>(i.zero,i.size,i.bytes))=some (some (.agg #[.int .i64 0,.int .i64 0,.int .i64 0,.string ⟨#[]⟩,.bool false]),5,48):=by kernel_rfl
def ZToks (w:World) (B:Nat) (v:Value) (ts:List BTok):Prop:=w.ownsRow B 95 5 v ts.length (ts.flatMap BTok.cells)
theorem ZToks.below {w w':World}{B:Nat}{v:Value}{ts:List BTok}(h:ZToks w B v ts)(hb:Below w.heap.size w w'):ZToks w' B v ts:=ownsRow_kept h (Kept.ofBelow (S:=Nowhere) hb) (fun _ _ _ e=>e)
theorem ZToks.form {w:World}{B:Nat}{v:Value}{ts:List BTok}(h:ZToks w B v ts):∃ ao cap,v = .slice ao ts.length cap:=by
 rcases h.2 with ⟨hv,h0⟩ | ⟨g,cap,cur,hv,_⟩
 ·exact⟨none,0,by rw[hv,h0]⟩
 ·exact⟨_,_,hv⟩
theorem ZToks.mono {w:World}{B B':Nat}{v:Value}{ts:List BTok}(h:ZToks w B v ts)(hB:B'≤B):ZToks w B' v ts:=by
 refine ⟨h.1,?_⟩
 rcases h.2 with h2 | ⟨g,cap,cur,hv,hg,r⟩
 ·exact .inl h2
 ·exact .inr ⟨g,cap,cur,hv,Nat.le_trans hB hg,r⟩
theorem ZToks.setRow {w:World}{B' G:Nat}{v u1 u2:Value}{ts:List BTok}(h:ZToks w B' v ts)(hG:G<B'):ZToks ((w.setCell ⟨G,0,none⟩ u1).setCell ⟨G,1,none⟩ u2) B' v ts:=ownsRow_kept h (Kept.setCell (S:=fun k=>k=G) (p:=⟨G,1,none⟩) (Kept.setCell (S:=fun k=>k=G) (p:=⟨G,0,none⟩) (Kept.refl _ _) (fun _=>rfl) _) (fun _=>rfl) _) (fun k hk _ e=>by rw[e] at hk;omega)
def ZLexOut (w:World) (T:Except (Nat×Nat) (List BTok)) (e:Ending) (w':World):Prop:=Below w.heap.size w w'∧match T with
 | .ok ts=>∃ v,e = .returned (.tuple #[v,.agg #[.int .i64 0,.slice none 0 0]])∧ZToks w' w.heap.size v ts
 | .error (c,p)=>∃ fb,e = .returned (.tuple #[.slice none 0 0,.agg #[.int .i64 c,.slice (some ⟨fb,0,none⟩) 1 1]])∧w'.heap[fb]?=some (.cells #[.int .i64 p] 3 (0,0))∧w.heap.size≤fb
def endZ (ts:List BTok) (k:Nat):Int:=if ts.isEmpty=true then -1 else (k:Int)
theorem endZ_eq (ts:List BTok)(k j:Nat):((endZ ts k==(j:Int)):Bool)=(!ts.isEmpty&&k==j):=by
 unfold endZ
 cases ts.isEmpty with
 | true =>
  rw[if_pos rfl,Bool.not_true,Bool.false_and,beq_eq_false_iff_ne];omega
 | false =>
  rw[if_neg (by simp),Bool.not_false,Bool.true_and,Bool.eq_iff_iff,beq_iff_eq,beq_iff_eq]
  omega
theorem endZ_snoc (ts:List BTok)(t:BTok)(k:Nat):endZ (ts++[t]) k=(k:Int):=by
 unfold endZ;rw[if_neg (by simp)]
theorem lex_err {f:Nat}{l:List UInt8}{k j:Nat}{ts:List BTok}{T:Except (Nat×Nat) (List BTok)}(h:lexRest (f+1) l k ts=T)(hj:k+skipN false (l.drop k)=j){c p:Nat}(ht:tokenB (l.drop j) j = .error (c,p)):T = .error (c,p):=by
 rw[← h,lexRest_step f l k j ts hj,ht]
theorem lex_tok {f:Nat}{l:List UInt8}{k j:Nat}{ts:List BTok}{T:Except (Nat×Nat) (List BTok)}(h:lexRest (f+1) l k ts=T)(hj:k+skipN false (l.drop k)=j){tk tn n:Nat}{tx:List UInt8}(ht:tokenB (l.drop j) j = .ok (⟨tk,j,tn,tx,false⟩,n))(h0:tk≠0):lexRest f l (j+n) (ts++[⟨tk,j,tn,tx,!ts.isEmpty&&k==j⟩])=T:=by
 rw[← h,lexRest_step f l k j ts hj,ht];show _=if tk=0 then _ else _
 rw[if_neg h0]
theorem lex_end {f:Nat}{l:List UInt8}{k j:Nat}{ts:List BTok}{T:Except (Nat×Nat) (List BTok)}(h:lexRest (f+1) l k ts=T)(hj:k+skipN false (l.drop k)=j)(hl:l.length≤j):T = .ok (ts++[⟨0,j,0,[],!ts.isEmpty&&k==j⟩]):=by
 rw[← h,lexRest_step f l k j ts hj,List.drop_of_length_le hl];rfl
section
set_option maxHeartbeats 64000000
set_option maxRecDepth 100000
theorem z12Lex_any (s:ByteArray)(w:World)(hs:s.size≤8192)(T:Except (Nat×Nat) (List BTok))(hT:lexB (s.size+1) true s.data.toList 0=T):Calls Tryz.prog 19 #[.string s] w (ZLexOut w T):=by
 obtain⟨i0,hi0,hz0,hz1,hz2⟩:=info_parts infoZTok;obtain⟨l,hl⟩:∃ l,s.data.toList=l:=⟨_,rfl⟩;have HL:=Lib.hid hl;have hll:l.length=s.size:=by rw[← hl,size_eq]
 have HLL:=Lib.hid hll;have HDR:=Lib.hid (fun (p:Nat) (h:p<s.size)=>show l.drop p=s[p] :: l.drop (p+1) from by rw[getElem_bat s p h,← hl];exact drop_bat s p h)
 have HGE:=Lib.hid (fun (i:Nat) (h:i<s.size) (h2:i<l.length)=>show l[i]=s[i] from by
  have h9:=HDR.out i h;rw[zdrop_at h2] at h9;injection h9)
 have HT0:=Lib.hid (show lexRest (s.size+1) l 0 []=T from by
  rw[← hT,← hl,lexRest];simp only[List.isEmpty_nil,List.drop_zero,List.nil_append]
  cases lexB (s.size+1) true s.data.toList 0 <;> rfl)
 have hR0:=Blk.new w [Value.int .i64 0,.slice none 0 0] 30;have hb0:=(Below.refl w.heap.size w).alloc (Nat.le_refl _) (.cells #[.int .i64 0,.slice none 0 0] 30);clear hT hl hll;go_enter Tryz.func19,Tryz.ntmps19
 go_wp2_with fail
 refine (z12operators_any _).mono ?_;rintro e wB ⟨g1,g2,rfl,hG1,hG2,hg1,hg2,hbB⟩;have hRB:=hR0.below hbB;have hBB:=bNext hb0 hbB;obtain⟨rb,hrb⟩:∃ rb,w.heap.size=rb:=⟨_,rfl⟩;rw[hrb] at hRB ⊢;have hrl:=hRB.lt;have hg1l:=hG1.lt;have hg2l:=hG2.lt;have HG1:=Lib.hid hG1;have HG2:=Lib.hid hG2;have HRB:=Lib.hid hRB;have HBB:=Lib.hid hBB;obtain⟨B,hB⟩:∃ B,wB.heap.size=B:=⟨_,rfl⟩;have HBE:=Lib.hid hB;rw[hB] at hrl hg1l hg2l;have HCELL:=Lib.hid (fun (W:World) (h:Below B wB W) (a:Addr) (v:Value) (hv:wB.cell? a=some v)=>show W.cell? a=some v from bSome (by rw[hB];exact h) hv)
 have HRBW:=Lib.hid (fun (W:World) (h:Below B wB W)=>show Blk W rb [.int .i64 0,.slice none 0 0] from hRB.below (by rw[hB];exact h))
 clear hb0 hbB hR0 hRB hBB hG1 hG2 hg1 hg2 hB;go_upto_block 0 with fail
 go_wp2_with fail
 go_loopg [6,7,8] (s.size+1) (fun m v6 s7 s8 wr=>∃ (k p f:Nat) (ts:List BTok),m=s.size+1 - p∧k≤p∧p≤s.size∧s.size - k<f∧ts.length≤k∧s7 = .int .i64 p∧s8 = .int .i64 (endZ ts k)∧ZToks wr B v6 ts∧Below B wB wr∧Hid (lexRest f l k ts=T)∧Hid (k+skipN false (l.drop k)=p+skipN false (l.drop p)))
 case atStart=>exact⟨0,0,s.size+1,[],rfl,Nat.le_refl _,Nat.zero_le _,by omega,Nat.zero_le _,rfl,rfl,World.ownsRow_nil _ _ _ _,by have h:=Below.refl wB.heap.size wB;rw[HBE.out] at h;exact h,HT0,Lib.hid rfl⟩
 case round =>
  obtain⟨k,p,f,ts,rfl,hkp,hps,hkf,htl,rfl,rfl,hO,hbr,hrest,hskip⟩:=hrel;obtain⟨ao,cap,rfl⟩:=hO.form
  by_cases hlt:p<s.size
  ·have hd:=HDR.out p hlt;obtain⟨c,hcc⟩:∃ c,s[p]=c:=⟨_,rfl⟩;rw[hcc] at hd;have HD:=Lib.hid hd;clear hd
   by_cases h32:c.toNat=32∨c.toNat=9
   ·have HSK:=Lib.hid (hskip.out.trans (zskip_blank HD.out h32));as_aux_lemma =>
    rcases h32 with h32 | h9
    ·have e32:((c.toNat:Int)==32)=true:=by rw[beq_iff_eq];omega
     go_wp2_with fail
     go_roundg (s.size+1 - (p+1))
     case measure=>omega
     case rel=>exact⟨k,p+1,f,ts,rfl,by omega,by omega,hkf,htl,by go_num,rfl,hO,hbr,hrest,HSK⟩
    ·have e32:((c.toNat:Int)==32)=false:=by rw[beq_eq_false_iff_ne];omega
     have e9:((c.toNat:Int)==9)=true:=by rw[beq_iff_eq];omega
     go_wp2_with fail
     go_roundg (s.size+1 - (p+1))
     case measure=>omega
     case rel=>exact⟨k,p+1,f,ts,rfl,by omega,by omega,hkf,htl,by go_num,rfl,hO,hbr,hrest,HSK⟩
   ·have e32:((c.toNat:Int)==32)=false:=by rw[beq_eq_false_iff_ne];omega
    have e9:((c.toNat:Int)==9)=false:=by rw[beq_eq_false_iff_ne];omega
    by_cases h35:c.toNat=35
    ·--<<
     as_aux_lemma =>
     have e35:((c.toNat:Int)==35)=true:=by rw[beq_iff_eq];omega
     have HSK:=Lib.hid (hskip.out.trans (zskip_hash HD.out h35));have HNT:=Lib.hid (show ¬ c.toNat=10 from by omega)
     clear h32 h35 hskip;go_wp2_with fail
     go_loopg [7] (s.size+1 - p) (fun m s7 wx=>∃ q:Nat,m=s.size+1 - q∧p≤q∧q≤s.size∧s7 = .int .i64 q∧wx=wr∧Hid (k+skipN false (l.drop k)=q+skipN true (l.drop q)))
     case atStart=>exact⟨p,rfl,Nat.le_refl _,hps,rfl,rfl,HSK⟩
     case round =>
      obtain⟨q,rfl,hpq,hqs,rfl,rfl,hsq⟩:=hrel;rename World=>wr
      by_cases hql:q<s.size
      ·have hdq:=HDR.out q hql;obtain⟨d,hdd⟩:∃ d,s[q]=d:=⟨_,rfl⟩;rw[hdd] at hdq;have HDQ:=Lib.hid hdq;clear hdq
       by_cases h10:d.toNat=10
       ·have e10:((d.toNat:Int) != 10)=false:=by rw[bne_eq_false_iff_eq];omega
        have hqp:p<q:=by
         by_cases e:q=p
         ·subst e;rw[hcc] at hdd;rw[hdd] at HNT;exact absurd h10 HNT.out
         ·omega
        have HSL:=Lib.hid (show k+skipN false (l.drop k)=q+skipN false (l.drop q) from by have h:=zskip_line HDQ.out h10;have h2:=hsq.out;omega)
        clear h10;go_wp2_with fail
        go_roundg (s.size+1 - q)
        case measure=>omega
        case rel=>exact⟨k,q,f,ts,rfl,by omega,by omega,hkf,htl,rfl,rfl,hO,hbr,hrest,HSL⟩
       ·have e10:((d.toNat:Int) != 10)=true:=by rw[bne_iff_ne];omega
        have HSN:=Lib.hid (hsq.out.trans (zskip_in HDQ.out h10));clear h10;go_wp2_with fail
        go_roundg (s.size+1 - (q+1))
        case measure=>omega
        case rel=>exact⟨q+1,rfl,by omega,by omega,by go_num,rfl,HSN⟩
      ·obtain rfl:q=s.size:=by omega
       have HSL:=Lib.hid (show k+skipN false (l.drop k)=s.size+skipN false (l.drop s.size) from by
        have h2:=hsq.out;have e1:l.drop s.size=[]:=List.drop_of_length_le (by rw[HLL.out];exact Nat.le_refl _)
        rw[e1] at h2 ⊢;exact h2)
       go_wp2_with fail
       go_roundg (s.size+1 - s.size)
       case measure=>omega
       case rel=>exact⟨k,s.size,f,ts,rfl,by omega,by omega,hkf,htl,rfl,rfl,hO,hbr,hrest,HSL⟩
    ·have e35:((c.toNat:Int)==35)=false:=by rw[beq_eq_false_iff_ne];omega
     obtain⟨f,rfl⟩:∃ f',f=f'+1:=⟨f - 1,by omega⟩
     have HJ:=Lib.hid (show k+skipN false (l.drop k)=p from by rw[hskip.out,zskip_not HD.out h32 h35,Nat.add_zero])
     have HFR:=Lib.hid (show ¬ (c.toNat=32∨c.toNat=9∨c.toNat=35) from by omega)
     obtain⟨G,hG⟩:∃ G,(!ts.isEmpty&&k==p)=G:=⟨_,rfl⟩;have eG:(endZ ts k==(p:Int))=G:=by rw[endZ_eq,hG]
     have HG:=Lib.hid hG;clear h32 h35 hskip hG;obtain⟨R,hR⟩:∃ R,opFind opsZ (l.drop p)=R:=⟨_,rfl⟩;have HR:=Lib.hid hR;obtain⟨tb,htb⟩:∃ tb,wr.heap.size=tb:=⟨_,rfl⟩;have HTB:=Lib.hid htb;have hbt:=(Below.refl wr.heap.size wr).alloc (Nat.le_refl _) (.cells #[.int .i64 0,.int .i64 p,.int .i64 0,.string ⟨#[]⟩,.bool G] 95);have hBt:=Blk.new wr [Value.int .i64 0,.int .i64 p,.int .i64 0,.string ⟨#[]⟩,.bool G] 95;rw[htb] at hBt hbt;clear hR;have hBtb:B≤tb:=by have:=hbr.size;have:=HBE.out;omega
     have HB1:=Lib.hid (show ∀ W,Below tb wr W→Blk W g1 (opsZ.map fun x=>Value.string (bs x.1)) from fun W h=>HG1.out.below (by rw[HBE.out];exact hbr.trans (h.mono hBtb)))
     have HB2:=Lib.hid (show ∀ W,Below tb wr W→Blk W g2 (opsZ.map fun x=>Value.int .i64 x.2) from fun W h=>HG2.out.below (by rw[HBE.out];exact hbr.trans (h.mono hBtb)))
     have HB3:=Lib.hid (show ∀ W,Below tb wr W→Blk W rb [.int .i64 0,.slice none 0 0] from fun W h=>HRBW.out W (hbr.trans (h.mono hBtb)))
     go_upto_block 4 with fail
     refine zlex_op s l HL (by omega) p tb g1 g2 G R wr _ hlt HR hBt hbt (by omega) (by omega) (by omega) HB1 HB2 ?_
     intro z7 z11 z56 z57 z58 z59 z60 z61 z62 z63 z64 z65 z66 z67 z68 z69 z70 z71 z72 z73 z74 z75 z76 z77 z78 z79 z80 z81 z82 z83 z84 z85 z86 z87 z88 z89 z90 z91 z92 z93 z94 z95 z96 z97 z98 z99 z100 z101 z102 z103 z104 z105 w5 hcut
     (try simp only[Exit.then])
     obtain⟨rfl,hB5,hb5⟩:=hcut;clear hBt hbt;have hbB5:Below B wB w5:=hbr.trans (hb5.mono hBtb);obtain⟨o,kd⟩:=R;dsimp only at hB5 ⊢
     rcases op_is (l.drop p) HR.out with ⟨ho,hk⟩ | ⟨ho,hk,hol⟩
     ·subst ho hk;rw[show p+([]:List UInt8).length=p from rfl]
      have t0:w5.cell? ⟨tb,0,none⟩=some (.int .i64 0):=hB5.cell 0 rfl
      by_cases hbad:c.toNat=38∨c.toNat=96
      ·--<<
       have HTE:=Lib.hid (lex_err hrest.out HJ.out (tok_bad HD.out HR.out hbad));have hRB5:=HRBW.out w5 hbB5
       rcases hbad with hbad | hbad
       ·have e38:((c.toNat:Int)==38)=true:=by rw[beq_iff_eq];omega
        clear hbad;go_wp2_with fail
        have hRx:=hRB5.below (show Below w5.heap.size w5 w5 from Below.refl _ _)
        refine (rPlacedT_any 107 (p:Int) (by decide) _).mono ?_
        rintro e w9 ⟨fb,rfl,hfb,hge,hb9⟩;have hR9:=hRB5.below hb9;have r0:=hR9.cell 0 rfl;have r1:=hR9.cell 1 rfl;have rf0:=hR9.free 0;have rf1:=hR9.free 1;have hszB:=hbB5.size;have hszW:=HBB.out.size;go_wp2_with fail
        refine bodyPost_ret (results_tc (t:=2) (p:=3) (g:=rb) (cs:=[.int .i64 107,.slice (some ⟨fb,0,none⟩) 1 1]) rfl _ _ _ rfl ((hR9.set 0 (.int .i64 107)).set 1 (.slice (some ⟨fb,0,none⟩) 1 1)) Tryz.underlying30 rfl (by kernel_rfl)) rfl ?_
        have hbz:Below w.heap.size w w9:=HBB.out.trans ((hbB5.trans (hb9.mono (by have:=HBE.out;omega))).mono (by have:=HBE.out;omega))
        refine ⟨(hbz.setCell (p:=⟨rb,0,none⟩) (by rw[hrb];exact Nat.le_refl _) _).setCell (p:=⟨rb,1,none⟩) (by rw[hrb];exact Nat.le_refl _) _,?_⟩
        rw[HTE.out];have hfbr:fb≠rb:=by have:=HBE.out;omega
        exact⟨fb,rfl,(Below.heap_setCell _ _ _ _ (by show fb≠rb;exact hfbr)).trans ((Below.heap_setCell _ _ _ _ (by show fb≠rb;exact hfbr)).trans hfb),by have:=HBE.out;omega⟩
       ·have e38:((c.toNat:Int)==38)=false:=by rw[beq_eq_false_iff_ne];omega
        have e96:((c.toNat:Int)==96)=true:=by rw[beq_iff_eq];omega
        clear hbad;go_wp2_with fail
        have hRx:=hRB5.below (show Below w5.heap.size w5 w5 from Below.refl _ _)
        refine (rPlacedT_any 107 (p:Int) (by decide) _).mono ?_
        rintro e w9 ⟨fb,rfl,hfb,hge,hb9⟩;have hR9:=hRB5.below hb9;have r0:=hR9.cell 0 rfl;have r1:=hR9.cell 1 rfl;have rf0:=hR9.free 0;have rf1:=hR9.free 1;have hszB:=hbB5.size;have hszW:=HBB.out.size;go_wp2_with fail
        refine bodyPost_ret (results_tc (t:=2) (p:=3) (g:=rb) (cs:=[.int .i64 107,.slice (some ⟨fb,0,none⟩) 1 1]) rfl _ _ _ rfl ((hR9.set 0 (.int .i64 107)).set 1 (.slice (some ⟨fb,0,none⟩) 1 1)) Tryz.underlying30 rfl (by kernel_rfl)) rfl ?_
        have hbz:Below w.heap.size w w9:=HBB.out.trans ((hbB5.trans (hb9.mono (by have:=HBE.out;omega))).mono (by have:=HBE.out;omega))
        refine ⟨(hbz.setCell (p:=⟨rb,0,none⟩) (by rw[hrb];exact Nat.le_refl _) _).setCell (p:=⟨rb,1,none⟩) (by rw[hrb];exact Nat.le_refl _) _,?_⟩
        rw[HTE.out];have hfbr:fb≠rb:=by have:=HBE.out;omega
        exact⟨fb,rfl,(Below.heap_setCell _ _ _ _ (by show fb≠rb;exact hfbr)).trans ((Below.heap_setCell _ _ _ _ (by show fb≠rb;exact hfbr)).trans hfb),by have:=HBE.out;omega⟩
      ·have e38:((c.toNat:Int)==38)=false:=by rw[beq_eq_false_iff_ne];omega
       have e96:((c.toNat:Int)==96)=false:=by rw[beq_eq_false_iff_ne];omega
       have HNB:=Lib.hid hbad;clear hbad;go_upto_block 6 with fail
       refine zlex_switch s l HL (by omega) p tb rb G c wr w5 hlt HD HR hB5 hb5 (by omega) (by omega) HB3 HNB HFR ?_ ?_
       ·--<<
        intro z2 z7 z13 z124 z125 z126 z127 z128 z129 z130 z131 z132 z133 z134 z135 z136 z137 z138 z139 z140 z141 z142 z143 z144 z145 z146 z147 z148 z149 z150 z151 z152 z153 z154 z155 z156 z157 z158 z159 z160 z161 z162 z163 z164 z165 z166 z167 z168 z169 z170 z171 z172 z173 z174 z175 z176 z177 z178 z179 z180 z181 z182 z183 z184 z185 z186 z187 z188 z189 z190 z191 z192 z193 z194 z195 z196 z197 z198 z199 z200 z201 z202 z203 z204 z205 z206 z207 z208 z209 z210 z211 z212 z213 z214 z215 z216 z217 z218 z219 z220 z221 z222 z223 z224 z225 z226 z227 z228 z229 z230 z231 z232 z233 z234 z235 z236 z237 z238 z239 z240 z241 z242 z243 z244 z245 z246 z247 z248 z249 z250 z251 z252 z253 z254 z255 z256 z257 z258 z259 z260 z261 z262 z263 z264 z265 z266 z267 z268 z269 z270 z271 z272 z273 z274 z275 z276 z277 z278 z279 z280 w8 hcut
        (try simp only[Exit.then])
        clear t0 hB5 hb5 hbB5;obtain⟨tk,tn,n,tx,rfl,hk,hpn,hn1,htok,hB5,hb5⟩:=hcut;have hbB5:Below B wB w8:=hbr.trans (hb5.mono hBtb);have HT2:=Lib.hid (lex_tok hrest.out HJ.out htok.out hk);rw[HG.out] at HT2;have hOw:=hO.below (show Below wr.heap.size wr w8 from by rw[HTB.out];exact hb5)
        have hOA:∀ o,ZToks (w8.alloc o) B (.slice ao ts.length cap) ts:=fun o=>hOw.below ((Below.refl _ _).alloc (Nat.le_refl _) _)
        have hown5:∀ k',(Value.slice ao ts.length cap).ownBlock=some k'→B≤k'∧k'<w8.heap.size:=World.ownsRow.lt hOw;have hszB:B≤w8.heap.size:=by have:=hb5.size;omega
        have t0:=hB5.cell 0 rfl;have t1:=hB5.cell 1 rfl;have t2:=hB5.cell 2 rfl;have t3:=hB5.cell 3 rfl;have t4:=hB5.cell 4 rfl;go_wp2_with (at_builtin;refine wpList_append_own _ rfl _ _ 54 rfl B 95 i0 _ 5 48 Tryz.underlying54 hi0 hz0 hz1 hz2 rfl (by decide) _ _ _ rfl (hOA _) ⟨w8.heap.size,0,none⟩ 1 1 [.int .i64 (tk:Nat),.int .i64 p,.int .i64 (tn:Nat),.string (bs tx),.bool G] rfl rfl ?c1 ?c2 ?c3 ?c4 ?c5 ?_)
        case c1=>exact cells_new (by simp)
        case c2 =>
         intro u hu;simp at hu
         rcases hu with rfl | rfl | rfl | rfl | rfl <;> rfl
        case c3=>unfold maxLen;omega
        case c4=>omega
        case c5=>simp;omega
        intro v' w6 hown' hgrow _;have hK6:Kept (fun k'=>some k'=(Value.slice ao ts.length cap).ownBlock) w8 w6:=((Kept.refl _ _).alloc _).grown hgrow (fun k' h _=>h.symm)
        have hb6:Below B wB w6:=hbB5.trans (hK6.below hszB (fun i hi e=>by have:=hown5 _ e.symm;omega))
        have hO6:ZToks w6 B v' (ts++[⟨tk,p,tn,tx,G⟩]):=by
         unfold ZToks;rw[List.length_append,List.flatMap_append];exact hown'
        have HTL:=Lib.hid (show (ts++[(⟨tk,p,tn,tx,G⟩:BTok)]).length≤p+1 from by rw[List.length_append,List.length_cons,List.length_nil];omega)
        have HEZ:=Lib.hid (endZ_snoc ts ⟨tk,p,tn,tx,G⟩);generalize ts++[(⟨tk,p,tn,tx,G⟩:BTok)]=tz at *;clear hOw hOA hown5 hown' hgrow hK6 t0 t1 t2 t3 t4;go_wp2_with fail
        go_roundg (s.size+1 - (p+n))
        case measure=>omega
        case rel=>exact⟨p+n,p+n,f,tz,rfl,Nat.le_refl _,by omega,by omega,by have:=HTL.out;omega,by first | rfl | go_num,by rw[HEZ.out];first | done | rfl | go_num,hO6,hb6,HT2,Lib.hid rfl⟩
       ·--<<
        intro a' w9 e fb hd h2 h3 hb9 hfb hfh herr
        (try simp only[Exit.inBlock,Exit.then])
        have HTE:=lex_err hrest.out HJ.out herr.out;have hR9:=HB3.out w9 hb9;refine bodyPost_ret (results_tc (t:=2) (p:=3) (g:=rb) (cs:=[.int .i64 e,.slice (some ⟨fb,0,none⟩) 1 1]) rfl _ _ _ h3 ((hR9.set 0 (.int .i64 e)).set 1 (.slice (some ⟨fb,0,none⟩) 1 1)) Tryz.underlying30 rfl (by kernel_rfl)) hd ?_
        have hbz:Below w.heap.size w w9:=HBB.out.trans ((hbr.trans (hb9.mono hBtb)).mono (by have:=HBE.out;have:=HBB.out.size;omega))
        rw[h2];refine ⟨(hbz.setCell (p:=⟨rb,0,none⟩) (by rw[hrb];exact Nat.le_refl _) _).setCell (p:=⟨rb,1,none⟩) (by rw[hrb];exact Nat.le_refl _) _,?_⟩
        rw[HTE];have hfbr:fb≠rb:=by omega
        exact⟨fb,rfl,(Below.heap_setCell _ _ _ _ (by show fb≠rb;exact hfbr)).trans ((Below.heap_setCell _ _ _ _ (by show fb≠rb;exact hfbr)).trans hfh),by have:=HBE.out;have:=HBB.out.size;omega⟩
     ·--<<
      have HT2:=Lib.hid (lex_tok hrest.out HJ.out (tok_op HD.out HR.out ho) hk);rw[HG.out] at HT2;have hpn:p+o.length≤s.size:=by rw[List.length_drop,HLL.out] at hol;omega
      have e0:((kd:Int) != 0)=true:=by rw[bne_iff_ne];omega
      have hB5:Blk w5 tb [.int .i64 kd,.int .i64 p,.int .i64 (0:Nat),.string (bs []),.bool G]:=hB5;have hOw:=hO.below (show Below wr.heap.size wr w5 from by rw[HTB.out];exact hb5)
      have hOA:∀ o,ZToks (w5.alloc o) B (.slice ao ts.length cap) ts:=fun o=>hOw.below ((Below.refl _ _).alloc (Nat.le_refl _) _)
      have hown5:∀ k',(Value.slice ao ts.length cap).ownBlock=some k'→B≤k'∧k'<w5.heap.size:=World.ownsRow.lt hOw;have hszB:B≤w5.heap.size:=by have:=hb5.size;omega
      have t0:=hB5.cell 0 rfl;have t1:=hB5.cell 1 rfl;have t2:=hB5.cell 2 rfl;have t3:=hB5.cell 3 rfl;have t4:=hB5.cell 4 rfl;go_wp2_with (at_builtin;refine wpList_append_own _ rfl _ _ 54 rfl B 95 i0 _ 5 48 Tryz.underlying54 hi0 hz0 hz1 hz2 rfl (by decide) _ _ _ rfl (hOA _) ⟨w5.heap.size,0,none⟩ 1 1 [.int .i64 (kd:Nat),.int .i64 p,.int .i64 (0:Nat),.string (bs ([]:List UInt8)),.bool G] rfl rfl ?c1 ?c2 ?c3 ?c4 ?c5 ?_)
      case c1=>exact cells_new (by simp)
      case c2 =>
       intro u hu;simp at hu
       rcases hu with rfl | rfl | rfl | rfl | rfl <;> rfl
      case c3=>unfold maxLen;omega
      case c4=>omega
      case c5=>simp;omega
      intro v' w6 hown' hgrow _;have hK6:Kept (fun k'=>some k'=(Value.slice ao ts.length cap).ownBlock) w5 w6:=((Kept.refl _ _).alloc _).grown hgrow (fun k' h _=>h.symm)
      have hb6:Below B wB w6:=hbB5.trans (hK6.below hszB (fun i hi e=>by have:=hown5 _ e.symm;omega))
      have hO6:ZToks w6 B v' (ts++[⟨kd,p,0,([]:List UInt8),G⟩]):=by
       unfold ZToks;rw[List.length_append,List.flatMap_append];exact hown'
      have HTL:=Lib.hid (show (ts++[(⟨kd,p,0,([]:List UInt8),G⟩:BTok)]).length≤p+1 from by rw[List.length_append,List.length_cons,List.length_nil];omega)
      have HEZ:=Lib.hid (endZ_snoc ts ⟨kd,p,0,([]:List UInt8),G⟩);generalize ts++[(⟨kd,p,0,([]:List UInt8),G⟩:BTok)]=tz at *;clear hOw hOA hown5 hown' hgrow hK6 t0 t1 t2 t3 t4;go_wp2_with fail
      go_roundg (s.size+1 - (p+o.length))
      case measure=>omega
      case rel=>exact⟨p+o.length,p+o.length,f,tz,rfl,Nat.le_refl _,by omega,by omega,by have:=HTL.out;omega,by first | rfl | go_num,by rw[HEZ.out];first | done | rfl | go_num,hO6,hb6,HT2,Lib.hid rfl⟩
  ·--<<
   obtain rfl:p=s.size:=by omega
   obtain⟨f,rfl⟩:∃ f',f=f'+1:=⟨f - 1,by omega⟩
   have e1:l.drop s.size=[]:=List.drop_of_length_le (by rw[HLL.out];exact Nat.le_refl _)
   obtain⟨G,hG⟩:∃ G,(!ts.isEmpty&&k==s.size)=G:=⟨_,rfl⟩;have eG:(endZ ts k==(s.size:Int))=G:=by rw[endZ_eq,hG]
   have HTE:=Lib.hid (show T = .ok (ts++[⟨0,s.size,0,[],G⟩]) from by
    rw[← hG];exact lex_end hrest.out (by rw[hskip.out,e1];rfl) (by rw[HLL.out];exact Nat.le_refl _))
   have hGl:G=true→0<ts.length:=fun h=>by
    cases ts with
    | nil=>rw[h] at hG;cases hG
    | cons a b=>simp
   clear hG hskip e1;have hOw:=hO;have hown5:∀ k',(Value.slice ao ts.length cap).ownBlock=some k'→B≤k'∧k'<wr.heap.size:=World.ownsRow.lt hOw;have hOA:∀ o,ZToks (wr.alloc o) B (.slice ao ts.length cap) ts:=fun o=>hOw.below ((Below.refl _ _).alloc (Nat.le_refl _) _)
   have hszB:B≤wr.heap.size:=by have:=hbr.size;have:=HBE.out;omega
   cases G with
   | true =>
    have hl1:decide ((0:Int)<(ts.length:Int))=true:=by rw[decide_eq_true_eq];have:=hGl rfl;omega
    go_wp2_with (at_builtin;refine wpList_append_own _ rfl _ _ 54 rfl B 95 i0 _ 5 48 Tryz.underlying54 hi0 hz0 hz1 hz2 rfl (by decide) _ _ _ rfl (hOA _) ⟨wr.heap.size,0,none⟩ 1 1 [.int .i64 ((0:Nat):Int),.int .i64 (s.size:Nat),.int .i64 ((0:Nat):Int),.string (bs []),.bool true] rfl rfl ?c1 ?c2 ?c3 ?c4 ?c5 ?_)
    case c1=>first | exact cells_new rfl | exact fun j u h=>h
    case c2=>first | exact⟨rfl,rfl,rfl,rfl,rfl⟩ | (intro u hu;simp at hu;rcases hu with rfl | rfl | rfl | rfl | rfl <;> rfl)
    case c3=>first | (unfold maxLen;omega) | omega
    case c4=>omega
    case c5=>first | omega | (simp;omega)
    intro v' w6 hown' hgrow _;have hK6:Kept (fun k'=>some k'=(Value.slice ao ts.length cap).ownBlock) wr w6:=((Kept.refl _ _).alloc _).grown hgrow (fun k' h _=>h.symm)
    have hb6:Below B wB w6:=hbr.trans (hK6.below hszB (fun i hi e=>by have:=hown5 _ e.symm;omega))
    have hO6:ZToks w6 B v' (ts++[⟨0,s.size,0,[],true⟩]):=by
     unfold ZToks;rw[List.length_append,List.flatMap_append];exact hown'
    clear hOA hown5 hown' hgrow hK6;go_wp2_with fail
    refine (rNone_any9 _).mono ?_;rintro e w7 ⟨rfl,hb7⟩;have hb8:Below B wB w7:=hb6.trans (hb7.mono (by have:=hb6.size;have:=HBE.out;omega))
    have hR9:=HRBW.out w7 hb8;have hO7:=hO6.below hb7;have r0:=hR9.cell 0 rfl;have r1:=hR9.cell 1 rfl;have rf0:=hR9.free 0;have rf1:=hR9.free 1;go_wp2_with fail
    refine bodyPost_ret (results_tc (t:=2) (p:=3) (g:=rb) (cs:=[.int .i64 0,.slice none 0 0]) rfl _ _ _ rfl ((hR9.set 0 (.int .i64 0)).set 1 (.slice none 0 0)) Tryz.underlying30 rfl (by kernel_rfl)) rfl ?_
    have hbz:Below w.heap.size w w7:=HBB.out.trans (hb8.mono (by have:=HBB.out.size;have:=HBE.out;omega))
    refine ⟨(hbz.setCell (p:=⟨rb,0,none⟩) (by rw[hrb];exact Nat.le_refl _) _).setCell (p:=⟨rb,1,none⟩) (by rw[hrb];exact Nat.le_refl _) _,?_⟩
    rw[HTE.out];exact⟨v',rfl,(hO7.setRow (by omega)).mono (by have:=HBB.out.size;have:=HBE.out;omega)⟩
   | false =>
    go_wp2_with (at_builtin;refine wpList_append_own _ rfl _ _ 54 rfl B 95 i0 _ 5 48 Tryz.underlying54 hi0 hz0 hz1 hz2 rfl (by decide) _ _ _ rfl (hOA _) ⟨wr.heap.size,0,none⟩ 1 1 [.int .i64 ((0:Nat):Int),.int .i64 (s.size:Nat),.int .i64 ((0:Nat):Int),.string (bs []),.bool false] rfl rfl ?c1 ?c2 ?c3 ?c4 ?c5 ?_)
    case c1=>first | exact cells_new rfl | exact fun j u h=>h
    case c2=>first | exact⟨rfl,rfl,rfl,rfl,rfl⟩ | (intro u hu;simp at hu;rcases hu with rfl | rfl | rfl | rfl | rfl <;> rfl)
    case c3=>first | (unfold maxLen;omega) | omega
    case c4=>omega
    case c5=>first | omega | (simp;omega)
    intro v' w6 hown' hgrow _;have hK6:Kept (fun k'=>some k'=(Value.slice ao ts.length cap).ownBlock) wr w6:=((Kept.refl _ _).alloc _).grown hgrow (fun k' h _=>h.symm)
    have hb6:Below B wB w6:=hbr.trans (hK6.below hszB (fun i hi e=>by have:=hown5 _ e.symm;omega))
    have hO6:ZToks w6 B v' (ts++[⟨0,s.size,0,[],false⟩]):=by
     unfold ZToks;rw[List.length_append,List.flatMap_append];exact hown'
    clear hOA hown5 hown' hgrow hK6;go_wp2_with fail
    refine (rNone_any9 _).mono ?_;rintro e w7 ⟨rfl,hb7⟩;have hb8:Below B wB w7:=hb6.trans (hb7.mono (by have:=hb6.size;have:=HBE.out;omega))
    have hR9:=HRBW.out w7 hb8;have hO7:=hO6.below hb7;have r0:=hR9.cell 0 rfl;have r1:=hR9.cell 1 rfl;have rf0:=hR9.free 0;have rf1:=hR9.free 1;go_wp2_with fail
    refine bodyPost_ret (results_tc (t:=2) (p:=3) (g:=rb) (cs:=[.int .i64 0,.slice none 0 0]) rfl _ _ _ rfl ((hR9.set 0 (.int .i64 0)).set 1 (.slice none 0 0)) Tryz.underlying30 rfl (by kernel_rfl)) rfl ?_
    have hbz:Below w.heap.size w w7:=HBB.out.trans (hb8.mono (by have:=HBB.out.size;have:=HBE.out;omega))
    refine ⟨(hbz.setCell (p:=⟨rb,0,none⟩) (by rw[hrb];exact Nat.le_refl _) _).setCell (p:=⟨rb,1,none⟩) (by rw[hrb];exact Nat.le_refl _) _,?_⟩
    rw[HTE.out];exact⟨v',rfl,(hO7.setRow (by omega)).mono (by have:=HBB.out.size;have:=HBE.out;omega)⟩
end
end Go.Proofs.YtbplbehhlbkklaaGreatDoor
