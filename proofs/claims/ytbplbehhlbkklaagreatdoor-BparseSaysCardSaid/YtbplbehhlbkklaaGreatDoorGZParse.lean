/- The document's Parse of dialect B. -/
import Derived.Test.YtbplbehhlbkklaaGreatDoorGZKnot
import Derived.Test.YtbplbehhlbkklaaGreatDoorGZLex
import Derived.Test.YtbplbehhlbkklaaGreatDoorGZChecked
import Derived.Test.YtbplbehhlbkklaaGreatDoorGBParseG
namespace Go.Proofs.YtbplbehhlbkklaaGreatDoor
open Go Go.RowKit
def ZPOut (w:World) (r:Except (Nat×Option Nat) Prog) (e:Ending) (w':World):Prop:=Below w.heap.size w w'∧match r with
 | .ok p=>∃ v b,e = .returned (.tuple #[v,.agg #[.int .i64 0,.slice none 0 0]])∧NSl w' b v p
 | .error (c,none)=>e = .returned (.tuple #[.slice none 0 0,.agg #[.int .i64 c,.slice none 0 0]])
 | .error (c,some p)=>∃ fb,e = .returned (.tuple #[.slice none 0 0,.agg #[.int .i64 c,.slice (some ⟨fb,0,none⟩) 1 1]])∧w'.heap[fb]?=some (.cells #[.int .i64 p] 3 (0,0))
theorem ZToks.row {w:World}{B:Nat}{v:Value}{ts:List BTok}(h:ZToks w B v ts)(hl:0<ts.length):∃ g cap,v = .slice (some ⟨g,0,none⟩) ts.length cap∧ts.length≤cap∧cap≤maxLen∧B≤g∧g<w.heap.size∧TokRow w g ts:=by
 obtain⟨g,cap,h1,h2,h3,h4,h5,h6⟩:=row_cell h hl;refine ⟨g,cap,h1,h2,h3,h4,h5,fun i a ha j u hu=>?_⟩
 have:=h6 _ u (flat_get BTok.cells 5 tok_cells ts i j a u ha hu)
 rwa [Nat.mul_comm] at this
theorem checked_any {l:Prog}(hW:WF false l)(hl:l.length≤400000)(w:World)(b:Nat)(v:Value)(hN:NSl w b v l)(_hb:b<w.heap.size) :
  Calls Tryz.prog 24 #[v,.agg #[.int .i64 0,.slice none 0 0]] w (ZPOut w (match checkP l with | none=>.ok l | some (c,p)=>.error (c,if c=102 then some 0 else p))):=by
 obtain⟨D,hW⟩:=hW;have hpos:=hW.pos.1;have F:=nfix_of hW (by omega) hl
 obtain⟨g,cp,hv,-⟩:=id hN
 by_cases h3:3000<l.length
 ·have hc:checkP l=some (111,none):=by unfold checkP;rw[if_pos (.inr h3)]
  rw[hc];refine (r10Checked_fine w b l v hN 111 (fun _ u=>u = .slice none 0 0) (fun W hW'=>?_) (fun _ _ _ h _=>h) (.inr rfl)).mono ?_
  ·refine (r5Check_many l b W v (hN.below hW') h3 (by omega)).mono ?_
   rintro e w' ⟨rfl,hb'⟩;exact⟨none,0,0,rfl,rfl,hb'⟩
  ·rintro e w' ⟨⟨u,rfl,rfl⟩,hb'⟩;exact⟨hb',rfl⟩
 ·obtain⟨-,r,hr⟩:=tree_look hW
  cases r with
  | none =>
   have hc:checkP l=none:=by unfold checkP;rw[if_neg (by omega),hr];rfl
   rw[hc];refine (r10Checked_fine w b l v hN 0 (fun _ u=>u = .slice none 0 0) (fun W hW'=>?_) (fun _ _ _ h _=>h) (.inl rfl)).mono ?_
   ·refine (r5Check_all okB l D hW F b W v (hN.below hW') (by omega) none hr).mono ?_
    rintro e w' ⟨fa,rfl,hf,hb'⟩;obtain rfl:fa = .slice none 0 0:=hf;exact⟨none,0,0,rfl,rfl,hb'⟩
   ·rintro e w' ⟨⟨u,rfl,rfl⟩,hb'⟩;exact⟨hb',v,b,rfl,hN.below hb'⟩
  | some p =>
   have hc:checkP l=some (102,some p):=by unfold checkP;rw[if_neg (by omega),hr];rfl
   rw[hc];refine (r10Checked_nest w b l v hN (fun W hW'=>?_)).mono ?_
   ·refine (r5Check_all okB l D hW F b W v (hN.below hW') (by omega) (some p) hr).mono ?_
    rintro e w' ⟨fa,rfl,hf,hb'⟩;obtain⟨ao,n,c,rfl⟩:=hf.form;exact⟨ao,n,c,rfl,hb'⟩
   ·rintro e w' ⟨⟨fb,rfl,h1,h2⟩,hb'⟩;exact⟨hb',fb,rfl,h2⟩
theorem ZPOut.set {w0 w1 w':World}{r:Except (Nat×Option Nat) Prog}{e:Ending}{rb:Nat}(h:ZPOut w1 r e w')(hrb:w'.heap[rb]?=some (.cells #[.int .i64 0,.slice none 0 0] 30 (0,0)))(hb:Below w0.heap.size w0 w')(h0:w0.heap.size≤rb) :
  ∃ (v:Value) (c:Nat) (ao:Option Addr) (n m:Nat),e = .returned (.tuple #[v,.agg #[.int .i64 c,.slice ao n m]])∧(∃ ao n m,v = .slice ao n m)∧ZPOut w0 r e ((w'.setCell ⟨rb,0,none⟩ (.int .i64 c)).setCell ⟨rb,1,none⟩ (.slice ao n m)):=by
 have hB:∀ u1 u2,Below w0.heap.size w0 ((w'.setCell ⟨rb,0,none⟩ u1).setCell ⟨rb,1,none⟩ u2):=fun u1 u2=>(hb.setCell (p:=⟨rb,0,none⟩) h0 u1).setCell (p:=⟨rb,1,none⟩) h0 u2
 cases r with
 | ok p =>
  obtain⟨-,v,b,rfl,hN⟩:=h;obtain⟨g,cp,hv,-⟩:=id hN;refine ⟨v,0,none,0,0,rfl,⟨_,_,_,hv⟩,hB _ _,v,b,rfl,?_⟩;obtain⟨cs',hcs⟩:=tag_set (j:=0) (u:=.int .i64 ((0:Nat):Int)) hrb;exact (hN.setOther ⟨_,_,_,hrb,by decide⟩).setOther ⟨_,_,_,hcs,by decide⟩
 | error x =>
  obtain⟨c,q⟩:=x
  cases q with
  | none =>
   obtain⟨-,rfl⟩:=h;exact⟨_,c,none,0,0,rfl,⟨_,_,_,rfl⟩,hB _ _,rfl⟩
  | some p =>
   obtain⟨-,fb,rfl,hf⟩:=h
   have hne:fb≠rb:=fun e=>by
    rw[e,hrb] at hf;injection hf with hf
    injection hf with _ h9 _
    exact absurd h9 (by decide)
   exact⟨_,c,_,1,1,rfl,⟨_,_,_,rfl⟩,hB _ _,fb,rfl,(Below.heap_setCell _ _ _ _ (by show fb≠rb;exact hne)).trans ((Below.heap_setCell _ _ _ _ (by show fb≠rb;exact hne)).trans hf)⟩
section
set_option maxHeartbeats 16000000
set_option maxRecDepth 100000
theorem z12Parse_any (s:ByteArray)(w:World)(hs:s.size≤700):Calls Tryz.prog 6 #[.string s] w (ZPOut w (parseB s.data.toList)):=by
 have hsz:=size_eq s;obtain⟨R,hR⟩:∃ R,parseB s.data.toList=R:=⟨_,rfl⟩;rw[hR];unfold parseB at hR;rw[hsz] at hR;have hR0:=Blk.new w [Value.int .i64 0,.slice none 0 0] 30;have hb0:=(Below.refl w.heap.size w).alloc (Nat.le_refl _) (.cells #[.int .i64 0,.slice none 0 0] 30);obtain⟨T,hl⟩:∃ T,lexB (s.size+1) true s.data.toList 0=T:=⟨_,rfl⟩;have HLX:=Lib.hid (z12Lex_any s (w.alloc (.cells #[.int .i64 0,.slice none 0 0] 30)) (by omega) T hl)
 have HLE:=Lib.hid hl;rw[hl] at hR;clear hl
 cases T with
 | error e0 =>
  obtain⟨c,p⟩:=e0
  have hc:0<c:=by
   have:=lexB_err s.data.toList (s.data.toList.length+1) true 0 c p (Nat.zero_le _) (by rw[List.drop_zero,hsz];exact HLE.out)
   omega
  subst hR;have e1:((c:Int) != 0)=true:=by rw[bne_iff_ne];omega
  go_enter Tryz.func6,Tryz.ntmps6
  go_wp2_with fail
  refine HLX.out.mono ?_;rintro e w1 ⟨hb1,fb,rfl,hfb,hge⟩;rw[World.size_alloc] at hge;have hR1:=hR0.below hb1;have hb2:=bNext hb0 hb1;have hrl:=hR1.lt;obtain⟨z,hz⟩:∃ z,w1.heap.size=z:=⟨_,rfl⟩;have hfl:=lt_of_block hfb;have hC2:=Blk.new w1 [Value.int .i64 c,.slice (some ⟨fb,0,none⟩) 1 1] 30;have hR2:=hR1.alloc (.cells #[.int .i64 c,.slice (some ⟨fb,0,none⟩) 1 1] 30);have hb3:=hb2.alloc hb2.size (.cells #[.int .i64 c,.slice (some ⟨fb,0,none⟩) 1 1] 30);have hfb3:=((Below.refl w1.heap.size w1).alloc (Nat.le_refl _) (.cells #[.int .i64 c,.slice (some ⟨fb,0,none⟩) 1 1] 30)).block fb hfl;rw[hfb] at hfb3;rw[hz] at hC2;go_upto_region 2 with fail
  obtain⟨w2,hw2⟩:∃ w2,w1.alloc (.cells #[.int .i64 c,.slice (some ⟨fb,0,none⟩) 1 1] 30)=w2:=⟨_,rfl⟩;rw[hw2] at hC2 hR2 hb3 hfb3 ⊢;obtain⟨y,hy⟩:∃ y,w.heap.size=y:=⟨_,rfl⟩;have hyz:y≠z:=by omega
  have hfy:fb≠y:=by omega
  rw[hy] at hR2 ⊢;have z0:=hC2.cell 0 rfl;have z1:=hC2.cell 1 rfl;have b0:=hR2.cell 0 rfl;have b1:=hR2.cell 1 rfl;have f0:=hR2.free 0;have f1:=hR2.free 1;have hD:=hR2.drew;clear hw2 hR0 hR1 hb1 hb2 HLX;go_upto_region 3 with fail
  go_region
  all_goals
   go_wp2_with fail
   refine bodyPost_ret (results_tc (t:=2) (p:=3) (g:=y) (cs:=[.int .i64 c,.slice (some ⟨fb,0,none⟩) 1 1]) rfl _ _ _ rfl ((hD.set 0 (.int .i64 c)).set 1 (.slice (some ⟨fb,0,none⟩) 1 1)) Tryz.underlying30 rfl (by kernel_rfl)) rfl ⟨?_,fb,rfl,?_⟩
   ·exact ((hb3.setCell (p:=⟨y,0,none⟩) (by show w.heap.size≤y;omega) _).setCell (p:=⟨y,1,none⟩) (by show w.heap.size≤y;omega) _).drew
   ·exact (Below.heap_setCell _ _ _ _ (by show fb≠y;exact hfy)).trans ((Below.heap_setCell _ _ _ _ (by show fb≠y;exact hfy)).trans hfb3)
 | ok ts =>
  have hR:=Lib.hid hR;have hT:=lexB_t s.data.toList (by omega) ts (by rw[hsz];exact HLE.out)
  have hnum:=hT.num;have hpos:=hT.good.pos;have hn:=(nnAll hT.good (12 * ts.length+11)).list 0 0 hT.good.pos (by omega)
  go_enter Tryz.func6,Tryz.ntmps6
  go_wp2_with fail
  refine HLX.out.mono ?_;rintro e w1 ⟨hb1,v,rfl,hTk⟩;obtain⟨g,cap,rfl,hc1,hc2,hg1,hg2,hrow⟩:=hTk.row hpos;have F:ZFix cap ts:=⟨⟨⟨hT.good,by omega,hc1,hc2⟩,hT.w⟩,fun i=>by have:=hT.place i;omega,by omega⟩
  have hR1:=hR0.below hb1;have hb2:=bNext hb0 hb1;have hrl:=hR1.lt;have hC2:=Blk.new w1 [Value.int .i64 0,.slice none 0 0] 30;have hR2:=hR1.alloc (.cells #[.int .i64 0,.slice none 0 0] 30);have hb3:=hb2.alloc hb2.size (.cells #[.int .i64 0,.slice none 0 0] 30);have hrow2:=hrow.below ((Below.refl _ w1).alloc (Nat.le_refl _) (.cells #[.int .i64 0,.slice none 0 0] 30));go_upto_region 2 with fail
  obtain⟨w2,hw2⟩:∃ w2,w1.alloc (.cells #[.int .i64 0,.slice none 0 0] 30)=w2:=⟨_,rfl⟩;have hsz2:w2.heap.size=w1.heap.size+1:=by rw[← hw2];simp
  rw[hw2] at hC2 hR2 hb3 hrow2 ⊢;have z0:=hC2.cell 0 rfl;have z1:=hC2.cell 1 rfl;have hR3:=hR2.alloc (.cells #[.slice (some ⟨g,0,none⟩) ts.length cap,.int .i64 0,.int .i64 0,.slice none 0 0] 59);have hb4:=hb3.alloc hb3.size (.cells #[.slice (some ⟨g,0,none⟩) ts.length cap,.int .i64 0,.int .i64 0,.slice none 0 0] 59)
  have hS:ZIn (w2.alloc (.cells #[.slice (some ⟨g,0,none⟩) ts.length cap,.int .i64 0,.int .i64 0,.slice none 0 0] 59)) w2.heap.size g cap ts 0 none :=
   ⟨0,.slice none 0 0,⟨Blk.new w2 [.slice (some ⟨g,0,none⟩) ts.length cap,.int .i64 0,.int .i64 0,.slice none 0 0] 59,hrow2.below ((Below.refl _ w2).alloc (Nat.le_refl _) _),by omega,by simp;omega⟩,rfl,rfl⟩
  go_upto_region 5 with fail
  obtain⟨b,hbb⟩:∃ b,w1.heap.size+1=b:=⟨_,rfl⟩;rw[hbb];obtain⟨w3,hw3⟩:∃ w3,w2.alloc (.cells #[.slice (some ⟨g,0,none⟩) ts.length cap,.int .i64 0,.int .i64 0,.slice none 0 0] 59)=w3:=⟨_,rfl⟩;rw[hw3] at hR3 hb4 hS ⊢;rw[hsz2,hbb] at hS;have hsz3:w3.heap.size=b+1:=by rw[← hw3,← hbb,← hsz2];simp
  have hRH:w3.heap[w.heap.size]?=some (.cells #[.int .i64 0,.slice none 0 0] 30 (0,0)):=by
   have h9:=heap_new (w:=w) (.cells #[.int .i64 0,.slice none 0 0] 30);rw[← hw3,← hw2];exact (Below.heap_alloc _ _ _ (by simp;omega)).trans ((Below.heap_alloc _ _ _ (by omega)).trans ((hb1.block _ (lt_of_block h9)).trans h9))
  obtain⟨rb,hrb⟩:∃ rb,w.heap.size=rb:=⟨_,rfl⟩;rw[hrb] at hRH ⊢;have hrbb:rb≠b:=by omega
  have hbw:w.heap.size≤b:=by omega
  have HR:=Lib.hid hR.out;obtain⟨P,hP⟩:∃ P,pList ts (12 * ts.length+11) 0 0=P:=⟨_,rfl⟩;have HP:=Lib.hid hP;have HD:=Lib.hid ((allZ (b:=b) (g:=g) F (12 * ts.length+11)).list w3 0 0 1 none (fun _=>⟨by omega,by omega⟩) hpos hS (Lib.hid fun _=>hn))
  rw[hP] at HR HD hn;have HFL:=Lib.hid F;have HRB:=Lib.hid hrb;clear hsz2 hsz3 hbb hrb hw3 hw2 hP hR hR3 hS hrow hrow2 hR1 hR2 hC2 hTk z0 z1 hb1 hb2 hb3 HLX hR0 hb0;go_wp2_with fail
  refine HD.out.mono ?_;rintro e w4 ⟨v4,l,i',f',rfl,hN4,hT4,h4,hle,hlt,hK4,hR4⟩;have hb5:Below w.heap.size w w4:=hb4.trans (hK4.below hb4.size (fun i hi e=>by unfold At at e;omega))
  have hRH4:w4.heap[rb]?=some (.cells #[.int .i64 0,.slice none 0 0] 30 (0,0)):=(hK4.block rb (lt_of_block hRH) hrbb).trans hRH;obtain⟨g4,c4,hv4,-⟩:=id hN4
  cases P with
  | none=>exact absurd rfl hn
  | some rc =>
   cases rc with
   | error x =>
    obtain⟨c,p⟩:=x;obtain⟨rfl,-⟩:=hR4;obtain rfl:R = .error (c,some p):=HR.out.symm;subst hv4;go_wp2_with fail
    refine (zbad_any h4).mono ?_;rintro e w5 ⟨rfl,rfl⟩;rw[show ((some (c,p)).isSome:Bool)=true from rfl]
    rename World=>w4
    obtain⟨cd,fa,hZ,hcd,hc0,-,-,fb,rfl,hfne,hfb⟩:=h4;rw[hcd] at hZ;clear hcd;have hpl:=hZ.blt;have x2:=hZ.c2;have x3:=hZ.c3;have HCK:=Lib.hid (r10Checked_bad w4 (some ⟨g4,0,none⟩) l.length c4 c (some ⟨fb,0,none⟩) 1 1 hc0);generalize l.length=ll at *;go_wp2_with fail
    refine HCK.out.mono ?_;rintro e w7 ⟨rfl,hb9⟩;have hRH7:=(hb9.block rb (lt_of_block hRH4)).trans hRH4;have hb10:=bNext hb5 hb9;have hfb7:=(hb9.block fb (lt_of_block hfb)).trans hfb
    have hfr:fb≠rb:=fun e9=>by
     rw[e9,hRH7] at hfb7;injection hfb7 with hfb7
     injection hfb7 with _ h9 _
     exact absurd h9 (by decide)
    have hRB7:Blk w7 rb [.int .i64 0,.slice none 0 0]:=⟨_,hRH7⟩;have r0:=hRB7.cell 0 rfl;have r1:=hRB7.cell 1 rfl;have rf0:=hRB7.free 0;have rf1:=hRB7.free 1;go_wp2_with fail
    refine bodyPost_ret (results_tc (t:=2) (p:=3) (g:=rb) (cs:=[.int .i64 ((c:Nat):Int),.slice (some ⟨fb,0,none⟩) 1 1]) rfl _ _ _ rfl ((hRB7.set 0 (.int .i64 ((c:Nat):Int))).set 1 (.slice (some ⟨fb,0,none⟩) 1 1)) Tryz.underlying30 rfl (by kernel_rfl)) rfl ⟨?_,fb,rfl,?_⟩
    ·exact (hb10.setCell (p:=⟨rb,0,none⟩) (by have:=HRB.out;show w.heap.size≤rb;omega) _).setCell (p:=⟨rb,1,none⟩) (by have:=HRB.out;show w.heap.size≤rb;omega) _
    ·exact (Below.heap_setCell _ _ _ _ (by show fb≠rb;exact hfr)).trans ((Below.heap_setCell _ _ _ _ (by show fb≠rb;exact hfr)).trans hfb7)
   | ok q =>
    obtain⟨a,j⟩:=q;obtain⟨rfl,rfl,rfl⟩:=hR4;have HRR:=Lib.hid (show (if isK ts i' [0]=false then Except.error (108,some (tkAt ts i').place) else match checkP l with | none=>Except.ok l | some (c,p)=>Except.error (c,if c=102 then some 0 else p))=R from HR.out)
    subst hv4
    cases h0:isK ts i' [0] with
    | false =>
     rw[h0,if_pos rfl] at HRR;obtain rfl:R = .error (108,some (tkAt ts i').place):=HRR.out.symm;go_wp2_with fail
     refine (zbad_any h4).mono ?_;rintro e w5 ⟨rfl,rfl⟩;rw[show ((none:Option (Nat×Nat)).isSome:Bool)=false from rfl]
     go_wp2_with fail
     refine (zkind_any F h4 hlt 0 _ rfl).mono ?_;rintro e w5 ⟨rfl,hb6⟩;rw[h0,show ((none:Option (Nat×Nat)).isNone&&false)=false from rfl]
     have h5:=h4.below hb6;have hb7:=bNext hb5 hb6;have hRH5:=(hb6.block rb (lt_of_block hRH4)).trans hRH4;go_wp2_with fail
     refine (zwrong_any F h5 hlt).mono ?_;rintro e w6 ⟨rfl,h6,hK6⟩
     have h6:ZIn w6 b g cap ts i' (some (108,(tkAt ts i').place)):=by
      have h9:ZIn w6 b g cap ts i' (some (formF ts i')):=h6;unfold formF at h9;rwa [h0,if_neg (by simp)] at h9
     have hb8:Below w.heap.size w w6:=hb7.trans (hK6.below hb7.size (fun i hi e=>by unfold At at e;omega))
     have hRH6:=(hK6.block rb (lt_of_block hRH5) hrbb).trans hRH5;generalize (tkAt ts i').place=p at *;obtain⟨cd,fa,hZ,hcd,hc0,-,-,fb,rfl,hfne,hfb⟩:=h6;rw[hcd] at hZ;clear hcd;have hpl:=hZ.blt;have x2:=hZ.c2;have x3:=hZ.c3;have HCK:=Lib.hid (r10Checked_bad w6 (some ⟨g4,0,none⟩) l.length c4 108 (some ⟨fb,0,none⟩) 1 1 hc0);generalize l.length=ll at *;go_wp2_with fail
     refine HCK.out.mono ?_;rintro e w7 ⟨rfl,hb9⟩;have hRH7:=(hb9.block rb (lt_of_block hRH6)).trans hRH6;have hb10:=bNext hb8 hb9;have hfb7:=(hb9.block fb (lt_of_block hfb)).trans hfb
     have hfr:fb≠rb:=fun e9=>by
      rw[e9,hRH7] at hfb7;injection hfb7 with hfb7
      injection hfb7 with _ h9 _
      exact absurd h9 (by decide)
     have hRB7:Blk w7 rb [.int .i64 0,.slice none 0 0]:=⟨_,hRH7⟩;have r0:=hRB7.cell 0 rfl;have r1:=hRB7.cell 1 rfl;have rf0:=hRB7.free 0;have rf1:=hRB7.free 1;go_wp2_with fail
     refine bodyPost_ret (results_tc (t:=2) (p:=3) (g:=rb) (cs:=[.int .i64 ((108:Nat):Int),.slice (some ⟨fb,0,none⟩) 1 1]) rfl _ _ _ rfl ((hRB7.set 0 (.int .i64 ((108:Nat):Int))).set 1 (.slice (some ⟨fb,0,none⟩) 1 1)) Tryz.underlying30 rfl (by kernel_rfl)) rfl ⟨?_,fb,rfl,?_⟩
     ·exact (hb10.setCell (p:=⟨rb,0,none⟩) (by have:=HRB.out;show w.heap.size≤rb;omega) _).setCell (p:=⟨rb,1,none⟩) (by have:=HRB.out;show w.heap.size≤rb;omega) _
     ·exact (Below.heap_setCell _ _ _ _ (by show fb≠rb;exact hfr)).trans ((Below.heap_setCell _ _ _ _ (by show fb≠rb;exact hfr)).trans hfb7)
    | true =>
     rw[h0,if_neg (by simp)] at HRR
     go_wp2_with fail
     refine (zbad_any h4).mono ?_;rintro e w5 ⟨rfl,rfl⟩;rw[show ((none:Option (Nat×Nat)).isSome:Bool)=false from rfl]
     go_wp2_with fail
     refine (zkind_any F h4 hlt 0 _ rfl).mono ?_;rintro e w5 ⟨rfl,hb6⟩;rw[h0,show ((none:Option (Nat×Nat)).isNone&&true)=true from rfl]
     have h5:=h4.below hb6;have hb7:=bNext hb5 hb6;have hRH5:=(hb6.block rb (lt_of_block hRH4)).trans hRH4;have hN5:=hN4.below hb6;obtain⟨cd,fa,hZ,rfl,rfl⟩:=h5;have hbl5:=hZ.blt;have hwf:WF false l:=(wAll hT.w (12 * ts.length+11)).list 0 0 l i' HP.out;have hpl:=((postAll hT.good (12 * ts.length+11)).list 0 0 hpos).1 l i' HP.out;have HCK:=Lib.hid (checked_any hwf (by omega) w5 b _ hN5 hbl5)
     rw[HRR.out] at HCK;have x2:=hZ.c2;have x3:=hZ.c3;generalize l.length=ll at *;go_wp2_with fail
     refine HCK.out.mono ?_;rintro e w6 h6;have hb8:=bNext hb7 h6.1;have hRH6:=(h6.1.block rb (lt_of_block hRH5)).trans hRH5;obtain⟨v,c,ao,n,m,rfl,⟨vo,vn,vm,rfl⟩,hout⟩:=h6.set hRH6 hb8 (by have:=HRB.out;omega)
     have HOUT:=Lib.hid hout;have hRB6:Blk w6 rb [.int .i64 0,.slice none 0 0]:=⟨_,hRH6⟩;have r0:=hRB6.cell 0 rfl;have r1:=hRB6.cell 1 rfl;have rf0:=hRB6.free 0;have rf1:=hRB6.free 1;go_wp2_with fail
     exact bodyPost_ret (results_tc (t:=2) (p:=3) (g:=rb) (cs:=[.int .i64 c,.slice ao n m]) rfl _ _ _ rfl ((hRB6.set 0 (.int .i64 c)).set 1 (.slice ao n m)) Tryz.underlying30 rfl (by kernel_rfl)) rfl HOUT.out
end
end Go.Proofs.YtbplbehhlbkklaaGreatDoor
