/- The document's parser of dialect B in memory: its state, the token it stands at, its faults. -/
import Derived.Test.YtbplbehhlbkklaaGreatDoorGZC
import Derived.Test.YtbplbehhlbkklaaGreatDoorGZB
namespace Go.Proofs.YtbplbehhlbkklaaGreatDoor
open Go Go.RowKit
structure ZSt (w:World) (b g cap:Nat) (ts:List BTok) (i cd:Nat) (fa:Value):Prop where
 here:Blk w b [.slice (some ⟨g,0,none⟩) ts.length cap,.int .i64 i,.int .i64 cd,fa]
 row:TokRow w g ts
 ne:g≠b
 glt:g<w.heap.size
section
variable {w w':World} {b g cap:Nat} {ts:List BTok} {i cd:Nat} {fa:Value}
theorem ZSt.c0 (h:ZSt w b g cap ts i cd fa):w.cell? ⟨b,0,none⟩=some (.slice (some ⟨g,0,none⟩) ts.length cap):=h.here.cell 0 rfl
theorem ZSt.c1 (h:ZSt w b g cap ts i cd fa):w.cell? ⟨b,1,none⟩=some (.int .i64 i):=h.here.cell 1 rfl
theorem ZSt.c2 (h:ZSt w b g cap ts i cd fa):w.cell? ⟨b,2,none⟩=some (.int .i64 cd):=h.here.cell 2 rfl
theorem ZSt.c3 (h:ZSt w b g cap ts i cd fa):w.cell? ⟨b,3,none⟩=some fa:=h.here.cell 3 rfl
theorem ZSt.fr (h:ZSt w b g cap ts i cd fa)(n:Nat):w.frozen? ⟨b,n,none⟩=false:=h.here.free n
theorem ZSt.blt (h:ZSt w b g cap ts i cd fa):b<w.heap.size:=h.here.lt
theorem ZSt.below (h:ZSt w b g cap ts i cd fa)(hb:Below w.heap.size w w'):ZSt w' b g cap ts i cd fa:=⟨h.here.below hb,h.row.below hb,h.ne,Nat.lt_of_lt_of_le h.glt hb.size⟩
theorem ZSt.drew (h:ZSt w b g cap ts i cd fa):ZSt w.drew b g cap ts i cd fa:=⟨h.here,h.row,h.ne,h.glt⟩
theorem ZSt.move (h:ZSt w b g cap ts i cd fa)(k:Nat):ZSt (w.setCell ⟨b,1,none⟩ (.int .i64 k)) b g cap ts k cd fa :=
 ⟨by have:=h.here.set 1 (.int .i64 k);exact this,fun n a ha j u' hu=>(World.cell?_setCell_other _ _ _ _ (fun e=>h.ne (congrArg Addr.block e).symm)).trans (h.row n a ha j u' hu),h.ne,by simpa [World.setCell] using h.glt⟩
theorem ZSt.fault (h:ZSt w b g cap ts i cd fa)(c:Nat)(v:Value):ZSt ((w.setCell ⟨b,2,none⟩ (.int .i64 c)).setCell ⟨b,3,none⟩ v) b g cap ts i c v :=
 ⟨by have:=(h.here.set 2 (.int .i64 c)).set 3 v;exact this,fun n a ha j u' hu=>(World.cell?_setCell_other _ _ _ _ (fun e=>h.ne (congrArg Addr.block e).symm)).trans ((World.cell?_setCell_other _ _ _ _ (fun e=>h.ne (congrArg Addr.block e).symm)).trans (h.row n a ha j u' hu)),h.ne,by simpa [World.setCell] using h.glt⟩
theorem ZSt.facts (h:ZSt w b g cap ts i cd fa){k:Nat}(hk:k<ts.length) :
  w.cell? ⟨g,k * 5,none⟩=some (.int .i64 (tkAt ts k).kind)∧w.cell? ⟨g,k * 5+1,none⟩=some (.int .i64 (tkAt ts k).place)∧w.cell? ⟨g,k * 5+2,none⟩=some (.int .i64 (tkAt ts k).num)∧w.cell? ⟨g,k * 5+3,none⟩=some (.string (bs (tkAt ts k).text))∧w.cell? ⟨g,k * 5+4,none⟩=some (.bool (tkAt ts k).glue) :=
 h.row.facts (tkAt_get hk)
end
theorem heap_new {w:World}(o:Obj):(w.alloc o).heap[w.heap.size]?=some o:=by
 show (w.heap.push _)[w.heap.size]?=_
 rw[Array.getElem?_push,if_pos rfl]
theorem rPlacedT_any (c p:Int)(hc:(c==0)=false)(w:World) :
  Calls Tryz.prog 12 #[.int .i64 c,.int .i64 p] w fun e w'=>∃ b,e = .returned (.agg #[.int .i64 c,.slice (some ⟨b,0,none⟩) 1 1])∧w'.heap[b]?=some (.cells #[.int .i64 p] 3 (0,0))∧w.heap.size≤b∧Below w.heap.size w w':=by
 go_enter Tryz.func12,Tryz.ntmps12
 go_wp2
 refine bodyPost_ret (results_blk1 (p:=4) (g:=w.heap.size) (cs:=[.int .i64 c,.slice (some ⟨w.heap.size+1,0,none⟩) 1 1]) rfl _ _ _ rfl ?_ Tryz.underlying30 rfl (by kernel_rfl)) rfl ⟨w.heap.size+1,rfl,?_,by omega,?_⟩
 ·apply Blk.as
  repeat (first | (with_reducible assumption) | ((with_reducible apply Blk.newAt);(focus (simp;done))) | (with_reducible apply Blk.set) | ((with_reducible apply Blk.other);(case hp=>first | omega | (simp;omega) | simp)) | (with_reducible apply Blk.alloc) | (with_reducible apply Blk.drewN) | (with_reducible apply Blk.drew))
  rfl
 ·have h:=heap_new (w:=w.alloc (.cells #[.int .i64 c,.slice (some ⟨w.heap.size+1,0,none⟩) 1 1] 30)) (.cells #[.int .i64 p] 3);rw[World.size_alloc] at h;exact h
 ·apply Kept.toBelow
  repeat (first | (with_reducible assumption) | (with_reducible exact Kept.refl _ _) | ((with_reducible refine Kept.setCell ?_ ?_ _);rotate_left;(focus (first | exact fun _=>rfl | exact fun h=>absurd h (by first | omega | (simp;omega) | simp)))) | (with_reducible refine Kept.alloc ?_ _) | (with_reducible refine Kept.drewN ?_ _) | (with_reducible refine Kept.drew ?_))
structure ZFix (cap:Nat) (ts:List BTok):Prop where
 T:PTs cap ts
 place:∀ i,(tkAt ts i).place≤100000
 few:ts.length≤1000
def FA (w:World) (b:Nat) (f:Option (Nat×Nat)) (cd:Nat) (fa:Value):Prop :=
 match f with
 | none=>cd=0∧fa = .slice none 0 0
 | some (c,p)=>cd=c∧0<c∧c<1000∧p≤100000∧∃ fb,fa = .slice (some ⟨fb,0,none⟩) 1 1∧fb≠b∧w.heap[fb]?=some (.cells #[.int .i64 p] 3 (0,0))
theorem FA.below {w w':World}{b:Nat}{f:Option (Nat×Nat)}{cd:Nat}{fa:Value}(h:FA w b f cd fa)(hb:Below w.heap.size w w'):FA w' b f cd fa:=by
 cases f with
 | none=>exact h
 | some x =>
  obtain⟨h1,h2,h3,h4,fb,h5,h6,h7⟩:=h;exact⟨h1,h2,h3,h4,fb,h5,h6,(hb.block fb (lt_of_block h7)).trans h7⟩
theorem FA.kept {w w':World}{b:Nat}{f:Option (Nat×Nat)}{cd:Nat}{fa:Value}(h:FA w b f cd fa)(hb:Kept (At b) w w'):FA w' b f cd fa:=by
 cases f with
 | none=>exact h
 | some x =>
  obtain⟨h1,h2,h3,h4,fb,h5,h6,h7⟩:=h;exact⟨h1,h2,h3,h4,fb,h5,h6,(hb.block fb (lt_of_block h7) h6).trans h7⟩
def ZIn (w:World) (b g cap:Nat) (ts:List BTok) (i:Nat) (f:Option (Nat×Nat)):Prop:=∃ cd fa,ZSt w b g cap ts i cd fa∧FA w b f cd fa
theorem ZIn.below {w w':World}{b g cap:Nat}{ts:List BTok}{i:Nat}{f:Option (Nat×Nat)}(h:ZIn w b g cap ts i f)(hb:Below w.heap.size w w'):ZIn w' b g cap ts i f:=by
 obtain⟨cd,fa,h1,h2⟩:=h;exact⟨cd,fa,h1.below hb,h2.below hb⟩
theorem ZIn.drew {w:World}{b g cap:Nat}{ts:List BTok}{i:Nat}{f:Option (Nat×Nat)}(h:ZIn w b g cap ts i f):ZIn w.drew b g cap ts i f:=h.below ((Below.refl _ _).drew)
theorem ZIn.blt {w:World}{b g cap:Nat}{ts:List BTok}{i:Nat}{f:Option (Nat×Nat)}(h:ZIn w b g cap ts i f):b<w.heap.size:=by
 obtain⟨cd,fa,h1,_⟩:=h;exact h1.blt
theorem ZIn.glt {w:World}{b g cap:Nat}{ts:List BTok}{i:Nat}{f:Option (Nat×Nat)}(h:ZIn w b g cap ts i f):g<w.heap.size:=by
 obtain⟨cd,fa,h1,_⟩:=h;exact h1.glt
theorem ZIn.grown {w w':World}{b g cap B:Nat}{ts:List BTok}{i:Nat}{f:Option (Nat×Nat)}{o:Obj}{row:Option Nat}(h:ZIn w b g cap ts i f)(hg:(w.alloc o).grownBy w' row)(hr:∀ k,row=some k→B≤k∧∃ cur fz t,w.heap[k]?=some (.cells cur t fz)∧t≠3)(hb:b<B)(hgB:g<B):ZIn w' b g cap ts i f:=by
 have hblk:∀ k,k<w.heap.size→row≠some k→w'.heap[k]?=w.heap[k]?:=fun k hk hn=>by
  rw[hg.block k (by rw[World.size_alloc];omega) (fun e=>hn e.symm)]
  exact Below.heap_alloc _ _ _ hk
 have hlow:∀ k,k<w.heap.size→k<B→w'.heap[k]?=w.heap[k]?:=fun k hk hkB=>hblk k hk (fun e=>by have:=(hr k e).1;omega)
 obtain⟨cd,fa,h1,h2⟩:=h;refine ⟨cd,fa,⟨h1.here.of_heap (hlow b h1.blt hb),fun k a ha j u hu=>(World.cell?_of_block (w:=w) (hlow g h1.glt hgB)).trans (h1.row k a ha j u hu),h1.ne,?_⟩,?_⟩
 ·have h3:=hg.size;have h4:=h1.glt;rw[World.size_alloc] at h3;omega
 ·cases f with
  | none=>exact h2
  | some x =>
   obtain⟨q1,q2,q3,q4,fb,q5,q6,q7⟩:=h2;refine ⟨q1,q2,q3,q4,fb,q5,q6,(hblk fb (lt_of_block q7) (fun e=>?_)).trans q7⟩
   obtain⟨cur,fz,t,r1,r2⟩:=(hr fb e).2;rw[q7] at r1;injection r1 with r1
   injection r1 with _ r3 _
   exact r2 r3.symm
theorem row_tag {w:World}{B:Nat}{e:TypeId}{size:Nat}{v:Value}{n:Nat}{xs:List Value}(h:w.ownsRow B e size v n xs)(he:e≠3):∀ k,v.ownBlock=some k→B≤k∧∃ cur fz t,w.heap[k]?=some (.cells cur t fz)∧t≠3:=fun k hk=>by
 obtain⟨cur,fz,h9⟩:=ownsRow_tag h k hk;exact⟨(World.ownsRow.lt h k hk).1,cur,fz,e,h9,he⟩
theorem ztok_f0 (a b c d e:Value)(w:World):(Instr.field 95 (.agg #[a,b,c,d,e]) 0).run Tryz.prog w = .ok a w:=by kernel_rfl
theorem ztok_f1 (a b c d e:Value)(w:World):(Instr.field 95 (.agg #[a,b,c,d,e]) 1).run Tryz.prog w = .ok b w:=by kernel_rfl
theorem ztok_f3 (a b c d e:Value)(w:World):(Instr.field 95 (.agg #[a,b,c,d,e]) 3).run Tryz.prog w = .ok d w:=by kernel_rfl
section
variable {w:World} {b g cap:Nat} {ts:List BTok} {i:Nat} {f:Option (Nat×Nat)}
set_option maxHeartbeats 4000000
set_option maxRecDepth 100000
theorem zbad_any (h:ZIn w b g cap ts i f):Calls Tryz.prog 21 #[.pointer (some ⟨b,0,none⟩)] w fun e w'=>e = .returned (.bool f.isSome)∧w'=w:=by
 obtain⟨cd,fa,hS,hF⟩:=h;have c2:=hS.c2
 cases f with
 | none =>
  obtain⟨rfl,rfl⟩:=hF;go_enter Tryz.func21,Tryz.ntmps21
  go_wp2_with fail
  go_ret;exact⟨rfl,rfl⟩
 | some x =>
  obtain⟨c,p⟩:=x;obtain⟨rfl,h1,h2,h3,-⟩:=hF;have h9:((cd:Int)==0)=false:=by rw[beq_eq_false_iff_ne];omega
  have h8:((cd:Int) != 0)=true:=by rw[bne_iff_ne];omega
  go_enter Tryz.func21,Tryz.ntmps21
  go_wp2_with fail
  go_ret;exact⟨by simp,rfl⟩
theorem znow_any (F:ZFix cap ts)(h:ZIn w b g cap ts i f)(hi:i<ts.length) :
  Calls Tryz.prog 54 #[.pointer (some ⟨b,0,none⟩)] w fun e w'=>e = .returned (.agg (tkAt ts i).cells.toArray)∧Below w.heap.size w w':=by
 obtain⟨cd,fa,h,-⟩:=h;have hn:=F.T.fix.num;have hc1:=F.T.fix.cap1;have hc2:=F.T.fix.cap2;obtain⟨x0,x1,x2,x3,x4⟩:=h.facts hi;have c0:=h.c0;have c1:=h.c1;have lb:=h.blt;have lg:=h.glt;obtain⟨n,hN⟩:∃ n,ts.length=n:=⟨_,rfl⟩;rw[hN] at hi hn hc1 c0;have hi0:(0:Int)≤(i:Int):=by omega
 have hi1:(i:Int)<(n:Int):=by omega
 have hw2:IntKind.i64.wrap ((n:Int) - 1)=(n:Int) - 1:=by rw[IntKind.wrap_i64];omega
 have hm:min (i:Int) ((n:Int) - 1)=(i:Int):=by omega
 unfold BTok.cells;generalize (tkAt ts i).kind=tk at *;generalize (tkAt ts i).place=tp at *;generalize (tkAt ts i).num=tn at *;generalize bs (tkAt ts i).text=tx at *;generalize (tkAt ts i).glue=tg at *;clear h F hN;go_enter Tryz.func54,Tryz.ntmps54
 go_upto_region 1 with fail
 go_region_held3 (fun w'=>w'.cell? ⟨b,0,none⟩=some (.slice (some ⟨g,0,none⟩) n cap)∧w'.cell? ⟨b,1,none⟩=some (.int .i64 i)∧w'.cell? ⟨g,i * 5,none⟩=some (.int .i64 tk)∧w'.cell? ⟨g,i * 5+1,none⟩=some (.int .i64 tp)∧w'.cell? ⟨g,i * 5+2,none⟩=some (.int .i64 tn)∧w'.cell? ⟨g,i * 5+3,none⟩=some (.string tx)∧w'.cell? ⟨g,i * 5+4,none⟩=some (.bool tg)) (go_keep) (fail)
 go_wp2_with fail
 (try simp only[Exit.inBlock,Exit.then])
 refine bodyPost_ret (results_blk1 (p:=2) (g:=w.heap.size) (cs:=[.int .i64 tk,.int .i64 tp,.int .i64 tn,.string tx,.bool tg]) rfl _ _ _ rfl ((Blk.new w _ _).drew) Tryz.underlying95 rfl (by kernel_rfl)) rfl ⟨rfl,bDrew1 ((Below.refl _ _).alloc (Nat.le_refl _) _)⟩
theorem zkind_any (F:ZFix cap ts)(h:ZIn w b g cap ts i f)(hi:i<ts.length)(k:Nat)(kz:Int)(hk:kz=(k:Int)) :
  Calls Tryz.prog 22 #[.pointer (some ⟨b,0,none⟩),.int .i64 kz] w fun e w'=>e = .returned (.bool (f.isNone&&isK ts i [k]))∧Below w.heap.size w w':=by
 subst hk;have hf0:=ztok_f0
 have hX:(((tkAt ts i).kind:Int)==(k:Int))=isK ts i [k]:=by
  unfold isK;rw[Bool.eq_iff_iff,beq_iff_eq,List.contains_iff_mem,List.mem_singleton];omega
 go_enter Tryz.func22,Tryz.ntmps22
 go_wp2_with fail
 refine (zbad_any h).mono ?_;rintro e w1 ⟨rfl,rfl⟩
 cases f with
 | some x =>
  go_wp2_with fail
  go_ret;exact⟨rfl,Below.refl _ _⟩
 | none =>
  go_wp2_with fail
  refine (znow_any F h hi).mono ?_;rintro e w2 ⟨rfl,hb2⟩;unfold BTok.cells;go_wp2_with fail
  go_ret;exact⟨rfl,hb2⟩
theorem zkey_any (F:ZFix cap ts)(h:ZIn w b g cap ts i f)(hi:i<ts.length)(s:List UInt8) :
  Calls Tryz.prog 86 #[.pointer (some ⟨b,0,none⟩),.string (bs s)] w fun e w'=>e = .returned (.bool (f.isNone&&keyAt ts i s))∧Below w.heap.size w w':=by
 have hf3:=ztok_f3;obtain⟨r,hr⟩:∃ r,(f.isNone&&keyAt ts i s)=r:=⟨_,rfl⟩;have HR:=Lib.hid hr;rw[hr];clear hr;go_enter Tryz.func86,Tryz.ntmps86
 go_wp2_with fail
 refine (zkind_any F h hi 18 _ rfl).mono ?_;rintro e w1 ⟨rfl,hb1⟩;have hS1:=h.below hb1;clear h
 cases hx:(f.isNone&&isK ts i [18]) with
 | true =>
  go_wp2_with fail
  refine (znow_any F hS1 hi).mono ?_;rintro e w2 ⟨rfl,hb2⟩;have hB2:=bNext hb1 hb2;unfold BTok.cells
  by_cases ht:(tkAt ts i).text=s
  ·go_wp2_with fail
   go_ret;exact⟨by rw[← HR.out,keyAt,← Bool.and_assoc,hx,ht];simp,hB2⟩
  ·have hq:((bs (tkAt ts i).text).toList==(bs s).toList)=false:=by
    rw[ByteArray.toList_eq,ByteArray.toList_eq,bs_list,bs_list,beq_eq_false_iff_ne];exact ht
   have HQ:=Lib.hid ht;clear ht;go_wp2_with fail
   go_ret;exact⟨by rw[← HR.out,keyAt,← Bool.and_assoc,hx,decide_eq_false HQ.out];rfl,hB2⟩
 | false =>
  go_wp2_with fail
  go_ret;exact⟨by rw[← HR.out,keyAt,← Bool.and_assoc,hx];rfl,hb1⟩
theorem znext_any (F:ZFix cap ts)(h:ZIn w b g cap ts i f)(hi:i<ts.length) :
  Calls Tryz.prog 51 #[.pointer (some ⟨b,0,none⟩)] w fun e w'=>e = .returned (.tuple #[])∧ZIn w' b g cap ts (skP ts i) f∧Kept (At b) w w':=by
 have hn:=F.T.fix.num;have hc1:=F.T.fix.cap1;have hc2:=F.T.fix.cap2;have HIN:=Lib.hid h;obtain⟨cd,fa,h,hF⟩:=h;have HF:=Lib.hid hF;have HS:=Lib.hid h;have c0:=h.c0;have c1:=h.c1;have f1:=h.fr 1;have lb:=h.blt;obtain⟨q,hQ⟩:∃ q,skP ts i=q:=⟨_,rfl⟩;have HQ:=Lib.hid hQ;rw[hQ];obtain⟨n,hN⟩:∃ n,ts.length=n:=⟨_,rfl⟩;have HN:=Lib.hid hN;rw[hN] at hi hn hc1 c0;have hw1:IntKind.i64.wrap ((i:Int)+1)=(i:Int)+1:=by rw[IntKind.wrap_i64];omega
 have hw2:IntKind.i64.wrap ((n:Int) - 1)=(n:Int) - 1:=by rw[IntKind.wrap_i64];omega
 clear h hF hQ hN
 by_cases hlt:i+1<n
 ·obtain rfl:q=i+1:=by have h1:=HQ.out;have h2:=HN.out;unfold skP at h1;omega
  have d1:decide ((i:Int)<(n:Int) - 1)=true:=by rw[decide_eq_true_eq];omega
  have H:=Lib.hid (show ZIn (w.drew.setCell ⟨b,1,none⟩ (.int .i64 ((i:Int)+1))) b g cap ts (i+1) f∧Kept (At b) w (w.drew.setCell ⟨b,1,none⟩ (.int .i64 ((i:Int)+1))) from
   have hk:Kept (At b) w (w.drew.setCell ⟨b,1,none⟩ (.int .i64 ((i:Int)+1))):=Kept.setCell (S:=At b) (p:=⟨b,1,none⟩) ((Kept.refl _ w).drew) (fun _=>rfl) _
   ⟨⟨cd,fa,HS.out.drew.move (i+1),HF.out.kept hk⟩,hk⟩)
  go_enter Tryz.func51,Tryz.ntmps51
  go_upto_region 0 with fail
  go_region
  all_goals
   go_wp2_with fail
   refine bodyPost_end (results_none rfl _ _ _) rfl ?_;exact⟨rfl,H.out⟩
 ·obtain rfl:q=i:=by have h1:=HQ.out;have h2:=HN.out;unfold skP at h1;omega
  have d1:decide ((q:Int)<(n:Int) - 1)=false:=by rw[decide_eq_false_iff_not];omega
  go_enter Tryz.func51,Tryz.ntmps51
  go_upto_region 0 with fail
  go_region
  all_goals
   go_wp2_with fail
   refine bodyPost_end (results_none rfl _ _ _) rfl ?_;exact⟨rfl,HIN.out.drew,(Kept.refl _ _).drew⟩
theorem zfail_any (h:ZIn w b g cap ts i f)(c p:Nat)(cz pz:Int)(hcz:cz=(c:Int))(hpz:pz=(p:Int))(hc:0<c)(hc2:c<1000)(hp:p≤100000) :
  Calls Tryz.prog 55 #[.pointer (some ⟨b,0,none⟩),.int .i64 cz,.int .i64 pz] w fun e w'=>e = .returned (.tuple #[])∧ZIn w' b g cap ts i (f.or (some (c,p)))∧Kept (At b) w w':=by
 subst hcz hpz;go_enter Tryz.func55,Tryz.ntmps55
 go_wp2_with fail
 refine (zbad_any h).mono ?_;rintro e w1 ⟨rfl,rfl⟩
 cases f with
 | some x =>
  go_wp2_with fail
  refine bodyPost_end (results_none rfl _ _ _) rfl ?_;exact⟨rfl,h,Kept.refl _ _⟩
 | none =>
  go_wp2_with fail
  refine (rPlacedT_any (c:Int) (p:Int) (by rw[beq_eq_false_iff_ne];omega) _).mono ?_
  rintro e w2 ⟨fb,rfl,hB,hfb,hb2⟩;have h2:=h.below hb2;have hbl:=h.blt;obtain⟨cd,fa,hS,-⟩:=h2;have c2:=hS.c2;have c3:=hS.c3;have f2:=hS.fr 2;have f3:=hS.fr 3;have hk:Kept (At b) w1 ((w2.setCell ⟨b,2,none⟩ (.int .i64 c)).setCell ⟨b,3,none⟩ (.slice (some ⟨fb,0,none⟩) 1 1)):=Kept.setCell (S:=At b) (p:=⟨b,3,none⟩) (Kept.setCell (S:=At b) (p:=⟨b,2,none⟩) (Kept.ofBelow hb2) (fun _=>rfl) _) (fun _=>rfl) _
  have H:=Lib.hid (show ZIn ((w2.setCell ⟨b,2,none⟩ (.int .i64 c)).setCell ⟨b,3,none⟩ (.slice (some ⟨fb,0,none⟩) 1 1)) b g cap ts i (some (c,p)) from
   ⟨c,_,hS.fault c _,rfl,hc,hc2,hp,fb,rfl,by omega,(Below.heap_setCell _ _ _ _ (by show fb≠b;omega)).trans ((Below.heap_setCell _ _ _ _ (by show fb≠b;omega)).trans hB)⟩)
  clear hS h;go_wp2_with fail
  refine bodyPost_end (results_none rfl _ _ _) rfl ?_;exact⟨rfl,H.out,hk⟩
end
def formF (ts:List BTok) (i:Nat):Nat×Nat:=(if isK ts i [0]=true then 109 else 108,(tkAt ts i).place)
section
variable {w:World} {b g cap:Nat} {ts:List BTok} {i:Nat} {f:Option (Nat×Nat)}
set_option maxHeartbeats 4000000
set_option maxRecDepth 100000
theorem zwrong_any (F:ZFix cap ts)(h:ZIn w b g cap ts i f)(hi:i<ts.length) :
  Calls Tryz.prog 23 #[.pointer (some ⟨b,0,none⟩)] w fun e w'=>e = .returned (.tuple #[])∧ZIn w' b g cap ts i (f.or (some (formF ts i)))∧Kept (At b) w w':=by
 have hf0:=ztok_f0;have hf1:=ztok_f1;have HP:=Lib.hid (F.place i);obtain⟨q,hq⟩:∃ q,formF ts i=q:=⟨_,rfl⟩;have HQ:=Lib.hid hq;rw[hq];clear hq;go_enter Tryz.func23,Tryz.ntmps23
 go_wp2_with fail
 refine (znow_any F h hi).mono ?_;rintro e w1 ⟨rfl,hb1⟩;have h1:=h.below hb1;unfold BTok.cells
 by_cases h0:(tkAt ts i).kind=0
 ·have h9:(((tkAt ts i).kind:Int)==0)=true:=by rw[beq_iff_eq];omega
  go_wp2_with fail
  refine (znow_any F h1 hi).mono ?_;rintro e w2 ⟨rfl,hb2⟩;have h2:=h1.below hb2;unfold BTok.cells;go_wp2_with fail
  refine (zfail_any h2 109 (tkAt ts i).place _ _ rfl rfl (by omega) (by omega) HP.out).mono ?_
  rintro e w3 ⟨rfl,h3,hk3⟩;go_wp2_with fail
  first | (refine bodyPost_ret (results_none rfl _ _ _) rfl ?_) | (refine bodyPost_end (results_none rfl _ _ _) rfl ?_)
  exact⟨rfl,by rw[← HQ.out];unfold formF isK;rw[if_pos (by rw[h0];rfl)];exact h3,(Kept.ofBelow (bNext hb1 hb2)).same hk3⟩
 ·have h9:(((tkAt ts i).kind:Int)==0)=false:=by rw[beq_eq_false_iff_ne];omega
  have HX:=Lib.hid h0;clear h0;go_wp2_with fail
  refine (znow_any F h1 hi).mono ?_;rintro e w2 ⟨rfl,hb2⟩;have h2:=h1.below hb2;unfold BTok.cells;go_wp2_with fail
  refine (zfail_any h2 108 (tkAt ts i).place _ _ rfl rfl (by omega) (by omega) HP.out).mono ?_
  rintro e w3 ⟨rfl,h3,hk3⟩;go_wp2_with fail
  refine bodyPost_end (results_none rfl _ _ _) rfl ?_;exact⟨rfl,by rw[← HQ.out];unfold formF isK;rw[if_neg (by simpa using HX.out)];exact h3,(Kept.ofBelow (bNext hb1 hb2)).same hk3⟩
end
end Go.Proofs.YtbplbehhlbkklaaGreatDoor
