/- Dialect B's parser in memory: what its blocks hold; Lex as a contract. -/
import Derived.Test.YtbpjobmpacjgcaaGreatDoorGZB
import Derived.Test.YtbpjobmpacjgcaaGreatDoorGZA
import Derived.Test.YtbpjobmpacjgcaaGreatDoorGParseG
import Derived.Deep.RegionHeld3
import Derived.Deep.DrawnRows
import Derived.Deep.DeepCutAuto
namespace Go.Proofs.YtbpjobmpacjgcaaGreatDoor
set_option maxHeartbeats 4000000
set_option maxRecDepth 100000
open Go Go.RowKit
theorem kE {w:World}{B:Nat}{e:TypeId}{size:Nat}{v:Value}{n:Nat}{xs:List Value}(h:w.ownsRow B e size v n xs)(hn:0<n) :
  ∃ g cap,v = .slice (some ⟨g,0,none⟩) n cap∧n≤cap∧cap≤maxLen∧B≤g∧g<w.heap.size∧∀ (k:Nat) (u:Value),xs[k]?=some u→w.cell? ⟨g,k,none⟩=some u:=by
 rcases h.2 with ⟨_,h0⟩ | ⟨g,cap,cur,hv,hg,hh,hc1,hc2,hsz,ht⟩
 ·omega
 ·refine ⟨g,cap,hv,hc1,hc2,hg,lt_of_block hh,fun k u hk=>?_⟩
  rw[← ht,List.getElem?_take] at hk;split at hk
  ·simp only[World.cell?,hh];simpa using hk
  ·cases hk
theorem mZ {α:Type}(f:α→List Value)(m:Nat)(hm:∀ a,(f a).length=m):∀ (ts:List α)(i j:Nat)(t:α)(u:Value),ts[i]?=some t→(f t)[j]?=some u→(ts.flatMap f)[m * i+j]?=some u
 | [],i,j,t,u,h,_=>by simp at h
 | a :: ts,0,j,t,u,h,hu=>by
  simp only[List.getElem?_cons_zero,Option.some.injEq] at h;subst h;have hj:=(List.getElem?_eq_some_iff.1 hu).1;rw[List.flatMap_cons,Nat.mul_zero,Nat.zero_add,List.getElem?_append_left hj];exact hu
 | a :: ts,i+1,j,t,u,h,hu=>by
  rw[List.flatMap_cons,List.getElem?_append_right (by rw[hm,Nat.mul_succ];omega),hm,Nat.mul_succ,show m * i+m+j - m=m * i+j from by omega]
  exact mZ f m hm ts i j t u (by simpa using h) hu
theorem JF (t:aH):t.cells.length=5:=rfl
theorem Mr (s:ByteArray)(w:World)(hs:s.size≤8192)(sent:Nat→Addr)(hE:Env w sent)(ts:List aH)(hT:dZ (s.size+1) true s.data.toList 0 = .ok ts) :
  Calls Tryz.prog 22 #[.string s] w fun e w'=>∃ v,e = .returned (.tuple #[v,.nilIface])∧gE w' w.heap.size v ts∧Below w.heap.size w w' :=
 C9 s w hs sent hE _ _ (Ng hT) (Ng fun ts' v w' e h1 h2=>by cases e;exact⟨v,rfl,h1,h2⟩) (Ng fun c p b w' e=>by cases e)
theorem LQ (s:ByteArray)(w:World)(hs:s.size≤8192)(sent:Nat→Addr)(hE:Env w sent)(c p:Nat)(hT:dZ (s.size+1) true s.data.toList 0 = .error (c,p)) :
  Calls Tryz.prog 22 #[.string s] w fun e w'=>∃ b,e = .returned (.tuple #[.slice none 0 0,.iface 61 (.pointer (some ⟨b,0,none⟩))])∧bJ w' b sent c p∧Below w.heap.size w w' :=
 C9 s w hs sent hE _ _ (Ng hT) (Ng fun ts' v w' e=>by cases e) (Ng fun c' p' b w' e h1 h2=>by cases e;exact⟨b,rfl,h1,h2⟩)
def nB (w:World) (g:Nat) (ts:List aH):Prop:=∀ (i:Nat) (a:aH),ts[i]?=some a→∀ (j:Nat) (u:Value),a.cells[j]?=some u→w.cell? ⟨g,i * 5+j,none⟩=some u
theorem nB.below {w w':World}{g:Nat}{ts:List aH}(h:nB w g ts)(hb:Below w.heap.size w w'):nB w' g ts:=fun i a ha j u hu=>aF hb (h i a ha j u hu)
theorem nB.kept {w w':World}{g:Nat}{ts:List aH}{S:Nat→Prop}(h:nB w g ts)(hk:aB S w w')(hS:¬ S g):nB w' g ts:=fun i a ha j u hu=>hk.cell (h i a ha j u hu) hS
theorem nB.facts {w:World}{g:Nat}{ts:List aH}(h:nB w g ts){i:Nat}{a:aH}(ha:ts[i]?=some a) :
  w.cell? ⟨g,i * 5,none⟩=some (.int .i64 a.kind)∧w.cell? ⟨g,i * 5+1,none⟩=some (.int .i64 a.place)∧w.cell? ⟨g,i * 5+2,none⟩=some (.int .i64 a.num)∧w.cell? ⟨g,i * 5+3,none⟩=some (.string (bs a.text))∧w.cell? ⟨g,i * 5+4,none⟩=some (.bool a.glue) :=
 ⟨h i a ha 0 _ rfl,h i a ha 1 _ rfl,h i a ha 2 _ rfl,h i a ha 3 _ rfl,h i a ha 4 _ rfl⟩
theorem KX {ts:List aH}{i:Nat}(hi:i<ts.length):ts[i]?=some (aK ts i):=by
 unfold aK;rw[List.getD_eq_getElem?_getD,List.getElem?_eq_getElem hi];rfl
structure PSt (w:World) (b g cap:Nat) (ts:List aH) (i d:Nat):Prop where
 here:Blk w b [.slice (some ⟨g,0,none⟩) ts.length cap,.int .i64 i,.int .i64 d]
 row:nB w g ts
 ne:g≠b
 glt:g<w.heap.size
structure kY (cap:Nat) (ts:List aH):Prop where
 good:oE ts
 num:ts.length≤8193
 cap1:ts.length≤cap
 cap2:cap≤maxLen
section
variable {w w':World} {b g cap:Nat} {ts:List aH} {i d:Nat}
theorem PSt.c0 (h:PSt w b g cap ts i d):w.cell? ⟨b,0,none⟩=some (.slice (some ⟨g,0,none⟩) ts.length cap):=h.here.cell 0 rfl
theorem PSt.c1 (h:PSt w b g cap ts i d):w.cell? ⟨b,1,none⟩=some (.int .i64 i):=h.here.cell 1 rfl
theorem PSt.c2 (h:PSt w b g cap ts i d):w.cell? ⟨b,2,none⟩=some (.int .i64 d):=h.here.cell 2 rfl
theorem PSt.fr (h:PSt w b g cap ts i d)(n:Nat):w.frozen? ⟨b,n,none⟩=false:=h.here.free n
theorem PSt.blt (h:PSt w b g cap ts i d):b<w.heap.size:=h.here.lt
theorem PSt.below (h:PSt w b g cap ts i d)(hb:Below w.heap.size w w'):PSt w' b g cap ts i d:=⟨h.here.below hb,h.row.below hb,h.ne,Nat.lt_of_lt_of_le h.glt hb.size⟩
theorem PSt.alloc (h:PSt w b g cap ts i d)(o:Obj):PSt (w.alloc o) b g cap ts i d:=h.below ((Below.refl _ _).alloc (Nat.le_refl _) o)
theorem PSt.drew (h:PSt w b g cap ts i d):PSt w.drew b g cap ts i d:=⟨h.here,h.row,h.ne,h.glt⟩
theorem PSt.other (h:PSt w b g cap ts i d){p:Addr}(h1:p.block≠b)(h2:p.block≠g)(u:Value):PSt (w.setCell p u) b g cap ts i d :=
 ⟨h.here.other h1 u,fun k a ha j u' hu=>(World.cell?_setCell_other _ _ _ _ (fun e=>h2 (congrArg Addr.block e))).trans (h.row k a ha j u' hu),h.ne,by simpa [World.setCell] using h.glt⟩
theorem PSt.move (h:PSt w b g cap ts i d)(k:Nat):PSt (w.setCell ⟨b,1,none⟩ (.int .i64 k)) b g cap ts k d :=
 ⟨by have:=h.here.set 1 (.int .i64 k);exact this,fun n a ha j u' hu=>(World.cell?_setCell_other _ _ _ _ (fun e=>h.ne (congrArg Addr.block e).symm)).trans (h.row n a ha j u' hu),h.ne,by simpa [World.setCell] using h.glt⟩
theorem PSt.deep (h:PSt w b g cap ts i d)(k:Nat):PSt (w.setCell ⟨b,2,none⟩ (.int .i64 k)) b g cap ts i k :=
 ⟨by have:=h.here.set 2 (.int .i64 k);exact this,fun n a ha j u' hu=>(World.cell?_setCell_other _ _ _ _ (fun e=>h.ne (congrArg Addr.block e).symm)).trans (h.row n a ha j u' hu),h.ne,by simpa [World.setCell] using h.glt⟩
theorem PSt.belowB {B:Nat}(h:PSt w b g cap ts i d)(hb:Below B w w')(h1:b<B)(h2:g<B):PSt w' b g cap ts i d :=
 ⟨h.here.of_heap (hb.block b h1),fun k a ha j u hu=>(World.cell?_of_block (w:=w) (hb.block g h2)).trans (h.row k a ha j u hu),h.ne,Nat.lt_of_lt_of_le h.glt hb.size⟩
theorem PSt.facts (h:PSt w b g cap ts i d){k:Nat}(hk:k<ts.length) :
  w.cell? ⟨g,k * 5,none⟩=some (.int .i64 (aK ts k).kind)∧w.cell? ⟨g,k * 5+1,none⟩=some (.int .i64 (aK ts k).place)∧w.cell? ⟨g,k * 5+2,none⟩=some (.int .i64 (aK ts k).num)∧w.cell? ⟨g,k * 5+3,none⟩=some (.string (bs (aK ts k).text))∧w.cell? ⟨g,k * 5+4,none⟩=some (.bool (aK ts k).glue) :=
 h.row.facts (KX hk)
end
attribute [local go_sem ↓] Go.wp_at_zero Go.wp_at_succ
theorem lH {B:Nat}{a w:World}(h:Below B a w):Below B a w.drew:=⟨h.os,h.tape,h.output,h.size,h.block⟩
theorem oU {w:World}{b g cap:Nat}{ts:List aH}{i d:Nat}(F:kY cap ts)(h:PSt w b g cap ts i d)(hi:i<ts.length) :
  Calls Tryz.prog 51 #[.pointer (some ⟨b,0,none⟩)] w fun e w'=>e = .returned (.agg (aK ts i).cells.toArray)∧Below w.heap.size w w':=by
 have hn:=F.num;have hc1:=F.cap1;have hc2:=F.cap2;obtain⟨x0,x1,x2,x3,x4⟩:=h.facts hi;have c0:=h.c0;have c1:=h.c1;have lb:=h.blt;have lg:=h.glt;obtain⟨n,hN⟩:∃ n,ts.length=n:=⟨_,rfl⟩;rw[hN] at hi hn hc1 c0;have hi0:(0:Int)≤(i:Int):=by omega
 have hi1:(i:Int)<(n:Int):=by omega
 unfold aH.cells;generalize (aK ts i).kind=tk at *;generalize (aK ts i).place=tp at *;generalize (aK ts i).num=tn at *;generalize bs (aK ts i).text=tx at *;generalize (aK ts i).glue=tg at *;clear h F hN;go_enter Tryz.func51,Tryz.ntmps51
 go_upto_region 1 with fail
 go_region_held3 (fun w'=>w'.cell? ⟨b,0,none⟩=some (.slice (some ⟨g,0,none⟩) n cap)∧w'.cell? ⟨b,1,none⟩=some (.int .i64 i)∧w'.cell? ⟨g,i * 5,none⟩=some (.int .i64 tk)∧w'.cell? ⟨g,i * 5+1,none⟩=some (.int .i64 tp)∧w'.cell? ⟨g,i * 5+2,none⟩=some (.int .i64 tn)∧w'.cell? ⟨g,i * 5+3,none⟩=some (.string tx)∧w'.cell? ⟨g,i * 5+4,none⟩=some (.bool tg)) (go_keep) (fail)
 go_wp2_with fail
 (try simp only[Exit.inBlock,Exit.then])
 refine bodyPost_ret (qJ (p:=2) (g:=w.heap.size) (cs:=[.int .i64 tk,.int .i64 tp,.int .i64 tn,.string tx,.bool tg]) rfl _ _ _ rfl ((Blk.new w _ _).drew) Tryz.underlying87 rfl (by kernel_rfl)) rfl ⟨rfl,lH ((Below.refl _ _).alloc (Nat.le_refl _) _)⟩
theorem Lb {ts:List aH}{i:Nat}(hp:0<ts.length):min ((i:Int)+1) ((ts.length:Int) - 1)=(skP ts i:Nat):=by
 unfold skP;omega
theorem mC {w:World}{b g cap:Nat}{ts:List aH}{i d:Nat}(F:kY cap ts)(h:PSt w b g cap ts i d)(hi:i<ts.length) :
  Calls Tryz.prog 149 #[.pointer (some ⟨b,0,none⟩)] w fun e w'=>e = .returned (.tuple #[])∧PSt w' b g cap ts (skP ts i) d∧aB (At b) w w':=by
 have hn:=F.num;have hc1:=F.cap1;have hc2:=F.cap2;have hm:=Lb (ts:=ts) (i:=i) F.good.pos
 have H:=Ng (show PSt (w.setCell ⟨b,1,none⟩ (.int .i64 (skP ts i:Nat))).drew b g cap ts (skP ts i) d∧aB (At b) w (w.setCell ⟨b,1,none⟩ (.int .i64 (skP ts i:Nat))).drew from
  ⟨(h.move _).drew,(aB.setCell (S:=At b) (p:=⟨b,1,none⟩) (aB.refl _ w) (fun _=>rfl) _).drew⟩)
 obtain⟨q,hQ⟩:∃ q,skP ts i=q:=⟨_,rfl⟩;rw[hQ] at hm H ⊢;have c0:=h.c0;have c1:=h.c1;have f1:=h.fr 1;have lb:=h.blt;obtain⟨n,hN⟩:∃ n,ts.length=n:=⟨_,rfl⟩;rw[hN] at hi hn hc1 c0 hm;have hw1:IntKind.i64.wrap ((i:Int)+1)=(i:Int)+1:=by rw[IntKind.wrap_i64];omega
 have hw2:IntKind.i64.wrap ((n:Int) - 1)=(n:Int) - 1:=by rw[IntKind.wrap_i64];omega
 clear h F hN;go_enter Tryz.func149,Tryz.ntmps149
 go_region
 refine bodyPost_end (results_none rfl _ _ _) rfl ?_;exact⟨rfl,H.out⟩
theorem xA {w:World}{kb:Nat}{ks:List Nat}(hk:Blk w kb (ks.map fun (k:Nat)=>Value.int .i64 (k:Int))):∀ j,j<(ks.map fun (k:Nat)=>(k:Int)).length→w.cell? ⟨kb,0+j,none⟩=some (.int .i64 ((ks.map fun (k:Nat)=>(k:Int)).getD j 0)):=fun j hj=>by
 rw[List.length_map] at hj;rw[Nat.zero_add];refine hk.cell j ?_;rw[List.getElem?_map,List.getElem?_eq_getElem hj,Option.map_some,List.getD_eq_getElem?_getD,List.getElem?_map,List.getElem?_eq_getElem hj];rfl
theorem AH (ks:List Nat)(x:Nat):(((ks.map fun (k:Nat)=>(k:Int))).take ks.length).contains (x:Int)=ks.contains x:=by
 rw[List.take_of_length_le (by simp),Bool.eq_iff_iff,List.contains_iff_mem,List.contains_iff_mem,List.mem_map]
 constructor
 ·rintro ⟨a,h1,h2⟩;obtain rfl:a=x:=by omega
  exact h1
 ·exact fun h=>⟨x,h,rfl⟩
theorem zX (a b c d e:Value)(w:World):(Instr.field 87 (.agg #[a,b,c,d,e]) 0).run Tryz.prog w = .ok a w:=by kernel_rfl
theorem MN (a b c d e:Value)(w:World):(Instr.field 87 (.agg #[a,b,c,d,e]) 1).run Tryz.prog w = .ok b w:=by kernel_rfl
theorem zZ (a b c d e:Value)(w:World):(Instr.field 87 (.agg #[a,b,c,d,e]) 3).run Tryz.prog w = .ok d w:=by kernel_rfl
theorem MH (a b c d e:Value)(w:World):(Instr.field 87 (.agg #[a,b,c,d,e]) 4).run Tryz.prog w = .ok e w:=by kernel_rfl
theorem iY {w:World}{b g cap:Nat}{ts:List aH}{i d:Nat}(F:kY cap ts)(h:PSt w b g cap ts i d)(hi:i<ts.length)(ks:List Nat)(kb c:Nat)(hks:ks.length≤100)(hk:Blk w kb (ks.map fun (k:Nat)=>Value.int .i64 (k:Int))) :
  Calls Tryz.prog 24 #[.pointer (some ⟨b,0,none⟩),.slice (some ⟨kb,0,none⟩) ks.length c] w fun e w'=>e = .returned (.bool (isK ts i ks))∧Below w.heap.size w w':=by
 have HX:=Ng (AH ks (aK ts i).kind);have hf0:=zX;go_enter Tryz.func24,Tryz.ntmps24
 go_wp2_with fail
 refine (oU F h hi).mono ?_;rintro e w1 ⟨rfl,hb1⟩;unfold aH.cells;have HK:=Ng (xA (hk.below hb1));clear hk;go_wp2_with fail
 refine (Tryz.slices_Contains_int kb 0 ks.length c (ks.map fun (k:Nat)=>(k:Int)) _ _ (by simp) (by omega) HK.out).mono ?_
 rintro e w2 ⟨rfl,rfl⟩;rw[HX.out,← isK];go_wp2_with fail
 go_ret;exact⟨rfl,hb1⟩
end Go.Proofs.YtbpjobmpacjgcaaGreatDoor
namespace Go.Proofs.YtbpjobmpacjgcaaGreatDoor
set_option maxHeartbeats 4000000
set_option maxRecDepth 100000
open Go Go.RowKit
theorem uM {w:World}{b g cap:Nat}{ts:List aH}{i d:Nat}(F:kY cap ts)(h:PSt w b g cap ts i d)(hi:i<ts.length)(ks:List Nat)(kb c:Nat)(hks:ks.length≤100)(h0:0 ∉ ks)(hk:Blk w kb (ks.map fun (k:Nat)=>Value.int .i64 (k:Int)))(hkb:kb≠b) :
  Calls Tryz.prog 102 #[.pointer (some ⟨b,0,none⟩),.slice (some ⟨kb,0,none⟩) ks.length c] w fun e w'=>e = .returned (.tuple #[])∧PSt w' b g cap ts (iL ts ks i) d∧aB (At b) w w':=by
 obtain⟨T,hT⟩:∃ T,iL ts ks i=T:=⟨_,rfl⟩;have HT:=Ng hT;rw[hT];clear hT;go_enter Tryz.func102,Tryz.ntmps102
 go_wp2_with fail
 go_loopg [] (ts.length - i) (fun m wr=>∃ k f,m=ts.length - k∧k<ts.length∧ts.length - k≤f∧PSt wr b g cap ts k d∧aB (At b) w wr∧Hid (passP ts ks f k=T))
 case atStart=>exact⟨i,ts.length,rfl,hi,by omega,h,aB.refl _ _,HT⟩
 case round =>
  clear h hi HT;obtain⟨k,f,rfl,hkn,hf,hS,hK,HT⟩:=hrel;have hk':=hk.kept hK (fun e=>hkb e)
  go_wp2_with fail
  refine (iY F hS hkn ks kb c hks hk').mono ?_;rintro e w1 ⟨rfl,hb1⟩;have hS1:=hS.below hb1;have hK1:=hK.andBelow hb1;clear hS hK hk' hb1;obtain⟨f,rfl⟩:∃ g,f=g+1:=⟨f - 1,by omega⟩
  cases hx:isK ts k ks with
  | true =>
   have HT2:=Ng (show passP ts ks f (skP ts k)=T by rw[← HT.out,passP,hx,if_pos rfl])
   obtain⟨e1,e2⟩:=fR F.good hkn h0 hx;rw[e1] at HT2;clear HT hx;go_wp2_with fail
   refine (mC F hS1 hkn).mono ?_;rintro e w2 ⟨rfl,hS2,hK2⟩;rw[e1] at hS2;have hK3:=hK1.same hK2;go_wp2_with fail
   go_roundg (ts.length - (k+1))
   case measure=>omega
   case rel=>exact⟨k+1,f,rfl,e2,by omega,hS2,hK3,HT2⟩
  | false =>
   have HT2:k=T:=by rw[← HT.out,passP,hx,if_neg (by simp)]
   subst HT2;clear HT hx;go_wp2_with fail
   refine bodyPost_end (results_none rfl _ _ _) rfl ?_;exact⟨rfl,hS1,hK1⟩
theorem C8 {w:World}{b g cap:Nat}{ts:List aH}{i d:Nat}(F:kY cap ts)(h:PSt w b g cap ts i d)(hi:i<ts.length)(s:List UInt8) :
  Calls Tryz.prog 103 #[.pointer (some ⟨b,0,none⟩),.string (bs s)] w fun e w'=>e = .returned (.bool (i6 ts i s))∧Below w.heap.size w w':=by
 have hf3:=zZ;obtain⟨r,hr⟩:∃ r,i6 ts i s=r:=⟨_,rfl⟩;have HR:=Ng hr;rw[hr];clear hr;go_enter Tryz.func103,Tryz.ntmps103
 go_wp2_with fail
 refine (iY F (h.alloc _) hi [18] _ _ (by decide) (show Blk _ _ [Value.int .i64 18] from Blk.new w _ _)).mono ?_
 rintro e w1 ⟨rfl,hb1⟩;have hS1:=(h.alloc _).below hb1;have hB1:=aE ((Below.refl w.heap.size w).alloc (Nat.le_refl _) _) hb1;clear h hb1
 cases hx:isK ts i [18] with
 | true =>
  go_wp2_with fail
  refine (oU F hS1 hi).mono ?_;rintro e w2 ⟨rfl,hb2⟩;have hB2:=aE hB1 hb2;unfold aH.cells
  by_cases ht:(aK ts i).text=s
  ·go_wp2_with fail
   go_ret;exact⟨by rw[← HR.out,i6,hx,ht];simp,hB2⟩
  ·have hq:((bs (aK ts i).text).toList==(bs s).toList)=false:=by
    rw[ByteArray.toList_eq,ByteArray.toList_eq,bK,bK,beq_eq_false_iff_ne];exact ht
   have HQ:=Ng ht;clear ht;go_wp2_with fail
   go_ret;exact⟨by rw[← HR.out,i6,hx,decide_eq_false HQ.out];rfl,hB2⟩
 | false =>
  go_wp2_with fail
  go_ret;exact⟨by rw[← HR.out,i6,hx];rfl,hB1⟩
theorem xD {w:World}{b g cap:Nat}{ts:List aH}{i d:Nat}(F:kY cap ts)(h:PSt w b g cap ts i d)(hi:i<ts.length)(x:Addr) :
  Calls Tryz.prog 52 #[.pointer (some ⟨b,0,none⟩),.iface 286 (.pointer (some x))] w fun e w'=>∃ eb,e = .returned (.iface 61 (.pointer (some ⟨eb,0,none⟩)))∧Blk w' eb [.int .i64 (aK ts i).place,.iface 286 (.pointer (some x))]∧w.heap.size≤eb∧Below w.heap.size w w':=by
 have hf1:=MN;go_enter Tryz.func52,Tryz.ntmps52
 go_wp2_with fail
 refine (oU F h hi).mono ?_;rintro e w1 ⟨rfl,hb1⟩;unfold aH.cells;go_wp2_with fail
 go_ret;exact⟨_,rfl,Blk.new w1 _ _,hb1.size,hb1.alloc hb1.size _⟩
theorem p7 {w:World}{sent:Nat→Addr}(hE:Env w sent)(c g:Nat)(h:(c,g)∈cH):w.cell? ⟨g,0,none⟩=some (.iface 286 (.pointer (some (sent c)))):=hE c g h
theorem uP {w:World}{b g cap:Nat}{ts:List aH}{i d:Nat}(F:kY cap ts)(h:PSt w b g cap ts i d)(hi:i<ts.length)(sent:Nat→Addr)(hE:Env w sent) :
  Calls Tryz.prog 25 #[.pointer (some ⟨b,0,none⟩)] w fun e w'=>∃ eb,e = .returned (.iface 61 (.pointer (some ⟨eb,0,none⟩)))∧bJ w' eb sent (if isK ts i [0]=true then 109 else 108) (aK ts i).place∧w.heap.size≤eb∧Below w.heap.size w w':=by
 obtain⟨cd,hcd⟩:∃ cd,(if isK ts i [0]=true then 109 else 108)=cd:=⟨_,rfl⟩
 rw[hcd];go_enter Tryz.func25,Tryz.ntmps25
 go_wp2_with fail
 refine (iY F (h.alloc _) hi [0] _ _ (by decide) (show Blk _ _ [Value.int .i64 0] from Blk.new w _ _)).mono ?_
 rintro e w1 ⟨rfl,hb1⟩;have hS1:=(h.alloc _).below hb1;have hB1:=aE ((Below.refl w.heap.size w).alloc (Nat.le_refl _) _) hb1;have he1:=p7 (hE.below hB1) 109 4 (by simp [cH])
 have he2:=p7 (hE.below hB1) 108 5 (by simp [cH])
 clear h hb1
 cases hx:isK ts i [0] with
 | true =>
  rw[hx,if_pos rfl] at hcd;subst hcd;clear hx;go_wp2_with fail
  refine (xD F hS1 hi _).mono ?_;rintro e w2 ⟨eb,rfl,hE2,hl,hb2⟩;go_wp2_with fail
  go_ret;exact⟨eb,rfl,hE2,Nat.le_trans hB1.size hl,aE hB1 hb2⟩
 | false =>
  rw[hx,if_neg (by simp)] at hcd
  subst hcd;clear hx;go_wp2_with fail
  refine (xD F hS1 hi _).mono ?_;rintro e w2 ⟨eb,rfl,hE2,hl,hb2⟩;go_wp2_with fail
  go_ret;exact⟨eb,rfl,hE2,Nat.le_trans hB1.size hl,aE hB1 hb2⟩
theorem xX {w:World}{b g cap:Nat}{ts:List aH}{i d:Nat}(F:kY cap ts)(h:PSt w b g cap ts i d)(hi:i<ts.length)(ks:List Nat)(kb c:Nat)(hks:ks.length≤100)(hk:Blk w kb (ks.map fun (k:Nat)=>Value.int .i64 (k:Int)))(hx:isK ts i ks=true) :
  Calls Tryz.prog 228 #[.pointer (some ⟨b,0,none⟩),.slice (some ⟨kb,0,none⟩) ks.length c] w fun e w'=>e = .returned .nilIface∧PSt w' b g cap ts (skP ts i) d∧aB (At b) w w':=by
 go_enter Tryz.func228,Tryz.ntmps228
 go_wp2_with fail
 refine (iY F h hi ks kb c hks hk).mono ?_;rintro e w1 ⟨rfl,hb1⟩;rw[hx];have hS1:=h.below hb1;go_wp2_with fail
 refine (mC F hS1 hi).mono ?_;rintro e w2 ⟨rfl,hS2,hK2⟩;have hK:=(aB.ofBelow (S:=At b) hb1).same hK2;go_wp2_with fail
 go_ret;exact⟨rfl,hS2,hK⟩
theorem yM {w:World}{b g cap:Nat}{ts:List aH}{i d:Nat}(F:kY cap ts)(h:PSt w b g cap ts i d)(hi:i<ts.length)(ks:List Nat)(kb c:Nat)(hks:ks.length≤100)(hk:Blk w kb (ks.map fun (k:Nat)=>Value.int .i64 (k:Int)))(hx:isK ts i ks=false)(sent:Nat→Addr)(hE:Env w sent) :
  Calls Tryz.prog 228 #[.pointer (some ⟨b,0,none⟩),.slice (some ⟨kb,0,none⟩) ks.length c] w fun e w'=>∃ eb,e = .returned (.iface 61 (.pointer (some ⟨eb,0,none⟩)))∧bJ w' eb sent (if isK ts i [0]=true then 109 else 108) (aK ts i).place∧w.heap.size≤eb∧Below w.heap.size w w':=by
 obtain⟨cd,hcd⟩:∃ cd,(if isK ts i [0]=true then 109 else 108)=cd:=⟨_,rfl⟩
 have HC:=Ng hcd;rw[hcd];clear hcd;go_enter Tryz.func228,Tryz.ntmps228
 go_wp2_with fail
 refine (iY F h hi ks kb c hks hk).mono ?_;rintro e w1 ⟨rfl,hb1⟩;rw[hx];have hS1:=h.below hb1;have hE1:=hE.below hb1;go_wp2_with fail
 refine (uP F hS1 hi sent hE1).mono ?_;rw[HC.out];rintro e w2 ⟨eb,rfl,hE2,hl,hb2⟩;have hB:=aE hb1 hb2;go_wp2_with fail
 go_ret;exact⟨eb,rfl,hE2,Nat.le_trans hb1.size hl,hB⟩
theorem Iv {w:World}{b g cap:Nat}{ts:List aH}{i d:Nat}(F:kY cap ts)(h:PSt w b g cap ts i d)(hi:i<ts.length)(q:Bool) :
  Calls Tryz.prog 184 #[.pointer (some ⟨b,0,none⟩),.bool q] w fun e w'=>e = .returned (.tuple #[])∧PSt w' b g cap ts (if q=true then skP ts i else i) d∧aB (At b) w w':=by
 obtain⟨j,hj⟩:∃ j,(if q=true then skP ts i else i)=j:=⟨_,rfl⟩
 rw[hj]
 cases q with
 | true =>
  rw[if_pos rfl] at hj;subst hj;go_enter Tryz.func184,Tryz.ntmps184
  go_wp2_with fail
  refine (mC F h hi).mono ?_;rintro e w2 ⟨rfl,hS2,hK2⟩;go_wp2_with fail
  refine bodyPost_end (results_none rfl _ _ _) rfl ?_;exact⟨rfl,hS2,hK2⟩
 | false =>
  rw[if_neg (by simp)] at hj
  subst hj;go_enter Tryz.func184,Tryz.ntmps184
  go_wp2_with fail
  refine bodyPost_end (results_none rfl _ _ _) rfl ?_;exact⟨rfl,h,aB.refl _ _⟩
theorem yI:(Tryz.prog.info? 40).map (fun i=>(i.zero,i.size,i.bytes))=some (some (.agg #[.int .i64 0,.int .i64 0,.int .i64 0,.int .i64 0,.string ⟨#[]⟩]),5,48):=by kernel_rfl
theorem jB:(Tryz.prog.info? 26).map (fun i=>(i.zero,i.size,i.bytes))=some (some (.slice none 0 0),1,24):=by kernel_rfl
theorem qM (x:bE):x.cells.length=5:=rfl
theorem uO (l:aA):(l.flatMap bE.cells).length=l.length * 5:=by
 induction l with
 | nil=>rfl
 | cons a l ih=>rw[List.flatMap_cons,List.length_append,ih,qM,List.length_cons];omega
def mS (w:World) (g:Nat) (l:aA):Prop:=∀ (k:Nat) (u:Value),(l.flatMap bE.cells)[k]?=some u→w.cell? ⟨g,k,none⟩=some u
def NSl (w:World) (b:Nat) (v:Value) (l:aA):Prop:=∃ g cap,v = .slice (some ⟨g,0,none⟩) l.length cap∧l.length≤cap∧cap≤maxLen∧(∃ cur fz,w.heap[g]?=some (.cells cur 40 fz))∧g≠b∧mS w g l
theorem NSl.of_block {w w':World}{b:Nat}{v:Value}{l:aA}(h:NSl w b v l)(hb:∀ g cur fz,w.heap[g]?=some (.cells cur 40 fz)→g≠b→w'.heap[g]?=w.heap[g]?):NSl w' b v l:=by
 obtain⟨g,cap,h1,h2,h3,⟨cur,fz,h4⟩,h5,h6⟩:=h;have he:=hb g cur fz h4 h5;exact⟨g,cap,h1,h2,h3,⟨cur,fz,he.trans h4⟩,h5,fun k u hk=>(World.cell?_of_block (w:=w) he).trans (h6 k u hk)⟩
theorem NSl.below {w w':World}{b:Nat}{v:Value}{l:aA}(h:NSl w b v l)(hb:Below w.heap.size w w'):NSl w' b v l:=h.of_block fun g _ _ h4 _=>hb.block g (lt_of_block h4)
theorem NSl.kept {w w':World}{b:Nat}{v:Value}{l:aA}(h:NSl w b v l)(hk:aB (At b) w w'):NSl w' b v l:=h.of_block fun g _ _ h4 h5=>hk.block g (lt_of_block h4) h5
theorem NSl.grown {w w':World}{b:Nat}{v:Value}{l:aA}{row:Option Nat}(h:NSl w b v l)(hg:w.grownBy w' row)(hr:∀ k,row=some k→∃ cur fz t,w.heap[k]?=some (.cells cur t fz)∧t≠40):NSl w' b v l:=h.of_block fun g cur fz h4 _=>hg.block g (lt_of_block h4) (fun e=>by
 obtain⟨c2,f2,t2,h7,h8⟩:=hr g e.symm;rw[h4] at h7;injection h7 with h7
 injection h7 with _ h9 _
 exact h8 h9.symm)
theorem oM {w:World}{B:Nat}{e:TypeId}{size:Nat}{v:Value}{n:Nat}{xs:List Value}(h:w.ownsRow B e size v n xs):∀ k,v.ownBlock=some k→∃ cur fz,w.heap[k]?=some (.cells cur e fz):=fun k hk=>by
 rcases h.2 with ⟨hv,_⟩ | ⟨g,cap,cur,hv,hg,hh,r⟩
 ·rw[hv] at hk
  cases hk
 ·rw[hv] at hk
  cases hk
  exact⟨cur,_,hh⟩
def dM (w:World) (B:Nat) (v:Value) (l:aA):Prop:=w.ownsRow B 40 5 v l.length (l.flatMap bE.cells)
theorem dM.nsl {w:World}{B b:Nat}{v:Value}{l:aA}(h:dM w B v l)(hl:0<l.length)(hb:b<B):NSl w b v l:=by
 obtain⟨g,cap,h1,h2,h3,h4,h5,h6⟩:=kE h hl
 exact⟨g,cap,h1,h2,h3,by
  obtain⟨cur,fz,e⟩:=oM h g (by rw[h1];rfl)
  exact⟨cur,fz,e⟩,by omega,h6⟩
theorem dM.kept {w w':World}{B:Nat}{v:Value}{l:aA}{S:Nat→Prop}(h:dM w B v l)(hk:aB S w w')(hS:∀ k,v.ownBlock=some k→¬ S k):dM w' B v l:=by
 refine ⟨h.1,?_⟩
 rcases h.2 with h2 | ⟨g,cap,cur,hv,hg,hh,r⟩
 ·exact .inl h2
 ·exact .inr ⟨g,cap,cur,hv,hg,(hk.block g (lt_of_block hh) (hS g (by rw[hv];rfl))).trans hh,r⟩
theorem dM.below {w w':World}{B:Nat}{v:Value}{l:aA}(h:dM w B v l)(hb:Below w.heap.size w w'):dM w' B v l :=
 h.kept (aB.ofBelow hb:aB bW w w') (fun _ _ e=>e)
theorem dM.mono {w:World}{B B':Nat}{v:Value}{l:aA}(h:dM w B v l)(hB:B'≤B):dM w B' v l:=by
 refine ⟨h.1,?_⟩
 rcases h.2 with h2 | ⟨g,cap,cur,hv,hg,r⟩
 ·exact .inl h2
 ·exact .inr ⟨g,cap,cur,hv,Nat.le_trans hB hg,r⟩
theorem dM.form {w:World}{B:Nat}{v:Value}{l:aA}(h:dM w B v l)(hl:0<l.length):∃ g cap,v = .slice (some ⟨g,0,none⟩) l.length cap∧l.length≤cap∧B≤g∧g<w.heap.size:=by
 obtain⟨g,cap,h1,h2,_,h4,h5,_⟩:=kE h hl;exact⟨g,cap,h1,h2,h4,h5⟩
def fO (w:World) (b:Nat) (u:Value) (l:aA):Prop:=NSl w b u l∨(u = .slice none 0 0∧l=[])
theorem fO.below {w w':World}{b:Nat}{u:Value}{l:aA}(h:fO w b u l)(hb:Below w.heap.size w w'):fO w' b u l:=h.imp (fun h=>h.below hb) id
theorem fO.kept {w w':World}{b:Nat}{u:Value}{l:aA}(h:fO w b u l)(hk:aB (At b) w w'):fO w' b u l:=h.imp (fun h=>h.kept hk) id
theorem fO.form {w:World}{b:Nat}{u:Value}{l:aA}(h:fO w b u l):∃ ao cap,u = .slice ao l.length cap:=by
 rcases h with ⟨g,cap,h,_⟩ | ⟨rfl,rfl⟩
 ·exact⟨_,_,h⟩
 ·exact⟨none,0,rfl⟩
def KSl (w:World) (b:Nat) (v:Value) (L:List aA):Prop:=∃ ao cap,v = .slice ao L.length cap∧L.length≤cap∧cap≤maxLen ∧
 (0<L.length→∃ g,ao=some ⟨g,0,none⟩∧g<w.heap.size∧g≠b∧∀ (i:Nat) (l:aA),L[i]?=some l→∃ u,w.cell? ⟨g,i,none⟩=some u∧fO w b u l)
theorem KSl.below {w w':World}{b:Nat}{v:Value}{L:List aA}(h:KSl w b v L)(hb:Below w.heap.size w w'):KSl w' b v L:=by
 obtain⟨ao,cap,h1,h2,h3,h4⟩:=h;refine ⟨ao,cap,h1,h2,h3,fun hl=>?_⟩
 obtain⟨g,e1,e2,e3,e4⟩:=h4 hl;refine ⟨g,e1,Nat.lt_of_lt_of_le e2 hb.size,e3,fun i l hi=>?_⟩
 obtain⟨u,u1,u2⟩:=e4 i l hi;exact⟨u,aF hb u1,u2.below hb⟩
theorem KSl.new {w:World}{b:Nat}{us:List Value}{L:List aA}{n:Nat}(hb:b<w.heap.size)(hn:L.length=n)(hl:us.length=n)(hm:n≤1000)(h:∀ (i:Nat)(u:Value)(l:aA),us[i]?=some u→L[i]?=some l→fO w b u l):KSl (w.alloc (.cells us.toArray 26)) b (.slice (some ⟨w.heap.size,0,none⟩) n n) L:=by
 subst hn;refine ⟨_,_,rfl,Nat.le_refl _,by unfold maxLen;omega,fun _=>⟨w.heap.size,rfl,by simp,by omega,fun i l hi=>?_⟩⟩
 have hil:=(List.getElem?_eq_some_iff.1 hi).1;have hu:us[i]?=some us[i]:=List.getElem?_eq_getElem (by omega)
 exact⟨_,(Blk.new w us 26).cell i hu,(h i _ l hu hi).below ((Below.refl _ w).alloc (Nat.le_refl _) _)⟩
theorem KSl.new1 {w:World}{b:Nat}{u:Value}{l:aA}(hb:b<w.heap.size)(h:fO w b u l):KSl (w.alloc (.cells #[u] 26)) b (.slice (some ⟨w.heap.size,0,none⟩) 1 1) [l] :=
 KSl.new (us:=[u]) hb rfl rfl (by omega) fun i x y hx hy=>by
  match i,hx,hy with
  | 0,hx,hy=>cases hx;cases hy;exact h
  | i+1,hx,_=>simp at hx
theorem KSl.new2 {w:World}{b:Nat}{u v:Value}{l m:aA}(hb:b<w.heap.size)(h:fO w b u l)(h2:fO w b v m):KSl (w.alloc (.cells #[u,v] 26)) b (.slice (some ⟨w.heap.size,0,none⟩) 2 2) [l,m] :=
 KSl.new (us:=[u,v]) hb rfl rfl (by omega) fun i x y hx hy=>by
  match i,hx,hy with
  | 0,hx,hy=>cases hx;cases hy;exact h
  | 1,hx,hy=>cases hx;cases hy;exact h2
  | i+2,hx,_=>simp at hx
theorem KSl.new3 {w:World}{b:Nat}{u v z:Value}{l m n:aA}(hb:b<w.heap.size)(h:fO w b u l)(h2:fO w b v m)(h3:fO w b z n):KSl (w.alloc (.cells #[u,v,z] 26)) b (.slice (some ⟨w.heap.size,0,none⟩) 3 3) [l,m,n] :=
 KSl.new (us:=[u,v,z]) hb rfl rfl (by omega) fun i x y hx hy=>by
  match i,hx,hy with
  | 0,hx,hy=>cases hx;cases hy;exact h
  | 1,hx,hy=>cases hx;cases hy;exact h2
  | 2,hx,hy=>cases hx;cases hy;exact h3
  | i+3,hx,_=>simp at hx
theorem KSl.nil (w:World)(b:Nat):KSl w b (.slice none 0 0) []:=⟨none,0,rfl,Nat.le_refl _,Nat.zero_le _,fun h=>absurd h (by simp)⟩
theorem dM.setSize {w:World}{B g n cap:Nat}{x:bE}{l:aA}(h:dM w B (.slice (some ⟨g,0,none⟩) n cap) (x :: l))(z:Int) :
  dM (w.setCell ⟨g,3,none⟩ (.int .i64 z)) B (.slice (some ⟨g,0,none⟩) n cap) ({ x with size:=z } :: l):=by
 refine ⟨by rw[uO],?_⟩
 rcases h.2 with ⟨hv,h0⟩ | ⟨g',cap',cur,hv,hg,hh,hc1,hc2,hsz,ht⟩
 ·simp at h0
 ·injection hv with e1 e2 e3
  injection e1 with e1
  injection e1 with e1
  subst e1 e2 e3;have hgl:=lt_of_block hh;refine .inr ⟨g,cap,cur.set! 3 (.int .i64 z),by simp,hg,?_,by simpa using hc1,hc2,by simpa using hsz,?_⟩
  ·show (w.heap.modify g _)[g]?=_
   have h':w.heap[g] = .cells cur 40 (0,0):=by simpa [Array.getElem?_eq_getElem hgl] using hh
   rw[Array.getElem?_eq_getElem (by simpa using hgl),Array.getElem_modify_self,h']
   simp
  ·rw[Array.set!_eq_setIfInBounds,Array.toList_setIfInBounds,List.take_set];have e:({ x with size:=z } :: l).length * 5=(x :: l).length * 5:=by simp
   rw[e,ht,List.flatMap_cons,List.flatMap_cons];rfl
theorem dM.one {w:World}{B b:Nat}(x:bE)(hB:B≤w.heap.size)(hb:b=w.heap.size):dM (w.alloc (.cells x.cells.toArray 40)) B (.slice (some ⟨b,0,none⟩) 1 1) [x]:=by
 subst hb;refine ⟨rfl,.inr ⟨w.heap.size,1,x.cells.toArray,rfl,hB,?_,Nat.le_refl _,by unfold maxLen;omega,rfl,?_⟩⟩
 ·show (w.heap.push _)[w.heap.size]?=_
  rw[Array.getElem?_push,if_pos rfl]
 ·simp [bE.cells]
theorem dM.lt {w:World}{B:Nat}{v:Value}{l:aA}(h:dM w B v l):∀ k,v.ownBlock=some k→B≤k∧k<w.heap.size:=World.ownsRow.lt h
theorem xV (l:aA):∀ u∈l.flatMap bE.cells,u.oneCell'=true:=by
 intro u hu;rw[List.mem_flatMap] at hu;obtain⟨x,_,hx⟩:=hu;simp only[bE.cells,List.mem_cons,List.not_mem_nil,or_false] at hx
 rcases hx with rfl | rfl | rfl | rfl | rfl <;> rfl
theorem CN (L:List aA)(k:Nat)(l:aA)(h:L[k]?=some l):(L.take (k+1)).flatten=(L.take k).flatten++l:=by
 obtain⟨hk,e⟩:=List.getElem?_eq_some_iff.1 h;rw[List.take_succ_eq_append_getElem hk,e];simp
theorem K8 (L:List aA)(k:Nat):(L.take k).flatten.length≤L.flatten.length:=by
 have h:L.flatten=(L.take k).flatten++(L.drop k).flatten:=by rw[← List.flatten_append,List.take_append_drop]
 rw[h,List.length_append];omega
theorem LK (kind n:Int)(s:List UInt8)(L:List aA)(b:Nat)(v:Value)(w:World)(hK:KSl w b v L)(hsz:L.flatten.length≤1000000000000)(hnum:L.length≤100000000) :
  Calls Tryz.prog 7 #[.int .i64 kind,.int .i64 n,.string (bs s),v] w fun e w'=>∃ v',e = .returned v'∧dM w' w.heap.size v' (aC kind n s L)∧Below w.heap.size w w':=by
 obtain⟨i0,hi0,hz0,hz1,hz2⟩:=info_parts yI;have HK:=Ng hK;obtain⟨ao,cap,hv,hc1,hc2,hc3⟩:=hK;subst hv;obtain⟨N,hN⟩:∃ N,L.length=N:=⟨_,rfl⟩;have HN:=Ng hN;rw[hN] at hc1 hc3 hnum ⊢;have HC:=Ng hc3;clear hN hc3;have hO:=dM.one (w:=w) (B:=w.heap.size) (b:=w.heap.size) ⟨kind,n,N,0,s⟩ (Nat.le_refl _) rfl;unfold bE.cells at hO;go_enter Tryz.func7,Tryz.ntmps7
 go_wp2_with fail
 go_loopg [9,11,21] N (fun m o x c wr=>∃ k:Nat,m=N - k∧k≤N∧c = .int .i64 k∧dM wr w.heap.size o (⟨kind,n,N,0,s⟩ :: (L.take k).flatten)∧Below w.heap.size w wr)
 case atStart=>exact⟨0,rfl,Nat.zero_le _,rfl,hO,(Below.refl _ _).alloc (Nat.le_refl _) _⟩
 case round =>
  clear hO;obtain⟨k,rfl,hkn,rfl,hOw,hb⟩:=hrel
  by_cases hlt:k<N
  ·obtain⟨g,rfl,hg1,hg2,hg3⟩:=HC.out (by omega)
   obtain⟨l,hl⟩:∃ l,L[k]?=some l:=⟨_,List.getElem?_eq_getElem (by have:=HN.out;omega)⟩
   obtain⟨u,hu,hul⟩:=hg3 k l hl;have hu':=aF hb hu;have HF:=Ng (CN L k l hl)
   rcases hul.below hb with hN0 | ⟨rfl,rfl⟩
   ·obtain⟨g',cap',rfl,d1,d2,d3,d4,d5⟩:=hN0;obtain⟨o1,o2,rfl,o3,o4,o5⟩:=hOw.form (by simp)
    have HF:=Ng (CN L k l hl);have hlen:=K8 L (k+1);rw[HF.out,List.length_append] at hlen;obtain⟨m1,hm1⟩:∃ m,(⟨kind,n,N,0,s⟩ :: (L.take k).flatten:aA).length=m:=⟨_,rfl⟩;have hm2:m1≤1000000000001:=by rw[← hm1,List.length_cons];omega
    have hm3:m1+l.length≤1000000000001:=by rw[← hm1,List.length_cons];omega
    have HM:=Ng hm1;have HO:=Ng hOw;rw[hm1] at HO ⊢;clear hm1 hlen hl hu hg3 hul;go_wp2_with (at_builtin;refine wpList_append_own _ rfl _ _ 26 rfl w.heap.size 40 i0 _ 5 48 Tryz.underlying26 hi0 hz0 hz1 hz2 rfl (by decide) _ m1 _ rfl (by have:=HO.out;unfold dM at this;rw[HM.out] at this;exact this) ⟨g',0,none⟩ l.length cap' (l.flatMap bE.cells) rfl (uO l) ?c1 ?c2 ?c3 ?c4 ?c5 ?_)
    case c1 =>
     intro j u h;have:=d5 j u h
     cases j <;> simpa [Addr.add] using this
    case c2=>exact xV l
    case c3=>unfold maxLen;omega
    case c4=>omega
    case c5=>exact hb.size
    intro v' w5 hown' hgrow _
    have hO5:dM w5 w.heap.size v' (⟨kind,n,N,0,s⟩ :: (L.take (k+1)).flatten):=by
     rw[HF.out,← List.cons_append];unfold dM;rw[List.length_append,List.flatMap_append,HM.out];exact hown'
    have hlt5:=HO.out;have hK5:aB (fun k'=>some k'=(Value.slice (some ⟨o1,0,none⟩) m1 o2).ownBlock) wr w5:=(aB.refl _ _).grown hgrow (fun k' h _=>h.symm)
    have hb5:Below w.heap.size w w5:=hb.trans (hK5.below hb.size (fun i hi e=>by have:=hlt5.lt _ e.symm;omega))
    go_wp2_with fail
    go_roundg (N - (k+1))
    case measure=>omega
    case rel=>exact⟨k+1,rfl,by omega,by go_num,hO5,hb5⟩
   ·obtain⟨o1,o2,rfl,o3,o4,o5⟩:=hOw.form (by simp)
    have HO:=Ng (show dM wr w.heap.size (.slice (some ⟨o1,0,none⟩) (⟨kind,n,N,0,s⟩ :: (L.take k).flatten:aA).length o2) (⟨kind,n,N,0,s⟩ :: (L.take (k+1)).flatten) from by rw[HF.out,List.append_nil];exact hOw)
    generalize (⟨kind,n,N,0,s⟩ :: (L.take k).flatten:aA).length=m1 at *;clear hOw hl hu hg3 hul;go_wp2_with fail
    go_roundg (N - (k+1))
    case measure=>omega
    case rel=>exact⟨k+1,rfl,by omega,by go_num,HO.out,hb⟩
  ·obtain rfl:k=N:=by omega
   obtain⟨o1,o2,rfl,o3,o4,o5⟩:=hOw.form (by simp)
   have hT:(L.take k).flatten=L.flatten:=by rw[List.take_of_length_le (by have:=HN.out;omega)]
   rw[hT] at hOw o3 ⊢
   have HO:=Ng (show dM (wr.setCell ⟨o1,3,none⟩ (.int .i64 ((L.flatten.length:Int)+1))) w.heap.size (.slice (some ⟨o1,0,none⟩) (L.flatten.length+1) o2) (aC kind n s L) from by
    have h:=hOw.setSize ((L.flatten.length:Int)+1);have e:=HN.out;subst e;exact h)
   have hfz:wr.frozen? ⟨o1,3,none⟩=false:=by
    rcases hOw.2 with ⟨_,h0⟩ | ⟨g',cap',cur,hv,_,hh,_⟩
    ·simp at h0
    ·injection hv with e1 _ _
     injection e1 with e1
     injection e1 with e1
     subst e1;simp [World.frozen?,hh]
   obtain⟨g',cap',hv,_,_,_,_,hcell⟩:=kE hOw (by simp)
   injection hv with e1 _ e3
   injection e1 with e1
   injection e1 with e1
   subst e1 e3;have c3:=hcell 3 (.int .i64 0) (by simp [bE.cells])
   have hwr:IntKind.i64.wrap ((L.flatten.length:Int)+1)=(L.flatten.length:Int)+1:=by rw[IntKind.wrap_i64];omega
   simp only[List.length_cons] at o3 ⊢;have HB:=Ng (hb.setCell (p:=⟨o1,3,none⟩) o4 (.int .i64 ((L.flatten.length:Int)+1)));clear hOw hcell hb hT;generalize L.flatten.length=q at *;go_wp2_with fail
   go_ret;exact⟨_,rfl,HO.out,HB.out⟩
theorem nS (kind n:Int)(s:List UInt8)(L:List aA):0<(aC kind n s L).length:=by rw[aC];simp
theorem bT (kind n:Int)(s:List UInt8)(L:List aA)(b:Nat)(v:Value)(w:World)(hb:b<w.heap.size)(hK:KSl w b v L)(hsz:L.flatten.length≤1000000000000)(hnum:L.length≤100000000) :
  Calls Tryz.prog 7 #[.int .i64 kind,.int .i64 n,.string (bs s),v] w fun e w'=>∃ v',e = .returned v'∧NSl w' b v' (aC kind n s L)∧Below w.heap.size w w':=by
 refine (LK kind n s L b v w hK hsz hnum).mono ?_;rintro e w' ⟨v',rfl,h1,h2⟩;exact⟨v',rfl,h1.nsl (nS _ _ _ _) hb,h2⟩
theorem qW (s:List UInt8)(b:Nat)(w:World)(hb:b<w.heap.size) :
  Calls Tryz.prog 5 #[.string (bs s)] w fun e w'=>∃ v',e = .returned v'∧NSl w' b v' (aR s)∧Below w.heap.size w w':=by
 go_enter Tryz.func5,Tryz.ntmps5
 go_wp2_with fail
 refine (bT 1 0 s [] b _ w hb (KSl.nil _ _) (by simp) (by simp)).mono ?_
 rintro e w1 ⟨v1,rfl,h1,h2⟩;go_wp2_with fail
 go_ret;exact⟨_,rfl,h1,h2⟩
theorem FI (l:aA)(b:Nat)(v:Value)(w:World)(hb:b<w.heap.size)(hl:0<l.length)(hsz:l.length≤100000000)(h:NSl w b v l) :
  Calls Tryz.prog 80 #[v] w fun e w'=>∃ v',e = .returned v'∧NSl w' b v' l∧Below w.heap.size w w':=by
 obtain⟨i0,hi0,hz0,hz1,hz2⟩:=info_parts yI;obtain⟨g,cap,rfl,h1,h2,h3,h4,h5⟩:=h;have qT:∀ (w:World) (a:Option Addr) (n c n' c':Nat),(binOp .eql 26 (.slice a n c) (.slice none n' c')).run Tryz.prog w = .ok (.bool a.isNone) w:=fun w a n c n' c'=>Lib.run_eql_slice_nil w _ _ a n c n' c' Tryz.underlying26
 have hO:dM (w.alloc (.cells #[] 40)) w.heap.size (.slice (some ⟨w.heap.size,0,none⟩) 0 0) []:=by
  refine ⟨rfl,.inr ⟨w.heap.size,0,#[],rfl,Nat.le_refl _,?_,Nat.le_refl _,Nat.zero_le _,rfl,rfl⟩⟩;show (w.heap.push _)[w.heap.size]?=_
  rw[Array.getElem?_push,if_pos rfl]
 have hr:∀ j u,(l.flatMap bE.cells)[j]?=some u→(w.alloc (.cells #[] 40)).cell? ((⟨g,0,none⟩:Addr).add j)=some u:=fun j u hu=>by
  have:=aF ((Below.refl w.heap.size w).alloc (Nat.le_refl _) (.cells #[] 40)) (h5 j u hu)
  cases j <;> simpa [Addr.add] using this
 have hB1:=(Below.refl w.heap.size w).alloc (Nat.le_refl _) (.cells #[] 40);have HL:=Ng hl;obtain⟨n,hn⟩:∃ n,l.length=n:=⟨_,rfl⟩;have HN:=Ng hn;rw[hn] at hsz h1 ⊢;clear hn hl;go_enter Tryz.func80,Tryz.ntmps80
 go_wp2_with (at_builtin;refine wpList_append_own _ rfl _ _ 26 rfl w.heap.size 40 i0 _ 5 48 Tryz.underlying26 hi0 hz0 hz1 hz2 rfl (by decide) _ 0 _ rfl hO ⟨g,0,none⟩ n cap (l.flatMap bE.cells) rfl (by rw[uO,HN.out]) hr (xV l) ?c3 ?c4 ?c5 ?_)
 case c3=>unfold maxLen;omega
 case c4=>omega
 case c5=>simp
 intro v' w5 hown' hgrow _
 have hO5:dM w5 w.heap.size v' l:=by
  unfold dM;rw[HN.out];exact hown'
 have hb5:Below w.heap.size w w5:=hB1.trans ((aB.grown (S:=fun k=>k=w.heap.size) (aB.refl _ _) hgrow (fun k h _=>by cases h;rfl)).below (by simp) (fun i hi e=>by omega))
 go_wp2_with fail
 go_ret;exact⟨_,rfl,hO5.nsl HL.out hb,hb5⟩
theorem uZ (l:aA)(b:Nat)(v:Value)(w:World)(h:NSl w b v l) :
  Calls Tryz.prog 285 #[v] w fun e w'=>e = .returned (.bool (fX l))∧w'=w:=by
 obtain⟨g,cap,rfl,h1,h2,h3,h4,h5⟩:=h
 match l,h1,h5 with
 | [],_,_ =>
  go_enter Tryz.func285,Tryz.ntmps285
  go_wp2_with fail
  go_ret;exact⟨rfl,rfl⟩
 | [x],h1,h5 =>
  have c0:=h5 0 (.int .i64 x.kind) rfl
  by_cases hk:x.kind=1
  ·rw[hk] at c0;have hr:fX [x]=true:=by simp [fX,hk]
   rw[hr];simp only[List.length_cons,List.length_nil] at h1 ⊢;clear h5;go_enter Tryz.func285,Tryz.ntmps285
   go_wp2_with fail
   go_ret;exact⟨rfl,rfl⟩
  ·have hr:fX [x]=false:=by simp [fX,hk]
   have hk2:(x.kind==1)=false:=by rw[beq_eq_false_iff_ne];exact hk
   rw[hr];simp only[List.length_cons,List.length_nil] at h1 ⊢;clear h5 hk;go_enter Tryz.func285,Tryz.ntmps285
   go_wp2_with fail
   go_ret;exact⟨rfl,rfl⟩
 | x :: y :: r,h1,h5 =>
  have hr:fX (x :: y :: r)=false:=rfl;rw[hr];obtain⟨n,hn⟩:∃ n,(x :: y :: r).length=n+2:=⟨r.length,rfl⟩;rw[hn];have hk2:(((n+2:Nat):Int)==1)=false:=by rw[beq_eq_false_iff_ne];omega
  clear h1 h5 hr hn;go_enter Tryz.func285,Tryz.ntmps285
  go_wp2_with fail
  go_ret;exact⟨rfl,rfl⟩
theorem KSl.one {w:World}{b:Nat}{v:Value}{l:aA}(hl:0<l.length)(h:KSl w b v [l]):∃ g cap u,v = .slice (some ⟨g,0,none⟩) 1 cap∧1≤cap∧w.cell? ⟨g,0,none⟩=some u∧NSl w b u l:=by
 obtain⟨ao,cap,rfl,h1,h2,h3⟩:=h;obtain⟨g,rfl,_,_,h4⟩:=h3 (by simp)
 obtain⟨u,h5,h6⟩:=h4 0 l rfl;refine ⟨g,cap,u,rfl,h1,h5,?_⟩
 rcases h6 with h6 | ⟨_,rfl⟩
 ·exact h6
 ·simp at hl
theorem sP (L:List aA)(b:Nat)(v:Value)(w:World)(hb:b<w.heap.size)(hne:∀ l∈L,0<l.length)(hsz:L.flatten.length≤100000000)(hnum:L.length≤100000000)(h:KSl w b v L) :
  Calls Tryz.prog 91 #[v] w fun e w'=>∃ v',e = .returned v'∧NSl w' b v' (eX L)∧Below w.heap.size w w':=by
 match L,hne,hsz,hnum,h with
 | [],_,_,_,h =>
  obtain⟨ao,cap,rfl,_⟩:=h;go_enter Tryz.func91,Tryz.ntmps91
  go_wp2_with fail
  refine (bT 20 0 [] [] b _ w hb (KSl.nil _ _) (by simp) (by simp)).mono ?_
  rintro e w1 ⟨v1,rfl,h1,h2⟩;go_wp2_with fail
  go_ret;exact⟨_,rfl,h1,h2⟩
 | [l],hne,hsz,_,h =>
  obtain⟨g,cap,u,rfl,hc,hu,hul⟩:=h.one (hne l (by simp))
  have HU:=Ng hul;obtain⟨g',cap',rfl,-⟩:=hul;have HC:=Ng (FI l b _ w hb (hne l (by simp)) (by simpa using hsz) HU.out)
  go_enter Tryz.func91,Tryz.ntmps91
  go_wp2_with fail
  refine HC.out.mono ?_;rintro e w1 ⟨v1,rfl,h1,h2⟩;go_wp2_with fail
  go_ret;exact⟨_,rfl,h1,h2⟩
 | l :: m :: r,_,hsz,hnum,h =>
  have HC:=Ng (bT 23 0 [] (l :: m :: r) b v w hb h (by omega) hnum)
  obtain⟨ao,cap,rfl,-⟩:=h;obtain⟨n,hn⟩:∃ n,(l :: m :: r).length=n+2:=⟨r.length,rfl⟩;rw[hn] at HC ⊢;have k0:(((n+2:Nat):Int)==0)=false:=by rw[beq_eq_false_iff_ne];omega
  have k1:(((n+2:Nat):Int)==1)=false:=by rw[beq_eq_false_iff_ne];omega
  show Calls Tryz.prog 91 _ w fun e w'=>∃ v',e = .returned v'∧NSl w' b v' (aC 23 0 [] (l :: m :: r))∧Below w.heap.size w w'
  clear hn hnum hsz;go_enter Tryz.func91,Tryz.ntmps91
  go_wp2_with fail
  refine HC.out.mono ?_;rintro e w1 ⟨v1,rfl,h1,h2⟩;go_wp2_with fail
  go_ret;exact⟨_,rfl,h1,h2⟩
end Go.Proofs.YtbpjobmpacjgcaaGreatDoor
