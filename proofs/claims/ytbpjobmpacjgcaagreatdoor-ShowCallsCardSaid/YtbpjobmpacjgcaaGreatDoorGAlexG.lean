/- Dialect A's reader in memory: what its blocks hold. -/
import Derived.Test.YtbpjobmpacjgcaaGreatDoorGBKitG
import Derived.Test.YtbpjobmpacjgcaaGreatDoorGPureAG
import Derived.Deep.RegionHeld3
import Derived.Deep.DeepCutAuto
import Derived.Deep.RegionLawGrows
namespace Go.Proofs.YtbpjobmpacjgcaaGreatDoor
set_option maxHeartbeats 4000000
set_option maxRecDepth 100000
open Go Go.RowKit
theorem Ci:(Tryz.prog.info? 189).map (fun i=>(i.zero,i.size,i.bytes))=some (some (.agg #[.int .i64 0,.int .i64 0,.int .i64 0,.bool false,.string ⟨#[]⟩]),5,48):=by kernel_rfl
def bF (w:World) (B:Nat) (v:Value) (P:List aD):Prop:=w.ownsRow B 189 5 v P.length (P.flatMap aD.cells)
theorem xK (t:aD):t.cells.length=5:=rfl
theorem bF.nil (w:World)(B:Nat):bF w B (.slice none 0 0) []:=World.ownsRow_nil _ _ _ _
theorem bF.kept {w w':World}{B:Nat}{v:Value}{P:List aD}{S:Nat→Prop}(h:bF w B v P)(hk:aB S w w')(hS:∀ k,v.ownBlock=some k→¬ S k):bF w' B v P:=by
 refine ⟨h.1,?_⟩
 rcases h.2 with h2 | ⟨g,cap,cur,hv,hg,hh,r⟩
 ·exact .inl h2
 ·exact .inr ⟨g,cap,cur,hv,hg,(hk.block g (lt_of_block hh) (hS g (by rw[hv];rfl))).trans hh,r⟩
theorem bF.below {w w':World}{B:Nat}{v:Value}{P:List aD}(h:bF w B v P)(hb:Below w.heap.size w w'):bF w' B v P :=
 h.kept (aB.ofBelow hb:aB bW w w') (fun _ _ e=>e)
theorem bF.alloc {w:World}{B:Nat}{v:Value}{P:List aD}(h:bF w B v P)(o:Obj):bF (w.alloc o) B v P:=h.below ((Below.refl _ _).alloc (Nat.le_refl _) o)
theorem bF.other {w:World}{B:Nat}{v:Value}{P:List aD}(h:bF w B v P){p:Addr}(hp:p.block<B)(u:Value):bF (w.setCell p u) B v P:=ownsRow_setCell_below h hp u
theorem bF.form {w:World}{B:Nat}{v:Value}{P:List aD}(h:bF w B v P):∃ ao cap,v = .slice ao P.length cap:=by
 rcases h.2 with ⟨hv,h0⟩ | ⟨g,cap,cur,hv,_⟩
 ·exact⟨none,0,by rw[hv,h0]⟩
 ·exact⟨_,_,hv⟩
theorem bF.setText {w:World}{B g n cap:Nat}{Q:List aD}{q:aD}(h:bF w B (.slice (some ⟨g,0,none⟩) n cap) (Q++[q]))(u:List UInt8) :
  bF (w.setCell ⟨g,Q.length * 5+4,none⟩ (.string (bs u))) B (.slice (some ⟨g,0,none⟩) n cap) (Q++[{ q with text:=u }]):=by
 have hlen:∀ R:List aD,(R.flatMap aD.cells).length=R.length * 5:=by
  intro R
  induction R with
  | nil=>rfl
  | cons a R ih=>rw[List.flatMap_cons,List.length_append,ih,xK,List.length_cons];omega
 refine ⟨by rw[hlen],?_⟩
 rcases h.2 with ⟨hv,h0⟩ | ⟨g',cap',cur,hv,hg,hh,hc1,hc2,hsz,ht⟩
 ·simp at h0
 ·injection hv with e1 e2 e3
  injection e1 with e1
  injection e1 with e1
  subst e1 e2 e3;have hgl:=lt_of_block hh;have hle:∀ q':aD,(Q++[q']).length * 5=(Q++[q]).length * 5:=fun q'=>by simp
  refine .inr ⟨g,cap,cur.set! (Q.length * 5+4) (.string (bs u)),by simp,hg,?_,by simpa using hc1,hc2,by simpa using hsz,?_⟩
  ·show (w.heap.modify g _)[g]?=_
   have h':w.heap[g] = .cells cur 189 (0,0):=by simpa [Array.getElem?_eq_getElem hgl] using hh
   rw[Array.getElem?_eq_getElem (by simpa using hgl),Array.getElem_modify_self,h']
   simp
  ·rw[Array.set!_eq_setIfInBounds,Array.toList_setIfInBounds,List.take_set,hle,ht,List.flatMap_append,List.flatMap_append];rw[List.set_append_right _ _ (by rw[hlen];omega),hlen,Nat.add_sub_cancel_left]
   rfl
def RB (r B k:Nat):Prop:=k=r∨B≤k
structure aN (w:World) (r q B:Nat) (s:ByteArray) (i:Nat) (v:Value) (P:List aD) (j:Bool):Prop where
 here:Blk w r [.pointer (some ⟨q,0,none⟩),.int .i64 i,v,.bool j]
 src:Blk w q [.string s]
 row:bF w B v P
 ne:r≠q
 rlt:r<B
 qlt:q<B
section
variable {w w':World} {r q B:Nat} {s:ByteArray} {i:Nat} {v:Value} {P:List aD} {j:Bool}
theorem aN.c0 (h:aN w r q B s i v P j):w.cell? ⟨r,0,none⟩=some (.pointer (some ⟨q,0,none⟩)):=h.here.cell 0 rfl
theorem aN.c1 (h:aN w r q B s i v P j):w.cell? ⟨r,1,none⟩=some (.int .i64 i):=h.here.cell 1 rfl
theorem aN.c2 (h:aN w r q B s i v P j):w.cell? ⟨r,2,none⟩=some v:=h.here.cell 2 rfl
theorem aN.c3 (h:aN w r q B s i v P j):w.cell? ⟨r,3,none⟩=some (.bool j):=h.here.cell 3 rfl
theorem aN.cs (h:aN w r q B s i v P j):w.cell? ⟨q,0,none⟩=some (.string s):=h.src.cell 0 rfl
theorem aN.fr (h:aN w r q B s i v P j)(n:Nat):w.frozen? ⟨r,n,none⟩=false:=h.here.free n
theorem aN.below (h:aN w r q B s i v P j)(hb:Below w.heap.size w w'):aN w' r q B s i v P j:=⟨h.here.below hb,h.src.below hb,h.row.below hb,h.ne,h.rlt,h.qlt⟩
theorem aN.alloc (h:aN w r q B s i v P j)(o:Obj):aN (w.alloc o) r q B s i v P j:=h.below ((Below.refl _ _).alloc (Nat.le_refl _) o)
theorem aN.drew (h:aN w r q B s i v P j):aN w.drew r q B s i v P j:=⟨h.here,h.src,h.row,h.ne,h.rlt,h.qlt⟩
theorem aN.drewN (h:aN w r q B s i v P j)(n:Nat):aN (w.drewN n) r q B s i v P j:=⟨h.here,h.src,h.row,h.ne,h.rlt,h.qlt⟩
theorem aN.move (h:aN w r q B s i v P j)(k:Nat):aN (w.setCell ⟨r,1,none⟩ (.int .i64 k)) r q B s k v P j :=
 ⟨by have:=h.here.set 1 (.int .i64 k);exact this,h.src.other h.ne _,h.row.other h.rlt _,h.ne,h.rlt,h.qlt⟩
theorem aN.join (h:aN w r q B s i v P j)(k:Bool):aN (w.setCell ⟨r,3,none⟩ (.bool k)) r q B s i v P k :=
 ⟨by have:=h.here.set 3 (.bool k);exact this,h.src.other h.ne _,h.row.other h.rlt _,h.ne,h.rlt,h.qlt⟩
theorem aN.other (h:aN w r q B s i v P j){p:Addr}(h1:p.block≠r)(h2:p.block≠q)(h3:v.ownBlock≠some p.block)(u:Value):aN (w.setCell p u) r q B s i v P j :=
 ⟨h.here.other h1 u,h.src.other h2 u,ownsRow_setCell_other h.row h3 u,h.ne,h.rlt,h.qlt⟩
end
theorem aN.kept {w w':World}{r q B:Nat}{s:ByteArray}{i:Nat}{v:Value}{P:List aD}{j:Bool}(h:aN w r q B s i v P j)(hk:aB bW w w'):aN w' r q B s i v P j:=h.below hk.toBelow
theorem Cv (r q B:Nat)(s:ByteArray)(i:Nat)(v:Value)(P:List aD)(j:Bool)(w:World)(_hs:s.size≤1000000)(_hi:i≤1000000)(hR:aN w r q B s i v P j) :
  Calls Tryz.prog 133 #[.pointer (some ⟨r,0,none⟩)] w fun e w'=>e = .returned (.bool (decide (i<s.size)))∧Below w.heap.size w w':=by
 have g0:=cell_regrown hR.c0;have g1:=cell_regrown hR.c1;have g2:=cell_regrown hR.cs;go_enter Tryz.func133,Tryz.ntmps133
 go_wp2_with fail
 refine wp_region_quiet_below (by kernel_rfl) (by kernel_rfl) ?_
 repeat (go_big_quiet_step ((go_at_call 170;exact Calls.regrown_of (jD s _))))
 refine wpQuiet_nil ?_;intro w2 hw';have hb:Below w.heap.size w w2:=b8 hw';clear hw';go_wp2_with fail
 go_ret;exact⟨by first | rfl | simp,hb⟩
theorem CQ (r q B:Nat)(s:ByteArray)(i:Nat)(v:Value)(P:List aD)(j:Bool)(n:Nat)(w:World)(hs:s.size≤1000000)(hi:i≤1000000)(hn:n≤1)(hR:aN w r q B s i v P j) :
  Calls Tryz.prog 134 #[.pointer (some ⟨r,0,none⟩),.int .i64 n] w fun e w'=>e = .returned (.int .u8 (bat s (i+n)).toNat)∧Below w.heap.size w w':=by
 have g0:=cell_regrown hR.c0;have g1:=cell_regrown hR.c1;have g2:=cell_regrown hR.cs
 by_cases hlt:i+n<s.size
 ·have hB:=Ng fun w1=>kF s (i+n) w1 hs hlt
  rw[show ((i+n:Nat):Int)=(i:Int)+(n:Int) from by omega] at hB
  generalize (bat s (i+n)).toNat=bv at *;go_enter Tryz.func134,Tryz.ntmps134
  go_wp2_with fail
  refine wp_region_quiet_below (by kernel_rfl) (by kernel_rfl) ?_
  repeat (go_big_quiet_step ((go_at_call 94;exact Calls.regrown_of (hB.out _))))
  refine wpQuiet_nil ?_;intro w2 hw';have hb:Below w.heap.size w w2:=b8 hw';clear hw';go_wp2_with fail
  go_ret;exact⟨rfl,hb⟩
 ·have hB:=Ng fun w1=>nP s ((i:Int)+(n:Int)) w1 hs (by omega)
  have hz:bat s (i+n)=0:=by
   unfold bat;rw[List.getD_eq_getElem?_getD,List.getElem?_eq_none (by rw[size_eq];omega)]
   rfl
  rw[hz];go_enter Tryz.func134,Tryz.ntmps134
  go_wp2_with fail
  refine wp_region_quiet_below (by kernel_rfl) (by kernel_rfl) ?_
  repeat (go_big_quiet_step ((go_at_call 94;exact Calls.regrown_of (hB.out _))))
  refine wpQuiet_nil ?_;intro w2 hw';have hb:Below w.heap.size w w2:=b8 hw';clear hw';go_wp2_with fail
  go_ret;exact⟨rfl,hb⟩
theorem ET {P:Program}{ops:Array Oper}{o:Oper}{a:Act}{w:World}{K:Act→World→Prop}{Q:Exit→Act→World→Prop}{E:Prop}
  (hg:o.guard=none) (s x:Operand) (t:TypeId) (hop:o.op=Op.call { callee:=Callee.builtin Builtin.append,args:=#[s,x],argTypes:=#[t,t] })
  (e:TypeId) (i:TypeInfo) (z:Value) (size bytes:Nat) (h1:P.underlying t=some (.slice e)) (h2:P.info? e=some i) (h3:i.zero=some z) (h4:i.size=size) (h5:i.bytes=bytes) (h6:z.cells.size=size) (h7:0<size)
  (B:Nat) (v:Value) (n:Nat) (olds:List Value) (hs:a.eval s=v) (hown:w.ownsRow B e size v n olds) (hB:B≤w.heap.size)
  (ad:Addr) (m c:Nat) (news:List Value) (hx:a.eval x = .slice (some ad) m c) (hn:news.length=m * size) (hc:∀ j u,news[j]?=some u→w.cell? (ad.add j)=some u) (h1c:∀ u∈news,u.oneCell'=true)
  (b1:n+m≤maxLen) (b2:(n+m) * bytes≤140737488355328)
  (hK:∀ v' w',w'.ownsRow B e size v' (n+m) (olds++news)→w.grownBy w' v.ownBlock→K (a.put o.dst v') w') :
  if Region.wanted o (yielded ops a.tmps)=true then Oper.wp P o a w K Q else E:=by
 have hw:Region.wanted o (yielded ops a.tmps)=true:=by simp [Region.wanted,hg]
 rw[if_pos hw];obtain⟨v',w',hrun,r1,r2,_⟩:=run_append_own (P:=P) w B t o.type e i z size bytes h1 h2 h3 h4 h5 h6 h7 v n olds hown ad m c news hn hc h1c b1 b2 hB;unfold Oper.wp;simp [execOp,hop,resolve,invoke,builtin,hs,hx,hrun,Result.andThen]
 exact hK v' w' r1 r2
theorem jW (r q B:Nat)(s:ByteArray)(i:Nat)(v:Value)(P:List aD)(j:Bool)(p:aD)(jn:Bool)(w:World)(hP:P.length≤100000)(hBw:B≤w.heap.size)(hR:aN w r q B s i v P j) :
  Calls Tryz.prog 172 #[.pointer (some ⟨r,0,none⟩),.agg p.cells.toArray,.bool jn] w fun e w'=>e = .returned (.tuple #[])∧(∃ v',aN w' r q B s i v' (P++[p]) jn)∧aB (RB r B) w w':=by
 obtain⟨i0,hi0,hz0,hz1,hz2⟩:=info_parts Ci;have c0:=hR.c0;have c2:=hR.c2;have c3:=hR.c3;have f2:=hR.fr 2;have f3:=hR.fr 3;have hlr:=hR.here.lt;have hlq:=hR.src.lt;have hform:=hR.row.form;obtain⟨ao,cap,rfl⟩:=hform;have hner:∀ k,some k=(Value.slice ao P.length cap).ownBlock→B≤k:=fun k e=>(hR.row.lt k e.symm).1
 have hrlt:=hR.rlt;have hrq:=hR.ne;have hqlt:=hR.qlt;have hrow:∀ o1 o2:Obj,bF ((w.alloc o1).drew.alloc o2) B (.slice ao P.length cap) P:=fun o1 o2=>(bF.below (hR.row.alloc o1) ⟨rfl,rfl,rfl,Nat.le_refl _,fun _ _=>rfl⟩).alloc o2
 unfold aD.cells;go_enter Tryz.func172,Tryz.ntmps172
 go_wp2_with fail
 go_region_law (refine ET rfl _ _ 109 rfl 189 i0 _ 5 48 Tryz.underlying109 hi0 hz0 hz1 hz2 rfl (by decide) B _ P.length (P.flatMap aD.cells) rfl (hrow _ _) ?_ ⟨w.heap.size+1,0,none⟩ 1 1 [.int .i64 p.kind,.int .i64 p.place,.int .i64 p.num,.bool p.quoted,.string (bs p.text)] rfl rfl ?_ ?_ ?_ ?_ ?_;(focus (first | (simp;done) | (simp;omega)));(focus (exact cL (by simp)));(focus (intro u hu;simp at hu;rcases hu with rfl | rfl | rfl | rfl | rfl <;> rfl));(focus (unfold maxLen;omega));(focus (first | omega | (simp;done)));(intro v' w5 hown' hgrow;have hP5:bF w5 B v' (P++[p]):=(by unfold bF;rw[List.length_append,List.flatMap_append];exact hown');obtain⟨ao',cap',rfl⟩:=hP5.form;have hH5:Blk w5 r [.pointer (some ⟨q,0,none⟩),.int .i64 i,.slice ao P.length cap,.bool j]:=((hR.here.alloc _).alloc _).of_heap (hgrow.block r (by first | (simp;done) | (simp;omega)) (fun e=>by have:=hner _ e;omega));have hS5:Blk w5 q [.string s]:=((hR.src.alloc _).alloc _).of_heap (hgrow.block q (by first | (simp;done) | (simp;omega)) (fun e=>by have:=hner _ e;omega));have d2:=hH5.cell 2 rfl;have d3:=hH5.cell 3 rfl;have e2:=hH5.free 2;have e3:=hH5.free 3))
 all_goals
  have hK5:aB (RB r B) w w5:=aB.grown (by repeat (first | exact aB.refl _ _ | with_reducible refine aB.alloc ?_ _ | with_reducible refine aB.drew ?_)) hgrow (fun k hk _=>.inr (hner k hk.symm))
  have hP6:bF w5 B (.slice ao' (P.length+1) cap') (P++[p]):=by
   have e:(P++[p]).length=P.length+1:=by simp
   rw[e] at hP5;exact hP5
  refine bodyPost_end (results_none rfl _ _ _) rfl ?_;refine ⟨rfl,⟨.slice ao' (P.length+1) cap',?_,?_,?_,hR.ne,hR.rlt,hR.qlt⟩,?_⟩
  ·apply Blk.as
   with_reducible repeat first | assumption | (apply Blk.newAt;focus (simp;done)) | apply Blk.set | (apply Blk.other;case hp=>first | omega | (simp;omega) | simp) | apply Blk.alloc | apply Blk.drewN | apply Blk.drew
   rfl
  ·apply Blk.as
   with_reducible repeat first | assumption | (apply Blk.newAt;focus (simp;done)) | apply Blk.set | (apply Blk.other;case hp=>first | omega | (simp;omega) | simp) | apply Blk.alloc | apply Blk.drewN | apply Blk.drew
   rfl
  ·repeat (first | (with_reducible assumption) | ((with_reducible refine bF.other ?_ ?_ _);rotate_left;(focus (first | omega | simpa using hrlt))))
  ·repeat (first | (with_reducible assumption) | ((with_reducible refine aB.setCell ?_ ?_ _);rotate_left;(focus (exact fun _=>.inl rfl))))
theorem wI (b:Nat)(c:UInt8)(hc:c.toNat=b):∀ l:List UInt8,(∀ n,cO b l=some n→Lib.indexByte l c=n)∧(cO b l=none→Lib.indexByte l c = -1)
 | []=>⟨fun n h=>(by cases h),fun _=>(by simp [Lib.indexByte])⟩
 | d :: l=>by
  obtain⟨h1,h2⟩:=wI b c hc l;rw[cO]
  by_cases hd:d.toNat=b
  ·have e:d=c:=UInt8.toNat_inj.1 (hd.trans hc.symm);subst e;rw[if_pos hd];exact⟨fun n h=>(by cases h;simp [Lib.indexByte]),fun h=>(by cases h)⟩
  ·have e:(d==c)=false:=by
    rw[beq_eq_false_iff_ne];intro e;exact hd (e ▸ hc)
   rw[if_neg hd]
   cases hx:cO b l with
   | none =>
    refine ⟨fun n h=>(by cases h),fun _=>?_⟩
    simp only[Lib.indexByte,e,h2 hx];rfl
   | some m =>
    refine ⟨fun n h=>?_,fun h=>(by cases h)⟩
    cases h
    simp only[Lib.indexByte,e,h1 m hx];rw[if_neg (by decide)]
    have:(((m:Int)==-1))=false:=by rw[beq_eq_false_iff_ne];omega
    simp [this]
theorem CE (s:ByteArray)(a:Int)(k:Nat)(ha:a.toNat=k):aZ s.data.toList a s.size=s.data.toList.drop k:=by
 unfold aZ;rw[ha,Int.toNat_natCast,List.take_of_length_le (by rw[size_eq];exact Nat.le_refl _)]
theorem yR (s:ByteArray)(a b:Int)(k n:Nat)(w:World)(ha:a.toNat=k)(hb:0≤b∧b<256)(hx:Hid (cO b.toNat (s.data.toList.drop k)=some n)) :
  Calls Tryz.prog 148 #[.string (bs (aZ s.data.toList a s.size)),.int .u8 b] w fun e w'=>e = .returned (.int .i64 n)∧w'=w:=by
 refine (Tryz.strings_IndexByte _ _ _).mono ?_;rintro e w' ⟨rfl,rfl⟩;refine ⟨?_,rfl⟩;rw[bK,CE s a k ha,(wI b.toNat b.toNat.toUInt8 (by rw[Nat.toUInt8,UInt8.toNat_ofNat'];omega) _).1 n hx.out]
theorem yG (s:ByteArray)(a b:Int)(k:Nat)(w:World)(ha:a.toNat=k)(hb:0≤b∧b<256)(hx:Hid (cO b.toNat (s.data.toList.drop k)=none)) :
  Calls Tryz.prog 148 #[.string (bs (aZ s.data.toList a s.size)),.int .u8 b] w fun e w'=>e = .returned (.int .i64 (-1))∧w'=w:=by
 refine (Tryz.strings_IndexByte _ _ _).mono ?_;rintro e w' ⟨rfl,rfl⟩;refine ⟨?_,rfl⟩;rw[bK,CE s a k ha,(wI b.toNat b.toNat.toUInt8 (by rw[Nat.toUInt8,UInt8.toNat_ofNat'];omega) _).2 hx.out]
def mH:Option Nat→Value
 | some t=>.tuple #[.int .i64 t,.bool true]
 | none=>.tuple #[.int .i64 0,.bool false]
section
variable (s:ByteArray) (g o k:Nat)
theorem DA (m:Bool)(h:s.size≤k):aX s.data.toList (g+1) m o k=none:=by
 cases m <;> rw[aX,if_pos (by rw[size_eq];exact h)]
theorem Jd (h:k<s.size)(hc:(bat s k).toNat=92):aX s.data.toList (g+1) false o k=aX s.data.toList g false o (k+2):=by
 unfold bat at hc;rw[aX,if_neg (by rw[size_eq];omega),if_pos hc]
theorem AG (h:k<s.size)(hc:(bat s k).toNat=39):aX s.data.toList (g+1) false o k=match cO 39 (s.data.toList.drop (k+1)) with
   | none=>none
   | some n=>aX s.data.toList g false o (k+1+n+1):=by
 unfold bat at hc;rw[aX,if_neg (by rw[size_eq];omega),if_neg (by omega),if_pos hc]
 rfl
theorem AF (h:k<s.size)(hc:(bat s k).toNat=34):aX s.data.toList (g+1) false o k=match aX s.data.toList g true 0 (k+1) with
   | none=>none
   | some t=>aX s.data.toList g false o (t+1):=by
 unfold bat at hc;rw[aX,if_neg (by rw[size_eq];omega),if_neg (by omega),if_neg (by omega),if_pos hc]
 rfl
theorem IR (h:k<s.size)(hc:(bat s k).toNat=40):aX s.data.toList (g+1) false o k=aX s.data.toList g false (o+1) (k+1):=by
 unfold bat at hc;rw[aX,if_neg (by rw[size_eq];omega),if_neg (by omega),if_neg (by omega),if_neg (by omega),if_pos hc]
theorem BT (h:k<s.size)(hc:(bat s k).toNat=41):aX s.data.toList (g+1) false o k=if o=0 then some k else aX s.data.toList g false (o - 1) (k+1):=by
 unfold bat at hc;rw[aX,if_neg (by rw[size_eq];omega),if_neg (by omega),if_neg (by omega),if_neg (by omega),if_neg (by omega),if_pos hc]
theorem LF (h:k<s.size)(h1:¬ (bat s k).toNat=92)(h2:¬ (bat s k).toNat=39)(h3:¬ (bat s k).toNat=34)(h4:¬ (bat s k).toNat=40)(h5:¬ (bat s k).toNat=41):aX s.data.toList (g+1) false o k=aX s.data.toList g false o (k+1):=by
 unfold bat at h1 h2 h3 h4 h5;rw[aX,if_neg (by rw[size_eq];omega),if_neg h1,if_neg h2,if_neg h3,if_neg h4,if_neg h5]
theorem I8 (h:k<s.size)(hc:(bat s k).toNat=34):aX s.data.toList (g+1) true o k=some k:=by
 unfold bat at hc;rw[aX,if_neg (by rw[size_eq];omega),if_pos hc]
theorem IA (h:k<s.size)(hc:(bat s k).toNat=92):aX s.data.toList (g+1) true o k=aX s.data.toList g true 0 (k+2):=by
 unfold bat at hc;rw[aX,if_neg (by rw[size_eq];omega),if_neg (by omega),if_pos hc]
theorem BE (h:k<s.size)(h1:¬ (bat s k).toNat=34)(h2:¬ (bat s k).toNat=92)(hp:Lib.hasPrefix (s.data.toList.drop k) [36,40]=true):aX s.data.toList (g+1) true o k=match aX s.data.toList g false 0 (k+2) with
   | none=>none
   | some t=>aX s.data.toList g true 0 (t+1):=by
 unfold bat at h1 h2;rw[aX,if_neg (by rw[size_eq];omega),if_neg h1,if_neg h2,if_pos hp]
 rfl
theorem La (h:k<s.size)(h1:¬ (bat s k).toNat=34)(h2:¬ (bat s k).toNat=92)(hp:Lib.hasPrefix (s.data.toList.drop k) [36,40]=false):aX s.data.toList (g+1) true o k=aX s.data.toList g true 0 (k+1):=by
 unfold bat at h1 h2;rw[aX,if_neg (by rw[size_eq];omega),if_neg h1,if_neg h2,if_neg (by rw[hp];decide)]
end
def zI (s:ByteArray) (r q F:Nat):Prop:=∀ (a:Int) (i:Nat) (w:World) (T:Option Nat),a=i→i≤s.size+2→s.size - i<F→w.cell? ⟨r,0,none⟩=some (.pointer (some ⟨q,0,none⟩))→w.cell? ⟨q,0,none⟩=some (.string s) →
 Hid (aX s.data.toList F false 0 i=T)→Calls Tryz.prog 192 #[.pointer (some ⟨r,0,none⟩),.int .i64 a] w fun e w'=>e = .returned (mH T)∧Below w.heap.size w w'
def zF (s:ByteArray) (r q F:Nat):Prop:=∀ (a:Int) (i:Nat) (w:World) (T:Option Nat),a=i→i≤s.size+2→s.size - i<F→w.cell? ⟨r,0,none⟩=some (.pointer (some ⟨q,0,none⟩))→w.cell? ⟨q,0,none⟩=some (.string s) →
 Hid (aX s.data.toList F true 0 i=T)→Calls Tryz.prog 217 #[.pointer (some ⟨r,0,none⟩),.int .i64 a] w fun e w'=>e = .returned (mH T)∧Below w.heap.size w w'
theorem I2 (s:ByteArray)(r q F:Nat)(hs:s.size≤1000000)(hq:∀ g,g<F→zF s r q g):zI s r q F:=by
 intro a i w T ha hi hF hc0 hcs hT;subst ha;go_enter Tryz.func192,Tryz.ntmps192
 go_wp2_with fail
 go_loopg [1,6] F (fun n c d wr=>∃ k o f:Nat,f=n∧c = .int .i64 k∧d = .int .i64 o∧k≤s.size+2∧o≤k∧s.size - k<f∧f≤F∧Below w.heap.size w wr∧Hid (aX s.data.toList f false o k=T))
 case atStart=>exact⟨i,0,F,rfl,rfl,rfl,hi,Nat.zero_le _,hF,Nat.le_refl _,Below.refl _ _,hT⟩
 case round =>
  clear hT hF hi;obtain⟨k,o,f,rfl,rfl,rfl,hk,ho,hf,hfF,hb,hT⟩:=hrel;have c0:=aF hb hc0;have cs:=aF hb hcs;obtain⟨g,rfl⟩:∃ g,f=g+1:=⟨f - 1,by omega⟩
  clear hc0 hcs
  by_cases hlt:k<s.size
  ·go_upto_block 2 with (first
    | (go_at_call 170;refine (jD s _).mono ?_;rintro e w2 ⟨rfl,hb2⟩;have c02:=aF hb2 c0;have cs2:=aF hb2 cs)
    | (go_at_call 94;refine (kF s k _ hs hlt).mono ?_;rintro e w3 ⟨rfl,hb3⟩;have c03:=aF hb3 c02;have cs3:=aF hb3 cs2))
   have hb4:=aE (aE hb hb2) hb3;clear hb hb2 hb3 c0 cs c02 cs2
   by_cases h92:(bat s k).toNat=92
   ·have HN:=Ng ((Jd s g o k hlt h92).symm.trans hT.out);have d1:(((bat s k).toNat:Int)==92)=true:=by rw[beq_iff_eq];omega
    clear h92 hT;go_wp2_with fail
    go_roundg g
    case measure=>omega
    case rel=>exact⟨k+2,o,g,rfl,by go_num,rfl,by omega,by omega,by omega,by omega,hb4,HN⟩
   ·have d1:(((bat s k).toNat:Int)==92)=false:=by rw[beq_eq_false_iff_ne];omega
    by_cases h39:(bat s k).toNat=39
    ·have d2:(((bat s k).toNat:Int)==39)=true:=by rw[beq_iff_eq];omega
     cases hx:cO 39 (s.data.toList.drop (k+1)) with
     | none =>
      have HN:Hid (none=T):=Ng (by rw[← hT.out,AG s g o k hlt h39,hx])
      have HX:=Ng hx;clear h92 h39 hT hx;go_wp2_with fail
      have c04:=cell_regrown c03;have cs4:=cell_regrown cs3;refine wp_region_quiet_below (by kernel_rfl) (by kernel_rfl) ?_
      repeat (go_big_quiet_step ((first | (go_at_call 170;exact Calls.regrown_of (jD s _)) | (go_at_call 101;exact Calls.regrown_of (gQ s _ _ _ hs)) | (go_at_call 148;exact Calls.regrown_of ((yG s _ 39 (k+1) _ (by omega) (by decide) HX).mono (by rintro e w' ⟨rfl,rfl⟩;exact⟨rfl,Below.refl _ _⟩))))))
      refine wpQuiet_nil ?_;intro w5 hw';have hb:Below w3.heap.size w3 w5:=b8 hw';clear hw';go_wp2_with fail
      go_ret2;exact⟨by rw[← HN.out];rfl,aE hb4 hb⟩
     | some n =>
      have HN:=Ng (show aX s.data.toList g false o (k+1+n+1)=T by rw[← hT.out,AG s g o k hlt h39,hx])
      have hn:=lD _ _ _ hx;rw[List.length_drop,size_eq] at hn;have HX:=Ng hx;clear h92 h39 hT hx;go_wp2_with fail
      have c04:=cell_regrown c03;have cs4:=cell_regrown cs3;refine wp_region_quiet_below (by kernel_rfl) (by kernel_rfl) ?_
      repeat (go_big_quiet_step ((first | (go_at_call 170;exact Calls.regrown_of (jD s _)) | (go_at_call 101;exact Calls.regrown_of (gQ s _ _ _ hs)) | (go_at_call 148;exact Calls.regrown_of ((yR s _ 39 (k+1) n _ (by omega) (by decide) HX).mono (by rintro e w' ⟨rfl,rfl⟩;exact⟨rfl,Below.refl _ _⟩))))))
      refine wpQuiet_nil ?_;intro w5 hw';have hb:Below w3.heap.size w3 w5:=b8 hw';clear hw';go_wp2_with fail
      go_roundg g
      case measure=>omega
      case rel=>exact⟨k+1+n+1,o,g,rfl,by go_num,rfl,by omega,by omega,by omega,by omega,aE hb4 hb,HN⟩
    ·have d2:(((bat s k).toNat:Int)==39)=false:=by rw[beq_eq_false_iff_ne];omega
     by_cases h34:(bat s k).toNat=34
     ·have d3:(((bat s k).toNat:Int)==34)=true:=by rw[beq_iff_eq];omega
      cases hx:aX s.data.toList g true 0 (k+1) with
      | none =>
       have HN:Hid (none=T):=Ng (by rw[← hT.out,AF s g o k hlt h34,hx])
       have HQ:=hq g (by omega) ((k:Int)+1) (k+1) w3 none (by omega) (by omega) (by omega) c03 cs3 (Ng hx)
       unfold mH at HQ;clear h92 h39 h34 hT hx;go_wp2_with (go_at_call 217;refine HQ.mono ?_;rintro e w5 ⟨rfl,hb5⟩)
       go_ret2;exact⟨by rw[← HN.out];rfl,aE hb4 hb5⟩
      | some n =>
       have HN:=Ng (show aX s.data.toList g false o (n+1)=T by rw[← hT.out,AF s g o k hlt h34,hx])
       have HQ:=hq g (by omega) ((k:Int)+1) (k+1) w3 (some n) (by omega) (by omega) (by omega) c03 cs3 (Ng hx)
       have hn:=iH _ _ _ _ _ _ hx;rw[size_eq] at hn;unfold mH at HQ;clear h92 h39 h34 hT hx;go_wp2_with (go_at_call 217;refine HQ.mono ?_;rintro e w5 ⟨rfl,hb5⟩)
       go_roundg g
       case measure=>omega
       case rel=>exact⟨n+1,o,g,rfl,by go_num,rfl,by omega,by omega,by omega,by omega,aE hb4 hb5,HN⟩
     ·have d3:(((bat s k).toNat:Int)==34)=false:=by rw[beq_eq_false_iff_ne];omega
      by_cases h40:(bat s k).toNat=40
      ·have d4:(((bat s k).toNat:Int)==40)=true:=by rw[beq_iff_eq];omega
       have HN:=Ng ((IR s g o k hlt h40).symm.trans hT.out);clear h92 h39 h34 h40 hT;go_wp2_with fail
       go_roundg g
       case measure=>omega
       case rel=>exact⟨k+1,o+1,g,rfl,by go_num,by go_num,by omega,by omega,by omega,by omega,hb4,HN⟩
      ·have d4:(((bat s k).toNat:Int)==40)=false:=by rw[beq_eq_false_iff_ne];omega
       by_cases h41:(bat s k).toNat=41
       ·have d5:(((bat s k).toNat:Int)==41)=true:=by rw[beq_iff_eq];omega
        by_cases ho0:o=0
        ·have HN:Hid (some k=T):=Ng (by rw[← hT.out,BT s g o k hlt h41,if_pos ho0])
         subst ho0;clear h92 h39 h34 h40 h41 hT;go_wp2_with fail
         go_ret2;exact⟨by rw[← HN.out];rfl,hb4⟩
        ·have HN:=Ng (show aX s.data.toList g false (o - 1) (k+1)=T by rw[← hT.out,BT s g o k hlt h41,if_neg ho0])
         have d6:((o:Int)==0)=false:=by rw[beq_eq_false_iff_ne];omega
         clear h92 h39 h34 h40 h41 hT;go_wp2_with fail
         go_roundg g
         case measure=>omega
         case rel=>exact⟨k+1,o - 1,g,rfl,by go_num,by go_num,by omega,by omega,by omega,by omega,hb4,HN⟩
       ·have d5:(((bat s k).toNat:Int)==41)=false:=by rw[beq_eq_false_iff_ne];omega
        have HN:=Ng ((LF s g o k hlt h92 h39 h34 h40 h41).symm.trans hT.out);clear h92 h39 h34 h40 h41 hT;go_wp2_with fail
        go_roundg g
        case measure=>omega
        case rel=>exact⟨k+1,o,g,rfl,by go_num,rfl,by omega,by omega,by omega,by omega,hb4,HN⟩
  ·have HN:Hid (none=T):=Ng (by rw[← hT.out,DA s g o k false (by omega)])
   clear hT;go_wp2_with (go_at_call 170;refine (jD s _).mono ?_;rintro e w2 ⟨rfl,hb2⟩)
   go_ret2;exact⟨by rw[← HN.out];rfl,aE hb hb2⟩
theorem IY (s:ByteArray)(r q F:Nat)(hs:s.size≤1000000)(hq:∀ g,g<F→zI s r q g):zF s r q F:=by
 intro a i w T ha hi hF hc0 hcs hT;subst ha;go_enter Tryz.func217,Tryz.ntmps217
 go_wp2_with fail
 go_loopg [1] F (fun n c wr=>∃ k f:Nat,f=n∧c = .int .i64 k∧k≤s.size+2∧s.size - k<f∧f≤F∧Below w.heap.size w wr∧Hid (aX s.data.toList f true 0 k=T))
 case atStart=>exact⟨i,F,rfl,rfl,hi,hF,Nat.le_refl _,Below.refl _ _,hT⟩
 case round =>
  clear hT hF hi;obtain⟨k,f,rfl,rfl,hk,hf,hfF,hb,hT⟩:=hrel;have c0:=aF hb hc0;have cs:=aF hb hcs;obtain⟨g,rfl⟩:∃ g,f=g+1:=⟨f - 1,by omega⟩
  clear hc0 hcs
  by_cases hlt:k<s.size
  ·go_upto_block 2 with (first
    | (go_at_call 170;refine (jD s _).mono ?_;rintro e w2 ⟨rfl,hb2⟩;have c02:=aF hb2 c0;have cs2:=aF hb2 cs)
    | (go_at_call 94;refine (kF s k _ hs hlt).mono ?_;rintro e w3 ⟨rfl,hb3⟩;have c03:=aF hb3 c02;have cs3:=aF hb3 cs2))
   have hb4:=aE (aE hb hb2) hb3;clear hb hb2 hb3 c0 cs c02 cs2
   by_cases h34:(bat s k).toNat=34
   ·have HN:Hid (some k=T):=Ng ((I8 s g 0 k hlt h34).symm.trans hT.out);have d1:(((bat s k).toNat:Int)==34)=true:=by rw[beq_iff_eq];omega
    clear h34 hT;go_wp2_with fail
    go_ret2;exact⟨by rw[← HN.out];rfl,hb4⟩
   ·have d1:(((bat s k).toNat:Int)==34)=false:=by rw[beq_eq_false_iff_ne];omega
    by_cases h92:(bat s k).toNat=92
    ·have d2:(((bat s k).toNat:Int)==92)=true:=by rw[beq_iff_eq];omega
     have HN:=Ng ((IA s g 0 k hlt h92).symm.trans hT.out);clear h34 h92 hT;go_wp2_with fail
     go_roundg g
     case measure=>omega
     case rel=>exact⟨k+2,g,rfl,by go_num,by omega,by omega,by omega,hb4,HN⟩
    ·have d2:(((bat s k).toNat:Int)==92)=false:=by rw[beq_eq_false_iff_ne];omega
     have HB:=Ng fun w1=>qY s ⟨#[36,40]⟩ k w1 hs (by omega)
     cases hp:Lib.hasPrefix (s.data.toList.drop k) [36,40] with
     | false =>
      have hp':Lib.hasPrefix (List.drop k s.data.toList) (ByteArray.mk #[36,40]).data.toList=false:=hp;rw[hp'] at HB;have HN:=Ng ((La s g 0 k hlt h34 h92 hp).symm.trans hT.out);clear h34 h92 hT hp hp';go_wp2_with (go_at_call 96;refine (HB.out _).mono ?_;rintro e w5 ⟨rfl,hb5⟩)
      go_roundg g
      case measure=>omega
      case rel=>exact⟨k+1,g,rfl,by go_num,by omega,by omega,by omega,aE hb4 hb5,HN⟩
     | true =>
      have hp':Lib.hasPrefix (List.drop k s.data.toList) (ByteArray.mk #[36,40]).data.toList=true:=hp;rw[hp'] at HB
      cases hx:aX s.data.toList g false 0 (k+2) with
      | none =>
       have HN:Hid (none=T):=Ng (by rw[← hT.out,BE s g 0 k hlt h34 h92 hp,hx])
       have HQ:=Ng fun w5 h1 h2=>hq g (by omega) ((k:Int)+2) (k+2) w5 none (by omega) (by omega) (by omega) h1 h2 (Ng hx)
       unfold mH at HQ;clear h34 h92 hT hx hp hp';go_wp2_with (first | (go_at_call 96;refine (HB.out _).mono ?_;rintro e w5 ⟨rfl,hb5⟩;have c05:=aF hb5 c03;have cs5:=aF hb5 cs3) | (go_at_call 192;refine (HQ.out _ c05 cs5).mono ?_;rintro e w6 ⟨rfl,hb6⟩))
       go_ret2;exact⟨by rw[← HN.out];rfl,aE (aE hb4 hb5) hb6⟩
      | some n =>
       have HN:=Ng (show aX s.data.toList g true 0 (n+1)=T by rw[← hT.out,BE s g 0 k hlt h34 h92 hp,hx])
       have hn:=iH _ _ _ _ _ _ hx;rw[size_eq] at hn;have HQ:=Ng fun w5 h1 h2=>hq g (by omega) ((k:Int)+2) (k+2) w5 (some n) (by omega) (by omega) (by omega) h1 h2 (Ng hx)
       unfold mH at HQ;clear h34 h92 hT hx hp hp';go_wp2_with (first | (go_at_call 96;refine (HB.out _).mono ?_;rintro e w5 ⟨rfl,hb5⟩;have c05:=aF hb5 c03;have cs5:=aF hb5 cs3) | (go_at_call 192;refine (HQ.out _ c05 cs5).mono ?_;rintro e w6 ⟨rfl,hb6⟩))
       go_roundg g
       case measure=>omega
       case rel=>exact⟨n+1,g,rfl,by go_num,by omega,by omega,by omega,aE (aE hb4 hb5) hb6,HN⟩
  ·have HN:Hid (none=T):=Ng (by rw[← hT.out,DA s g 0 k true (by omega)])
   clear hT;go_wp2_with (go_at_call 170;refine (jD s _).mono ?_;rintro e w2 ⟨rfl,hb2⟩)
   go_ret2;exact⟨by rw[← HN.out];rfl,aE hb hb2⟩
theorem Kg (s:ByteArray)(r q:Nat)(hs:s.size≤1000000)(F:Nat):zI s r q F∧zF s r q F:=by
 induction F using Nat.strongRecOn with
 | ind F ih=>exact⟨I2 s r q F hs fun g hg=>(ih g hg).2,IY s r q F hs fun g hg=>(ih g hg).1⟩
theorem t7 (r q:Nat)(s:ByteArray)(a:Int)(i:Nat)(w:World)(T:Option Nat)(hs:s.size≤1000000)(ha:a=i)(hi:i≤s.size+2)(hc0:w.cell? ⟨r,0,none⟩=some (.pointer (some ⟨q,0,none⟩)))(hcs:w.cell? ⟨q,0,none⟩=some (.string s))
  (hT:Hid (aX s.data.toList (s.data.toList.length+1) false 0 i=T)) :
  Calls Tryz.prog 192 #[.pointer (some ⟨r,0,none⟩),.int .i64 a] w fun e w'=>e = .returned (mH T)∧Below w.heap.size w w' :=
 (Kg s r q hs _).1 a i w T ha hi (by rw[size_eq];omega) hc0 hcs hT
theorem nH (l m:List UInt8):bs l++bs m=bs (l++m):=by
 unfold bs;apply ByteArray.ext
 simp
theorem GF (Q:List aD)(x:aD)(i:Nat)(l:List UInt8):bQ (Q++[x]) true x.kind i l=Q++[{ x with text:=x.text++l }]:=by
 unfold bQ;rw[List.getLast?_concat];simp
theorem xR (P:List aD)(j:Bool)(kind i:Nat)(l:List UInt8)(h:∀ x,P.getLast?=some x→¬ (j=true∧x.kind=kind)):bQ P j kind i l=P++[⟨kind,i,0,false,l⟩]:=by
 unfold bQ;split
 ·rename_i x hx
  rw[if_neg (h x hx)]
 ·rfl
theorem bF.last {w:World}{B:Nat}{v:Value}{Q:List aD}{x:aD}(h:bF w B v (Q++[x])) :
  ∃ g cap,v = .slice (some ⟨g,0,none⟩) (Q.length+1) cap∧Q.length+1≤cap∧cap≤maxLen∧B≤g∧g<w.heap.size∧(∀ n,w.frozen? ⟨g,n,none⟩=false)∧∀ (k:Nat) (u:Value),x.cells[k]?=some u→w.cell? ⟨g,Q.length * 5+k,none⟩=some u:=by
 obtain⟨g,cap,hv,h1,h2,h3,h4,h5⟩:=kE h (by simp)
 refine ⟨g,cap,by simpa using hv,by simpa using h1,h2,h3,h4,?_,?_⟩
 ·rcases h.2 with ⟨_,h0⟩ | ⟨g',cap',cur,hv',_,hh,_⟩
  ·simp at h0
  ·rw[hv] at hv';injection hv' with e1 e2 e3
   injection e1 with e1
   injection e1 with e1
   subst e1;intro n;simp [World.frozen?,hh]
 ·intro k u hu;have:=mZ aD.cells 5 (fun _=>rfl) (Q++[x]) Q.length k x u (by simp) hu
  rw[Nat.mul_comm] at this;exact h5 _ _ this
theorem nN (r q B:Nat)(s:ByteArray)(i:Nat)(v:Value)(P:List aD)(j:Bool)(kind:Nat)(l:List UInt8)(w:World)(hS:∀ p∈P,p.text.length≤1000000)(hl:l.length≤1000000)(hP:P.length≤100000)(_hi:i≤1000000)(hBw:B≤w.heap.size)(hR:aN w r q B s i v P j)
  (P':List aD) (hP':Hid (bQ P j kind i l=P')) :
  Calls Tryz.prog 176 #[.pointer (some ⟨r,0,none⟩),.int .i64 kind,.string (bs l)] w fun e w'=>e = .returned (.tuple #[])∧(∃ v',aN w' r q B s i v' P' true)∧aB (RB r B) w w':=by
 have c0:=hR.c0;have c1:=hR.c1;have c2:=hR.c2;have c3:=hR.c3;have f2:=hR.fr 2
 cases hj:j with
 | false =>
  subst hj;have HP:Hid (P++[⟨kind,i,0,false,l⟩]=P'):=Ng ((xR P false kind i l (fun x _ h=>absurd h.1 (by decide))).symm.trans hP'.out)
  have HA:=Ng (jW r q B s i v P false ⟨kind,i,0,false,l⟩ true w hP hBw hR);unfold aD.cells at HA;rw[HP.out] at HA;clear hP' HP;obtain⟨ao,cap,rfl⟩:=hR.row.form;clear hR hS;go_enter Tryz.func176,Tryz.ntmps176
  go_wp2_with (go_at_call 172;refine HA.out.mono ?_;rintro e w' ⟨rfl,h1,h2⟩)
  refine bodyPost_end (results_none rfl _ _ _) rfl ?_;exact⟨rfl,h1,h2⟩
 | true =>
  subst hj
  cases hx:P.getLast? with
  | none =>
   obtain rfl:P=[]:=List.getLast?_eq_none_iff.1 hx;have HP:Hid ([⟨kind,i,0,false,l⟩]=P'):=Ng ((xR [] true kind i l (fun x h=>by cases h)).symm.trans hP'.out)
   have HA:=Ng (jW r q B s i v [] true ⟨kind,i,0,false,l⟩ true w hP hBw hR);unfold aD.cells at HA;rw[List.nil_append,HP.out] at HA;clear hP' HP hx;obtain⟨ao,cap,rfl⟩:=hR.row.form;clear hR hS;go_enter Tryz.func176,Tryz.ntmps176
   go_wp2_with (go_at_call 172;refine HA.out.mono ?_;rintro e w' ⟨rfl,h1,h2⟩)
   refine bodyPost_end (results_none rfl _ _ _) rfl ?_;exact⟨rfl,h1,h2⟩
  | some x =>
   obtain⟨Q,rfl⟩:=List.getLast?_eq_some_iff.1 hx;obtain⟨g,cap,rfl,hnc,hcm,hBg,hgl,hfz,hcell⟩:=hR.row.last;have k0:=hcell 0 _ rfl;have k4:=hcell 4 _ rfl;have z4:=hfz (Q.length * 5+4);rw[Nat.add_zero] at k0;have hxt:=hS x (by simp)
   have hQ:Q.length≤100000:=by rw[List.length_append] at hP;omega
   by_cases hkk:x.kind=kind
   ·have HP:Hid (Q++[{ x with text:=x.text++l }]=P'):=Ng (by rw[← hP'.out,← hkk,GF])
    have hrow:=Ng (hR.row.setText (x.text++l));rw[← nH] at hrow;have hsz1:=aY x.text;have hsz2:=aY l;have hR1:=hR.here;have hR2:=hR.src;have hR3:=hR.ne;have hR4:=hR.rlt;have hR5:=hR.qlt;subst hkk;clear hP' hR hS hcell hx hfz;generalize Q.length=n at *;go_enter Tryz.func176,Tryz.ntmps176
    go_wp2_with fail
    refine bodyPost_ret (results_none rfl _ _ _) rfl ⟨rfl,⟨.slice (some ⟨g,0,none⟩) (n+1) cap,?_⟩,(aB.refl _ _).setCell (fun _=>.inr hBg) _⟩
    rw[← HP.out];exact⟨hR1.other (by simp;omega) _,hR2.other (by simp;omega) _,hrow.out,hR3,hR4,hR5⟩
   ·have HP:Hid (Q++[x]++[⟨kind,i,0,false,l⟩]=P'):=Ng ((xR (Q++[x]) true kind i l (fun y hy h=>by rw[List.getLast?_concat] at hy;cases hy;exact hkk h.2)).symm.trans hP'.out)
    have HA:=Ng (jW r q B s i _ (Q++[x]) true ⟨kind,i,0,false,l⟩ true w hP hBw hR);unfold aD.cells at HA;rw[HP.out] at HA;have d1:((x.kind:Int)==kind)=false:=by rw[beq_eq_false_iff_ne];omega
    clear hP' hR hS hcell hx hfz HP;generalize Q.length=n at *;go_enter Tryz.func176,Tryz.ntmps176
    go_wp2_with (go_at_call 172;refine HA.out.mono ?_;rintro e w' ⟨rfl,h1,h2⟩)
    refine bodyPost_end (results_none rfl _ _ _) rfl ?_;exact⟨rfl,h1,h2⟩
theorem oO (p:Int)(tv:TypeId)(xv:Value)(w:World) :
  Calls Tryz.prog 136 #[.int .i64 p,.iface tv xv] w fun e w'=>e = .returned (.iface 61 (.pointer (some ⟨w.heap.size,0,none⟩)))∧w.alloc (.cells #[.int .i64 p,.iface tv xv] 63)=w':=by
 go_enter Tryz.func136,Tryz.ntmps136
 go_wp2
 go_ret;exact⟨rfl,rfl⟩
theorem Ir (c:Int)(b:Bool)(w:World)(h:Hid (decide ((0:Int)≤Lib.indexByte [32,9,10,59,38,124,40,41,60,62] c.toNat.toUInt8)=b)) :
  Calls Tryz.prog 171 #[.int .u8 c] w fun e w'=>e = .returned (.bool b)∧w=w':=by
 go_enter Tryz.func171,Tryz.ntmps171
 go_wp2_with (go_at_call 148;refine (Tryz.strings_IndexByte _ _ _).mono ?_;rintro e w' ⟨rfl,rfl⟩)
 go_ret;exact⟨mY h.out,rfl⟩
theorem CF (c:UInt8)(w:World) :
  Calls Tryz.prog 171 #[.int .u8 c.toNat] w fun e w'=>e = .returned (.bool (jK c))∧w=w':=by
 refine Ir _ _ w (Ng ?_);rw[indexByte_ge,show ((c.toNat:Int).toNat.toUInt8)=c from by simp]
 have h:∀ n:Fin 256,List.contains ([32,9,10,59,38,124,40,41,60,62]:List UInt8) (UInt8.ofNat n.val)=jK (UInt8.ofNat n.val):=by decide +kernel
 have h1:=h ⟨c.toNat,c.toNat_lt⟩;simpa using h1
theorem KS (w:World) :
  Calls Tryz.prog 135 #[] w fun e w'=>e = .returned (.slice (some ⟨w.heap.size,0,none⟩) 13 13)∧Blk w' w.heap.size (bH.map fun l=>.string (bs l))∧Below w.heap.size w w':=by
 go_enter Tryz.func135,Tryz.ntmps135
 go_wp2
 go_ret;exact⟨rfl,Blk.new w _ _,(Below.refl _ _).alloc (Nat.le_refl _) _⟩
end Go.Proofs.YtbpjobmpacjgcaaGreatDoor
