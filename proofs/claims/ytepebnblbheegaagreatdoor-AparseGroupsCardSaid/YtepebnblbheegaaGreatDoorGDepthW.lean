/- core.Depth ends: the walk. -/
import Derived.Test.YtepebnblbheegaaGreatDoorGDepth
namespace Go.Proofs.YtepebnblbheegaaGreatDoor
set_option maxHeartbeats 8000000
set_option maxRecDepth 100000
open Go Go.RowKit
theorem infoLevel:(Tryz.prog.info? 94).map (fun i=>(i.zero,i.size,i.bytes))=some (some (.agg #[.int .i64 0,.int .i64 0,.int .i64 0]),3,24):=by kernel_rfl
theorem cDown_any (l:Prog) (g cap i:Nat) (x:PNode) (w:World) (hx:l[i]?=some x) (hR:NRow w g l) (_hlen:l.length≤cap) (_hcap:cap≤maxLen) (hs:1≤x.size∧x.size≤(l.length:Int) - i) (_hk:0≤x.k∧x.k≤l.length) (hn:l.length≤100000) :
  Calls Tryz.prog 60 #[.slice (some ⟨g,0,none⟩) l.length cap,.int .i64 i,.int .i64 x.size] w fun e w'=>e = .returned (.agg #[.int .i64 ((i:Int)+1),.int .i64 ((i:Int)+x.size),.int .i64 x.k])∧Below w.heap.size w w':=by
 have hi:=(List.getElem?_eq_some_iff.1 hx).1
 obtain ⟨n0,n1,n2,n3,n4⟩:=NRow.facts2 hR hx
 have hb0:=(Below.refl w.heap.size w).alloc (Nat.le_refl _) (.cells #[.int .i64 0,.int .i64 0,.int .i64 0] 94)
 have m2:=bSome hb0 n2
 generalize hln:l.length=ln at *
 generalize x.size=sz at *
 generalize x.k=kk at *
 have hmin:min sz ((ln:Int) - i)=sz:=by omega
 clear hx hR n0 n1 n3 n4 hln
 go_enter Tryz.func60,Tryz.ntmps60
 go_wp2_with fail
 exact bodyPost_ret (results_blk1 (p:=6) (g:=w.heap.size) (cs:=[.int .i64 ((i:Int)+1),.int .i64 ((i:Int)+sz),.int .i64 kk]) rfl _ _ _ rfl (Blk.new w _ _) Tryz.underlying94 rfl (by kernel_rfl)) rfl ⟨rfl,(Below.refl w.heap.size w).alloc (Nat.le_refl _) _⟩
theorem LOwn.last {w:World} {B:Nat} {v:Value} {L:List Lv} {x:Lv} (h:LOwn w B v (L++[x])):∃ g cap,v = .slice (some ⟨g,0,none⟩) (L.length+1) cap∧L.length+1≤cap∧cap≤maxLen∧B≤g∧(∃ cur,w.heap[g]?=some (.cells cur 94 (0,0))) ∧
  w.cell? ⟨g,L.length * 3,none⟩=some (.int .i64 x.c)∧w.cell? ⟨g,L.length * 3+1,none⟩=some (.int .i64 x.e)∧w.cell? ⟨g,L.length * 3+2,none⟩=some (.int .i64 x.left):=by
 have hl:(L++[x]).length=L.length+1:=by simp
 unfold LOwn at h
 rw [hl] at h
 obtain ⟨g,cap,q1,q2,q3,q4,q5,q6⟩:=row_cell h (by omega)
 have hg:B≤g∧∃ cur,w.heap[g]?=some (.cells cur 94 (0,0)):=by
  rcases h.2 with ⟨hv,h0⟩ | ⟨g',cap',cur,hv,hg,hh,r⟩
  ·omega
  ·rw [q1] at hv
   injection hv with e1 e2 e3
   injection e1 with e1
   injection e1 with e1
   subst e1
   exact ⟨hg,cur,hh⟩
 have hc:∀ j u,x.cells[j]?=some u→w.cell? ⟨g,L.length * 3+j,none⟩=some u:=fun j u hu=>by
  refine q6 _ _ ?_
  rw [List.flatMap_append,List.getElem?_append_right (by rw [lv_cells_len]; omega),lv_cells_len,show L.length * 3+j - L.length * 3=j by omega]
  simpa using hu
 exact ⟨g,cap,q1,q2,q3,hg.1,hg.2,hc 0 _ rfl,hc 1 _ rfl,hc 2 _ rfl⟩
theorem LOwn.form {w:World} {B:Nat} {v:Value} {L:List Lv} (h:LOwn w B v L):∃ ao cap,v = .slice ao L.length cap:=by
 rcases h.2 with ⟨hv,h0⟩ | ⟨g,cap,cur,hv,-⟩
 ·exact ⟨none,0,by rw [hv,h0]⟩
 ·exact ⟨_,_,hv⟩
theorem LOwn.pop {w:World} {B g cap:Nat} {L:List Lv} {x:Lv} (h:LOwn w B (.slice (some ⟨g,0,none⟩) (L.length+1) cap) (L++[x])):LOwn w B (.slice (some ⟨g,0,none⟩) L.length cap) L:=by
 refine ⟨lv_cells_len L,?_⟩
 rcases h.2 with ⟨hv,h0⟩ | ⟨g',cap',cur,hv,hg,hh,hc1,hc2,hsz,ht⟩
 ·cases hv
 ·injection hv with e1 e2 e3
  injection e1 with e1
  injection e1 with e1
  subst e1 e3
  simp only [List.length_append,List.length_cons,List.length_nil] at hc1 ht
  refine .inr ⟨g,cap,cur,rfl,hg,hh,by omega,hc2,hsz,?_⟩
  rw [← lv_drop L x,← ht,List.take_take]
  congr 1
  omega
theorem LOwn.step {w:World} {B g cap:Nat} {L:List Lv} {x:Lv} (h:LOwn w B (.slice (some ⟨g,0,none⟩) (L.length+1) cap) (L++[x])) (c:Nat) (left:Int) :
  LOwn ((w.setCell ⟨g,L.length * 3,none⟩ (.int .i64 c)).setCell ⟨g,L.length * 3+2,none⟩ (.int .i64 left)) B (.slice (some ⟨g,0,none⟩) (L.length+1) cap) (L++[⟨c,x.e,left⟩]):=by
 have hl:∀ y:Lv,(L++[y]).length=L.length+1:=fun y=>by simp
 unfold LOwn at h ⊢
 rw [hl] at h ⊢
 rw [← lv_set]
 exact ownsRow_set (ownsRow_set h (by omega) _) (by omega) _
end Go.Proofs.YtepebnblbheegaaGreatDoor
