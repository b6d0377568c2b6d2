/- Dialect A's parser: a word's parts, joined. -/
import Derived.Test.YtbfeoinoepoiaaaGreatDoorGQWordA
import Derived.Defers
namespace Go.Proofs.YtbfeoinoepoiaaaGreatDoor
set_option maxHeartbeats 16000000
set_option maxRecDepth 100000
open Go Go.RowKit
theorem qJoined1 {sent:Nat→Addr} (K:FuncId) (_cc:Addr) (hen:∀ args w,(callFunc K args).run Tryz.prog w = .ok (.enter K args) w) {tq:APart→POne Prog} (w:World) (b g cap n base i d:Nat) (ts:List ATok) (t:ATok) (tv:Value) (r:Except (Nat × Nat) Prog) (F:QFix n base cap ts) (hQ:QSt w b g cap ts base i d) (hE:EnvQ w b sent) (ht:ATokV w tv t) (hp:t.place≤n)
  (hto:Hid (∀ (w':World) (x:APart) (rc:Except (Nat × Nat) Prog),Below w.heap.size w w'→x∈t.parts→tq x=some rc→Calls Tryz.prog K #[.pointer (some ⟨b,0,none⟩),.agg #[.int .i64 x.kind,.int .i64 x.place,.int .i64 x.num,.bool x.quoted,.string (bs x.text)]] w' (OneOut w' b sent rc)))
  (hpost:Hid (∀ x∈t.parts,∀ l,tq x=some (.ok l)→AliveQ x l)) (hwt:wtPs t.parts≤24577) (hr:Hid (joinedA tq base t=some r)) :
  Calls Tryz.prog 253 #[.pointer (some ⟨b,0,none⟩),tv,.func (.func K) #[.pointer (some ⟨b,0,none⟩)] #[]] w (OneOut w b sent r):=by
 obtain ⟨k0,hk0,hk1,hk2,hk3⟩:=info_parts infoNodes
 have HF:=Lib.hid F
 have hbl:=hQ.blt
 obtain ⟨tp,rfl,ao,pc,rfl,q1,q2,q3⟩:=ht
 have hB:=Blk.new w [.int .i64 t.kind,.int .i64 t.place,.slice ao t.parts.length pc] 161
 have hb1:=(Below.refl _ w).alloc (Nat.le_refl _) (.cells #[.int .i64 t.kind,.int .i64 t.place,.slice ao t.parts.length pc] 161)
 have HQ:=Lib.hid hQ
 have HE:=Lib.hid hE
 have HP3:=Lib.hid q3
 have hlw:=wtPs_len t.parts
 obtain ⟨N,hN⟩:∃ N,t.parts.length=N:=⟨_,rfl⟩
 have HN:=Lib.hid hN
 rw [hN] at q1 hB hb1 hlw ⊢
 clear hN q3 hQ hE F
 go_enter Tryz.func253,Tryz.ntmps253
 go_upto_region 2 with fail
 refine wp_world (fun w9=>Blk w9 w.heap.size [.int .i64 t.kind,.int .i64 t.place,.slice ao N pc]∧Below w.heap.size w w9∧w.heap.size<w9.heap.size) ⟨hB,hb1,by simp⟩ ?_
 clear hB hb1
 intro wz ⟨hB,hbz,hlz⟩
 have hcB0:=hB.cell 2 rfl
 go_wp2_with fail
 go_loopg [8,10,11,12,16] N (fun mm v pp xx er c wr=>∃ (k:Nat) (L:List Prog),mm=N - k∧k≤N∧c = .int .i64 k∧L.length=k∧L.flatten.length≤8 * wtPs (t.parts.take k)∧txP L.flatten≤30000 * wtPs (t.parts.take k)∧Hid (∀ l∈L,0<l.length)∧KOwn wr wz.heap.size b v L∧Below wz.heap.size wz wr∧Hid ((partsA tq (t.parts.drop k)).go (fun l=>fitsA base t (joinA (L++l)))=some r))
 case atStart=>exact ⟨0,[],rfl,Nat.zero_le _,rfl,rfl,by simp,by simp [txP_nil],Lib.hid (fun _ h=>nomatch h),KOwn.nil _ _ _,Below.refl _ _,Lib.hid (by rw [List.drop_zero]; exact hr.out)⟩
 case round =>
  obtain ⟨k,L,rfl,hk,rfl,hLk,hL1,hL2,hL3,hO,hbr,hr⟩:=hrel
  have hszr:=hbr.size
  have hbw:=hbz.trans (hbr.mono hbz.size)
  by_cases hlt:k<N
  ·obtain ⟨gp,rfl,p1,p2⟩:=HP3.out (by have:=HN.out; omega)
   obtain ⟨x,hx⟩:∃ x,t.parts[k]?=some x:=⟨_,List.getElem?_eq_getElem (by have:=HN.out; omega)⟩
   have hxm:=List.mem_of_getElem? hx
   obtain ⟨x0,x1,x2,x3,x4⟩:=(p2.below hbw).facts k x hx
   obtain ⟨hkt,hxe⟩:=List.getElem?_eq_some_iff.1 hx
   have hdrop:t.parts.drop k=x :: t.parts.drop (k+1):=by rw [List.drop_eq_getElem_cons hkt,hxe]
   have htake:wtPs (t.parts.take (k+1))=wtPs (t.parts.take k)+wtP x:=by rw [List.take_succ_eq_append_getElem hkt,hxe,wtPs_snoc]
   have HR:=Lib.hid hr.out
   rw [hdrop,partsA] at HR
   cases hq:tq x with
   | none=>rw [hq] at HR; exact absurd HR.out (by simp [POne.go])
   | some rc =>
    rw [hq] at HR
    have hbx:=(Below.refl _ wr).alloc (Nat.le_refl _) (.cells #[Value.int .i64 x.kind,.int .i64 x.place,.int .i64 x.num,.bool x.quoted,.string (bs x.text)] 214)
    have hby:=bNext hbw hbx
    have HC:=Lib.hid (hto.out _ x rc hby hxm hq)
    have hO1:=hO.below (Nat.lt_of_lt_of_le hbl hbz.size) hbx
    obtain ⟨oa,oc,rfl⟩:=hO.form
    rw [hLk] at hO1 ⊢
    clear hO p2 hr
    go_wp2_with fail
    refine HC.out.mono ?_
    rintro e w2 ⟨hb2,h4⟩
    have hb3:=bNext hbx hb2
    have hb4:=hbr.trans (hb3.mono hbr.size)
    have hb5:=hbz.trans (hb4.mono hbz.size)
    have hsz5:=hb4.size
    cases rc with
    | error q =>
     have HX:=Lib.hid (show r = .error q from by
      have:=HR.out
      simp only [POne.go] at this
      injection this with this
      exact this.symm)
     obtain ⟨v,u,rfl,h5,hfv⟩:=h4
     have h6:=h5.from hby.size
     obtain ⟨eb,rfl⟩:=h5.form'
     clear h5 HR hq HC
     go_wp2_with fail
     go_ret2
     exact OneOut.bad (c:=q.1) (p:=q.2) HX.out rfl h6 hb5 (by first | assumption | exact ⟨_,_,_,rfl⟩)
    | ok l =>
     obtain ⟨v,rfl,hNl⟩:=h4
     obtain ⟨y1,y2,y3⟩:=hpost.out x hxm l hq
     have hO2:=hO1.below (Nat.lt_of_lt_of_le hbl hbz.size) hb2
     have HR2:=Lib.hid (show (partsA tq (t.parts.drop (k+1))).go (fun l'=>fitsA base t (joinA ((L++[l])++l')))=some r from by
      have h9:=HR.out
      rw [← h9]
      cases partsA tq (t.parts.drop (k+1)) with
      | none=>rfl
      | some z=>cases z <;> simp [POne.go,oOk])
     have hM1:(L++[l]).flatten.length≤8 * wtPs (t.parts.take (k+1)):=by rw [flat_snoc,List.length_append,htake]; omega
     have hM2:txP (L++[l]).flatten≤30000 * wtPs (t.parts.take (k+1)):=by rw [flat_snoc,txP_append,htake]; omega
     have hM3:=Lib.hid (snoc_all hL3.out y1)
     obtain ⟨us,u1,u2,u3⟩:=hO2
     have u9:=u2
     rw [hLk] at u2
     have hOA:∀ o,(w2.alloc o).ownsRow wz.heap.size 23 1 _ k us:=fun o=>ownsRow_kept u2 (Kept.ofBelow (S:=Nowhere) ((Below.refl _ w2).alloc (Nat.le_refl _) o)) (fun _ _ _ e=>e)
     have HNl:=Lib.hid hNl
     obtain ⟨gx,cx,rfl,-⟩:=hNl
     clear HR hq HC hO1 hdrop hx
     go_wp2_with (at_builtin; refine wpList_append_own _ rfl _ _ 38 rfl wz.heap.size 23 k0 _ 1 24 Tryz.underlying38 hk0 hk1 hk2 hk3 rfl (by decide) _ _ _ rfl (hOA _) ⟨w2.heap.size,0,none⟩ 1 1 [.slice (some ⟨gx,0,none⟩) l.length cx] rfl rfl (cells_new (by simp)) (by intro u hu; simp at hu; subst hu; rfl) (by unfold maxLen; omega) (by omega) (by simp; omega) ?_; intro v6 w6 hown' hgrow _)
     obtain ⟨hO6,hb6⟩:=KOwn.grown (w0:=wz) hsz5 u1 u9 u3 HNl.out (by rw [hLk]; exact hown') hgrow
     have hb7:=hb4.trans hb6
     go_wp2_with fail
     go_roundg (N - (k+1))
     case measure=>omega
     case rel=>exact ⟨k+1,L++[l],rfl,by omega,by go_num,by simp [hLk],hM1,hM2,hM3,hO6,hb7,HR2⟩
  ·obtain rfl:k=N:=by omega
   have HR:=Lib.hid (show fitsA base t (joinA L)=some r from by
    have h9:=hr.out
    rw [List.drop_of_length_le (by have:=HN.out; omega)] at h9
    simpa [partsA,POne.go,oOk] using h9)
   have hT:t.parts.take k=t.parts:=List.take_of_length_le (by have:=HN.out; omega)
   rw [hT] at hL1 hL2
   have hbb:b<wz.heap.size:=Nat.lt_of_lt_of_le hbl hbz.size
   obtain ⟨oa,oc,rfl⟩:=hO.form
   rw [hLk] at hO ⊢
   have HJ:=Lib.hid (show ∀ w9,(Below wr.heap.size wr w9)→Calls Tryz.prog 271 #[.slice oa k oc] w9 fun e w'=>∃ v',e = .returned v'∧NSl w' b v' (joinA L)∧Below wr.heap.size wr w' from fun w9 h9 =>
    (qJoin_any L b _ w9 (Nat.lt_of_lt_of_le hbb (Nat.le_trans hszr h9.size)) (by omega) (by omega) (by omega) ((hO.ksl hbb).below h9) hL3).mono fun e w' ⟨v',h1,h2,h3⟩=>⟨v',h1,h2,bNext h9 h3⟩)
   have hjl:=(len_joinA L hL3.out).2.1
   have HS:=Lib.hid (show ∀ (w9:World) (v9:Value),Below wr.heap.size wr w9→NSl w9 b v9 (joinA L)→Calls Tryz.prog 257 #[.pointer (some ⟨b,0,none⟩),.agg #[.int .i64 t.kind,.int .i64 t.place,.slice ao k pc],v9] w9 (fun e w'=>OneOut w b sent r e w'∧Below w9.heap.size w9 w') from fun w9 v9 h9 hN9=>by
    have hb9:=bNext hbw h9
    refine (qFits_any w9 b g cap n base i d ts t _ v9 (joinA L) r HF.out (HQ.out.below hb9) (HE.out.below hb9) ⟨_,rfl,(show PSl w (.slice ao k pc) t.parts from ⟨ao,pc,by rw [HN.out],by rw [HN.out]; exact q1,q2,HP3.out⟩).below hb9⟩ hp hN9 (by omega) HR).mono ?_
    exact fun e w' h=>⟨h.later hb9,h.1⟩)
   have x0:=bSome hbr (hB.cell 0 rfl)
   have x1:=bSome hbr (hB.cell 1 rfl)
   have x2:=bSome hbr (hB.cell 2 rfl)
   have e1:=Below.refl wr.heap.size wr
   have e2:=(Below.refl wr.heap.size wr).drew
   clear hr hO HR hB hbr hbw hbz
   go_upto_region 10 with fail
   go_region_held3 (fun w'=>w'.cell? ⟨w.heap.size,0,none⟩=some (.int .i64 t.kind)∧w'.cell? ⟨w.heap.size,1,none⟩=some (.int .i64 t.place)∧w'.cell? ⟨w.heap.size,2,none⟩=some (.slice ao k pc)) (first | exact ⟨bSome hb7 (bSome hb5 x0),bSome hb7 (bSome hb5 x1),bSome hb7 (bSome hb5 x2)⟩ | exact ⟨bSome hb5 x0,bSome hb5 x1,bSome hb5 x2⟩ | go_keep)
    (first
     | (go_at_call 271; (with_reducible refine (HJ.out _ (by first | exact e1 | exact e2)).mono ?_); rintro e w5 ⟨v5,rfl,hN5,hb5⟩; obtain ⟨g5,c5,rfl,-⟩:=id hN5)
     | (go_at_call 257; (with_reducible refine (HS.out _ _ hb5 hN5).mono ?_); rintro e w7 ⟨h7,hb7⟩; obtain ⟨v7,u7,rfl⟩:=h7.tuple))
   go_wp2_with fail
   go_ret2
   exact h7
end Go.Proofs.YtbfeoinoepoiaaaGreatDoor
namespace Go.Proofs.YtbfeoinoepoiaaaGreatDoor
set_option maxHeartbeats 16000000
set_option maxRecDepth 100000
open Go Go.RowKit
def DoesV (sent:Nat→Addr) (fn:FuncId) (V:Nat→Nat→ATok→POne Prog):Prop :=
 ∀ (w:World) (b g cap n base i d:Nat) (ts:List ATok) (t:ATok) (tv:Value) (r:Except (Nat × Nat) Prog),d≤31→QFix n base cap ts→QSt w b g cap ts base i d→EnvQ w b sent→ATokV w tv t→(∀ x∈t.parts,PartI n x)→txS t.parts≤8192→t.place≤n→wtPs t.parts≤24577→Hid (V base d t=some r) →
  Calls Tryz.prog fn #[.pointer (some ⟨b,0,none⟩),tv] w (OneOut w b sent r)
def SubQs (S:Nat→Nat→APart→POne Prog):Prop:=∀ (base d n:Nat) (x:APart),PartI n x→x.kind=4→PostO base (base+n) (S base d x) fun l=>0<l.length∧l.length+12≤8 * wtP x∧txP l≤30000 * wtP x
theorem SubQs.small {S:Nat→Nat→APart→POne Prog} (h:SubQs S):SmallP S:=fun base d n x l hx hk hl=>by
 have h1:=(h base d n x hx hk).1 l hl
 have h2:=hx.len
 unfold wtP at h1
 rw [if_pos hk] at h1
 omega
theorem SubQs.q {S:Nat→Nat→APart→POne Prog} (h:SubQs S) (base d n:Nat) (P:List APart) (hP:∀ x∈P,PartI n x):SubQ base (base+n) (S base d) P:=fun x hx hk=>h base d n x (hP x hx) hk
theorem enters_piece:∀ args w,(callFunc 254 args).run Tryz.prog w = .ok (.enter 254 args) w:=enters_of Tryz.func254 (by kernel_rfl) rfl
theorem enters_items:∀ args w,(callFunc 261 args).run Tryz.prog w = .ok (.enter 261 args) w:=enters_of Tryz.func261 (by kernel_rfl) rfl
theorem enters_live1:∀ args w,(callFunc 263 args).run Tryz.prog w = .ok (.enter 263 args) w:=enters_of Tryz.func263 (by kernel_rfl) rfl
theorem enters_field1:∀ args w,(callFunc 259 args).run Tryz.prog w = .ok (.enter 259 args) w:=enters_of Tryz.func259 (by kernel_rfl) rfl
theorem qJoined2 {sent:Nat→Addr} (K:FuncId) (cc:Addr) (hen:∀ args w,(callFunc K args).run Tryz.prog w = .ok (.enter K args) w) {tq:APart→POne Prog} (w:World) (b g cap n base i d:Nat) (ts:List ATok) (t:ATok) (tv:Value) (r:Except (Nat × Nat) Prog) (F:QFix n base cap ts) (hQ:QSt w b g cap ts base i d) (hE:EnvQ w b sent) (ht:ATokV w tv t) (hp:t.place≤n)
  (hto:Hid (∀ (w':World) (x:APart) (rc:Except (Nat × Nat) Prog),Below w.heap.size w w'→x∈t.parts→tq x=some rc→Calls Tryz.prog K #[.agg #[.int .i64 x.kind,.int .i64 x.place,.int .i64 x.num,.bool x.quoted,.string (bs x.text)],.pointer (some cc)] w' (OneOut w' b sent rc)))
  (hpost:Hid (∀ x∈t.parts,∀ l,tq x=some (.ok l)→AliveQ x l)) (hwt:wtPs t.parts≤24577) (hr:Hid (joinedA tq base t=some r)) :
  Calls Tryz.prog 253 #[.pointer (some ⟨b,0,none⟩),tv,.func (.func K) #[] #[.pointer (some cc)]] w (OneOut w b sent r):=by
 obtain ⟨k0,hk0,hk1,hk2,hk3⟩:=info_parts infoNodes
 have HF:=Lib.hid F
 have hbl:=hQ.blt
 obtain ⟨tp,rfl,ao,pc,rfl,q1,q2,q3⟩:=ht
 have hB:=Blk.new w [.int .i64 t.kind,.int .i64 t.place,.slice ao t.parts.length pc] 161
 have hb1:=(Below.refl _ w).alloc (Nat.le_refl _) (.cells #[.int .i64 t.kind,.int .i64 t.place,.slice ao t.parts.length pc] 161)
 have HQ:=Lib.hid hQ
 have HE:=Lib.hid hE
 have HP3:=Lib.hid q3
 have hlw:=wtPs_len t.parts
 obtain ⟨N,hN⟩:∃ N,t.parts.length=N:=⟨_,rfl⟩
 have HN:=Lib.hid hN
 rw [hN] at q1 hB hb1 hlw ⊢
 clear hN q3 hQ hE F
 go_enter Tryz.func253,Tryz.ntmps253
 go_upto_region 2 with fail
 refine wp_world (fun w9=>Blk w9 w.heap.size [.int .i64 t.kind,.int .i64 t.place,.slice ao N pc]∧Below w.heap.size w w9∧w.heap.size<w9.heap.size) ⟨hB,hb1,by simp⟩ ?_
 clear hB hb1
 intro wz ⟨hB,hbz,hlz⟩
 have hcB0:=hB.cell 2 rfl
 go_wp2_with fail
 go_loopg [8,10,11,12,16] N (fun mm v pp xx er c wr=>∃ (k:Nat) (L:List Prog),mm=N - k∧k≤N∧c = .int .i64 k∧L.length=k∧L.flatten.length≤8 * wtPs (t.parts.take k)∧txP L.flatten≤30000 * wtPs (t.parts.take k)∧Hid (∀ l∈L,0<l.length)∧KOwn wr wz.heap.size b v L∧Below wz.heap.size wz wr∧Hid ((partsA tq (t.parts.drop k)).go (fun l=>fitsA base t (joinA (L++l)))=some r))
 case atStart=>exact ⟨0,[],rfl,Nat.zero_le _,rfl,rfl,by simp,by simp [txP_nil],Lib.hid (fun _ h=>nomatch h),KOwn.nil _ _ _,Below.refl _ _,Lib.hid (by rw [List.drop_zero]; exact hr.out)⟩
 case round =>
  obtain ⟨k,L,rfl,hk,rfl,hLk,hL1,hL2,hL3,hO,hbr,hr⟩:=hrel
  have hszr:=hbr.size
  have hbw:=hbz.trans (hbr.mono hbz.size)
  by_cases hlt:k<N
  ·obtain ⟨gp,rfl,p1,p2⟩:=HP3.out (by have:=HN.out; omega)
   obtain ⟨x,hx⟩:∃ x,t.parts[k]?=some x:=⟨_,List.getElem?_eq_getElem (by have:=HN.out; omega)⟩
   have hxm:=List.mem_of_getElem? hx
   obtain ⟨x0,x1,x2,x3,x4⟩:=(p2.below hbw).facts k x hx
   obtain ⟨hkt,hxe⟩:=List.getElem?_eq_some_iff.1 hx
   have hdrop:t.parts.drop k=x :: t.parts.drop (k+1):=by rw [List.drop_eq_getElem_cons hkt,hxe]
   have htake:wtPs (t.parts.take (k+1))=wtPs (t.parts.take k)+wtP x:=by rw [List.take_succ_eq_append_getElem hkt,hxe,wtPs_snoc]
   have HR:=Lib.hid hr.out
   rw [hdrop,partsA] at HR
   cases hq:tq x with
   | none=>rw [hq] at HR; exact absurd HR.out (by simp [POne.go])
   | some rc =>
    rw [hq] at HR
    have hbx:=(Below.refl _ wr).alloc (Nat.le_refl _) (.cells #[Value.int .i64 x.kind,.int .i64 x.place,.int .i64 x.num,.bool x.quoted,.string (bs x.text)] 214)
    have hby:=bNext hbw hbx
    have HC:=Lib.hid (hto.out _ x rc hby hxm hq)
    have hO1:=hO.below (Nat.lt_of_lt_of_le hbl hbz.size) hbx
    obtain ⟨oa,oc,rfl⟩:=hO.form
    rw [hLk] at hO1 ⊢
    clear hO p2 hr
    go_wp2_with fail
    refine HC.out.mono ?_
    rintro e w2 ⟨hb2,h4⟩
    have hb3:=bNext hbx hb2
    have hb4:=hbr.trans (hb3.mono hbr.size)
    have hb5:=hbz.trans (hb4.mono hbz.size)
    have hsz5:=hb4.size
    cases rc with
    | error q =>
     have HX:=Lib.hid (show r = .error q from by
      have:=HR.out
      simp only [POne.go] at this
      injection this with this
      exact this.symm)
     obtain ⟨v,u,rfl,h5,hfv⟩:=h4
     have h6:=h5.from hby.size
     obtain ⟨eb,rfl⟩:=h5.form'
     clear h5 HR hq HC
     go_wp2_with fail
     go_ret2
     exact OneOut.bad (c:=q.1) (p:=q.2) HX.out rfl h6 hb5 (by first | assumption | exact ⟨_,_,_,rfl⟩)
    | ok l =>
     obtain ⟨v,rfl,hNl⟩:=h4
     obtain ⟨y1,y2,y3⟩:=hpost.out x hxm l hq
     have hO2:=hO1.below (Nat.lt_of_lt_of_le hbl hbz.size) hb2
     have HR2:=Lib.hid (show (partsA tq (t.parts.drop (k+1))).go (fun l'=>fitsA base t (joinA ((L++[l])++l')))=some r from by
      have h9:=HR.out
      rw [← h9]
      cases partsA tq (t.parts.drop (k+1)) with
      | none=>rfl
      | some z=>cases z <;> simp [POne.go,oOk])
     have hM1:(L++[l]).flatten.length≤8 * wtPs (t.parts.take (k+1)):=by rw [flat_snoc,List.length_append,htake]; omega
     have hM2:txP (L++[l]).flatten≤30000 * wtPs (t.parts.take (k+1)):=by rw [flat_snoc,txP_append,htake]; omega
     have hM3:=Lib.hid (snoc_all hL3.out y1)
     obtain ⟨us,u1,u2,u3⟩:=hO2
     have u9:=u2
     rw [hLk] at u2
     have hOA:∀ o,(w2.alloc o).ownsRow wz.heap.size 23 1 _ k us:=fun o=>ownsRow_kept u2 (Kept.ofBelow (S:=Nowhere) ((Below.refl _ w2).alloc (Nat.le_refl _) o)) (fun _ _ _ e=>e)
     have HNl:=Lib.hid hNl
     obtain ⟨gx,cx,rfl,-⟩:=hNl
     clear HR hq HC hO1 hdrop hx
     go_wp2_with (at_builtin; refine wpList_append_own _ rfl _ _ 38 rfl wz.heap.size 23 k0 _ 1 24 Tryz.underlying38 hk0 hk1 hk2 hk3 rfl (by decide) _ _ _ rfl (hOA _) ⟨w2.heap.size,0,none⟩ 1 1 [.slice (some ⟨gx,0,none⟩) l.length cx] rfl rfl (cells_new (by simp)) (by intro u hu; simp at hu; subst hu; rfl) (by unfold maxLen; omega) (by omega) (by simp; omega) ?_; intro v6 w6 hown' hgrow _)
     obtain ⟨hO6,hb6⟩:=KOwn.grown (w0:=wz) hsz5 u1 u9 u3 HNl.out (by rw [hLk]; exact hown') hgrow
     have hb7:=hb4.trans hb6
     go_wp2_with fail
     go_roundg (N - (k+1))
     case measure=>omega
     case rel=>exact ⟨k+1,L++[l],rfl,by omega,by go_num,by simp [hLk],hM1,hM2,hM3,hO6,hb7,HR2⟩
  ·obtain rfl:k=N:=by omega
   have HR:=Lib.hid (show fitsA base t (joinA L)=some r from by
    have h9:=hr.out
    rw [List.drop_of_length_le (by have:=HN.out; omega)] at h9
    simpa [partsA,POne.go,oOk] using h9)
   have hT:t.parts.take k=t.parts:=List.take_of_length_le (by have:=HN.out; omega)
   rw [hT] at hL1 hL2
   have hbb:b<wz.heap.size:=Nat.lt_of_lt_of_le hbl hbz.size
   obtain ⟨oa,oc,rfl⟩:=hO.form
   rw [hLk] at hO ⊢
   have HJ:=Lib.hid (show ∀ w9,(Below wr.heap.size wr w9)→Calls Tryz.prog 271 #[.slice oa k oc] w9 fun e w'=>∃ v',e = .returned v'∧NSl w' b v' (joinA L)∧Below wr.heap.size wr w' from fun w9 h9 =>
    (qJoin_any L b _ w9 (Nat.lt_of_lt_of_le hbb (Nat.le_trans hszr h9.size)) (by omega) (by omega) (by omega) ((hO.ksl hbb).below h9) hL3).mono fun e w' ⟨v',h1,h2,h3⟩=>⟨v',h1,h2,bNext h9 h3⟩)
   have hjl:=(len_joinA L hL3.out).2.1
   have HS:=Lib.hid (show ∀ (w9:World) (v9:Value),Below wr.heap.size wr w9→NSl w9 b v9 (joinA L)→Calls Tryz.prog 257 #[.pointer (some ⟨b,0,none⟩),.agg #[.int .i64 t.kind,.int .i64 t.place,.slice ao k pc],v9] w9 (fun e w'=>OneOut w b sent r e w'∧Below w9.heap.size w9 w') from fun w9 v9 h9 hN9=>by
    have hb9:=bNext hbw h9
    refine (qFits_any w9 b g cap n base i d ts t _ v9 (joinA L) r HF.out (HQ.out.below hb9) (HE.out.below hb9) ⟨_,rfl,(show PSl w (.slice ao k pc) t.parts from ⟨ao,pc,by rw [HN.out],by rw [HN.out]; exact q1,q2,HP3.out⟩).below hb9⟩ hp hN9 (by omega) HR).mono ?_
    exact fun e w' h=>⟨h.later hb9,h.1⟩)
   have x0:=bSome hbr (hB.cell 0 rfl)
   have x1:=bSome hbr (hB.cell 1 rfl)
   have x2:=bSome hbr (hB.cell 2 rfl)
   have e1:=Below.refl wr.heap.size wr
   have e2:=(Below.refl wr.heap.size wr).drew
   clear hr hO HR hB hbr hbw hbz
   go_upto_region 10 with fail
   go_region_held3 (fun w'=>w'.cell? ⟨w.heap.size,0,none⟩=some (.int .i64 t.kind)∧w'.cell? ⟨w.heap.size,1,none⟩=some (.int .i64 t.place)∧w'.cell? ⟨w.heap.size,2,none⟩=some (.slice ao k pc)) (first | exact ⟨bSome hb7 (bSome hb5 x0),bSome hb7 (bSome hb5 x1),bSome hb7 (bSome hb5 x2)⟩ | exact ⟨bSome hb5 x0,bSome hb5 x1,bSome hb5 x2⟩ | go_keep)
    (first
     | (go_at_call 271; (with_reducible refine (HJ.out _ (by first | exact e1 | exact e2)).mono ?_); rintro e w5 ⟨v5,rfl,hN5,hb5⟩; obtain ⟨g5,c5,rfl,-⟩:=id hN5)
     | (go_at_call 257; (with_reducible refine (HS.out _ _ hb5 hN5).mono ?_); rintro e w7 ⟨h7,hb7⟩; obtain ⟨v7,u7,rfl⟩:=h7.tuple))
   go_wp2_with fail
   go_ret2
   exact h7
theorem qValue_walk {sent:Nat→Addr} {S:Nat→Nat→APart→POne Prog} (hS:SubQs S) (hP:DoesP sent 254 kAny (fun b d x=>pieceA (S b d) x)):DoesV sent 238 (fun b d t=>valueA (S b d) b t):=by
 intro w b g cap n base i d ts t tv r hd F hQ hE ht hx htx hp hw hr
 have hmf:∀ (fn:Fn) (first cap:Array Value) (w:World),(Instr.makeFunc fn first cap).run Tryz.prog w = .ok (.func fn first cap) w:=fun _ _ _ _=>rfl
 obtain ⟨tp,rfl,hps⟩:=ht
 have hb1:=(Below.refl _ w).alloc (Nat.le_refl _) (.cells #[.int .i64 t.kind,.int .i64 t.place,tp] 161)
 have HJ:=Lib.hid (qJoined1 (sent:=sent) 254 ⟨0,0,none⟩ enters_piece (tq:=pieceA (S base d)) _ b g cap n base i d ts t _ r F (hQ.below hb1) (hE.below hb1) ⟨tp,rfl,hps.below hb1⟩ hp
  (Lib.hid fun w' x rc hb hxm hq=>hP w' b g cap n base i d ts x rc hd F ((hQ.below hb1).below hb) ((hE.below hb1).below hb) (hx x hxm) trivial (Lib.hid hq))
  (Lib.hid fun x hxm l hl=>by
   obtain ⟨h1,h2,h3⟩:=(piece_post (hS.q base d n t.parts hx) hxm (hx x hxm).valid (hx x hxm).len).1 l hl
   exact ⟨h1,by omega,h3⟩) hw (Lib.hid hr.out))
 obtain ⟨ao,pc,rfl⟩:=hps.form
 clear hQ hE hS hP hr hx
 go_enter Tryz.func238,Tryz.ntmps238
 go_wp2_with fail
 refine HJ.out.mono ?_
 intro e w2 h2
 have h3:=h2.later hb1
 obtain ⟨v,u,rfl⟩:=h2.tuple
 go_wp2_with fail
 go_ret2
 exact h3
theorem qLive1_any {sent:Nat→Addr} {S:Nat→Nat→APart→POne Prog} (hS:SubQs S) (hP:DoesP sent 254 kAny (fun b d x=>pieceA (S b d) x)) (w:World) (b g cap n base i d:Nat) (ts:List ATok) (x:APart) (r:Except (Nat × Nat) Prog) (cc:Addr) (hd:d≤31) (F:QFix n base cap ts) (hQ:QSt w b g cap ts base i d) (hE:EnvQ w b sent) (hx:PartI n x) (hc:w.cell? cc=some (.pointer (some ⟨b,0,none⟩))) (hr:Hid (aliveA (S base d) (pieceA (S base d)) x=some r)) :
  Calls Tryz.prog 263 #[.agg #[.int .i64 x.kind,.int .i64 x.place,.int .i64 x.num,.bool x.quoted,.string (bs x.text)],.pointer (some cc)] w (OneOut w b sent r):=by
 have hmf:∀ (fn:Fn) (first cap:Array Value) (w:World),(Instr.makeFunc fn first cap).run Tryz.prog w = .ok (.func fn first cap) w:=fun _ _ _ _=>rfl
 have hb1:=(Below.refl _ w).alloc (Nat.le_refl _) (.cells #[.int .i64 x.kind,.int .i64 x.place,.int .i64 x.num,.bool x.quoted,.string (bs x.text)] 214)
 have HA:=Lib.hid (qAlive_walk (S:=S) (B:=fun b d x=>pieceA (S b d) x) 254 enters_piece hP kAny (fun _ _ _=>trivial) hP hS.small _ b g cap n base i d ts x r hd F (hQ.below hb1) (hE.below hb1) hx (Lib.hid hr.out))
 have hc1:=bSome hb1 hc
 clear hQ hE hS hP hr hx
 go_enter Tryz.func263,Tryz.ntmps263
 go_wp2_with fail
 refine HA.out.mono ?_
 intro e w2 h2
 have h3:=h2.later hb1
 obtain ⟨v,u,rfl⟩:=h2.tuple
 go_wp2_with fail
 go_ret2
 exact h3
theorem qField1_any {sent:Nat→Addr} {S:Nat→Nat→APart→POne Prog} (hS:SubQs S) (hP:DoesP sent 254 kAny (fun b d x=>pieceA (S b d) x)) (hI:DoesP sent 261 kItem (fun b d x=>itemsA (S b d) x)) (w:World) (b g cap n base i d:Nat) (ts:List ATok) (x:APart) (r:Except (Nat × Nat) Prog) (cc:Addr) (hd:d≤31) (F:QFix n base cap ts) (hQ:QSt w b g cap ts base i d) (hE:EnvQ w b sent) (hx:PartI n x) (hc:w.cell? cc=some (.pointer (some ⟨b,0,none⟩))) (hr:Hid (aliveA (S base d) (itemsA (S base d)) x=some r)) :
  Calls Tryz.prog 259 #[.agg #[.int .i64 x.kind,.int .i64 x.place,.int .i64 x.num,.bool x.quoted,.string (bs x.text)],.pointer (some cc)] w (OneOut w b sent r):=by
 have hmf:∀ (fn:Fn) (first cap:Array Value) (w:World),(Instr.makeFunc fn first cap).run Tryz.prog w = .ok (.func fn first cap) w:=fun _ _ _ _=>rfl
 have hb1:=(Below.refl _ w).alloc (Nat.le_refl _) (.cells #[.int .i64 x.kind,.int .i64 x.place,.int .i64 x.num,.bool x.quoted,.string (bs x.text)] 214)
 have HA:=Lib.hid (qAlive_walk (S:=S) (B:=fun b d x=>itemsA (S b d) x) 261 enters_items hP kItem (fun _ h1 h2=>⟨h1,h2⟩) hI hS.small _ b g cap n base i d ts x r hd F (hQ.below hb1) (hE.below hb1) hx (Lib.hid hr.out))
 have hc1:=bSome hb1 hc
 clear hQ hE hS hP hI hr hx
 go_enter Tryz.func259,Tryz.ntmps259
 go_wp2_with fail
 refine HA.out.mono ?_
 intro e w2 h2
 have h3:=h2.later hb1
 obtain ⟨v,u,rfl⟩:=h2.tuple
 go_wp2_with fail
 go_ret2
 exact h3
theorem qLive_walk {sent:Nat→Addr} {S:Nat→Nat→APart→POne Prog} (hS:SubQs S) (hP:DoesP sent 254 kAny (fun b d x=>pieceA (S b d) x)):DoesV sent 243 (fun b d t=>livesA (S b d) b t):=by
 intro w b g cap n base i d ts t tv r hd F hQ hE ht hx htx hp hw hr
 have hmf:∀ (fn:Fn) (first cap:Array Value) (w:World),(Instr.makeFunc fn first cap).run Tryz.prog w = .ok (.func fn first cap) w:=fun _ _ _ _=>rfl
 have hbl:=hQ.blt
 obtain ⟨tp,rfl,hps⟩:=ht
 have HR:=Lib.hid (show (if t.parts=[] then oOk (newP 1 1 [] []) else joinedA (aliveA (S base d) (pieceA (S base d))) base t)=some r from hr.out)
 have hb0:=(Below.refl _ w).alloc (Nat.le_refl _) (.cells #[.pointer (some ⟨b,0,none⟩)] 121)
 have hb1:=bNext hb0 ((Below.refl _ (w.alloc (.cells #[.pointer (some ⟨b,0,none⟩)] 121))).alloc (Nat.le_refl _) (.cells #[.int .i64 t.kind,.int .i64 t.place,tp] 161))
 by_cases h0:t.parts=[]
 ·rw [if_pos h0] at HR
  have HX:=Lib.hid (oOk_some HR.out)
  obtain ⟨ao,pc,rfl⟩:=hps.form
  have hl0:t.parts.length=0:=by rw [h0]; rfl
  rw [hl0] at hb1 ⊢
  have HL:=Lib.hid (qLiveS_any [] b _ (Nat.lt_of_lt_of_le hbl hb1.size))
  clear hQ hE hS hP hr hx HR h0 hps
  go_enter Tryz.func243,Tryz.ntmps243
  go_wp2_with fail
  refine HL.out.mono ?_
  rintro e w2 ⟨v2,rfl,h1,h2⟩
  go_wp2_with fail
  go_ret2
  exact OneOut.ok HX.out rfl h1 (bNext hb1 h2)
 ·rw [if_neg h0] at HR
  have hc:((w.alloc (.cells #[.pointer (some ⟨b,0,none⟩)] 121)).alloc (.cells #[.int .i64 t.kind,.int .i64 t.place,tp] 161)).cell? ⟨w.heap.size,0,none⟩=some (.pointer (some ⟨b,0,none⟩)) :=
   bSome ((Below.refl _ (w.alloc (.cells #[.pointer (some ⟨b,0,none⟩)] 121))).alloc (Nat.le_refl _) _) ((Blk.new w [.pointer (some ⟨b,0,none⟩)] 121).cell 0 rfl)
  have HJ:=Lib.hid (qJoined2 (sent:=sent) 263 ⟨w.heap.size,0,none⟩ enters_live1 (tq:=aliveA (S base d) (pieceA (S base d))) _ b g cap n base i d ts t _ r F (hQ.below hb1) (hE.below hb1) ⟨tp,rfl,hps.below hb1⟩ hp
   (Lib.hid fun w' x rc hb hxm hq=>qLive1_any hS hP w' b g cap n base i d ts x rc ⟨w.heap.size,0,none⟩ hd F ((hQ.below hb1).below hb) ((hE.below hb1).below hb) (hx x hxm) (bSome hb hc) (Lib.hid hq))
   (Lib.hid fun x hxm l hl=>(alive_post (hS.q base d n t.parts hx) hxm (hx x hxm).valid (hx x hxm).len (fun _ _=>piece_post (hS.q base d n t.parts hx) hxm (hx x hxm).valid (hx x hxm).len)).1 l hl) hw (Lib.hid HR.out))
  obtain ⟨ao,pc,rfl⟩:=hps.form
  have hl0:((t.parts.length:Int) == 0)=false:=by
   rw [beq_eq_false_iff_ne]
   intro e
   exact h0 (List.length_eq_zero_iff.1 (by omega))
  generalize t.parts.length=N at *
  clear hQ hE hS hP hr hx HR h0 hps hc
  go_enter Tryz.func243,Tryz.ntmps243
  go_wp2_with fail
  refine HJ.out.mono ?_
  intro e w2 h2
  have h3:=h2.later hb1
  obtain ⟨v,u,rfl⟩:=h2.tuple
  go_wp2_with fail
  go_ret2
  exact h3
end Go.Proofs.YtbfeoinoepoiaaaGreatDoor
namespace Go.Proofs.YtbfeoinoepoiaaaGreatDoor
set_option maxHeartbeats 16000000
set_option maxRecDepth 100000
open Go Go.RowKit
theorem src_len {f base d:Nat} {s:List UInt8} {l:Prog} (hs:s.length≤8192) (h:srcA f base d s=some (.ok l)):l.length≤200000:=by
 unfold srcA at h
 split at h
 ·cases h
 ·rename_i ts hl
  have hg:=lexA_good s hs ts hl
  split at h
  ·cases h
  ·cases h
  ·rename_i l2 i hq
   have h1:=((postAllA f).list hg base d 0 hg.pos).1 l2 i hq
   have h2:=hg.wt
   rw [remA_zero] at h1
   split at h
   ·cases h
   ·cases oOk_some h
    omega
theorem SrcOut.tuple {w w':World} {sent:Nat→Addr} {r:Except (Nat × Nat) Prog} {e:Ending} (h:SrcOut w sent r e w'):∃ v u,e = .returned (.tuple #[v,u]):=by
 obtain ⟨-,h⟩:=h
 cases r with
 | ok l =>
  obtain ⟨v,bp,h,-⟩:=h
  exact ⟨v,_,h⟩
 | error q =>
  obtain ⟨v,u,h,-⟩:=h
  exact ⟨v,u,h⟩
theorem aSub_src (f b d:Nat) (x:APart):aSub (f+1) b d x=if 30<d+1 then oErr 102 (b+x.place) else (srcA f (b+x.place+2) d x.text).go fun l=>oOk (newP 12 0 [] [l]):=by
 rw [aSub]
 split
 ·rfl
 ·unfold srcA
  cases lexA x.text (x.text.length+1) 0 with
  | error q=>rfl
  | ok ts =>
   dsimp only
   cases aList f ts (b+x.place+2) d 0 with
   | none=>rfl
   | some y =>
    cases y with
    | error e=>rfl
    | ok q =>
     obtain ⟨l,i⟩:=q
     dsimp only
     split <;> rfl
theorem qSub_walk {sent:Nat→Addr} (f:Nat) (hL:QDoes sent 74 (fun ts b d i=>aList f ts b d i)):DoesP sent 278 kSub (fun b d x=>aSub (f+1) b d x):=by
 intro w b g cap n base i d ts x r hd F hQ hE hx hok hr
 have HR:=Lib.hid (show aSub (f+1) base d x=some r from hr.out)
 rw [aSub_src] at HR
 have hbl:=hQ.blt
 have hnum:=F.num
 have hplace:=hx.sub hok
 have c2:=hQ.c2
 have c3:=hQ.c3
 have hb1:=(Below.refl _ w).alloc (Nat.le_refl _) (.cells #[.int .i64 x.kind,.int .i64 x.place,.int .i64 x.num,.bool x.quoted,.string (bs x.text)] 214)
 have hB:=Blk.new w [.int .i64 x.kind,.int .i64 x.place,.int .i64 x.num,.bool x.quoted,.string (bs x.text)] 214
 have hw1:IntKind.i64.wrap ((base:Int)+(x.place:Int))=(base:Int)+(x.place:Int):=by rw [IntKind.wrap_i64]; omega
 have hw2:IntKind.i64.wrap ((d:Int)+1)=(d:Int)+1:=by rw [IntKind.wrap_i64]; omega
 have hw3:IntKind.i64.wrap ((base:Int)+(x.place:Int)+2)=(base:Int)+(x.place:Int)+2:=by rw [IntKind.wrap_i64]; omega
 have HQ:=Lib.hid hQ
 have HE:=Lib.hid hE
 by_cases h30:30<d+1
 ·rw [if_pos h30] at HR
  have HX:=Lib.hid (show r = .error (102,base+x.place) from by
   have:=HR.out
   injection this with this
   exact this.symm)
  have h31:decide ((30:Int)<(d:Int)+1)=true:=by rw [decide_eq_true_eq]; omega
  clear HR hr hQ hE hL h30
  go_enter Tryz.func278,Tryz.ntmps278
  go_upto_region 1 with fail
  refine wp_world (fun w9=>Blk w9 w.heap.size [.int .i64 x.kind,.int .i64 x.place,.int .i64 x.num,.bool x.quoted,.string (bs x.text)]∧Below w.heap.size w w9) ⟨hB,hb1⟩ ?_
  clear hB hb1
  intro w1 ⟨hB,hb1⟩
  have c2':=bSome hb1 c2
  have c3':=bSome hb1 c3
  have p1:=hB.cell 1 rfl
  have hse:=bSome hb1 (HE.out.env.env 102 0 (by simp [errVars]))
  have hsz:=hb1.size
  clear c2 c3 hB
  go_region
  all_goals (go_upto_region 3 with fail)
  all_goals (go_region)
  all_goals (go_wp2_with fail)
  all_goals (go_ret2)
  all_goals (have hb4:=hb1.alloc hb1.size (.cells #[Value.int .i64 ((base:Int)+(x.place:Int)),.iface 289 (.pointer (some (sent 102)))] 60))
  all_goals (have hbk:=Blk.new w1 [Value.int .i64 ((base:Int)+(x.place:Int)),.iface 289 (.pointer (some (sent 102)))] 60)
  all_goals (refine OneOut.bad HX.out rfl ⟨w1.heap.size,rfl,?_,hsz⟩ ?_ ⟨_,_,_,rfl⟩)
  all_goals (first | exact ⟨hb4.os,hb4.tape,hb4.output,hb4.size,hb4.block⟩ | (unfold ErrAt; rw [Int.natCast_add]; exact hbk))
 ·rw [if_neg h30] at HR
  have h31:decide ((30:Int)<(d:Int)+1)=false:=by rw [decide_eq_false_iff_not]; omega
  cases hq:srcA f (base+x.place+2) d x.text with
  | none=>exact (POne.go_none hq HR.out).elim
  | some rc =>
   have HS:=Lib.hid fun w9 (h9:Below w.heap.size w w9)=>qSource_walk f hL w9 b (base+x.place+2) d x.text rc hd (by omega) (hE.below h9) (Lib.hid hq)
   rw [show (((base+x.place+2:Nat)):Int)=(base:Int)+(x.place:Int)+2 from by omega] at HS
   clear hr hQ hE hL h30
   go_enter Tryz.func278,Tryz.ntmps278
   go_upto_region 1 with fail
   refine wp_world (fun w9=>Blk w9 w.heap.size [.int .i64 x.kind,.int .i64 x.place,.int .i64 x.num,.bool x.quoted,.string (bs x.text)]∧Below w.heap.size w w9) ⟨hB,hb1⟩ ?_
   clear hB hb1
   intro w1 ⟨hB,hb1⟩
   have c2':=bSome hb1 c2
   have c3':=bSome hb1 c3
   have p1:=hB.cell 1 rfl
   have p4:=hB.cell 4 rfl
   have hsz:=hb1.size
   clear c2 c3 hB
   go_region
   all_goals (go_upto_region 4 with fail)
   all_goals (have e2:=hb1.drew)
   all_goals (have e3:=hb1.drew.drew)
   all_goals (go_region_with (go_at_call 39; (with_reducible refine (HS.out _ (by first | exact hb1 | exact e2 | exact e3)).mono ?_); intro e w2 h2; have hz2:=h2; obtain ⟨hb2,h2⟩:=h2; obtain ⟨v2,u2,rfl⟩:∃ v u,e = .returned (.tuple #[v,u]):=hz2.tuple; have hb3:Below w.heap.size w w2:=(by first | exact bNext hb1 hb2 | exact bNext e2 hb2 | exact bNext e3 hb2); have hle:w.heap.size≤w1.heap.size:=hsz))
   all_goals (have hsz3:=hb3.size)
   all_goals (rcases rc with q | l)
   all_goals (first
    | (obtain ⟨v9,u9,he9,hP⟩:=h2; cases he9; have HX:=Lib.hid (POne.go_err hq HR.out); have hP2:=hP.from hle; obtain ⟨eb,rfl⟩:=hP.form'; clear HR hq HS hP; go_wp2_with fail; go_ret2; exact OneOut.bad (c:=q.1) (p:=q.2) HX.out rfl hP2 hb3 ⟨_,_,_,rfl⟩)
    | (obtain ⟨v9,bp,he9,hbp1,hbp2,hN⟩:=h2; cases he9; have hll:=src_len (by omega) hq; have HX:=POne.go_ok hq HR.out; have HX:=Lib.hid (oOk_some (show oOk _=some _ from HX)); have HN:=Lib.hid (cNew_any 12 0 [] [l] bp _ _ (KSl.new1 (w:=w2) hbp2 (.inl hN)) (by simp; omega) (by simp)); obtain ⟨gv,cv,rfl,-⟩:=id hN; clear HR hq HS; go_wp2_with fail; refine HN.out.mono ?_; rintro e w3 ⟨v3,rfl,hO,hb4⟩; have hNo:=hO.nsl (b:=b) (newP_pos _ _ _ _) (by simp; omega); obtain ⟨g3,c3,rfl,-⟩:=id hNo; go_wp2_with fail; go_ret2; exact OneOut.ok HX.out rfl hNo (bNext hb3 (bNextW hb4))))
end Go.Proofs.YtbfeoinoepoiaaaGreatDoor
namespace Go.Proofs.YtbfeoinoepoiaaaGreatDoor
set_option maxHeartbeats 16000000
set_option maxRecDepth 100000
open Go Go.RowKit
theorem GoodA.wtPs_le {n:Nat} {ts:List ATok} (g:GoodA n ts) {i:Nat} (hi:i<ts.length):wtPs (akAt ts i).parts≤24577:=by
 have h1:=remA_step hi
 have h2:=rem_le (ts:=ts) (Nat.zero_le i) (Nat.le_of_lt hi)
 have h3:=g.wt
 have h4:=g.small
 rw [remA_zero] at h2
 unfold wtT at h1
 omega
theorem qTurning_any {w:World} {b g n base cap:Nat} {ts:List ATok} {i d:Nat} (F:QFix n base cap ts) (h:QSt w b g cap ts base i d) (hi:i<ts.length) :
  Calls Tryz.prog 235 #[.pointer (some ⟨b,0,none⟩)] w fun e w'=>e = .returned (.bool (aTurning ts i))∧Below w.heap.size w w':=by
 have hb1:=(Below.refl _ w).alloc (Nat.le_refl _) (.cells #[.int .i64 9,.int .i64 10,.int .i64 11,.int .i64 12] 3)
 have HI:=Lib.hid (qIs_any F (h.below hb1) hi [9,10,11,12] _ 4 (by decide) (show Blk _ _ [Value.int .i64 9,Value.int .i64 10,Value.int .i64 11,Value.int .i64 12] from Blk.new w _ _))
 clear h
 go_enter Tryz.func235,Tryz.ntmps235
 go_wp2_with fail
 refine HI.out.mono ?_
 rintro e w1 ⟨rfl,hb2⟩
 go_wp2_with fail
 go_ret
 exact ⟨rfl,bNext hb1 hb2⟩
theorem qWord_walk {sent:Nat→Addr} (K:FuncId) (hen:∀ args w,(callFunc K args).run Tryz.prog w = .ok (.enter K args) w) {V:Nat→Nat→ATok→POne Prog} (hV:DoesV sent K V)
  (w:World) (b g cap n base i d:Nat) (ts:List ATok) (r:Except (Nat × Nat) (Prog × Nat)) (hd:d≤31) (hi:i<ts.length) (F:QFix n base cap ts) (hQ:QSt w b g cap ts base i d) (hE:EnvQ w b sent) (hr:Hid (wordOf (fun b t=>V b d t) ts base i=some r)) :
  Calls Tryz.prog 242 #[.pointer (some ⟨b,0,none⟩),.func (.func K) #[.pointer (some ⟨b,0,none⟩)] #[]] w (QOut w b g cap ts base d sent r):=by
 have HR:=Lib.hid hr.out
 unfold wordOf at HR
 have hblw:=hQ.blt
 have hb1:=(Below.refl _ w).alloc (Nat.le_refl _) (.cells #[.int .i64 13] 3)
 have HI:=Lib.hid (qIs_any F (hQ.below hb1) hi [13] _ 1 (by decide) (show Blk _ _ [Value.int .i64 13] from Blk.new w _ _))
 go_enter Tryz.func242,Tryz.ntmps242
 go_wp2_with fail
 refine HI.out.mono ?_
 rintro e w1 ⟨rfl,hb2⟩
 have hb3:=bNext hb1 hb2
 have hQ1:=hQ.below hb3
 have hE1:=hE.below hb3
 have hK1:=(Kept.refl (At b) w).andBelow hb3
 clear hQ hE HI hr
 cases hx:aIs ts i [13] with
 | false =>
  rw [hx,if_neg (by simp)] at HR
  have HX:=Lib.hid (show r = .error (if aIs ts i [0]=true then 109 else 108,base+(akAt ts i).place) from by
   have:=HR.out
   unfold formA pErr at this
   injection this with this
   exact this.symm)
  have HF:=Lib.hid (qForm_any F hQ1 hi sent hE1.env.env)
  clear HR
  go_wp2_with fail
  refine HF.out.mono ?_
  rintro e w6 ⟨eb,rfl,hEb,hle,hb7⟩
  have hsz:=hb3.size
  go_wp2_with fail
  go_ret2
  exact QOut.bad HX.out rfl ⟨eb,rfl,hEb,Nat.le_trans hsz hle⟩ (hQ1.below hb7) (hK1.andBelow hb7) ⟨_,_,_,rfl⟩
 | true =>
  rw [hx,if_pos rfl] at HR
  cases hq:V base d (akAt ts i) with
  | none =>
   rw [hq] at HR
   exact absurd HR.out (by simp [POne.at])
  | some rc =>
   rw [hq] at HR
   have HN:=Lib.hid (qNow_any F hQ1 hi)
   go_wp2_with fail
   refine HN.out.mono ?_
   rintro e w2 ⟨tv,rfl,htv,hb4⟩
   have hQ2:=hQ1.below hb4
   have hE2:=hE1.below hb4
   have hK2:=hK1.andBelow hb4
   have HC:=Lib.hid (hV w2 b g cap n base i d ts (akAt ts i) tv rc hd F hQ2 hE2 htv (fun x hxm=>F.good.partI i x hxm) (F.tx i) (F.good.place i) (F.good.wtPs_le hi) (Lib.hid hq))
   have hszb:=hb3.size
   have hszc:=hb4.size
   clear hQ1 hE1 HN
   go_wp2_with fail
   refine HC.out.mono ?_
   rintro e w3 h3
   have hz3:=h3
   obtain ⟨v3,u3,rfl⟩:=h3.tuple
   obtain ⟨hb5,h3⟩:=h3
   have HS:=Lib.hid (qSkip_any F (hQ2.below hb5) hi)
   have hK3:=hK2.andBelow hb5
   clear HC hQ2 hE2
   go_wp2_with fail
   refine HS.out.mono ?_
   rintro e w4 ⟨rfl,hQ4,hK4⟩
   have hK5:=hK3.same hK4
   have hbl:=hQ4.blt
   go_wp2_with fail
   go_ret2
   cases rc with
   | error q =>
    obtain ⟨v9,u9,he9,hP,hfv⟩:=h3
    cases he9
    have HX:r = .error (q.1,q.2):=by
     have:=HR.out
     simp only [POne.at] at this
     injection this with this
     exact this.symm
    exact QOut.bad HX rfl ((hP.kept (by omega) hK4).from (by omega)) hQ4 hK5 hfv
   | ok l =>
    obtain ⟨v9,he9,hN⟩:=h3
    cases he9
    have HX:r = .ok (l,aSk ts i):=by
     have:=HR.out
     simp only [POne.at] at this
     injection this with this
     exact this.symm
    exact QOut.ok HX rfl (hN.kept hK4) hQ4 hK5
theorem qEnds_any {w:World} {b g n base cap:Nat} {ts:List ATok} {i d:Nat} (F:QFix n base cap ts) (h:QSt w b g cap ts base i d) (hi:i<ts.length) :
  Calls Tryz.prog 113 #[.pointer (some ⟨b,0,none⟩)] w fun e w'=>e = .returned (.bool (aEnds ts i))∧Below w.heap.size w w':=by
 have hb1:=(Below.refl _ w).alloc (Nat.le_refl _) (.cells #[.int .i64 0,.int .i64 8,.int .i64 3] 3)
 have HI:=Lib.hid (qIs_any F (h.below hb1) hi [0,8,3] _ 3 (by decide) (show Blk _ _ [Value.int .i64 0,Value.int .i64 8,Value.int .i64 3] from Blk.new w _ _))
 have HK:=Lib.hid (show ∀ w9,Below w.heap.size w w9→Calls Tryz.prog 159 #[.pointer (some ⟨b,0,none⟩),.slice (some ⟨w9.heap.size,0,none⟩) 7 7] (w9.alloc (.cells #[.string ⟨#[116,104,101,110]⟩,.string ⟨#[101,108,115,101]⟩,.string ⟨#[102,105]⟩,.string ⟨#[100,111]⟩,.string ⟨#[100,111,110,101]⟩,.string ⟨#[101,115,97,99]⟩,.string ⟨#[125]⟩] 9)) fun e w'=>e = .returned (.bool (aKey ts i [[116,104,101,110],[101,108,115,101],[102,105],[100,111],[100,111,110,101],[101,115,97,99],[125]]))∧Below w9.heap.size w9 w' from fun w9 h9 =>
  (qKey_any F ((h.below h9).alloc _) hi [[116,104,101,110],[101,108,115,101],[102,105],[100,111],[100,111,110,101],[101,115,97,99],[125]] _ 7 (by decide) (show Blk _ _ [Value.string ⟨#[116,104,101,110]⟩,Value.string ⟨#[101,108,115,101]⟩,Value.string ⟨#[102,105]⟩,Value.string ⟨#[100,111]⟩,Value.string ⟨#[100,111,110,101]⟩,Value.string ⟨#[101,115,97,99]⟩,Value.string ⟨#[125]⟩] from Blk.new w9 _ _)).mono fun e w' ⟨h1,h2⟩=>⟨h1,bNext ((Below.refl _ w9).alloc (Nat.le_refl _) _) h2⟩)
 obtain ⟨r,hr⟩:∃ r,aEnds ts i=r:=⟨_,rfl⟩
 rw [hr]
 unfold aEnds at hr
 clear h
 go_enter Tryz.func113,Tryz.ntmps113
 go_wp2_with fail
 refine HI.out.mono ?_
 rintro e w1 ⟨rfl,hb2⟩
 have hb3:=bNext hb1 hb2
 cases hx:aIs ts i [0,8,3] with
 | true =>
  rw [hx,Bool.true_or] at hr
  subst hr
  go_wp2_with fail
  go_ret
  exact ⟨rfl,hb3⟩
 | false =>
  rw [hx,Bool.false_or] at hr
  rw [hr] at HK
  clear hr HI
  go_wp2_with fail
  refine (HK.out _ hb3).mono ?_
  rintro e w2 ⟨rfl,hb4⟩
  go_wp2_with fail
  go_ret
  exact ⟨rfl,bNext hb3 hb4⟩
end Go.Proofs.YtbfeoinoepoiaaaGreatDoor
namespace Go.Proofs.YtbfeoinoepoiaaaGreatDoor
set_option maxHeartbeats 16000000
set_option maxRecDepth 100000
open Go Go.RowKit
theorem qList1_d (cc:Addr) (w:World) (b g cap base i d:Nat) (ts:List ATok) (u:FrameMode) (hd:d≤100) (hc:w.cell? cc=some (.pointer (some ⟨b,0,none⟩))) (hQ:QSt w b g cap ts base i (d+1)) :
  CallsD Tryz.prog 110 #[.pointer (some cc)] u w fun e u' w'=>u'=u∧(e = .returned (.tuple #[])∧w'=w.setCell ⟨b,3,none⟩ (.int .i64 (d:Nat))):=by
 have c3:=hQ.c3
 have f3:=hQ.fr 3
 have hw1:IntKind.i64.wrap (((d+1:Nat):Int) - 1)=(d:Int):=by rw [IntKind.wrap_i64]; omega
 clear hQ
 go_enter_d Tryz.func110,Tryz.ntmps110
 go_wp2_with fail
 go_end0
 exact ⟨rfl,rfl⟩
def QOutN (w:World) (b g cap:Nat) (ts:List ATok) (base d:Nat) (sent:Nat→Addr) (r:Except (Nat × Nat) (Prog × Nat)) (e:Ending) (w':World):Prop :=
 Kept (At b) w w'∧match r with
 | .ok (l,j)=>∃ v,e = .returned (.tuple #[v,.nilIface])∧NSl w' b v l∧QSt w' b g cap ts base j d
 | .error (c,p)=>∃ u j,e = .returned (.tuple #[.slice none 0 0,u])∧PErr w w' sent c p u∧QSt w' b g cap ts base j d
theorem QOutN.ok {w w':World} {b g cap:Nat} {ts:List ATok} {base d:Nat} {sent:Nat→Addr} {l:Prog} {j:Nat} {v:Value} {r:Except (Nat × Nat) (Prog × Nat)} {e:Ending} (hr:r = .ok (l,j)) (he:e = .returned (.tuple #[v,.nilIface])) (h1:NSl w' b v l) (h2:QSt w' b g cap ts base j d) (hk:Kept (At b) w w'):QOutN w b g cap ts base d sent r e w':=by
 subst hr
 exact ⟨hk,v,he,h1,h2⟩
theorem QOutN.bad {w w':World} {b g cap:Nat} {ts:List ATok} {base d:Nat} {sent:Nat→Addr} {c p j:Nat} {u:Value} {r:Except (Nat × Nat) (Prog × Nat)} {e:Ending} (hr:r = .error (c,p)) (he:e = .returned (.tuple #[.slice none 0 0,u])) (h1:PErr w w' sent c p u) (h2:QSt w' b g cap ts base j d) (hk:Kept (At b) w w'):QOutN w b g cap ts base d sent r e w':=by
 subst hr
 exact ⟨hk,u,j,he,h1,h2⟩
theorem QOutN.out {w w':World} {b g cap:Nat} {ts:List ATok} {base d:Nat} {sent:Nat→Addr} {r:Except (Nat × Nat) (Prog × Nat)} {e:Ending} (h:QOutN w b g cap ts base d sent r e w'):QOut w b g cap ts base d sent r e w':=by
 obtain ⟨h1,h2⟩:=h
 refine ⟨h1,?_⟩
 cases r with
 | ok y=>exact h2
 | error q =>
  obtain ⟨u,j,q1,q2,q3⟩:=h2
  exact ⟨_,u,j,q1,q2,q3,⟨_,_,_,rfl⟩⟩
def QDoesN (sent:Nat→Addr) (fn:FuncId) (X:List ATok→Nat→Nat→Nat→PRes Prog):Prop :=
 ∀ (w:World) (b g cap n base i d:Nat) (ts:List ATok) (r:Except (Nat × Nat) (Prog × Nat)),d≤31→i<ts.length→QFix n base cap ts→QSt w b g cap ts base i d→EnvQ w b sent→Hid (X ts base d i=some r) →
  Calls Tryz.prog fn #[.pointer (some ⟨b,0,none⟩)] w (QOutN w b g cap ts base d sent r)
theorem QDoesN.does {sent:Nat→Addr} {fn:FuncId} {X:List ATok→Nat→Nat→Nat→PRes Prog} (h:QDoesN sent fn X):QDoes sent fn X :=
 fun w b g cap n base i d ts r hd hi F hQ hE hr=>(h w b g cap n base i d ts r hd hi F hQ hE hr).mono fun _ _ hp=>hp.out
theorem qFault_env {w:World} {b g n base cap:Nat} {ts:List ATok} {i d:Nat} (F:QFix n base cap ts) (h:QSt w b g cap ts base i d) (hi:i<ts.length) (sent:Nat→Addr) (c:Nat) :
  Calls Tryz.prog 111 #[.pointer (some ⟨b,0,none⟩),.iface 289 (.pointer (some (sent c)))] w fun e w'=>∃ u,e = .returned u∧PErr w w' sent c (base+(akAt ts i).place) u∧(∃ eb,u = .iface 58 (.pointer (some ⟨eb,0,none⟩)))∧Below w.heap.size w w':=by
 refine (qFault_any F h hi (sent c)).mono ?_
 rintro e w' ⟨eb,rfl,h1,h2,h3⟩
 exact ⟨_,rfl,⟨eb,rfl,h1,h2⟩,⟨eb,rfl⟩,h3⟩
theorem qList_walk {sent:Nat→Addr} (f:Nat) (ih:∀ f'<f,QDoes sent 114 (fun ts b d i=>aChain f' ts b d i)):QDoesN sent 74 (fun ts b d i=>aList (f+1) ts b d i):=by
 intro w b g cap n base i d ts r hd hi F hQ hE hr
 have hmf:∀ (fn:Fn) (first cap:Array Value) (w:World),(Instr.makeFunc fn first cap).run Tryz.prog w = .ok (.func fn first cap) w:=fun _ _ _ _=>rfl
 have HR:=Lib.hid (show aList (f+1) ts base d i=some r from hr.out)
 rw [aList] at HR
 have hbl:=hQ.blt
 have c3:=hQ.c3
 have f3:=hQ.fr 3
 have hw1:IntKind.i64.wrap ((d:Int)+1)=(d:Int)+1:=by rw [IntKind.wrap_i64]; omega
 have hb1:=(Below.refl _ w).alloc (Nat.le_refl _) (.cells #[.pointer (some ⟨b,0,none⟩)] 121)
 have hcast:((d+1:Nat):Int)=(d:Int)+1:=by omega
 by_cases h30:30<d+1
 ·rw [if_pos h30] at HR
  have h31:decide ((30:Int)<(d:Int)+1)=true:=by rw [decide_eq_true_eq]; omega
  have HX:=Lib.hid (show r = .error (102,base+(akAt ts i).place) from by
   have:=HR.out
   unfold pErr at this
   injection this with this
   exact this.symm)
  have HS1:=(hQ.deep (d+1))
  rw [hcast] at HS1
  have HK1:=(Kept.setCell (S:=At b) (p:=⟨b,3,none⟩) (Kept.refl _ w) (fun _=>rfl) (.int .i64 ((d:Int)+1)))
  have HS2:=HS1.alloc (.cells #[.pointer (some ⟨b,0,none⟩)] 121)
  have HK2:=HK1.alloc (.cells #[.pointer (some ⟨b,0,none⟩)] 121)
  have HB2:=Blk.new (w.setCell ⟨b,3,none⟩ (.int .i64 ((d:Int)+1))) [.pointer (some ⟨b,0,none⟩)] 121
  have hsz:(w.setCell ⟨b,3,none⟩ (.int .i64 ((d:Int)+1))).heap.size=w.heap.size:=by simp [World.setCell]
  rw [hsz] at HB2
  clear hr ih h30 HS1 HK1 HR hQ
  go_enter_defers Tryz.func74,Tryz.ntmps74
  go_upto_region 4 with fail
  refine wp_world (fun w9=>QSt w9 b g cap ts base i (d+1)∧Blk w9 w.heap.size [.pointer (some ⟨b,0,none⟩)]∧Kept (At b) w w9) ⟨HS2,HB2,HK2⟩ ?_
  clear HS2 HB2 HK2 hsz
  intro w1 ⟨HS,HB,HK⟩
  have hE1:=hE.kept HK
  have HBc:=HB.cell 0 rfl
  have hsz1:=HK.size
  have he:=env_at hE1.env.env 102 0 (by simp [errVars])
  have HF:=Lib.hid (show ∀ w9,Below w1.heap.size w1 w9→Calls Tryz.prog 111 #[.pointer (some ⟨b,0,none⟩),.iface 289 (.pointer (some (sent 102)))] w9 fun e w'=>∃ u,e = .returned u∧PErr w1 w' sent 102 (base+(akAt ts i).place) u∧(∃ eb,u = .iface 58 (.pointer (some ⟨eb,0,none⟩)))∧Below w1.heap.size w1 w' from fun w9 h9=>(qFault_env F (HS.below h9) hi sent 102).mono fun e w' ⟨u,h1,h2,h3,h4⟩=>⟨u,h1,h2.from h9.size,h3,bNext h9 h4⟩)
  have e1:=Below.refl w1.heap.size w1
  have e2:=(Below.refl w1.heap.size w1).drew
  go_region_held3 (fun w'=>w'.cell? ⟨w.heap.size,0,none⟩=some (.pointer (some ⟨b,0,none⟩))∧w'.cell? ⟨0,0,none⟩=some (.iface 289 (.pointer (some (sent 102))))) (first | exact ⟨bSome hb5 HBc,bSome hb5 he⟩ | go_keep)
   (first | (go_at_call 111; (with_reducible refine (HF.out _ (by first | exact e1 | exact e2)).mono ?_); rintro e w5 ⟨u,rfl,hP,⟨eb,rfl⟩,hb5⟩))
  go_wp2_with fail
  have HQ5:=HS.below hb5
  have HB5:=bSome hb5 HBc
  have HK5:=HK.andBelow hb5
  have hK6:=Kept.setCell (S:=At b) (p:=⟨b,3,none⟩) (Kept.refl _ w5) (fun _=>rfl) (.int .i64 (d:Nat))
  have hP2:=(hP.kept (Nat.lt_of_lt_of_le hbl hsz1) hK6).from hsz1
  refine leaves_cons (f:=110) (args:=#[.pointer (some ⟨w.heap.size,0,none⟩)]) (by simp) (by simp [go_sem]) ?_
  refine (qList1_d ⟨w.heap.size,0,none⟩ w5 b g cap base i d ts _ (by omega) HB5 HQ5).mono ?_
  rintro e u' w'' ⟨rfl,rfl,rfl⟩
  exact ⟨_,results_tmp2 rfl _ _ _,QOutN.bad (u:=.iface 58 (.pointer (some ⟨eb,0,none⟩))) HX.out rfl hP2 (HQ5.deep d) (HK5.same hK6)⟩
 ·rw [if_neg h30] at HR
  have h31:decide ((30:Int)<(d:Int)+1)=false:=by rw [decide_eq_false_iff_not]; omega
  obtain ⟨k0,hk0,hk1,hk2,hk3⟩:=info_parts infoNodes
  have hgl:=hQ.glt
  have hlen:=F.good.len
  have hrem:=rem_le (ts:=ts) (Nat.zero_le i) (Nat.le_of_lt hi)
  have hwt:=F.good.wt
  have hsm:=F.good.small
  rw [remA_zero] at hrem
  have HS1:=(hQ.deep (d+1))
  rw [hcast] at HS1
  have HK1:=(Kept.setCell (S:=At b) (p:=⟨b,3,none⟩) (Kept.refl _ w) (fun _=>rfl) (.int .i64 ((d:Int)+1)))
  have HS2:=HS1.alloc (.cells #[.pointer (some ⟨b,0,none⟩)] 121)
  have HK2:=HK1.alloc (.cells #[.pointer (some ⟨b,0,none⟩)] 121)
  have HB2:=Blk.new (w.setCell ⟨b,3,none⟩ (.int .i64 ((d:Int)+1))) [.pointer (some ⟨b,0,none⟩)] 121
  have hsz:(w.setCell ⟨b,3,none⟩ (.int .i64 ((d:Int)+1))).heap.size=w.heap.size:=by simp [World.setCell]
  rw [hsz] at HB2
  have IH:=Lib.hid ih
  clear hr ih HS1 HK1 hQ
  go_enter_defers Tryz.func74,Tryz.ntmps74
  go_upto_region 5 with fail
  refine wp_world (fun w9=>QSt w9 b g cap ts base i (d+1)∧Blk w9 w.heap.size [.pointer (some ⟨b,0,none⟩)]∧Kept (At b) w w9) ⟨HS2,HB2,HK2⟩ ?_
  clear HS2 HB2 HK2 hsz
  intro w1 ⟨HS,HB,HK⟩
  have hE1:=hE.kept HK
  have hsz1:=HK.size
  have hbw1:b<w1.heap.size:=by omega
  have hbox:=HB.lt
  go_wp2_with fail
  go_loopg [4,5,6,7] (ts.length - i) (fun mm v va vc er wr=>∃ (k fk:Nat) (L:List Prog),mm=ts.length - k∧k<ts.length∧fk≤f∧L.length≤k∧L.flatten.length+8 * remA ts k≤8 * remA ts i∧Hid (∀ l∈L,0<l.length)∧Kept (At b) w1 wr∧QSt wr b g cap ts base k (d+1)∧Blk wr w.heap.size [.pointer (some ⟨b,0,none⟩)]∧KOwn wr w1.heap.size b v L∧Hid (aChains fk ts base (d+1) k L=some r))
  case atStart=>exact ⟨i,f,[],rfl,hi,Nat.le_refl _,by simp,by simp,Lib.hid (fun _ h=>nomatch h),Kept.refl _ _,HS,HB,KOwn.nil _ _ _,HR⟩
  case round =>
   clear HS HR hi HB
   obtain ⟨k,fk,L,rfl,hk,hfk,hL1,hL2,hL3,hK,hS,hB,hO,hr⟩:=hrel
   obtain ⟨fk,rfl⟩:∃ q,fk=q+1:=by
    cases fk with
    | zero=>have:=hr.out; rw [aChains] at this; cases this
    | succ q=>exact ⟨q,rfl⟩
   obtain ⟨ao,acap,rfl⟩:=hO.form
   have c1:=hS.c1
   have hBc:=hB.cell 0 rfl
   obtain ⟨j,hj⟩:∃ j,aPass ts [1,2] k=j:=⟨_,rfl⟩
   have hjn:=aPass_le (ts:=ts) [1,2] hk
   rw [hj] at hjn
   have hrj:=rem_le (ts:=ts) hjn.1 (Nat.le_of_lt hjn.2)
   have HR:=Lib.hid hr.out
   rw [aChains,hj] at HR
   have hszk:=hK.size
   clear hr
   go_wp2_with fail
   refine (qPass_any F (hS.alloc _) hk [1,2] _ _ (by decide) (by decide) (show Blk _ _ [Value.int .i64 1,Value.int .i64 2] from Blk.new wr _ _) (by omega)).mono ?_
   rintro e w2 ⟨rfl,hS2,hK2⟩
   rw [hj] at hS2
   have hKa:=((Kept.refl (At b) wr).alloc (.cells #[Value.int .i64 1,Value.int .i64 2] 3)).same hK2
   have hK3:=hK.same hKa
   have hO2:=hO.kept hbw1 hKa
   have hB2:=hB.kept hKa (fun e=>by unfold At at e; omega)
   have hBc2:=hB2.cell 0 rfl
   have hE2:=hE1.kept hK3
   clear hS hK hK2 hO c1 hB hBc hKa
   go_wp2_with fail
   refine (qEnds_any F hS2 hjn.2).mono ?_
   rintro e w3 ⟨rfl,hb3⟩
   have hS3:=hS2.below hb3
   have hO3:=hO2.below hbw1 hb3
   have hB3:=hB2.below hb3
   have hK4:=hK3.andBelow hb3
   have hBc3:=hB3.cell 0 rfl
   have hL4:L.flatten.length≤1000000:=by omega
   have hL5:L.length≤1000000:=by omega
   have hsz4:=hK4.size
   have HC:=Lib.hid (cSeq_any L b _ w3 (by omega) hL3.out (by omega) (by omega) (hO3.ksl hbw1))
   clear hS2 hO2 hB2 hK3 hBc2 hE2 hb3
   cases x0:aEnds ts j with
   | true =>
    rw [if_pos (.inl x0)] at HR
    have HX:=Lib.hid (Option.some.inj (show some (Except.ok (seqP L,j))=some r from HR.out)).symm
    clear HR x0
    go_wp2_with fail
    refine HC.out.mono ?_
    rintro e w6 ⟨v6,rfl,hN,hb6⟩
    have hS6:=hS3.below hb6
    have hB6:=(hB3.below hb6).cell 0 rfl
    have hK7:=hK4.andBelow hb6
    have hK8:=Kept.setCell (S:=At b) (p:=⟨b,3,none⟩) (Kept.refl _ w6) (fun _=>rfl) (.int .i64 (d:Nat))
    have hN8:=hN.kept hK8
    obtain ⟨g6,c6,rfl,-⟩:=hN
    go_wp2_with fail
    refine leaves_cons (f:=110) (args:=#[.pointer (some ⟨w.heap.size,0,none⟩)]) (by simp) (by simp [go_sem]) ?_
    refine (qList1_d ⟨w.heap.size,0,none⟩ w6 b g cap base j d ts _ (by omega) hB6 hS6).mono ?_
    rintro e u' w'' ⟨rfl,rfl,rfl⟩
    exact ⟨_,results_tmp2 rfl _ _ _,QOutN.ok (v:=.slice (some ⟨g6,0,none⟩) (seqP L).length c6) HX.out rfl hN8 (hS6.deep d) ((HK.same hK7).same hK8)⟩
   | false =>
    have c1:=hS3.c1
    by_cases x2:0<L.length∧j=k
    ·rw [if_pos (.inr x2)] at HR
     have HX:=Lib.hid (Option.some.inj (show some (Except.ok (seqP L,j))=some r from HR.out)).symm
     have y1:decide ((0:Int)<(L.length:Int))=true:=by rw [decide_eq_true_eq]; omega
     have y2:((j:Int) == (k:Int))=true:=by rw [beq_iff_eq]; omega
     clear HR x0
     go_wp2_with fail
     refine HC.out.mono ?_
     rintro e w6 ⟨v6,rfl,hN,hb6⟩
     have hS6:=hS3.below hb6
     have hB6:=(hB3.below hb6).cell 0 rfl
     have hK7:=hK4.andBelow hb6
     have hK8:=Kept.setCell (S:=At b) (p:=⟨b,3,none⟩) (Kept.refl _ w6) (fun _=>rfl) (.int .i64 (d:Nat))
     have hN8:=hN.kept hK8
     obtain ⟨g6,c6,rfl,-⟩:=hN
     go_wp2_with fail
     refine leaves_cons (f:=110) (args:=#[.pointer (some ⟨w.heap.size,0,none⟩)]) (by simp) (by simp [go_sem]) ?_
     refine (qList1_d ⟨w.heap.size,0,none⟩ w6 b g cap base j d ts _ (by omega) hB6 hS6).mono ?_
     rintro e u' w'' ⟨rfl,rfl,rfl⟩
     exact ⟨_,results_tmp2 rfl _ _ _,QOutN.ok (v:=.slice (some ⟨g6,0,none⟩) (seqP L).length c6) HX.out rfl hN8 (hS6.deep d) ((HK.same hK7).same hK8)⟩
    ·rw [if_neg (by
      rintro (h | h)
      ·rw [x0] at h; cases h
      ·exact x2 h)] at HR
     have hE3:=hE1.kept hK4
     have hd1:d+1≤31:=by omega
     clear HC
     cases hq:aChain fk ts base (d+1) j with
     | none =>
      rw [hq] at HR
      exact absurd HR.out (by simp [PRes.go])
     | some rc =>
      rw [hq] at HR
      have HD:=Lib.hid (IH.out fk (by omega) w3 b g cap n base j (d+1) ts rc hd1 hjn.2 F hS3 hE3 (Lib.hid hq))
      cases rc with
      | error e0 =>
       obtain ⟨c0,p0⟩:=e0
       have HX:=Lib.hid (Option.some.inj (show some (Except.error (c0,p0))=some r from HR.out)).symm
       clear HR hq
       by_cases y0:0<L.length
       ·have y1:decide ((0:Int)<(L.length:Int))=true:=by rw [decide_eq_true_eq]; omega
        have y2:((j:Int) == (k:Int))=false:=by
         rw [beq_eq_false_iff_ne]
         intro e
         exact x2 ⟨y0,by omega⟩
        go_wp2_with fail
        refine HD.out.mono ?_
        rintro e w6 ⟨hK6,v,u,j',rfl,hP6,hS6,-⟩
        have hK7:=hK4.same hK6
        have hB6:=(hB3.kept hK6 (fun e=>by unfold At at e; omega)).cell 0 rfl
        have hK8:=Kept.setCell (S:=At b) (p:=⟨b,3,none⟩) (Kept.refl _ w6) (fun _=>rfl) (.int .i64 (d:Nat))
        have hsz7:=hK7.size
        have hP7:=(hP6.kept (by omega) hK8).from (show w.heap.size≤w3.heap.size by omega)
        obtain ⟨eb,rfl⟩:=hP6.form'
        clear hP6
        go_wp2_with fail
        refine leaves_cons (f:=110) (args:=#[.pointer (some ⟨w.heap.size,0,none⟩)]) (by simp) (by simp [go_sem]) ?_
        refine (qList1_d ⟨w.heap.size,0,none⟩ w6 b g cap base j' d ts _ (by omega) hB6 hS6).mono ?_
        rintro e u' w'' ⟨rfl,rfl,rfl⟩
        exact ⟨_,results_tmp2 rfl _ _ _,QOutN.bad (u:=.iface 58 (.pointer (some ⟨eb,0,none⟩))) HX.out rfl hP7 (hS6.deep d) ((HK.same hK7).same hK8)⟩
       ·have y1:decide ((0:Int)<(L.length:Int))=false:=by rw [decide_eq_false_iff_not]; omega
        go_wp2_with fail
        refine HD.out.mono ?_
        rintro e w6 ⟨hK6,v,u,j',rfl,hP6,hS6,-⟩
        have hK7:=hK4.same hK6
        have hB6:=(hB3.kept hK6 (fun e=>by unfold At at e; omega)).cell 0 rfl
        have hK8:=Kept.setCell (S:=At b) (p:=⟨b,3,none⟩) (Kept.refl _ w6) (fun _=>rfl) (.int .i64 (d:Nat))
        have hsz7:=hK7.size
        have hP7:=(hP6.kept (by omega) hK8).from (show w.heap.size≤w3.heap.size by omega)
        obtain ⟨eb,rfl⟩:=hP6.form'
        clear hP6
        go_wp2_with fail
        refine leaves_cons (f:=110) (args:=#[.pointer (some ⟨w.heap.size,0,none⟩)]) (by simp) (by simp [go_sem]) ?_
        refine (qList1_d ⟨w.heap.size,0,none⟩ w6 b g cap base j' d ts _ (by omega) hB6 hS6).mono ?_
        rintro e u' w'' ⟨rfl,rfl,rfl⟩
        exact ⟨_,results_tmp2 rfl _ _ _,QOutN.bad (u:=.iface 58 (.pointer (some ⟨eb,0,none⟩))) HX.out rfl hP7 (hS6.deep d) ((HK.same hK7).same hK8)⟩
      | ok q =>
       obtain ⟨cl,ce⟩:=q
       obtain ⟨z1,z2,z3,z4,-⟩:=((postAllA fk).chain F.good base (d+1) j hjn.2).1 cl ce hq
       have HX:=Lib.hid (show aChains fk ts base (d+1) ce (L++[cl])=some r from HR.out)
       have hL6:(L++[cl]).length≤ce:=by rw [List.length_append,List.length_cons,List.length_nil]; omega
       have hL7:(L++[cl]).flatten.length+8 * remA ts ce≤8 * remA ts i:=by rw [flat_snoc,List.length_append]; omega
       have hL8:=Lib.hid (snoc_all hL3.out z3)
       clear HR hq
       by_cases y0:0<L.length
       ·have y1:decide ((0:Int)<(L.length:Int))=true:=by rw [decide_eq_true_eq]; omega
        have y2:((j:Int) == (k:Int))=false:=by
         rw [beq_eq_false_iff_ne]
         intro e
         exact x2 ⟨y0,by omega⟩
        go_wp2_with fail
        refine HD.out.mono ?_
        rintro e w5 ⟨hK6,v,rfl,hN,hS5⟩
        have hK7:=hK4.same hK6
        have hB5:=hB3.kept hK6 (fun e=>by unfold At at e; omega)
        obtain ⟨us,u1,u2,u3⟩:=hO3.kept hbw1 hK6
        have hOA:∀ o,(w5.alloc o).ownsRow w1.heap.size 23 1 _ L.length us:=fun o=>ownsRow_kept u2 (Kept.ofBelow (S:=Nowhere) ((Below.refl _ w5).alloc (Nat.le_refl _) o)) (fun _ _ _ e=>e)
        have HN:=Lib.hid hN
        have hsz5:=hK7.size
        obtain ⟨gc,cc,rfl,-⟩:=hN
        clear hK6 hO3 hS3 HD
        go_wp2_with (at_builtin; refine wpList_append_own _ rfl _ _ 38 rfl w1.heap.size 23 k0 _ 1 24 Tryz.underlying38 hk0 hk1 hk2 hk3 rfl (by decide) _ _ _ rfl (hOA _) ⟨w5.heap.size,0,none⟩ 1 1 [.slice (some ⟨gc,0,none⟩) cl.length cc] rfl rfl (cells_new (by simp)) (by intro u hu; simp at hu; subst hu; rfl) (by unfold maxLen; omega) (by omega) (by simp; omega) ?_; intro v6 w6 hown' hgrow _)
        obtain ⟨hO6,hb6⟩:=KOwn.grown (w0:=w1) hsz5 u1 u2 u3 HN.out hown' hgrow
        have hS6:=hS5.belowB hb6 hbw1
        have hK8:=hK7.belowB hb6 (Nat.le_refl _)
        have hB6:=hB5.of_heap (hb6.block _ hbox)
        go_wp2_with fail
        go_roundg (ts.length - ce)
        case measure=>omega
        case rel=>exact ⟨ce,fk,L++[cl],rfl,z2,by omega,hL6,hL7,hL8,hK8,hS6,hB6,hO6,HX⟩
       ·have y1:decide ((0:Int)<(L.length:Int))=false:=by rw [decide_eq_false_iff_not]; omega
        go_wp2_with fail
        refine HD.out.mono ?_
        rintro e w5 ⟨hK6,v,rfl,hN,hS5⟩
        have hK7:=hK4.same hK6
        have hB5:=hB3.kept hK6 (fun e=>by unfold At at e; omega)
        obtain ⟨us,u1,u2,u3⟩:=hO3.kept hbw1 hK6
        have hOA:∀ o,(w5.alloc o).ownsRow w1.heap.size 23 1 _ L.length us:=fun o=>ownsRow_kept u2 (Kept.ofBelow (S:=Nowhere) ((Below.refl _ w5).alloc (Nat.le_refl _) o)) (fun _ _ _ e=>e)
        have HN:=Lib.hid hN
        have hsz5:=hK7.size
        obtain ⟨gc,cc,rfl,-⟩:=hN
        clear hK6 hO3 hS3 HD
        go_wp2_with (at_builtin; refine wpList_append_own _ rfl _ _ 38 rfl w1.heap.size 23 k0 _ 1 24 Tryz.underlying38 hk0 hk1 hk2 hk3 rfl (by decide) _ _ _ rfl (hOA _) ⟨w5.heap.size,0,none⟩ 1 1 [.slice (some ⟨gc,0,none⟩) cl.length cc] rfl rfl (cells_new (by simp)) (by intro u hu; simp at hu; subst hu; rfl) (by unfold maxLen; omega) (by omega) (by simp; omega) ?_; intro v6 w6 hown' hgrow _)
        obtain ⟨hO6,hb6⟩:=KOwn.grown (w0:=w1) hsz5 u1 u2 u3 HN.out hown' hgrow
        have hS6:=hS5.belowB hb6 hbw1
        have hK8:=hK7.belowB hb6 (Nat.le_refl _)
        have hB6:=hB5.of_heap (hb6.block _ hbox)
        go_wp2_with fail
        go_roundg (ts.length - ce)
        case measure=>omega
        case rel=>exact ⟨ce,fk,L++[cl],rfl,z2,by omega,hL6,hL7,hL8,hK8,hS6,hB6,hO6,HX⟩
end Go.Proofs.YtbfeoinoepoiaaaGreatDoor
namespace Go.Proofs.YtbfeoinoepoiaaaGreatDoor
set_option maxHeartbeats 16000000
set_option maxRecDepth 100000
open Go Go.RowKit
def QOutB (w:World) (b g cap:Nat) (ts:List ATok) (base d:Nat) (sent:Nat→Addr) (r:Except (Nat × Nat) (Prog × Nat)) (e:Ending) (w':World):Prop :=
 Kept (At b) w w'∧match r with
 | .ok (l,j)=>∃ v,e = .returned (.tuple #[v,.nilIface])∧NSl w' b v l∧QSt w' b g cap ts base j d
 | .error (c,p)=>∃ v u j l0,e = .returned (.tuple #[v,u])∧NSl0 w' b v l0∧l0.length≤200000∧PErr w w' sent c p u∧QSt w' b g cap ts base j d
theorem QOutB.ok {w w':World} {b g cap:Nat} {ts:List ATok} {base d:Nat} {sent:Nat→Addr} {l:Prog} {j:Nat} {v:Value} {r:Except (Nat × Nat) (Prog × Nat)} {e:Ending} (hr:r = .ok (l,j)) (he:e = .returned (.tuple #[v,.nilIface])) (h1:NSl w' b v l) (h2:QSt w' b g cap ts base j d) (hk:Kept (At b) w w'):QOutB w b g cap ts base d sent r e w':=by
 subst hr
 exact ⟨hk,v,he,h1,h2⟩
theorem QOutB.bad {w w':World} {b g cap:Nat} {ts:List ATok} {base d:Nat} {sent:Nat→Addr} {c p j:Nat} {v u:Value} {l0:Prog} {r:Except (Nat × Nat) (Prog × Nat)} {e:Ending} (hr:r = .error (c,p)) (he:e = .returned (.tuple #[v,u])) (h0:NSl0 w' b v l0) (hl:l0.length≤200000) (h1:PErr w w' sent c p u) (h2:QSt w' b g cap ts base j d) (hk:Kept (At b) w w'):QOutB w b g cap ts base d sent r e w':=by
 subst hr
 exact ⟨hk,v,u,j,l0,he,h0,hl,h1,h2⟩
def QDoesB (sent:Nat→Addr) (X:List ATok→Nat→Nat→Nat→List UInt8→List UInt8→PRes Prog):Prop :=
 ∀ (w:World) (b g cap n base i d:Nat) (ts:List ATok) (s t:List UInt8) (r:Except (Nat × Nat) (Prog × Nat)),d≤31→i<ts.length→QFix n base cap ts→QSt w b g cap ts base i d→EnvQ w b sent→Hid (X ts base d i s t=some r) →
  Calls Tryz.prog 234 #[.pointer (some ⟨b,0,none⟩),.string (bs s),.string (bs t)] w (QOutB w b g cap ts base d sent r)
theorem form_errA {α:Type} {ts:List ATok} {b i:Nat} {r:Except (Nat × Nat) (α × Nat)} (h:formA ts b i=some r):r = .error (if aIs ts i [0]=true then 109 else 108,b+(akAt ts i).place):=by
 unfold formA pErr at h
 injection h with h
 exact h.symm
theorem qBody_walk {sent:Nat→Addr} (f:Nat) (hL:QDoesN sent 74 (fun ts b d i=>aList f ts b d i)):QDoesB sent (fun ts b d i s t=>aBody (f+1) ts b d i s t):=by
 intro w b g cap n base i d ts s t r hd hi F hQ hE hr
 have HR:=Lib.hid (show aBody (f+1) ts base d i s t=some r from hr.out)
 rw [aBody] at HR
 unfold wantA at HR
 have hbl:=hQ.blt
 cases hx:aKey ts i [s] with
 | false =>
  rw [hx,if_neg (by simp)] at HR
  have HX:=Lib.hid (form_errA HR.out)
  have HW:=Lib.hid (qWant_no F hQ hi s hx sent hE.env.env)
  clear HR hr hL
  go_enter Tryz.func234,Tryz.ntmps234
  go_wp2_with fail
  refine HW.out.mono ?_
  rintro e w1 ⟨eb,rfl,hEb,hle,hb1⟩
  go_wp2_with fail
  go_ret2
  exact QOutB.bad HX.out rfl (.none _ _) (Nat.zero_le _) ⟨eb,rfl,hEb,hle⟩ (hQ.below hb1) ((Kept.refl (At b) w).andBelow hb1)
 | true =>
  rw [hx,if_pos rfl] at HR
  obtain ⟨s1,s2⟩:=akey_of F.good hi hx
  have HW:=Lib.hid (qWant_yes F hQ hi s hx)
  rw [s1] at HR HW
  have HR:=Lib.hid (show (aList f ts base d (i+1)).go (fun l j=>if t=[] then pOk l j else if aKey ts j [t]=true then pOk l (aSk ts j) else formA ts base j)=some r from HR.out)
  cases hq:aList f ts base d (i+1) with
  | none =>
   rw [hq] at HR
   exact absurd HR.out (by simp [PRes.go])
  | some rc =>
   rw [hq] at HR
   go_enter Tryz.func234,Tryz.ntmps234
   go_wp2_with fail
   refine HW.out.mono ?_
   rintro e w1 ⟨rfl,hQ1,hK1⟩
   have hE1:=hE.kept hK1
   have HC:=Lib.hid (hL w1 b g cap n base (i+1) d ts rc hd s2 F hQ1 hE1 (Lib.hid hq))
   have hsz1:=hK1.size
   clear hQ hE HW hr
   go_wp2_with fail
   refine HC.out.mono ?_
   rintro e w2 ⟨hK2,h4⟩
   have hK3:=hK1.same hK2
   have hE2:=hE1.kept hK2
   cases rc with
   | error q =>
    obtain ⟨c,p⟩:=q
    have HX:=Lib.hid (Option.some.inj (show some (Except.error (c,p))=some r from HR.out)).symm
    obtain ⟨u,j,rfl,hP,hQ2⟩:=h4
    have hP2:=hP.from hsz1
    obtain ⟨eb,rfl⟩:=hP.form'
    clear HR HC hP
    go_wp2_with fail
    go_ret2
    exact QOutB.bad HX.out rfl (.none _ _) (Nat.zero_le _) hP2 hQ2 hK3
   | ok y =>
    obtain ⟨l,j⟩:=y
    obtain ⟨v,rfl,hN,hQ2⟩:=h4
    obtain ⟨-,hjl,-,hll,-⟩:=((postAllA f).list F.good base d (i+1) s2).1 l j hq
    have hrem:=rem_le (ts:=ts) (Nat.zero_le (i+1)) (Nat.le_of_lt s2)
    have hwt:=F.good.wt
    have hsm:=F.good.small
    rw [remA_zero] at hrem
    have hll:l.length≤200000:=by omega
    obtain ⟨gv,cv,rfl,-⟩:=id hN
    by_cases ht:t=[]
    ·subst ht
     have he:(bs ([]:List UInt8)).toList=[]:=by rw [ByteArray.toList_eq]; rfl
     have HX:=Lib.hid (Option.some.inj (show some (Except.ok (l,j))=some r from by have:=HR.out; simpa [PRes.go,pOk] using this)).symm
     clear HR HC
     go_wp2_with fail
     go_ret2
     exact QOutB.ok HX.out rfl hN hQ2 hK3
    ·have hq2:((bs t).toList == [])=false:=by
      rw [ByteArray.toList_eq,bs_list,beq_eq_false_iff_ne]
      exact ht
     have HR2:=Lib.hid (show (if aKey ts j [t]=true then pOk l (aSk ts j) else formA ts base j)=some r from by
      have:=HR.out
      simp only [PRes.go,if_neg ht] at this
      exact this)
     clear HR HC ht
     cases hx2:aKey ts j [t] with
     | false =>
      rw [hx2,if_neg (by simp)] at HR2
      have HX:=Lib.hid (form_errA HR2.out)
      have HW2:=Lib.hid (qWant_no F hQ2 hjl t hx2 sent hE2.env.env)
      have hsz3:=hK3.size
      clear HR2
      go_wp2_with fail
      refine HW2.out.mono ?_
      rintro e w6 ⟨eb,rfl,hEb,hle,hb7⟩
      go_wp2_with fail
      go_ret2
      exact QOutB.bad HX.out rfl (.inl (hN.below hb7)) hll ⟨eb,rfl,hEb,Nat.le_trans hsz3 hle⟩ (hQ2.below hb7) (hK3.andBelow hb7)
     | true =>
      rw [hx2,if_pos rfl] at HR2
      have HX:=Lib.hid (Option.some.inj (show some (Except.ok (l,aSk ts j))=some r from HR2.out)).symm
      have HW2:=Lib.hid (qWant_yes F hQ2 hjl t hx2)
      clear HR2
      go_wp2_with fail
      refine HW2.out.mono ?_
      rintro e w6 ⟨rfl,hQ6,hK6⟩
      go_wp2_with fail
      go_ret2
      exact QOutB.ok HX.out rfl (hN.kept hK6) hQ6 (hK3.same hK6)
end Go.Proofs.YtbfeoinoepoiaaaGreatDoor
namespace Go.Proofs.YtbfeoinoepoiaaaGreatDoor
set_option maxHeartbeats 16000000
set_option maxRecDepth 100000
open Go Go.RowKit
theorem body_lenA {n:Nat} {ts:List ATok} (g:GoodA n ts) {f b d i:Nat} {s t:List UInt8} {l:Prog} {j:Nat} (hi:i<ts.length) (h:aBody f ts b d i s t=some (.ok (l,j))):j<ts.length∧l.length≤200000:=by
 obtain ⟨-,h1,-,h2,-⟩:=((postAllA f).body g b d i s t hi).1 l j h
 have hrem:=rem_le (ts:=ts) (Nat.zero_le i) (Nat.le_of_lt hi)
 have hwt:=g.wt
 have hsm:=g.small
 rw [remA_zero] at hrem
 omega
theorem qWhile_walk {sent:Nat→Addr} (f:Nat) (hB:QDoesB sent (fun ts b d i s t=>aBody f ts b d i s t)):QDoes sent 215 (fun ts b d i=>aWhile (f+1) ts b d i):=by
 intro w b g cap n base i d ts r hd hi F hQ hE hr
 have HR:=Lib.hid (show aWhile (f+1) ts base d i=some r from hr.out)
 rw [aWhile] at HR
 have hbl:=hQ.blt
 cases hq:aBody f ts base d i [119,104,105,108,101] [] with
 | none=>rw [hq] at HR; exact absurd HR.out (by simp [PRes.go])
 | some rc =>
  rw [hq] at HR
  have HC:=Lib.hid (hB w b g cap n base i d ts [119,104,105,108,101] [] rc hd hi F hQ hE (Lib.hid hq))
  go_enter Tryz.func215,Tryz.ntmps215
  go_wp2_with fail
  refine HC.out.mono ?_
  rintro e w1 ⟨hK1,h4⟩
  have hsz1:=hK1.size
  cases rc with
  | error q =>
   obtain ⟨c,p⟩:=q
   have HX:=Lib.hid (Option.some.inj (show some (Except.error (c,p))=some r from HR.out)).symm
   obtain ⟨v,u,j,l0,rfl,-,-,hP,hQ2⟩:=h4
   have hP2:=hP
   obtain ⟨eb,rfl⟩:=hP.form'
   clear HR HC hP
   go_wp2_with fail
   go_ret2
   exact QOut.bad HX.out rfl hP2 hQ2 hK1 ⟨_,_,_,rfl⟩
  | ok y =>
   obtain ⟨c,j⟩:=y
   obtain ⟨v,rfl,hN,hQ1⟩:=h4
   obtain ⟨hjl,hcl⟩:=body_lenA F.good hi hq
   have hE1:=hE.kept hK1
   have HR2:=Lib.hid (show (aBody f ts base d j [100,111] [100,111,110,101]).go (fun l e=>pOk (newP 28 0 [] [c,l]) e)=some r from HR.out)
   cases hq2:aBody f ts base d j [100,111] [100,111,110,101] with
   | none=>rw [hq2] at HR2; exact absurd HR2.out (by simp [PRes.go])
   | some rc2 =>
    rw [hq2] at HR2
    have HC2:=Lib.hid (hB w1 b g cap n base j d ts [100,111] [100,111,110,101] rc2 hd hjl F hQ1 hE1 (Lib.hid hq2))
    have hN1:=hN
    obtain ⟨gv,cv,rfl,-⟩:=hN
    clear HC HR hQ hE hQ1 hr
    go_wp2_with fail
    refine HC2.out.mono ?_
    rintro e w2 ⟨hK2,h5⟩
    have hK3:=hK1.same hK2
    have hN2:=hN1.kept hK2
    have hsz2:=hK2.size
    cases rc2 with
    | error q =>
     obtain ⟨c9,p9⟩:=q
     have HX:=Lib.hid (Option.some.inj (show some (Except.error (c9,p9))=some r from HR2.out)).symm
     obtain ⟨v,u,j2,l0,rfl,h0,hl0,hP,hQ2⟩:=h5
     have HN:=Lib.hid (cNewS_any 28 0 [] [c,l0] b _ _ (by simp; omega) (KSl.new2 (w:=w2) (by omega) (.inl hN2) h0) (by simp; omega) (by simp))
     obtain ⟨eb,rfl,hEb,hle⟩:=hP
     obtain ⟨va,vc,rfl⟩:=h0.form
     clear HR2 HC2
     go_wp2_with fail
     refine HN.out.mono ?_
     rintro e w3 ⟨v3,rfl,h7,h8⟩
     have hb9:=bNext ((Below.refl _ w2).alloc (Nat.le_refl _) _) h8
     go_wp2_with fail
     go_ret2
     exact QOut.bad HX.out rfl ⟨eb,rfl,hEb.below hb9,Nat.le_trans hsz1 hle⟩ (hQ2.below hb9) (hK3.andBelow hb9) (by obtain ⟨ga,gc,h9,-⟩:=h7; exact ⟨_,_,_,h9⟩)
    | ok y =>
     obtain ⟨l,j2⟩:=y
     have HX:=Lib.hid (Option.some.inj (show some (Except.ok (newP 28 0 [] [c,l],j2))=some r from HR2.out)).symm
     obtain ⟨v,rfl,hNl,hQ2⟩:=h5
     have hll:=(body_lenA F.good hjl hq2).2
     have HN:=Lib.hid (cNewS_any 28 0 [] [c,l] b _ _ (by simp; omega) (KSl.new2 (w:=w2) (by omega) (.inl hN2) (.inl hNl)) (by simp; omega) (by simp))
     obtain ⟨ga,gc,rfl,-⟩:=hNl
     clear HR2 HC2
     go_wp2_with fail
     refine HN.out.mono ?_
     rintro e w3 ⟨v3,rfl,h7,h8⟩
     have hb9:=bNext ((Below.refl _ w2).alloc (Nat.le_refl _) _) h8
     go_wp2_with fail
     go_ret2
     exact QOut.ok HX.out rfl h7 (hQ2.below hb9) (hK3.andBelow hb9)
end Go.Proofs.YtbfeoinoepoiaaaGreatDoor
