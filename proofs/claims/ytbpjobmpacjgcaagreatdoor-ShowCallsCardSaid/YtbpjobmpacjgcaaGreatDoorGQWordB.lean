/- Dialect A's parser: a word's parts, joined. -/
import Derived.Test.YtbpjobmpacjgcaaGreatDoorGQWordA
import Derived.Defers
namespace Go.Proofs.YtbpjobmpacjgcaaGreatDoor
set_option maxHeartbeats 16000000
set_option maxRecDepth 100000
open Go Go.RowKit
theorem K1 {sent:Nat→Addr}(K:FuncId)(_cc:Addr)(hen:∀ args w,(callFunc K args).run Tryz.prog w = .ok (.enter K args) w){tq:aD→aL aA}(w:World)(b g cap n base i d:Nat)(ts:List aG)(t:aG)(tv:Value)(r:Except (Nat×Nat) aA)(F:eO n base cap ts)(hQ:QSt w b g cap ts base i d)(hE:f8 w b sent)(ht:iW w tv t)(hp:t.place≤n)
  (hto:Hid (∀ (w':World) (x:aD) (rc:Except (Nat×Nat) aA),Below w.heap.size w w'→x∈t.parts→tq x=some rc→Calls Tryz.prog K #[.pointer (some ⟨b,0,none⟩),.agg #[.int .i64 x.kind,.int .i64 x.place,.int .i64 x.num,.bool x.quoted,.string (bs x.text)]] w' (cF w' b sent rc)))
  (hpost:Hid (∀ x∈t.parts,∀ l,tq x=some (.ok l)→pZ x l)) (hwt:cA t.parts≤24577) (hr:Hid (gT tq base t=some r)) :
  Calls Tryz.prog 251 #[.pointer (some ⟨b,0,none⟩),tv,.func (.func K) #[.pointer (some ⟨b,0,none⟩)] #[]] w (cF w b sent r):=by
 obtain⟨k0,hk0,hk1,hk2,hk3⟩:=info_parts jB;have HF:=Ng F;have hbl:=hQ.blt;obtain⟨tp,rfl,ao,pc,rfl,q1,q2,q3⟩:=ht;have hB:=Blk.new w [.int .i64 t.kind,.int .i64 t.place,.slice ao t.parts.length pc] 113;have hb1:=(Below.refl _ w).alloc (Nat.le_refl _) (.cells #[.int .i64 t.kind,.int .i64 t.place,.slice ao t.parts.length pc] 113);have HQ:=Ng hQ;have HE:=Ng hE;have HP3:=Ng q3;have hlw:=qS t.parts;obtain⟨N,hN⟩:∃ N,t.parts.length=N:=⟨_,rfl⟩;have HN:=Ng hN;rw[hN] at q1 hB hb1 hlw ⊢;clear hN q3 hQ hE F;go_enter Tryz.func251,Tryz.ntmps251
 go_upto_region 2 with fail
 refine eJ (fun w9=>Blk w9 w.heap.size [.int .i64 t.kind,.int .i64 t.place,.slice ao N pc]∧Below w.heap.size w w9∧w.heap.size<w9.heap.size) ⟨hB,hb1,by simp⟩ ?_
 clear hB hb1;intro wz ⟨hB,hbz,hlz⟩;have hcB0:=hB.cell 2 rfl;go_wp2_with fail
 go_loopg [8,10,11,12,16] N (fun mm v pp xx er c wr=>∃ (k:Nat) (L:List aA),mm=N - k∧k≤N∧c = .int .i64 k∧L.length=k∧L.flatten.length≤8 * cA (t.parts.take k)∧txP L.flatten≤30000 * cA (t.parts.take k)∧Hid (∀ l∈L,0<l.length)∧aO wr wz.heap.size b v L∧Below wz.heap.size wz wr∧Hid ((gK tq (t.parts.drop k)).go (fun l=>iC base t (dW (L++l)))=some r))
 case atStart=>exact⟨0,[],rfl,Nat.zero_le _,rfl,rfl,by simp,by simp [e7],Ng (fun _ h=>nomatch h),aO.nil _ _ _,Below.refl _ _,Ng (by rw[List.drop_zero];exact hr.out)⟩
 case round =>
  obtain⟨k,L,rfl,hk,rfl,hLk,hL1,hL2,hL3,hO,hbr,hr⟩:=hrel;have hszr:=hbr.size;have hbw:=hbz.trans (hbr.mono hbz.size)
  by_cases hlt:k<N
  ·obtain⟨gp,rfl,p1,p2⟩:=HP3.out (by have:=HN.out;omega)
   obtain⟨x,hx⟩:∃ x,t.parts[k]?=some x:=⟨_,List.getElem?_eq_getElem (by have:=HN.out;omega)⟩
   have hxm:=List.mem_of_getElem? hx;obtain⟨x0,x1,x2,x3,x4⟩:=(p2.below hbw).facts k x hx;obtain⟨hkt,hxe⟩:=List.getElem?_eq_some_iff.1 hx;have hdrop:t.parts.drop k=x :: t.parts.drop (k+1):=by rw[List.drop_eq_getElem_cons hkt,hxe]
   have htake:cA (t.parts.take (k+1))=cA (t.parts.take k)+wtP x:=by rw[List.take_succ_eq_append_getElem hkt,hxe,jR]
   have HR:=Ng hr.out;rw[hdrop,gK] at HR
   cases hq:tq x with
   | none=>rw[hq] at HR;exact absurd HR.out (by simp [aL.go])
   | some rc =>
    rw[hq] at HR;have hbx:=(Below.refl _ wr).alloc (Nat.le_refl _) (.cells #[Value.int .i64 x.kind,.int .i64 x.place,.int .i64 x.num,.bool x.quoted,.string (bs x.text)] 189);have hby:=aE hbw hbx;have HC:=Ng (hto.out _ x rc hby hxm hq);have hO1:=hO.below (Nat.lt_of_lt_of_le hbl hbz.size) hbx;obtain⟨oa,oc,rfl⟩:=hO.form;rw[hLk] at hO1 ⊢;clear hO p2 hr;go_wp2_with fail
    refine HC.out.mono ?_;rintro e w2 ⟨hb2,h4⟩;have hb3:=aE hbx hb2;have hb4:=hbr.trans (hb3.mono hbr.size);have hb5:=hbz.trans (hb4.mono hbz.size);have hsz5:=hb4.size
    cases rc with
    | error q =>
     have HX:=Ng (show r = .error q from by
      have:=HR.out
      simp only[aL.go] at this;injection this with this
      exact this.symm)
     obtain⟨v,u,rfl,h5,hfv⟩:=h4;have h6:=h5.from hby.size
     obtain⟨eb,rfl⟩:=h5.form';clear h5 HR hq HC;go_wp2_with fail
     go_ret2;exact cF.bad (c:=q.1) (p:=q.2) HX.out rfl h6 hb5 (by first | assumption | exact⟨_,_,_,rfl⟩)
    | ok l =>
     obtain⟨v,rfl,hNl⟩:=h4;obtain⟨y1,y2,y3⟩:=hpost.out x hxm l hq;have hO2:=hO1.below (Nat.lt_of_lt_of_le hbl hbz.size) hb2
     have HR2:=Ng (show (gK tq (t.parts.drop (k+1))).go (fun l'=>iC base t (dW ((L++[l])++l')))=some r from by
      have h9:=HR.out;rw[← h9]
      cases gK tq (t.parts.drop (k+1)) with
      | none=>rfl
      | some z=>cases z <;> simp [aL.go,oOk])
     have hM1:(L++[l]).flatten.length≤8 * cA (t.parts.take (k+1)):=by rw[fD,List.length_append,htake];omega
     have hM2:txP (L++[l]).flatten≤30000 * cA (t.parts.take (k+1)):=by rw[fD,dF,htake];omega
     have hM3:=Ng (fP hL3.out y1);obtain⟨us,u1,u2,u3⟩:=hO2;have u9:=u2;rw[hLk] at u2;have hOA:∀ o,(w2.alloc o).ownsRow wz.heap.size 26 1 _ k us:=fun o=>bM u2 (aB.ofBelow (S:=bW) ((Below.refl _ w2).alloc (Nat.le_refl _) o)) (fun _ _ _ e=>e)
     have HNl:=Ng hNl;obtain⟨gx,cx,rfl,-⟩:=hNl;clear HR hq HC hO1 hdrop hx;go_wp2_with (at_builtin;refine wpList_append_own _ rfl _ _ 25 rfl wz.heap.size 26 k0 _ 1 24 Tryz.underlying25 hk0 hk1 hk2 hk3 rfl (by decide) _ _ _ rfl (hOA _) ⟨w2.heap.size,0,none⟩ 1 1 [.slice (some ⟨gx,0,none⟩) l.length cx] rfl rfl (cL (by simp)) (by intro u hu;simp at hu;subst hu;rfl) (by unfold maxLen;omega) (by omega) (by simp;omega) ?_;intro v6 w6 hown' hgrow _)
     obtain⟨hO6,hb6⟩:=aO.grown (w0:=wz) hsz5 u1 u9 u3 HNl.out (by rw[hLk];exact hown') hgrow
     have hb7:=hb4.trans hb6;go_wp2_with fail
     go_roundg (N - (k+1))
     case measure=>omega
     case rel=>exact⟨k+1,L++[l],rfl,by omega,by go_num,by simp [hLk],hM1,hM2,hM3,hO6,hb7,HR2⟩
  ·obtain rfl:k=N:=by omega
   have HR:=Ng (show iC base t (dW L)=some r from by
    have h9:=hr.out;rw[List.drop_of_length_le (by have:=HN.out;omega)] at h9
    simpa [gK,aL.go,oOk] using h9)
   have hT:t.parts.take k=t.parts:=List.take_of_length_le (by have:=HN.out;omega)
   rw[hT] at hL1 hL2;have hbb:b<wz.heap.size:=Nat.lt_of_lt_of_le hbl hbz.size;obtain⟨oa,oc,rfl⟩:=hO.form;rw[hLk] at hO ⊢
   have HJ:=Ng (show ∀ w9,(Below wr.heap.size wr w9)→Calls Tryz.prog 274 #[.slice oa k oc] w9 fun e w'=>∃ v',e = .returned v'∧NSl w' b v' (dW L)∧Below wr.heap.size wr w' from fun w9 h9 =>
    (CB L b _ w9 (Nat.lt_of_lt_of_le hbb (Nat.le_trans hszr h9.size)) (by omega) (by omega) (by omega) ((hO.ksl hbb).below h9) hL3).mono fun e w' ⟨v',h1,h2,h3⟩=>⟨v',h1,h2,aE h9 h3⟩)
   have hjl:=(xY L hL3.out).2.1
   have HS:=Ng (show ∀ (w9:World) (v9:Value),Below wr.heap.size wr w9→NSl w9 b v9 (dW L)→Calls Tryz.prog 255 #[.pointer (some ⟨b,0,none⟩),.agg #[.int .i64 t.kind,.int .i64 t.place,.slice ao k pc],v9] w9 (fun e w'=>cF w b sent r e w'∧Below w9.heap.size w9 w') from fun w9 v9 h9 hN9=>by
    have hb9:=aE hbw h9;refine (yE w9 b g cap n base i d ts t _ v9 (dW L) r HF.out (HQ.out.below hb9) (HE.out.below hb9) ⟨_,rfl,(show PSl w (.slice ao k pc) t.parts from ⟨ao,pc,by rw[HN.out],by rw[HN.out];exact q1,q2,HP3.out⟩).below hb9⟩ hp hN9 (by omega) HR).mono ?_
    exact fun e w' h=>⟨h.later hb9,h.1⟩)
   have x0:=aF hbr (hB.cell 0 rfl);have x1:=aF hbr (hB.cell 1 rfl);have x2:=aF hbr (hB.cell 2 rfl);have e1:=Below.refl wr.heap.size wr;have e2:=(Below.refl wr.heap.size wr).drew;clear hr hO HR hB hbr hbw hbz;go_upto_region 10 with fail
   go_region_held3 (fun w'=>w'.cell? ⟨w.heap.size,0,none⟩=some (.int .i64 t.kind)∧w'.cell? ⟨w.heap.size,1,none⟩=some (.int .i64 t.place)∧w'.cell? ⟨w.heap.size,2,none⟩=some (.slice ao k pc)) (first | exact⟨aF hb7 (aF hb5 x0),aF hb7 (aF hb5 x1),aF hb7 (aF hb5 x2)⟩ | exact⟨aF hb5 x0,aF hb5 x1,aF hb5 x2⟩ | go_keep)
    (first
     | (go_at_call 274;(with_reducible refine (HJ.out _ (by first | exact e1 | exact e2)).mono ?_);rintro e w5 ⟨v5,rfl,hN5,hb5⟩;obtain⟨g5,c5,rfl,-⟩:=id hN5)
     | (go_at_call 255;(with_reducible refine (HS.out _ _ hb5 hN5).mono ?_);rintro e w7 ⟨h7,hb7⟩;obtain⟨v7,u7,rfl⟩:=h7.tuple))
   go_wp2_with fail
   go_ret2;exact h7
def lT (sent:Nat→Addr) (fn:FuncId) (V:Nat→Nat→aG→aL aA):Prop :=
 ∀ (w:World) (b g cap n base i d:Nat) (ts:List aG) (t:aG) (tv:Value) (r:Except (Nat×Nat) aA),d≤31→eO n base cap ts→QSt w b g cap ts base i d→f8 w b sent→iW w tv t→(∀ x∈t.parts,mQ n x)→txS t.parts≤8192→t.place≤n→cA t.parts≤24577→Hid (V base d t=some r) →
  Calls Tryz.prog fn #[.pointer (some ⟨b,0,none⟩),tv] w (cF w b sent r)
def o7 (S:Nat→Nat→aD→aL aA):Prop:=∀ (base d n:Nat) (x:aD),mQ n x→x.kind=4→dK base (base+n) (S base d x) fun l=>0<l.length∧l.length+12≤8 * wtP x∧txP l≤30000 * wtP x
theorem o7.small {S:Nat→Nat→aD→aL aA}(h:o7 S):zQ S:=fun base d n x l hx hk hl=>by
 have h1:=(h base d n x hx hk).1 l hl;have h2:=hx.len;unfold wtP at h1;rw[if_pos hk] at h1;omega
theorem o7.q {S:Nat→Nat→aD→aL aA}(h:o7 S)(base d n:Nat)(P:List aD)(hP:∀ x∈P,mQ n x):nJ base (base+n) (S base d) P:=fun x hx hk=>h base d n x (hP x hx) hk
theorem Gf:∀ args w,(callFunc 252 args).run Tryz.prog w = .ok (.enter 252 args) w:=enters_of Tryz.func252 (by kernel_rfl) rfl
theorem GB:∀ args w,(callFunc 259 args).run Tryz.prog w = .ok (.enter 259 args) w:=enters_of Tryz.func259 (by kernel_rfl) rfl
theorem Ff:∀ args w,(callFunc 257 args).run Tryz.prog w = .ok (.enter 257 args) w:=enters_of Tryz.func257 (by kernel_rfl) rfl
theorem KM {sent:Nat→Addr}(K:FuncId)(cc:Addr)(hen:∀ args w,(callFunc K args).run Tryz.prog w = .ok (.enter K args) w){tq:aD→aL aA}(w:World)(b g cap n base i d:Nat)(ts:List aG)(t:aG)(tv:Value)(r:Except (Nat×Nat) aA)(F:eO n base cap ts)(hQ:QSt w b g cap ts base i d)(hE:f8 w b sent)(ht:iW w tv t)(hp:t.place≤n)
  (hto:Hid (∀ (w':World) (x:aD) (rc:Except (Nat×Nat) aA),Below w.heap.size w w'→x∈t.parts→tq x=some rc→Calls Tryz.prog K #[.agg #[.int .i64 x.kind,.int .i64 x.place,.int .i64 x.num,.bool x.quoted,.string (bs x.text)],.pointer (some cc)] w' (cF w' b sent rc)))
  (hpost:Hid (∀ x∈t.parts,∀ l,tq x=some (.ok l)→pZ x l)) (hwt:cA t.parts≤24577) (hr:Hid (gT tq base t=some r)) :
  Calls Tryz.prog 251 #[.pointer (some ⟨b,0,none⟩),tv,.func (.func K) #[] #[.pointer (some cc)]] w (cF w b sent r):=by
 obtain⟨k0,hk0,hk1,hk2,hk3⟩:=info_parts jB;have HF:=Ng F;have hbl:=hQ.blt;obtain⟨tp,rfl,ao,pc,rfl,q1,q2,q3⟩:=ht;have hB:=Blk.new w [.int .i64 t.kind,.int .i64 t.place,.slice ao t.parts.length pc] 113;have hb1:=(Below.refl _ w).alloc (Nat.le_refl _) (.cells #[.int .i64 t.kind,.int .i64 t.place,.slice ao t.parts.length pc] 113);have HQ:=Ng hQ;have HE:=Ng hE;have HP3:=Ng q3;have hlw:=qS t.parts;obtain⟨N,hN⟩:∃ N,t.parts.length=N:=⟨_,rfl⟩;have HN:=Ng hN;rw[hN] at q1 hB hb1 hlw ⊢;clear hN q3 hQ hE F;go_enter Tryz.func251,Tryz.ntmps251
 go_upto_region 2 with fail
 refine eJ (fun w9=>Blk w9 w.heap.size [.int .i64 t.kind,.int .i64 t.place,.slice ao N pc]∧Below w.heap.size w w9∧w.heap.size<w9.heap.size) ⟨hB,hb1,by simp⟩ ?_
 clear hB hb1;intro wz ⟨hB,hbz,hlz⟩;have hcB0:=hB.cell 2 rfl;go_wp2_with fail
 go_loopg [8,10,11,12,16] N (fun mm v pp xx er c wr=>∃ (k:Nat) (L:List aA),mm=N - k∧k≤N∧c = .int .i64 k∧L.length=k∧L.flatten.length≤8 * cA (t.parts.take k)∧txP L.flatten≤30000 * cA (t.parts.take k)∧Hid (∀ l∈L,0<l.length)∧aO wr wz.heap.size b v L∧Below wz.heap.size wz wr∧Hid ((gK tq (t.parts.drop k)).go (fun l=>iC base t (dW (L++l)))=some r))
 case atStart=>exact⟨0,[],rfl,Nat.zero_le _,rfl,rfl,by simp,by simp [e7],Ng (fun _ h=>nomatch h),aO.nil _ _ _,Below.refl _ _,Ng (by rw[List.drop_zero];exact hr.out)⟩
 case round =>
  obtain⟨k,L,rfl,hk,rfl,hLk,hL1,hL2,hL3,hO,hbr,hr⟩:=hrel;have hszr:=hbr.size;have hbw:=hbz.trans (hbr.mono hbz.size)
  by_cases hlt:k<N
  ·obtain⟨gp,rfl,p1,p2⟩:=HP3.out (by have:=HN.out;omega)
   obtain⟨x,hx⟩:∃ x,t.parts[k]?=some x:=⟨_,List.getElem?_eq_getElem (by have:=HN.out;omega)⟩
   have hxm:=List.mem_of_getElem? hx;obtain⟨x0,x1,x2,x3,x4⟩:=(p2.below hbw).facts k x hx;obtain⟨hkt,hxe⟩:=List.getElem?_eq_some_iff.1 hx;have hdrop:t.parts.drop k=x :: t.parts.drop (k+1):=by rw[List.drop_eq_getElem_cons hkt,hxe]
   have htake:cA (t.parts.take (k+1))=cA (t.parts.take k)+wtP x:=by rw[List.take_succ_eq_append_getElem hkt,hxe,jR]
   have HR:=Ng hr.out;rw[hdrop,gK] at HR
   cases hq:tq x with
   | none=>rw[hq] at HR;exact absurd HR.out (by simp [aL.go])
   | some rc =>
    rw[hq] at HR;have hbx:=(Below.refl _ wr).alloc (Nat.le_refl _) (.cells #[Value.int .i64 x.kind,.int .i64 x.place,.int .i64 x.num,.bool x.quoted,.string (bs x.text)] 189);have hby:=aE hbw hbx;have HC:=Ng (hto.out _ x rc hby hxm hq);have hO1:=hO.below (Nat.lt_of_lt_of_le hbl hbz.size) hbx;obtain⟨oa,oc,rfl⟩:=hO.form;rw[hLk] at hO1 ⊢;clear hO p2 hr;go_wp2_with fail
    refine HC.out.mono ?_;rintro e w2 ⟨hb2,h4⟩;have hb3:=aE hbx hb2;have hb4:=hbr.trans (hb3.mono hbr.size);have hb5:=hbz.trans (hb4.mono hbz.size);have hsz5:=hb4.size
    cases rc with
    | error q =>
     have HX:=Ng (show r = .error q from by
      have:=HR.out
      simp only[aL.go] at this;injection this with this
      exact this.symm)
     obtain⟨v,u,rfl,h5,hfv⟩:=h4;have h6:=h5.from hby.size
     obtain⟨eb,rfl⟩:=h5.form';clear h5 HR hq HC;go_wp2_with fail
     go_ret2;exact cF.bad (c:=q.1) (p:=q.2) HX.out rfl h6 hb5 (by first | assumption | exact⟨_,_,_,rfl⟩)
    | ok l =>
     obtain⟨v,rfl,hNl⟩:=h4;obtain⟨y1,y2,y3⟩:=hpost.out x hxm l hq;have hO2:=hO1.below (Nat.lt_of_lt_of_le hbl hbz.size) hb2
     have HR2:=Ng (show (gK tq (t.parts.drop (k+1))).go (fun l'=>iC base t (dW ((L++[l])++l')))=some r from by
      have h9:=HR.out;rw[← h9]
      cases gK tq (t.parts.drop (k+1)) with
      | none=>rfl
      | some z=>cases z <;> simp [aL.go,oOk])
     have hM1:(L++[l]).flatten.length≤8 * cA (t.parts.take (k+1)):=by rw[fD,List.length_append,htake];omega
     have hM2:txP (L++[l]).flatten≤30000 * cA (t.parts.take (k+1)):=by rw[fD,dF,htake];omega
     have hM3:=Ng (fP hL3.out y1);obtain⟨us,u1,u2,u3⟩:=hO2;have u9:=u2;rw[hLk] at u2;have hOA:∀ o,(w2.alloc o).ownsRow wz.heap.size 26 1 _ k us:=fun o=>bM u2 (aB.ofBelow (S:=bW) ((Below.refl _ w2).alloc (Nat.le_refl _) o)) (fun _ _ _ e=>e)
     have HNl:=Ng hNl;obtain⟨gx,cx,rfl,-⟩:=hNl;clear HR hq HC hO1 hdrop hx;go_wp2_with (at_builtin;refine wpList_append_own _ rfl _ _ 25 rfl wz.heap.size 26 k0 _ 1 24 Tryz.underlying25 hk0 hk1 hk2 hk3 rfl (by decide) _ _ _ rfl (hOA _) ⟨w2.heap.size,0,none⟩ 1 1 [.slice (some ⟨gx,0,none⟩) l.length cx] rfl rfl (cL (by simp)) (by intro u hu;simp at hu;subst hu;rfl) (by unfold maxLen;omega) (by omega) (by simp;omega) ?_;intro v6 w6 hown' hgrow _)
     obtain⟨hO6,hb6⟩:=aO.grown (w0:=wz) hsz5 u1 u9 u3 HNl.out (by rw[hLk];exact hown') hgrow
     have hb7:=hb4.trans hb6;go_wp2_with fail
     go_roundg (N - (k+1))
     case measure=>omega
     case rel=>exact⟨k+1,L++[l],rfl,by omega,by go_num,by simp [hLk],hM1,hM2,hM3,hO6,hb7,HR2⟩
  ·obtain rfl:k=N:=by omega
   have HR:=Ng (show iC base t (dW L)=some r from by
    have h9:=hr.out;rw[List.drop_of_length_le (by have:=HN.out;omega)] at h9
    simpa [gK,aL.go,oOk] using h9)
   have hT:t.parts.take k=t.parts:=List.take_of_length_le (by have:=HN.out;omega)
   rw[hT] at hL1 hL2;have hbb:b<wz.heap.size:=Nat.lt_of_lt_of_le hbl hbz.size;obtain⟨oa,oc,rfl⟩:=hO.form;rw[hLk] at hO ⊢
   have HJ:=Ng (show ∀ w9,(Below wr.heap.size wr w9)→Calls Tryz.prog 274 #[.slice oa k oc] w9 fun e w'=>∃ v',e = .returned v'∧NSl w' b v' (dW L)∧Below wr.heap.size wr w' from fun w9 h9 =>
    (CB L b _ w9 (Nat.lt_of_lt_of_le hbb (Nat.le_trans hszr h9.size)) (by omega) (by omega) (by omega) ((hO.ksl hbb).below h9) hL3).mono fun e w' ⟨v',h1,h2,h3⟩=>⟨v',h1,h2,aE h9 h3⟩)
   have hjl:=(xY L hL3.out).2.1
   have HS:=Ng (show ∀ (w9:World) (v9:Value),Below wr.heap.size wr w9→NSl w9 b v9 (dW L)→Calls Tryz.prog 255 #[.pointer (some ⟨b,0,none⟩),.agg #[.int .i64 t.kind,.int .i64 t.place,.slice ao k pc],v9] w9 (fun e w'=>cF w b sent r e w'∧Below w9.heap.size w9 w') from fun w9 v9 h9 hN9=>by
    have hb9:=aE hbw h9;refine (yE w9 b g cap n base i d ts t _ v9 (dW L) r HF.out (HQ.out.below hb9) (HE.out.below hb9) ⟨_,rfl,(show PSl w (.slice ao k pc) t.parts from ⟨ao,pc,by rw[HN.out],by rw[HN.out];exact q1,q2,HP3.out⟩).below hb9⟩ hp hN9 (by omega) HR).mono ?_
    exact fun e w' h=>⟨h.later hb9,h.1⟩)
   have x0:=aF hbr (hB.cell 0 rfl);have x1:=aF hbr (hB.cell 1 rfl);have x2:=aF hbr (hB.cell 2 rfl);have e1:=Below.refl wr.heap.size wr;have e2:=(Below.refl wr.heap.size wr).drew;clear hr hO HR hB hbr hbw hbz;go_upto_region 10 with fail
   go_region_held3 (fun w'=>w'.cell? ⟨w.heap.size,0,none⟩=some (.int .i64 t.kind)∧w'.cell? ⟨w.heap.size,1,none⟩=some (.int .i64 t.place)∧w'.cell? ⟨w.heap.size,2,none⟩=some (.slice ao k pc)) (first | exact⟨aF hb7 (aF hb5 x0),aF hb7 (aF hb5 x1),aF hb7 (aF hb5 x2)⟩ | exact⟨aF hb5 x0,aF hb5 x1,aF hb5 x2⟩ | go_keep)
    (first
     | (go_at_call 274;(with_reducible refine (HJ.out _ (by first | exact e1 | exact e2)).mono ?_);rintro e w5 ⟨v5,rfl,hN5,hb5⟩;obtain⟨g5,c5,rfl,-⟩:=id hN5)
     | (go_at_call 255;(with_reducible refine (HS.out _ _ hb5 hN5).mono ?_);rintro e w7 ⟨h7,hb7⟩;obtain⟨v7,u7,rfl⟩:=h7.tuple))
   go_wp2_with fail
   go_ret2;exact h7
theorem Hi {sent:Nat→Addr}{S:Nat→Nat→aD→aL aA}(hS:o7 S)(hP:lS sent 252 rX (fun b d x=>eM (S b d) x)):lT sent 222 (fun b d t=>cZ (S b d) b t):=by
 intro w b g cap n base i d ts t tv r hd F hQ hE ht hx htx hp hw hr;have hmf:∀ (fn:Fn) (first cap:Array Value) (w:World),(Instr.makeFunc fn first cap).run Tryz.prog w = .ok (.func fn first cap) w:=fun _ _ _ _=>rfl
 obtain⟨tp,rfl,hps⟩:=ht;have hb1:=(Below.refl _ w).alloc (Nat.le_refl _) (.cells #[.int .i64 t.kind,.int .i64 t.place,tp] 113)
 have HJ:=Ng (K1 (sent:=sent) 252 ⟨0,0,none⟩ Gf (tq:=eM (S base d)) _ b g cap n base i d ts t _ r F (hQ.below hb1) (hE.below hb1) ⟨tp,rfl,hps.below hb1⟩ hp
  (Ng fun w' x rc hb hxm hq=>hP w' b g cap n base i d ts x rc hd F ((hQ.below hb1).below hb) ((hE.below hb1).below hb) (hx x hxm) trivial (Ng hq))
  (Ng fun x hxm l hl=>by
   obtain⟨h1,h2,h3⟩:=(uF (hS.q base d n t.parts hx) hxm (hx x hxm).valid (hx x hxm).len).1 l hl;exact⟨h1,by omega,h3⟩) hw (Ng hr.out))
 obtain⟨ao,pc,rfl⟩:=hps.form;clear hQ hE hS hP hr hx;go_enter Tryz.func222,Tryz.ntmps222
 go_wp2_with fail
 refine HJ.out.mono ?_;intro e w2 h2;have h3:=h2.later hb1;obtain⟨v,u,rfl⟩:=h2.tuple;go_wp2_with fail
 go_ret2;exact h3
theorem G8 {sent:Nat→Addr}{S:Nat→Nat→aD→aL aA}(hS:o7 S)(hP:lS sent 252 rX (fun b d x=>eM (S b d) x))(hI:lS sent 259 rQ (fun b d x=>dP (S b d) x))(w:World)(b g cap n base i d:Nat)(ts:List aG)(x:aD)(r:Except (Nat×Nat) aA)(cc:Addr)(hd:d≤31)(F:eO n base cap ts)(hQ:QSt w b g cap ts base i d)(hE:f8 w b sent)(hx:mQ n x)(hc:w.cell? cc=some (.pointer (some ⟨b,0,none⟩)))(hr:Hid (gU (S base d) (dP (S base d)) x=some r)) :
  Calls Tryz.prog 257 #[.agg #[.int .i64 x.kind,.int .i64 x.place,.int .i64 x.num,.bool x.quoted,.string (bs x.text)],.pointer (some cc)] w (cF w b sent r):=by
 have hmf:∀ (fn:Fn) (first cap:Array Value) (w:World),(Instr.makeFunc fn first cap).run Tryz.prog w = .ok (.func fn first cap) w:=fun _ _ _ _=>rfl
 have hb1:=(Below.refl _ w).alloc (Nat.le_refl _) (.cells #[.int .i64 x.kind,.int .i64 x.place,.int .i64 x.num,.bool x.quoted,.string (bs x.text)] 189);have HA:=Ng (Hx (S:=S) (B:=fun b d x=>dP (S b d) x) 259 GB hP rQ (fun _ h1 h2=>⟨h1,h2⟩) hI hS.small _ b g cap n base i d ts x r hd F (hQ.below hb1) (hE.below hb1) hx (Ng hr.out))
 have hc1:=aF hb1 hc;clear hQ hE hS hP hI hr hx;go_enter Tryz.func257,Tryz.ntmps257
 go_wp2_with fail
 refine HA.out.mono ?_;intro e w2 h2;have h3:=h2.later hb1;obtain⟨v,u,rfl⟩:=h2.tuple;go_wp2_with fail
 go_ret2;exact h3
theorem mL.tuple {w w':World}{sent:Nat→Addr}{r:Except (Nat×Nat) aA}{e:Ending}(h:mL w sent r e w'):∃ v u,e = .returned (.tuple #[v,u]):=by
 obtain⟨-,h⟩:=h
 cases r with
 | ok l =>
  obtain⟨v,bp,h,-⟩:=h;exact⟨v,_,h⟩
 | error q =>
  obtain⟨v,u,h,-⟩:=h;exact⟨v,u,h⟩
theorem aW.wtPs_le {n:Nat}{ts:List aG}(g:aW n ts){i:Nat}(hi:i<ts.length):cA (aM ts i).parts≤24577:=by
 have h1:=k9 hi;have h2:=rem_le (ts:=ts) (Nat.zero_le i) (Nat.le_of_lt hi);have h3:=g.wt;have h4:=g.small;rw[pI] at h2;unfold wtT at h1;omega
theorem wO {w:World}{b g n base cap:Nat}{ts:List aG}{i d:Nat}(F:eO n base cap ts)(h:QSt w b g cap ts base i d)(hi:i<ts.length) :
  Calls Tryz.prog 219 #[.pointer (some ⟨b,0,none⟩)] w fun e w'=>e = .returned (.bool (lM ts i))∧Below w.heap.size w w':=by
 have hb1:=(Below.refl _ w).alloc (Nat.le_refl _) (.cells #[.int .i64 9,.int .i64 10,.int .i64 11,.int .i64 12] 3);have HI:=Ng (m6 F (h.below hb1) hi [9,10,11,12] _ 4 (by decide) (show Blk _ _ [Value.int .i64 9,Value.int .i64 10,Value.int .i64 11,Value.int .i64 12] from Blk.new w _ _))
 clear h;go_enter Tryz.func219,Tryz.ntmps219
 go_wp2_with fail
 refine HI.out.mono ?_;rintro e w1 ⟨rfl,hb2⟩;go_wp2_with fail
 go_ret;exact⟨rfl,aE hb1 hb2⟩
theorem I7 {sent:Nat→Addr}(K:FuncId)(hen:∀ args w,(callFunc K args).run Tryz.prog w = .ok (.enter K args) w){V:Nat→Nat→aG→aL aA}(hV:lT sent K V)
  (w:World) (b g cap n base i d:Nat) (ts:List aG) (r:Except (Nat×Nat) (aA×Nat)) (hd:d≤31) (hi:i<ts.length) (F:eO n base cap ts) (hQ:QSt w b g cap ts base i d) (hE:f8 w b sent) (hr:Hid (wordOf (fun b t=>V b d t) ts base i=some r)) :
  Calls Tryz.prog 226 #[.pointer (some ⟨b,0,none⟩),.func (.func K) #[.pointer (some ⟨b,0,none⟩)] #[]] w (gZ w b g cap ts base d sent r):=by
 have HR:=Ng hr.out;unfold wordOf at HR;have hblw:=hQ.blt;have hb1:=(Below.refl _ w).alloc (Nat.le_refl _) (.cells #[.int .i64 13] 3);have HI:=Ng (m6 F (hQ.below hb1) hi [13] _ 1 (by decide) (show Blk _ _ [Value.int .i64 13] from Blk.new w _ _))
 go_enter Tryz.func226,Tryz.ntmps226
 go_wp2_with fail
 refine HI.out.mono ?_;rintro e w1 ⟨rfl,hb2⟩;have hb3:=aE hb1 hb2;have hQ1:=hQ.below hb3;have hE1:=hE.below hb3;have hK1:=(aB.refl (At b) w).andBelow hb3;clear hQ hE HI hr
 cases hx:aIs ts i [13] with
 | false =>
  rw[hx,if_neg (by simp)] at HR
  have HX:=Ng (show r = .error (if aIs ts i [0]=true then 109 else 108,base+(aM ts i).place) from by
   have:=HR.out
   unfold formA kC at this;injection this with this
   exact this.symm)
  have HF:=Ng (qP F hQ1 hi sent hE1.env.env);clear HR;go_wp2_with fail
  refine HF.out.mono ?_;rintro e w6 ⟨eb,rfl,hEb,hle,hb7⟩;have hsz:=hb3.size;go_wp2_with fail
  go_ret2;exact gZ.bad HX.out rfl ⟨eb,rfl,hEb,Nat.le_trans hsz hle⟩ (hQ1.below hb7) (hK1.andBelow hb7) ⟨_,_,_,rfl⟩
 | true =>
  rw[hx,if_pos rfl] at HR
  cases hq:V base d (aM ts i) with
  | none =>
   rw[hq] at HR;exact absurd HR.out (by simp [aL.at])
  | some rc =>
   rw[hq] at HR;have HN:=Ng (pP F hQ1 hi);go_wp2_with fail
   refine HN.out.mono ?_;rintro e w2 ⟨tv,rfl,htv,hb4⟩;have hQ2:=hQ1.below hb4;have hE2:=hE1.below hb4;have hK2:=hK1.andBelow hb4;have HC:=Ng (hV w2 b g cap n base i d ts (aM ts i) tv rc hd F hQ2 hE2 htv (fun x hxm=>F.partI i x hxm) (F.tx i) (F.good.place i) (F.good.wtPs_le hi) (Ng hq))
   have hszb:=hb3.size;have hszc:=hb4.size;clear hQ1 hE1 HN;go_wp2_with fail
   refine HC.out.mono ?_;rintro e w3 h3;have hz3:=h3;obtain⟨v3,u3,rfl⟩:=h3.tuple;obtain⟨hb5,h3⟩:=h3;have HS:=Ng (lL F (hQ2.below hb5) hi);have hK3:=hK2.andBelow hb5;clear HC hQ2 hE2;go_wp2_with fail
   refine HS.out.mono ?_;rintro e w4 ⟨rfl,hQ4,hK4⟩;have hK5:=hK3.same hK4;have hbl:=hQ4.blt;go_wp2_with fail
   go_ret2
   cases rc with
   | error q =>
    obtain⟨v9,u9,he9,hP,hfv⟩:=h3
    cases he9
    have HX:r = .error (q.1,q.2):=by
     have:=HR.out
     simp only[aL.at] at this;injection this with this
     exact this.symm
    exact gZ.bad HX rfl ((hP.kept (by omega) hK4).from (by omega)) hQ4 hK5 hfv
   | ok l =>
    obtain⟨v9,he9,hN⟩:=h3
    cases he9
    have HX:r = .ok (l,aSk ts i):=by
     have:=HR.out
     simp only[aL.at] at this;injection this with this
     exact this.symm
    exact gZ.ok HX rfl (hN.kept hK4) hQ4 hK5
theorem Ku {w:World}{b g n base cap:Nat}{ts:List aG}{i d:Nat}(F:eO n base cap ts)(h:QSt w b g cap ts base i d)(hi:i<ts.length) :
  Calls Tryz.prog 90 #[.pointer (some ⟨b,0,none⟩)] w fun e w'=>e = .returned (.bool (qA ts i))∧Below w.heap.size w w':=by
 have hb1:=(Below.refl _ w).alloc (Nat.le_refl _) (.cells #[.int .i64 0,.int .i64 8,.int .i64 3] 3);have HI:=Ng (m6 F (h.below hb1) hi [0,8,3] _ 3 (by decide) (show Blk _ _ [Value.int .i64 0,Value.int .i64 8,Value.int .i64 3] from Blk.new w _ _))
 have HK:=Ng (show ∀ w9,Below w.heap.size w w9→Calls Tryz.prog 143 #[.pointer (some ⟨b,0,none⟩),.slice (some ⟨w9.heap.size,0,none⟩) 7 7] (w9.alloc (.cells #[.string ⟨#[116,104,101,110]⟩,.string ⟨#[101,108,115,101]⟩,.string ⟨#[102,105]⟩,.string ⟨#[100,111]⟩,.string ⟨#[100,111,110,101]⟩,.string ⟨#[101,115,97,99]⟩,.string ⟨#[125]⟩] 9)) fun e w'=>e = .returned (.bool (eN ts i [[116,104,101,110],[101,108,115,101],[102,105],[100,111],[100,111,110,101],[101,115,97,99],[125]]))∧Below w9.heap.size w9 w' from fun w9 h9 =>
  (uW F ((h.below h9).alloc _) hi [[116,104,101,110],[101,108,115,101],[102,105],[100,111],[100,111,110,101],[101,115,97,99],[125]] _ 7 (by decide) (show Blk _ _ [Value.string ⟨#[116,104,101,110]⟩,Value.string ⟨#[101,108,115,101]⟩,Value.string ⟨#[102,105]⟩,Value.string ⟨#[100,111]⟩,Value.string ⟨#[100,111,110,101]⟩,Value.string ⟨#[101,115,97,99]⟩,Value.string ⟨#[125]⟩] from Blk.new w9 _ _)).mono fun e w' ⟨h1,h2⟩=>⟨h1,aE ((Below.refl _ w9).alloc (Nat.le_refl _) _) h2⟩)
 obtain⟨r,hr⟩:∃ r,qA ts i=r:=⟨_,rfl⟩;rw[hr];unfold qA at hr;clear h;go_enter Tryz.func90,Tryz.ntmps90
 go_wp2_with fail
 refine HI.out.mono ?_;rintro e w1 ⟨rfl,hb2⟩;have hb3:=aE hb1 hb2
 cases hx:aIs ts i [0,8,3] with
 | true =>
  rw[hx,Bool.true_or] at hr;subst hr;go_wp2_with fail
  go_ret;exact⟨rfl,hb3⟩
 | false =>
  rw[hx,Bool.false_or] at hr;rw[hr] at HK;clear hr HI;go_wp2_with fail
  refine (HK.out _ hb3).mono ?_;rintro e w2 ⟨rfl,hb4⟩;go_wp2_with fail
  go_ret;exact⟨rfl,aE hb3 hb4⟩
theorem sU (cc:Addr)(w:World)(b g cap base i d:Nat)(ts:List aG)(u:FrameMode)(hd:d≤100)(hc:w.cell? cc=some (.pointer (some ⟨b,0,none⟩)))(hQ:QSt w b g cap ts base i (d+1)) :
  CallsD Tryz.prog 87 #[.pointer (some cc)] u w fun e u' w'=>u'=u∧(e = .returned (.tuple #[])∧w'=w.setCell ⟨b,3,none⟩ (.int .i64 (d:Nat))):=by
 have c3:=hQ.c3;have f3:=hQ.fr 3;have hw1:IntKind.i64.wrap (((d+1:Nat):Int) - 1)=(d:Int):=by rw[IntKind.wrap_i64];omega
 clear hQ;go_enter_d Tryz.func87,Tryz.ntmps87
 go_wp2_with fail
 go_end0
 exact⟨rfl,rfl⟩
def fB (w:World) (b g cap:Nat) (ts:List aG) (base d:Nat) (sent:Nat→Addr) (r:Except (Nat×Nat) (aA×Nat)) (e:Ending) (w':World):Prop :=
 aB (At b) w w'∧match r with
 | .ok (l,j)=>∃ v,e = .returned (.tuple #[v,.nilIface])∧NSl w' b v l∧QSt w' b g cap ts base j d
 | .error (c,p)=>∃ u j,e = .returned (.tuple #[.slice none 0 0,u])∧cU w w' sent c p u∧QSt w' b g cap ts base j d
theorem fB.ok {w w':World}{b g cap:Nat}{ts:List aG}{base d:Nat}{sent:Nat→Addr}{l:aA}{j:Nat}{v:Value}{r:Except (Nat×Nat) (aA×Nat)}{e:Ending}(hr:r = .ok (l,j))(he:e = .returned (.tuple #[v,.nilIface]))(h1:NSl w' b v l)(h2:QSt w' b g cap ts base j d)(hk:aB (At b) w w'):fB w b g cap ts base d sent r e w':=by
 subst hr;exact⟨hk,v,he,h1,h2⟩
theorem fB.bad {w w':World}{b g cap:Nat}{ts:List aG}{base d:Nat}{sent:Nat→Addr}{c p j:Nat}{u:Value}{r:Except (Nat×Nat) (aA×Nat)}{e:Ending}(hr:r = .error (c,p))(he:e = .returned (.tuple #[.slice none 0 0,u]))(h1:cU w w' sent c p u)(h2:QSt w' b g cap ts base j d)(hk:aB (At b) w w'):fB w b g cap ts base d sent r e w':=by
 subst hr;exact⟨hk,u,j,he,h1,h2⟩
theorem fB.out {w w':World}{b g cap:Nat}{ts:List aG}{base d:Nat}{sent:Nat→Addr}{r:Except (Nat×Nat) (aA×Nat)}{e:Ending}(h:fB w b g cap ts base d sent r e w'):gZ w b g cap ts base d sent r e w':=by
 obtain⟨h1,h2⟩:=h;refine ⟨h1,?_⟩
 cases r with
 | ok y=>exact h2
 | error q =>
  obtain⟨u,j,q1,q2,q3⟩:=h2;exact⟨_,u,j,q1,q2,q3,⟨_,_,_,rfl⟩⟩
def mM (sent:Nat→Addr) (fn:FuncId) (X:List aG→Nat→Nat→Nat→aJ aA):Prop :=
 ∀ (w:World) (b g cap n base i d:Nat) (ts:List aG) (r:Except (Nat×Nat) (aA×Nat)),d≤31→i<ts.length→eO n base cap ts→QSt w b g cap ts base i d→f8 w b sent→Hid (X ts base d i=some r) →
  Calls Tryz.prog fn #[.pointer (some ⟨b,0,none⟩)] w (fB w b g cap ts base d sent r)
theorem mM.does {sent:Nat→Addr}{fn:FuncId}{X:List aG→Nat→Nat→Nat→aJ aA}(h:mM sent fn X):o9 sent fn X :=
 fun w b g cap n base i d ts r hd hi F hQ hE hr=>(h w b g cap n base i d ts r hd hi F hQ hE hr).mono fun _ _ hp=>hp.out
theorem Jg {w:World}{b g n base cap:Nat}{ts:List aG}{i d:Nat}(F:eO n base cap ts)(h:QSt w b g cap ts base i d)(hi:i<ts.length)(sent:Nat→Addr)(c:Nat) :
  Calls Tryz.prog 88 #[.pointer (some ⟨b,0,none⟩),.iface 286 (.pointer (some (sent c)))] w fun e w'=>∃ u,e = .returned u∧cU w w' sent c (base+(aM ts i).place) u∧(∃ eb,u = .iface 61 (.pointer (some ⟨eb,0,none⟩)))∧Below w.heap.size w w':=by
 refine (xP F h hi (sent c)).mono ?_;rintro e w' ⟨eb,rfl,h1,h2,h3⟩;exact⟨_,rfl,⟨eb,rfl,h1,h2⟩,⟨eb,rfl⟩,h3⟩
theorem Il {sent:Nat→Addr}(f:Nat)(ih:∀ f'<f,o9 sent 92 (fun ts b d i=>fJ f' ts b d i)):mM sent 42 (fun ts b d i=>cG (f+1) ts b d i):=by
 intro w b g cap n base i d ts r hd hi F hQ hE hr;have hmf:∀ (fn:Fn) (first cap:Array Value) (w:World),(Instr.makeFunc fn first cap).run Tryz.prog w = .ok (.func fn first cap) w:=fun _ _ _ _=>rfl
 have HR:=Ng (show cG (f+1) ts base d i=some r from hr.out)
 rw[cG] at HR;have hbl:=hQ.blt;have c3:=hQ.c3;have f3:=hQ.fr 3;have hw1:IntKind.i64.wrap ((d:Int)+1)=(d:Int)+1:=by rw[IntKind.wrap_i64];omega
 have hb1:=(Below.refl _ w).alloc (Nat.le_refl _) (.cells #[.pointer (some ⟨b,0,none⟩)] 75);have hcast:((d+1:Nat):Int)=(d:Int)+1:=by omega
 by_cases h30:30<d+1
 ·rw[if_pos h30] at HR;have h31:decide ((30:Int)<(d:Int)+1)=true:=by rw[decide_eq_true_eq];omega
  have HX:=Ng (show r = .error (102,base+(aM ts i).place) from by
   have:=HR.out
   unfold kC at this;injection this with this
   exact this.symm)
  have HS1:=(hQ.deep (d+1));rw[hcast] at HS1;have HK1:=(aB.setCell (S:=At b) (p:=⟨b,3,none⟩) (aB.refl _ w) (fun _=>rfl) (.int .i64 ((d:Int)+1)))
  have HS2:=HS1.alloc (.cells #[.pointer (some ⟨b,0,none⟩)] 75);have HK2:=HK1.alloc (.cells #[.pointer (some ⟨b,0,none⟩)] 75);have HB2:=Blk.new (w.setCell ⟨b,3,none⟩ (.int .i64 ((d:Int)+1))) [.pointer (some ⟨b,0,none⟩)] 75;have hsz:(w.setCell ⟨b,3,none⟩ (.int .i64 ((d:Int)+1))).heap.size=w.heap.size:=by simp [World.setCell]
  rw[hsz] at HB2;clear hr ih h30 HS1 HK1 HR hQ;go_enter_defers Tryz.func42,Tryz.ntmps42
  go_upto_region 4 with fail
  refine eJ (fun w9=>QSt w9 b g cap ts base i (d+1)∧Blk w9 w.heap.size [.pointer (some ⟨b,0,none⟩)]∧aB (At b) w w9) ⟨HS2,HB2,HK2⟩ ?_
  clear HS2 HB2 HK2 hsz;intro w1 ⟨HS,HB,HK⟩;have hE1:=hE.kept HK;have HBc:=HB.cell 0 rfl;have hsz1:=HK.size;have he:=p7 hE1.env.env 102 1 (by simp [cH])
  have HF:=Ng (show ∀ w9,Below w1.heap.size w1 w9→Calls Tryz.prog 88 #[.pointer (some ⟨b,0,none⟩),.iface 286 (.pointer (some (sent 102)))] w9 fun e w'=>∃ u,e = .returned u∧cU w1 w' sent 102 (base+(aM ts i).place) u∧(∃ eb,u = .iface 61 (.pointer (some ⟨eb,0,none⟩)))∧Below w1.heap.size w1 w' from fun w9 h9=>(Jg F (HS.below h9) hi sent 102).mono fun e w' ⟨u,h1,h2,h3,h4⟩=>⟨u,h1,h2.from h9.size,h3,aE h9 h4⟩)
  have e1:=Below.refl w1.heap.size w1;have e2:=(Below.refl w1.heap.size w1).drew
  go_region_held3 (fun w'=>w'.cell? ⟨w.heap.size,0,none⟩=some (.pointer (some ⟨b,0,none⟩))∧w'.cell? ⟨1,0,none⟩=some (.iface 286 (.pointer (some (sent 102))))) (first | exact⟨aF hb5 HBc,aF hb5 he⟩ | go_keep)
   (first | (go_at_call 88;(with_reducible refine (HF.out _ (by first | exact e1 | exact e2)).mono ?_);rintro e w5 ⟨u,rfl,hP,⟨eb,rfl⟩,hb5⟩))
  go_wp2_with fail
  have HQ5:=HS.below hb5;have HB5:=aF hb5 HBc;have HK5:=HK.andBelow hb5;have hK6:=aB.setCell (S:=At b) (p:=⟨b,3,none⟩) (aB.refl _ w5) (fun _=>rfl) (.int .i64 (d:Nat))
  have hP2:=(hP.kept (Nat.lt_of_lt_of_le hbl hsz1) hK6).from hsz1
  refine leaves_cons (f:=87) (args:=#[.pointer (some ⟨w.heap.size,0,none⟩)]) (by simp) (by simp [go_sem]) ?_
  refine (sU ⟨w.heap.size,0,none⟩ w5 b g cap base i d ts _ (by omega) HB5 HQ5).mono ?_
  rintro e u' w'' ⟨rfl,rfl,rfl⟩;exact⟨_,results_tmp2 rfl _ _ _,fB.bad (u:=.iface 61 (.pointer (some ⟨eb,0,none⟩))) HX.out rfl hP2 (HQ5.deep d) (HK5.same hK6)⟩
 ·rw[if_neg h30] at HR;have h31:decide ((30:Int)<(d:Int)+1)=false:=by rw[decide_eq_false_iff_not];omega
  obtain⟨k0,hk0,hk1,hk2,hk3⟩:=info_parts jB;have hgl:=hQ.glt;have hlen:=F.good.len;have hrem:=rem_le (ts:=ts) (Nat.zero_le i) (Nat.le_of_lt hi);have hwt:=F.good.wt;have hsm:=F.good.small;rw[pI] at hrem;have HS1:=(hQ.deep (d+1));rw[hcast] at HS1;have HK1:=(aB.setCell (S:=At b) (p:=⟨b,3,none⟩) (aB.refl _ w) (fun _=>rfl) (.int .i64 ((d:Int)+1)))
  have HS2:=HS1.alloc (.cells #[.pointer (some ⟨b,0,none⟩)] 75);have HK2:=HK1.alloc (.cells #[.pointer (some ⟨b,0,none⟩)] 75);have HB2:=Blk.new (w.setCell ⟨b,3,none⟩ (.int .i64 ((d:Int)+1))) [.pointer (some ⟨b,0,none⟩)] 75;have hsz:(w.setCell ⟨b,3,none⟩ (.int .i64 ((d:Int)+1))).heap.size=w.heap.size:=by simp [World.setCell]
  rw[hsz] at HB2;have IH:=Ng ih;clear hr ih HS1 HK1 hQ;go_enter_defers Tryz.func42,Tryz.ntmps42
  go_upto_region 5 with fail
  refine eJ (fun w9=>QSt w9 b g cap ts base i (d+1)∧Blk w9 w.heap.size [.pointer (some ⟨b,0,none⟩)]∧aB (At b) w w9) ⟨HS2,HB2,HK2⟩ ?_
  clear HS2 HB2 HK2 hsz;intro w1 ⟨HS,HB,HK⟩;have hE1:=hE.kept HK;have hsz1:=HK.size;have hbw1:b<w1.heap.size:=by omega
  have hbox:=HB.lt;go_wp2_with fail
  go_loopg [4,5,6,7] (ts.length - i) (fun mm v va vc er wr=>∃ (k fk:Nat) (L:List aA),mm=ts.length - k∧k<ts.length∧fk≤f∧L.length≤k∧L.flatten.length+8 * aI ts k≤8 * aI ts i∧Hid (∀ l∈L,0<l.length)∧aB (At b) w1 wr∧QSt wr b g cap ts base k (d+1)∧Blk wr w.heap.size [.pointer (some ⟨b,0,none⟩)]∧aO wr w1.heap.size b v L∧Hid (fQ fk ts base (d+1) k L=some r))
  case atStart=>exact⟨i,f,[],rfl,hi,Nat.le_refl _,by simp,by simp,Ng (fun _ h=>nomatch h),aB.refl _ _,HS,HB,aO.nil _ _ _,HR⟩
  case round =>
   clear HS HR hi HB;obtain⟨k,fk,L,rfl,hk,hfk,hL1,hL2,hL3,hK,hS,hB,hO,hr⟩:=hrel
   obtain⟨fk,rfl⟩:∃ q,fk=q+1:=by
    cases fk with
    | zero=>have:=hr.out;rw[fQ] at this;cases this
    | succ q=>exact⟨q,rfl⟩
   obtain⟨ao,acap,rfl⟩:=hO.form;have c1:=hS.c1;have hBc:=hB.cell 0 rfl;obtain⟨j,hj⟩:∃ j,fK ts [1,2] k=j:=⟨_,rfl⟩;have hjn:=vB (ts:=ts) [1,2] hk;rw[hj] at hjn;have hrj:=rem_le (ts:=ts) hjn.1 (Nat.le_of_lt hjn.2);have HR:=Ng hr.out;rw[fQ,hj] at HR;have hszk:=hK.size;clear hr;go_wp2_with fail
   refine (uN F (hS.alloc _) hk [1,2] _ _ (by decide) (by decide) (show Blk _ _ [Value.int .i64 1,Value.int .i64 2] from Blk.new wr _ _) (by omega)).mono ?_
   rintro e w2 ⟨rfl,hS2,hK2⟩;rw[hj] at hS2;have hKa:=((aB.refl (At b) wr).alloc (.cells #[Value.int .i64 1,Value.int .i64 2] 3)).same hK2;have hK3:=hK.same hKa;have hO2:=hO.kept hbw1 hKa;have hB2:=hB.kept hKa (fun e=>by unfold At at e;omega)
   have hBc2:=hB2.cell 0 rfl;have hE2:=hE1.kept hK3;clear hS hK hK2 hO c1 hB hBc hKa;go_wp2_with fail
   refine (Ku F hS2 hjn.2).mono ?_;rintro e w3 ⟨rfl,hb3⟩;have hS3:=hS2.below hb3;have hO3:=hO2.below hbw1 hb3;have hB3:=hB2.below hb3;have hK4:=hK3.andBelow hb3;have hBc3:=hB3.cell 0 rfl;have hL4:L.flatten.length≤1000000:=by omega
   have hL5:L.length≤1000000:=by omega
   have hsz4:=hK4.size;have HC:=Ng (sP L b _ w3 (by omega) hL3.out (by omega) (by omega) (hO3.ksl hbw1))
   clear hS2 hO2 hB2 hK3 hBc2 hE2 hb3
   cases x0:qA ts j with
   | true =>
    rw[if_pos (.inl x0)] at HR;have HX:=Ng (Option.some.inj (show some (Except.ok (eX L,j))=some r from HR.out)).symm
    clear HR x0;go_wp2_with fail
    refine HC.out.mono ?_;rintro e w6 ⟨v6,rfl,hN,hb6⟩;have hS6:=hS3.below hb6;have hB6:=(hB3.below hb6).cell 0 rfl;have hK7:=hK4.andBelow hb6;have hK8:=aB.setCell (S:=At b) (p:=⟨b,3,none⟩) (aB.refl _ w6) (fun _=>rfl) (.int .i64 (d:Nat))
    have hN8:=hN.kept hK8;obtain⟨g6,c6,rfl,-⟩:=hN;go_wp2_with fail
    refine leaves_cons (f:=87) (args:=#[.pointer (some ⟨w.heap.size,0,none⟩)]) (by simp) (by simp [go_sem]) ?_
    refine (sU ⟨w.heap.size,0,none⟩ w6 b g cap base j d ts _ (by omega) hB6 hS6).mono ?_
    rintro e u' w'' ⟨rfl,rfl,rfl⟩;exact⟨_,results_tmp2 rfl _ _ _,fB.ok (v:=.slice (some ⟨g6,0,none⟩) (eX L).length c6) HX.out rfl hN8 (hS6.deep d) ((HK.same hK7).same hK8)⟩
   | false =>
    have c1:=hS3.c1
    by_cases x2:0<L.length∧j=k
    ·rw[if_pos (.inr x2)] at HR;have HX:=Ng (Option.some.inj (show some (Except.ok (eX L,j))=some r from HR.out)).symm
     have y1:decide ((0:Int)<(L.length:Int))=true:=by rw[decide_eq_true_eq];omega
     have y2:((j:Int)==(k:Int))=true:=by rw[beq_iff_eq];omega
     clear HR x0;go_wp2_with fail
     refine HC.out.mono ?_;rintro e w6 ⟨v6,rfl,hN,hb6⟩;have hS6:=hS3.below hb6;have hB6:=(hB3.below hb6).cell 0 rfl;have hK7:=hK4.andBelow hb6;have hK8:=aB.setCell (S:=At b) (p:=⟨b,3,none⟩) (aB.refl _ w6) (fun _=>rfl) (.int .i64 (d:Nat))
     have hN8:=hN.kept hK8;obtain⟨g6,c6,rfl,-⟩:=hN;go_wp2_with fail
     refine leaves_cons (f:=87) (args:=#[.pointer (some ⟨w.heap.size,0,none⟩)]) (by simp) (by simp [go_sem]) ?_
     refine (sU ⟨w.heap.size,0,none⟩ w6 b g cap base j d ts _ (by omega) hB6 hS6).mono ?_
     rintro e u' w'' ⟨rfl,rfl,rfl⟩;exact⟨_,results_tmp2 rfl _ _ _,fB.ok (v:=.slice (some ⟨g6,0,none⟩) (eX L).length c6) HX.out rfl hN8 (hS6.deep d) ((HK.same hK7).same hK8)⟩
    ·rw[if_neg (by
      rintro (h | h)
      ·rw[x0] at h;cases h
      ·exact x2 h)] at HR
     have hE3:=hE1.kept hK4;have hd1:d+1≤31:=by omega
     clear HC
     cases hq:fJ fk ts base (d+1) j with
     | none =>
      rw[hq] at HR;exact absurd HR.out (by simp [aJ.go])
     | some rc =>
      rw[hq] at HR;have HD:=Ng (IH.out fk (by omega) w3 b g cap n base j (d+1) ts rc hd1 hjn.2 F hS3 hE3 (Ng hq))
      cases rc with
      | error e0 =>
       obtain⟨c0,p0⟩:=e0;have HX:=Ng (Option.some.inj (show some (Except.error (c0,p0))=some r from HR.out)).symm
       clear HR hq
       by_cases y0:0<L.length
       ·have y1:decide ((0:Int)<(L.length:Int))=true:=by rw[decide_eq_true_eq];omega
        have y2:((j:Int)==(k:Int))=false:=by
         rw[beq_eq_false_iff_ne];intro e;exact x2 ⟨y0,by omega⟩
        go_wp2_with fail
        refine HD.out.mono ?_;rintro e w6 ⟨hK6,v,u,j',rfl,hP6,hS6,-⟩;have hK7:=hK4.same hK6;have hB6:=(hB3.kept hK6 (fun e=>by unfold At at e;omega)).cell 0 rfl
        have hK8:=aB.setCell (S:=At b) (p:=⟨b,3,none⟩) (aB.refl _ w6) (fun _=>rfl) (.int .i64 (d:Nat))
        have hsz7:=hK7.size;have hP7:=(hP6.kept (by omega) hK8).from (show w.heap.size≤w3.heap.size by omega)
        obtain⟨eb,rfl⟩:=hP6.form';clear hP6;go_wp2_with fail
        refine leaves_cons (f:=87) (args:=#[.pointer (some ⟨w.heap.size,0,none⟩)]) (by simp) (by simp [go_sem]) ?_
        refine (sU ⟨w.heap.size,0,none⟩ w6 b g cap base j' d ts _ (by omega) hB6 hS6).mono ?_
        rintro e u' w'' ⟨rfl,rfl,rfl⟩;exact⟨_,results_tmp2 rfl _ _ _,fB.bad (u:=.iface 61 (.pointer (some ⟨eb,0,none⟩))) HX.out rfl hP7 (hS6.deep d) ((HK.same hK7).same hK8)⟩
       ·have y1:decide ((0:Int)<(L.length:Int))=false:=by rw[decide_eq_false_iff_not];omega
        go_wp2_with fail
        refine HD.out.mono ?_;rintro e w6 ⟨hK6,v,u,j',rfl,hP6,hS6,-⟩;have hK7:=hK4.same hK6;have hB6:=(hB3.kept hK6 (fun e=>by unfold At at e;omega)).cell 0 rfl
        have hK8:=aB.setCell (S:=At b) (p:=⟨b,3,none⟩) (aB.refl _ w6) (fun _=>rfl) (.int .i64 (d:Nat))
        have hsz7:=hK7.size;have hP7:=(hP6.kept (by omega) hK8).from (show w.heap.size≤w3.heap.size by omega)
        obtain⟨eb,rfl⟩:=hP6.form';clear hP6;go_wp2_with fail
        refine leaves_cons (f:=87) (args:=#[.pointer (some ⟨w.heap.size,0,none⟩)]) (by simp) (by simp [go_sem]) ?_
        refine (sU ⟨w.heap.size,0,none⟩ w6 b g cap base j' d ts _ (by omega) hB6 hS6).mono ?_
        rintro e u' w'' ⟨rfl,rfl,rfl⟩;exact⟨_,results_tmp2 rfl _ _ _,fB.bad (u:=.iface 61 (.pointer (some ⟨eb,0,none⟩))) HX.out rfl hP7 (hS6.deep d) ((HK.same hK7).same hK8)⟩
      | ok q =>
       obtain⟨cl,ce⟩:=q;obtain⟨z1,z2,z3,z4,-⟩:=((kG fk).chain F.good base (d+1) j hjn.2).1 cl ce hq;have HX:=Ng (show fQ fk ts base (d+1) ce (L++[cl])=some r from HR.out)
       have hL6:(L++[cl]).length≤ce:=by rw[List.length_append,List.length_cons,List.length_nil];omega
       have hL7:(L++[cl]).flatten.length+8 * aI ts ce≤8 * aI ts i:=by rw[fD,List.length_append];omega
       have hL8:=Ng (fP hL3.out z3);clear HR hq
       by_cases y0:0<L.length
       ·have y1:decide ((0:Int)<(L.length:Int))=true:=by rw[decide_eq_true_eq];omega
        have y2:((j:Int)==(k:Int))=false:=by
         rw[beq_eq_false_iff_ne];intro e;exact x2 ⟨y0,by omega⟩
        go_wp2_with fail
        refine HD.out.mono ?_;rintro e w5 ⟨hK6,v,rfl,hN,hS5⟩;have hK7:=hK4.same hK6;have hB5:=hB3.kept hK6 (fun e=>by unfold At at e;omega)
        obtain⟨us,u1,u2,u3⟩:=hO3.kept hbw1 hK6;have hOA:∀ o,(w5.alloc o).ownsRow w1.heap.size 26 1 _ L.length us:=fun o=>bM u2 (aB.ofBelow (S:=bW) ((Below.refl _ w5).alloc (Nat.le_refl _) o)) (fun _ _ _ e=>e)
        have HN:=Ng hN;have hsz5:=hK7.size;obtain⟨gc,cc,rfl,-⟩:=hN;clear hK6 hO3 hS3 HD;go_wp2_with (at_builtin;refine wpList_append_own _ rfl _ _ 25 rfl w1.heap.size 26 k0 _ 1 24 Tryz.underlying25 hk0 hk1 hk2 hk3 rfl (by decide) _ _ _ rfl (hOA _) ⟨w5.heap.size,0,none⟩ 1 1 [.slice (some ⟨gc,0,none⟩) cl.length cc] rfl rfl (cL (by simp)) (by intro u hu;simp at hu;subst hu;rfl) (by unfold maxLen;omega) (by omega) (by simp;omega) ?_;intro v6 w6 hown' hgrow _)
        obtain⟨hO6,hb6⟩:=aO.grown (w0:=w1) hsz5 u1 u2 u3 HN.out hown' hgrow;have hS6:=hS5.belowB hb6 hbw1;have hK8:=hK7.belowB hb6 (Nat.le_refl _);have hB6:=hB5.of_heap (hb6.block _ hbox);go_wp2_with fail
        go_roundg (ts.length - ce)
        case measure=>omega
        case rel=>exact⟨ce,fk,L++[cl],rfl,z2,by omega,hL6,hL7,hL8,hK8,hS6,hB6,hO6,HX⟩
       ·have y1:decide ((0:Int)<(L.length:Int))=false:=by rw[decide_eq_false_iff_not];omega
        go_wp2_with fail
        refine HD.out.mono ?_;rintro e w5 ⟨hK6,v,rfl,hN,hS5⟩;have hK7:=hK4.same hK6;have hB5:=hB3.kept hK6 (fun e=>by unfold At at e;omega)
        obtain⟨us,u1,u2,u3⟩:=hO3.kept hbw1 hK6;have hOA:∀ o,(w5.alloc o).ownsRow w1.heap.size 26 1 _ L.length us:=fun o=>bM u2 (aB.ofBelow (S:=bW) ((Below.refl _ w5).alloc (Nat.le_refl _) o)) (fun _ _ _ e=>e)
        have HN:=Ng hN;have hsz5:=hK7.size;obtain⟨gc,cc,rfl,-⟩:=hN;clear hK6 hO3 hS3 HD;go_wp2_with (at_builtin;refine wpList_append_own _ rfl _ _ 25 rfl w1.heap.size 26 k0 _ 1 24 Tryz.underlying25 hk0 hk1 hk2 hk3 rfl (by decide) _ _ _ rfl (hOA _) ⟨w5.heap.size,0,none⟩ 1 1 [.slice (some ⟨gc,0,none⟩) cl.length cc] rfl rfl (cL (by simp)) (by intro u hu;simp at hu;subst hu;rfl) (by unfold maxLen;omega) (by omega) (by simp;omega) ?_;intro v6 w6 hown' hgrow _)
        obtain⟨hO6,hb6⟩:=aO.grown (w0:=w1) hsz5 u1 u2 u3 HN.out hown' hgrow;have hS6:=hS5.belowB hb6 hbw1;have hK8:=hK7.belowB hb6 (Nat.le_refl _);have hB6:=hB5.of_heap (hb6.block _ hbox);go_wp2_with fail
        go_roundg (ts.length - ce)
        case measure=>omega
        case rel=>exact⟨ce,fk,L++[cl],rfl,z2,by omega,hL6,hL7,hL8,hK8,hS6,hB6,hO6,HX⟩
def vX (w:World) (b g cap:Nat) (ts:List aG) (base d:Nat) (sent:Nat→Addr) (r:Except (Nat×Nat) (aA×Nat)) (e:Ending) (w':World):Prop :=
 aB (At b) w w'∧match r with
 | .ok (l,j)=>∃ v,e = .returned (.tuple #[v,.nilIface])∧NSl w' b v l∧QSt w' b g cap ts base j d
 | .error (c,p)=>∃ v u j l0,e = .returned (.tuple #[v,u])∧fO w' b v l0∧l0.length≤200000∧cU w w' sent c p u∧QSt w' b g cap ts base j d
theorem vX.ok {w w':World}{b g cap:Nat}{ts:List aG}{base d:Nat}{sent:Nat→Addr}{l:aA}{j:Nat}{v:Value}{r:Except (Nat×Nat) (aA×Nat)}{e:Ending}(hr:r = .ok (l,j))(he:e = .returned (.tuple #[v,.nilIface]))(h1:NSl w' b v l)(h2:QSt w' b g cap ts base j d)(hk:aB (At b) w w'):vX w b g cap ts base d sent r e w':=by
 subst hr;exact⟨hk,v,he,h1,h2⟩
theorem vX.bad {w w':World}{b g cap:Nat}{ts:List aG}{base d:Nat}{sent:Nat→Addr}{c p j:Nat}{v u:Value}{l0:aA}{r:Except (Nat×Nat) (aA×Nat)}{e:Ending}(hr:r = .error (c,p))(he:e = .returned (.tuple #[v,u]))(h0:fO w' b v l0)(hl:l0.length≤200000)(h1:cU w w' sent c p u)(h2:QSt w' b g cap ts base j d)(hk:aB (At b) w w'):vX w b g cap ts base d sent r e w':=by
 subst hr;exact⟨hk,v,u,j,l0,he,h0,hl,h1,h2⟩
theorem uJ {α:Type}{ts:List aG}{b i:Nat}{r:Except (Nat×Nat) (α×Nat)}(h:formA ts b i=some r):r = .error (if aIs ts i [0]=true then 109 else 108,b+(aM ts i).place):=by
 unfold formA kC at h;injection h with h
 exact h.symm
end Go.Proofs.YtbpjobmpacjgcaaGreatDoor
