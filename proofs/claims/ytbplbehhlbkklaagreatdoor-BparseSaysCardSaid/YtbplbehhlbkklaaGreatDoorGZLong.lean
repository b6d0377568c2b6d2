/- The document's parsers: is a word's text too long (patoisref10.TooLong). -/
import Derived.Test.YtbplbehhlbkklaaGreatDoorGZM
import Derived.Test.YtbplbehhlbkklaaGreatDoorGZE
namespace Go.Proofs.YtbplbehhlbkklaaGreatDoor
set_option maxHeartbeats 16000000
set_option maxRecDepth 100000
open Go Go.RowKit
inductive LongZ:Prog→Bool→Prop
 | sub (n:Int) (s:List UInt8) (kids:List Prog):LongZ (newP 12 n s kids) false
 | lit (n:Int) (s:List UInt8) (kids:List Prog) (r:Bool) (hr:r=decide (2000<s.length)):LongZ (newP 1 n s kids) r
 | node (k n:Int) (s:List UInt8) (kids:List Prog) (rs:List Bool) (r:Bool) (h12:k≠12) (h1:k≠1) (hl:rs.length=kids.length) (h:∀ (j:Nat) (kid:Prog) (q:Bool),kids[j]?=some kid→rs[j]?=some q→LongZ kid q) (hr:r=rs.any id):LongZ (newP k n s kids) r
theorem LongZ.size {l:Prog}{r:Bool}(h:LongZ l r):0<l.length∧(ndAt l 0).size=l.length:=by
 cases h <;> exact⟨newP_pos _ _ _ _,by rw[newP];simp [ndAt]⟩
theorem r10TooLong_any {l:Prog}{r:Bool}(h:LongZ l r):∀ (w:World)(v:Value),NSlo w v l→l.length≤100000→Calls Tryz.prog 145 #[v] w fun e w'=>e = .returned (.bool r)∧Below w.heap.size w w':=by
 induction h with
 | sub n s kids =>
  intro w v hN hlen;have HN:=Lib.hid hN;obtain⟨g,o,cap,rfl,hc1,hc2,-,-⟩:=hN;obtain⟨c0,-⟩:=HN.out.facts (k:=0) (x:=⟨12,n,kids.length,kids.flatten.length+1,s⟩) rfl;dsimp only at c0;simp only[Nat.zero_mul,Nat.add_zero] at c0;have hpl:0<(newP 12 n s kids).length:=newP_pos _ _ _ _;have hpos:(((newP 12 n s kids).length:Int)==0)=false:=by rw[beq_eq_false_iff_ne];omega
  generalize (newP 12 n s kids).length=N at *;go_enter Tryz.func145,Tryz.ntmps145
  go_wp2_with fail
  go_ret;exact⟨rfl,Below.refl _ _⟩
 | lit n s kids r hr =>
  intro w v hN hlen;have HN:=Lib.hid hN;have HR:=Lib.hid hr;clear hr;obtain⟨g,o,cap,rfl,hc1,hc2,-,-⟩:=hN;obtain⟨c0,c1,c2,c3,c4⟩:=HN.out.facts (k:=0) (x:=⟨1,n,kids.length,kids.flatten.length+1,s⟩) rfl;dsimp only at c0 c4;simp only[Nat.zero_mul,Nat.add_zero] at c0 c4;clear c1 c2 c3;have hpl:0<(newP 1 n s kids).length:=newP_pos _ _ _ _;have hpos:(((newP 1 n s kids).length:Int)==0)=false:=by rw[beq_eq_false_iff_ne];omega
  generalize (newP 1 n s kids).length=N at *;have hbz:(bs s).size=s.length:=bs_size s;have HBZ:=Lib.hid (show decide ((2000:Int)<((bs s).size:Int))=r from by rw[HR.out,hbz,Bool.eq_iff_iff,decide_eq_true_eq,decide_eq_true_eq];omega)
  clear hbz;generalize bs s=bz at *;go_enter Tryz.func145,Tryz.ntmps145
  go_wp2_with fail
  go_ret;exact⟨by rw[← HBZ.out];rfl,Below.refl _ _⟩
 | node kind n s kids rs r h12 h1 hl hK hr ih =>
  intro w v hN hlen;have HIH:=Lib.hid ih;have HRS:=Lib.hid hl;have HR:=Lib.hid hr
  have hko:KidsOk kids:=fun kid hkid=>by
   obtain⟨j,hj⟩:=List.getElem?_of_mem hkid;have hjl:=(List.getElem?_eq_some_iff.1 hj).1;exact (hK j kid rs[j] hj (List.getElem?_eq_getElem (by omega))).size
  have HKL2:=Lib.hid (kids_le hko);have HKI:=Lib.hid (fun (w9:World) (v9:Value) (h9:NSlo w9 v9 (newP kind n s kids))=>r5Kids_any kind n s kids v9 w9 h9 hko hlen)
  have HFL:=Lib.hid (show ∀ kid∈kids,kid.length≤100000 from fun kid hkid=>by
   have h2:kid.length≤kids.flatten.length:=(List.sublist_flatten_of_mem hkid).length_le;rw[newP,List.length_cons] at hlen;omega)
  have hKN:kids.length≤100000:=by
   have h3:=HKL2.out;rw[newP,List.length_cons] at hlen;omega
  have HN:=Lib.hid hN;obtain⟨g,o,cap,rfl,hc1,hc2,-,-⟩:=hN;obtain⟨c0,-⟩:=HN.out.facts (k:=0) (x:=⟨kind,n,kids.length,kids.flatten.length+1,s⟩) rfl;dsimp only at c0;simp only[Nat.zero_mul,Nat.add_zero] at c0;have hpl:0<(newP kind n s kids).length:=newP_pos _ _ _ _;have hpos:(((newP kind n s kids).length:Int)==0)=false:=by rw[beq_eq_false_iff_ne];omega
  have e12:(kind==12)=false:=by rw[beq_eq_false_iff_ne];exact h12
  have e1:(kind==1)=false:=by rw[beq_eq_false_iff_ne];exact h1
  generalize (newP kind n s kids).length=N at *;clear hr hl ih hK h12 h1;go_enter Tryz.func145,Tryz.ntmps145
  go_wp2_with fail
  refine (HKI.out _ _ HN.out).mono ?_;rintro e w5 ⟨v5,rfl,hO5,hb5⟩;obtain⟨ao,ac,rfl⟩:=hO5.form;obtain⟨us,u1,u2,u3⟩:=hO5
  have HROW:=Lib.hid (show ∀ k,k<kids.length→∃ gk u,ao=some ⟨gk,0,none⟩∧w5.cell? ⟨gk,k,none⟩=some u∧kids.length≤ac∧∃ kid,kids[k]?=some kid∧NSlo w5 u kid from fun k hk=>by
   obtain⟨gk,cap2,e1,e2,e3,e4,e5,e6⟩:=row_cell u2 (by omega)
   cases e1
   have hu:us[k]?=some us[k]:=List.getElem?_eq_getElem (by omega)
   have hkk:=List.getElem?_eq_getElem hk;exact⟨gk,us[k],rfl,e6 k _ hu,e2,kids[k],hkk,u3 k _ _ hu hkk⟩)
  clear u1 u2 u3 hlen HN HKI;obtain⟨K,hKK⟩:∃ K,kids.length=K:=⟨_,rfl⟩;have HKL:=Lib.hid hKK;rw[hKK] at HROW hKN ⊢;clear hKK;go_wp2_with fail
  go_loopg [4] K (fun m s4 wr=>∃ k:Nat,m=K - k∧k≤K∧s4 = .int .i64 k∧Below w5.heap.size w5 wr∧Hid (r=(rs.drop k).any id))
  case atStart=>exact⟨0,rfl,Nat.zero_le _,rfl,Below.refl _ _,Lib.hid HR.out⟩
  case round =>
   obtain⟨k,rfl,hk,rfl,hb8,HE⟩:=hrel
   by_cases hlt:k<K
   ·obtain⟨gk,u,rfl,hu,hac,kid,hkid,hNk⟩:=HROW.out k hlt;replace hu:=bSome hb8 hu;have hkr:k<rs.length:=by have:=HRS.out;have:=HKL.out;omega
    have hrk:rs[k]?=some rs[k]:=List.getElem?_eq_getElem hkr;have HC:=Lib.hid (HIH.out k kid rs[k] hkid hrk wr u (hNk.below hb8) (HFL.out kid (List.mem_of_getElem? hkid)));have HE2:=Lib.hid (show r=(rs[k] || (rs.drop (k+1)).any id) from by rw[HE.out,List.drop_eq_getElem_cons hkr,List.any_cons];rfl)
    obtain⟨gq,oq,cq,rfl,-⟩:=hNk;generalize rs[k]=rk at *;generalize kid.length=kl at *;clear hkid hrk HE hkr;go_wp2_with fail
    refine HC.out.mono ?_;rintro e w9 ⟨rfl,hb9⟩;have hb10:=hb8.trans (hb9.mono hb8.size)
    cases rk with
    | true =>
     have HE3:=Lib.hid (show r=true from by rw[HE2.out];rfl)
     clear HE2;go_wp2_with fail
     go_ret;exact⟨by rw[HE3.out];rfl,bNext hb5 hb10⟩
    | false =>
     have HE3:=Lib.hid (show r=(rs.drop (k+1)).any id from by rw[HE2.out];rfl)
     clear HE2;go_wp2_with fail
     go_roundg (K - (k+1))
     case measure=>omega
     case rel=>exact⟨k+1,rfl,by omega,by go_num,hb10,HE3⟩
   ·have HE3:=Lib.hid (show r=false from by rw[HE.out,List.drop_of_length_le (by have:=HRS.out;have:=HKL.out;omega)];rfl)
    go_wp2_with fail
    go_ret;exact⟨by rw[HE3.out];rfl,bNext hb5 hb8⟩
theorem LongZ.tree {l:Prog}(h:Tree l):∃ r,LongZ l r:=by
 induction h with
 | node kind n s kids hk ih =>
  by_cases h12:kind=12
  ·subst h12;exact⟨_,.sub _ _ _⟩
  ·by_cases h1:kind=1
   ·subst h1;exact⟨_,.lit _ _ _ _ rfl⟩
   ·have hall:∀ kid∈kids,∃ r,LongZ kid r:=fun kid hkid=>ih kid hkid
    obtain⟨rs,hl,hr⟩:∃ rs:List Bool,rs.length=kids.length∧∀ (j:Nat) (kid:Prog) (q:Bool),kids[j]?=some kid→rs[j]?=some q→LongZ kid q:=by
     clear ih hk
     induction kids with
     | nil=>exact⟨[],rfl,fun j kid q h=>by simp at h⟩
     | cons a kids ihk =>
      obtain⟨rs,h1,h2⟩:=ihk fun kid hkid=>hall kid (by simp [hkid])
      obtain⟨r,hr⟩:=hall a (by simp)
      refine ⟨r :: rs,by simp [h1],fun j kid q hj hq=>?_⟩
      cases j with
      | zero =>
       simp only[List.getElem?_cons_zero,Option.some.injEq] at hj hq;subst hj hq;exact hr
      | succ j=>exact h2 j kid q (by simpa using hj) (by simpa using hq)
    exact⟨_,.node _ _ _ _ rs _ h12 h1 hl hr rfl⟩
theorem LongZ.short {l:Prog}{r:Bool}(h:LongZ l r):tooLong l=false→r=false:=by
 induction h with
 | sub n s kids=>exact fun _=>rfl
 | lit n s kids r hr =>
  intro ht;rw[hr,decide_eq_false_iff_not];intro h2
  have:tooLong (newP 1 n s kids)=true:=by
   unfold tooLong;rw[newP,List.any_cons];simp [h2]
  rw[ht] at this
  cases this
 | node k n s kids rs r h12 h1 hl h hr ih =>
  intro ht;rw[hr,List.any_eq_false];intro q hq;obtain⟨j,hj⟩:=List.getElem?_of_mem hq;have hjl:=(List.getElem?_eq_some_iff.1 hj).1;have hkid:kids[j]?=some (kids[j]'(by omega)):=List.getElem?_eq_getElem (by omega)
  have:=ih j _ q hkid hj (by
   unfold tooLong at ht ⊢;rw[newP,List.any_cons,Bool.or_eq_false_iff] at ht;rw[List.any_eq_false] at ht ⊢;exact fun x hx=>ht.2 x (List.mem_flatten.2 ⟨_,List.getElem_mem (by omega),hx⟩))
  rw[this];simp
end Go.Proofs.YtbplbehhlbkklaaGreatDoor
