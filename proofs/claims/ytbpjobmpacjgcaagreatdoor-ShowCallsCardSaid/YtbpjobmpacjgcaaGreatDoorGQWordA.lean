/- Dialect A's parser: what comes of a word's part. -/
import Derived.Test.YtbpjobmpacjgcaaGreatDoorGQKitG
import Derived.Test.YtbpjobmpacjgcaaGreatDoorGBPatG
import Derived.Test.YtbpjobmpacjgcaaGreatDoorGZD
import Derived.Deep.CutBlock
import Derived.Test.YtbpjobmpacjgcaaGreatDoorGBParseG
namespace Go.Proofs.YtbpjobmpacjgcaaGreatDoor
set_option maxHeartbeats 8000000
set_option maxRecDepth 100000
open Go Go.RowKit
structure f8 (w:World) (b:Nat) (sent:Nat→Addr):Prop where
 env:iG w b sent
 et:w.cell? ⟨8,0,none⟩=some (.iface 134 (.agg #[.pointer (some ⟨18,31,none⟩)]))
 etne:8≠b
theorem f8.kept {w w':World}{b:Nat}{sent:Nat→Addr}(h:f8 w b sent)(hk:aB (At b) w w'):f8 w' b sent :=
 ⟨h.env.kept hk,hk.cell h.et h.etne,h.etne⟩
theorem f8.below {w w':World}{b:Nat}{sent:Nat→Addr}(h:f8 w b sent)(hb:Below w.heap.size w w'):f8 w' b sent:=h.kept (.ofBelow hb)
def cF (w:World) (b:Nat) (sent:Nat→Addr) (r:Except (Nat×Nat) aA) (e:Ending) (w':World):Prop :=
 Below w.heap.size w w'∧match r with
 | .ok l=>∃ v,e = .returned (.tuple #[v,.nilIface])∧NSl w' b v l
 | .error (c,p)=>∃ v u,e = .returned (.tuple #[v,u])∧cU w w' sent c p u∧∃ ao n cp,v = .slice ao n cp
theorem cF.ok {w w':World}{b:Nat}{sent:Nat→Addr}{l:aA}{v:Value}{r:Except (Nat×Nat) aA}{e:Ending}(hr:r = .ok l)(he:e = .returned (.tuple #[v,.nilIface]))(h1:NSl w' b v l)(hb:Below w.heap.size w w'):cF w b sent r e w':=by
 subst hr;exact⟨hb,v,he,h1⟩
theorem cF.bad {w w':World}{b:Nat}{sent:Nat→Addr}{c p:Nat}{v u:Value}{r:Except (Nat×Nat) aA}{e:Ending}(hr:r = .error (c,p))(he:e = .returned (.tuple #[v,u]))(h1:cU w w' sent c p u)(hb:Below w.heap.size w w')(hv:∃ ao n cp,v = .slice ao n cp):cF w b sent r e w':=by
 subst hr;exact⟨hb,v,u,he,h1,hv⟩
theorem cF.later {w w1 w':World}{b:Nat}{sent:Nat→Addr}{r:Except (Nat×Nat) aA}{e:Ending}(h:cF w1 b sent r e w')(hb:Below w.heap.size w w1):cF w b sent r e w':=by
 obtain⟨h1,h2⟩:=h;refine ⟨aE hb h1,?_⟩
 cases r with
 | ok l=>exact h2
 | error q =>
  obtain⟨v,u,q1,q2,q3⟩:=h2;exact⟨v,u,q1,q2.from hb.size,q3⟩
theorem cF.tuple {w w':World}{b:Nat}{sent:Nat→Addr}{r:Except (Nat×Nat) aA}{e:Ending}(h:cF w b sent r e w'):∃ v u,e = .returned (.tuple #[v,u]):=by
 obtain⟨-,h⟩:=h
 cases r with
 | ok l =>
  obtain⟨v,h,-⟩:=h;exact⟨v,_,h⟩
 | error q =>
  obtain⟨v,u,h,-⟩:=h;exact⟨v,u,h⟩
structure mQ (n:Nat) (x:aD):Prop where
 place:x.place≤n
 len:x.text.length≤8192
 sub:x.kind=4→x.place+3+x.text.length≤n
 valid:jN x
 few:x.kind≤3
theorem eO.partI {n base cap:Nat}{ts:List aG}(F:eO n base cap ts)(i:Nat)(x:aD)(hx:x∈(aM ts i).parts):mQ n x :=
 ⟨(F.good.part i x hx).1,(F.good.part i x hx).2.1,(F.good.part i x hx).2.2,(F.good.parts i).valid x hx,by
  by_cases hi:i<ts.length
  ·exact (F.cls _ (List.mem_of_getElem? (y8 hi))).2.1 x hx
  ·unfold aM at hx;rw[List.getD_eq_getElem?_getD,List.getElem?_eq_none (by omega)] at hx
   simp at hx⟩
def rQ (k:Nat):Prop:=k≠1∧k≠2
def rX (_:Nat):Prop:=True
def lS (sent:Nat→Addr) (fn:FuncId) (ok:Nat→Prop) (S:Nat→Nat→aD→aL aA):Prop :=
 ∀ (w:World) (b g cap n base i d:Nat) (ts:List aG) (x:aD) (r:Except (Nat×Nat) aA),d≤31→eO n base cap ts→QSt w b g cap ts base i d→f8 w b sent→mQ n x→ok x.kind→Hid (S base d x=some r) →
  Calls Tryz.prog fn #[.pointer (some ⟨b,0,none⟩),.agg #[.int .i64 x.kind,.int .i64 x.place,.int .i64 x.num,.bool x.quoted,.string (bs x.text)]] w (cF w b sent r)
def zQ (S:Nat→Nat→aD→aL aA):Prop:=∀ (base d n:Nat) (x:aD) (l:aA),mQ n x→x.kind=4→S base d x=some (.ok l)→l.length≤200000
theorem JG (l:aA)(b:Nat)(v:Value)(w:World)(hb:b<w.heap.size)(h:NSl w b v l)(hl:l.length≤1000000) :
  Calls Tryz.prog 276 #[v] w fun e w'=>∃ v',e = .returned v'∧NSl w' b v' (aC 9 0 [] [l])∧Below w.heap.size w w':=by
 have HN:=Ng (bT 9 0 [] [l] b _ _ (by simp;omega) (KSl.new1 (w:=w) (by omega) (.inl h)) (by simp;omega) (by simp))
 obtain⟨g,c,rfl,-⟩:=id h;go_enter Tryz.func276,Tryz.ntmps276
 go_wp2_with fail
 refine HN.out.mono ?_;rintro e w1 ⟨v1,rfl,h1,h2⟩;go_wp2_with fail
 go_ret;exact⟨_,rfl,h1,aE ((Below.refl _ w).alloc (Nat.le_refl _) _) h2⟩
theorem LS (l:aA)(b:Nat)(v:Value)(w:World)(hb:b<w.heap.size)(h:NSl w b v l)(hl:l.length≤1000000) :
  Calls Tryz.prog 278 #[v] w fun e w'=>∃ v',e = .returned v'∧NSl w' b v' (aC 8 0 [] [l])∧Below w.heap.size w w':=by
 have HN:=Ng (bT 8 0 [] [l] b _ _ (by simp;omega) (KSl.new1 (w:=w) (by omega) (.inl h)) (by simp;omega) (by simp))
 obtain⟨g,c,rfl,-⟩:=id h;go_enter Tryz.func278,Tryz.ntmps278
 go_wp2_with fail
 refine HN.out.mono ?_;rintro e w1 ⟨v1,rfl,h1,h2⟩;go_wp2_with fail
 go_ret;exact⟨_,rfl,h1,aE ((Below.refl _ w).alloc (Nat.le_refl _) _) h2⟩
theorem xF (s:List UInt8)(b:Nat)(w:World)(hb:b<w.heap.size) :
  Calls Tryz.prog 256 #[.string (bs s)] w fun e w'=>∃ v',e = .returned v'∧NSl w' b v' (aC 1 1 s [])∧Below w.heap.size w w':=by
 have HN:=Ng (bT 1 1 s [] b _ w hb (KSl.nil _ _) (by simp) (by simp))
 go_enter Tryz.func256,Tryz.ntmps256
 go_wp2_with fail
 refine HN.out.mono ?_;rintro e w1 ⟨v1,rfl,h1,h2⟩;go_wp2_with fail
 go_ret;exact⟨_,rfl,h1,h2⟩
theorem BJ (k:Nat)(v1 v2 v3 v4:Value)(w:World) :
  Calls Tryz.prog 275 #[.agg #[.int .i64 k,v1,v2,v3,v4]] w fun e w'=>e = .returned (.bool (decide (k=1∨k=2)))∧Below w.heap.size w w':=by
 have hb:=(Below.refl _ w).alloc (Nat.le_refl _) (.cells #[.int .i64 k,v1,v2,v3,v4] 189)
 by_cases h1:k=1
 ·subst h1;go_enter Tryz.func275,Tryz.ntmps275
  go_wp2_with fail
  go_ret;exact⟨rfl,hb⟩
 ·have h1':((k:Int)==1)=false:=by rw[beq_eq_false_iff_ne];omega
  by_cases h2:k=2
  ·subst h2;go_enter Tryz.func275,Tryz.ntmps275
   go_wp2_with fail
   go_ret;exact⟨rfl,hb⟩
  ·have h2':((k:Int)==2)=false:=by rw[beq_eq_false_iff_ne];omega
   have h3:decide (k=1∨k=2)=false:=by simp [h1,h2]
   rw[h3];go_enter Tryz.func275,Tryz.ntmps275
   go_wp2_with fail
   go_ret;exact⟨rfl,hb⟩
theorem kJ {α:Type}{a:α}{r:Except (Nat×Nat) α}(h:oOk a=some r):r = .ok a:=by
 unfold oOk at h;injection h with h
 exact h.symm
theorem cU.form' {w w':World}{sent:Nat→Addr}{c p:Nat}{v:Value}(h:cU w w' sent c p v):∃ eb,v = .iface 61 (.pointer (some ⟨eb,0,none⟩)):=by
 obtain⟨eb,h,-⟩:=h;exact⟨eb,h⟩
theorem Hd {sent:Nat→Addr}{S:Nat→Nat→aD→aL aA}:lS sent 259 rQ (fun b d x=>dP (S b d) x):=by
 intro w b g cap n base i d ts x r hd F hQ hE hx hok hr;have hbl:=hQ.blt;have HR:=Ng (show dP (S base d) x=some r from hr.out)
 unfold dP at HR;have hb1:=(Below.refl _ w).alloc (Nat.le_refl _) (.cells #[.int .i64 x.kind,.int .i64 x.place,.int .i64 x.num,.bool x.quoted,.string (bs x.text)] 189);have hbl1:b<(w.alloc (.cells #[.int .i64 x.kind,.int .i64 x.place,.int .i64 x.num,.bool x.quoted,.string (bs x.text)] 189)).heap.size:=by simp;omega
 by_cases k3:x.kind=3
 ·rw[if_pos k3] at HR;have HX:=Ng (kJ HR.out);have HN:=Ng (bT 2 0 x.text [] b _ _ hbl1 (KSl.nil _ _) (by simp) (by simp))
  generalize x.kind=k at *;subst k3;clear HR hr hQ hE;go_enter Tryz.func259,Tryz.ntmps259
  go_wp2_with fail
  refine HN.out.mono ?_;rintro e w2 ⟨v2,rfl,h1,h2⟩;go_wp2_with fail
  go_ret2;exact cF.ok HX.out rfl h1 (aE hb1 h2)
 ·have h9:=hx.few;have:=uI hx.valid hok.1 hok.2 k3 (by omega) (by omega)
  omega
theorem Hb {S:Nat→Nat→aD→aL aA}{bs d:Nat}{x:aD}{l:aA}(hk:x.kind=3∨x.kind=5)(h:dP (S bs d) x=some (.ok l)):l.length≤10:=by
 unfold dP at h;split at h
 ·cases kJ h
  simp [aC]
 ·split at h
  ·cases kJ h
   simp [aC,pF]
  ·omega
theorem aL.go_ok {α β:Type}{x:aL α}{k:α→aL β}{a:α}{r:Except (Nat×Nat) β}(hx:x=some (.ok a))(h:x.go k=some r):k a=some r:=by
 subst hx;exact h
theorem aL.go_err {α β:Type}{x:aL α}{k:α→aL β}{e:Nat×Nat}{r:Except (Nat×Nat) β}(hx:x=some (.error e))(h:x.go k=some r):r = .error e:=by
 subst hx;injection h with h
 exact h.symm
theorem aL.go_none {α β:Type}{x:aL α}{k:α→aL β}{r:Except (Nat×Nat) β}(hx:x=none)(h:x.go k=some r):False:=by
 subst hx
 cases h
theorem GW {sent:Nat→Addr}{S:Nat→Nat→aD→aL aA}(hI:lS sent 259 rQ (fun b d x=>dP (S b d) x)):lS sent 252 rX (fun b d x=>eM (S b d) x):=by
 intro w b g cap n base i d ts x r hd F hQ hE hx hok hr;have hbl:=hQ.blt;have HR:=Ng (show eM (S base d) x=some r from hr.out)
 unfold eM at HR;have hb1:=(Below.refl _ w).alloc (Nat.le_refl _) (.cells #[.int .i64 x.kind,.int .i64 x.place,.int .i64 x.num,.bool x.quoted,.string (bs x.text)] 189);have hbl1:b<(w.alloc (.cells #[.int .i64 x.kind,.int .i64 x.place,.int .i64 x.num,.bool x.quoted,.string (bs x.text)] 189)).heap.size:=by simp;omega
 have tB:=Blk.new w [.int .i64 x.kind,.int .i64 x.place,.int .i64 x.num,.bool x.quoted,.string (bs x.text)] 189
 by_cases k1:x.kind=1∨x.kind=2
 ·rw[if_pos k1] at HR;have HX:=Ng (kJ HR.out);have k1':decide (x.kind=1∨x.kind=2)=true:=decide_eq_true k1;clear HR hr hE hI;go_enter Tryz.func252,Tryz.ntmps252
  go_wp2_with fail
  refine (BJ x.kind _ _ _ _ _).mono ?_;rintro e w2 ⟨rfl,hb2⟩;rw[k1'];have hb3:=aE hb1 hb2;have tc4:=(tB.below hb2).cell 4 rfl;have hsz:=hb2.size;go_wp2_with fail
  refine (qW x.text b w2 (by omega)).mono ?_
  rintro e w3 ⟨v3,rfl,h1,h2⟩;go_wp2_with fail
  go_ret2;exact cF.ok HX.out rfl h1 (aE hb3 h2)
 ·rw[if_neg k1] at HR;have k1':decide (x.kind=1∨x.kind=2)=false:=decide_eq_false k1;have HI:=Ng hI;clear hr hI;go_enter Tryz.func252,Tryz.ntmps252
  go_wp2_with fail
  refine (BJ x.kind _ _ _ _ _).mono ?_;rintro e w2 ⟨rfl,hb2⟩;rw[k1'];have hb3:=aE hb1 hb2;have tB2:=tB.below hb2;have tc0:=tB2.cell 0 rfl;have tc1:=tB2.cell 1 rfl;have tc2:=tB2.cell 2 rfl;have tc3:=tB2.cell 3 rfl;have tc4:=tB2.cell 4 rfl;have hsz:=hb3.size
  cases hq:dP (S base d) x with
  | none=>exact (aL.go_none hq HR.out).elim
  | some rc =>
   have HC:=Ng (HI.out w2 b g cap n base i d ts x rc hd F (hQ.below hb3) (hE.below hb3) hx ⟨fun e=>k1 (.inl e),fun e=>k1 (.inr e)⟩ (Ng hq))
   clear hb2 hQ hE tB HI;go_wp2_with fail
   refine HC.out.mono ?_;rintro e w3 ⟨hb4,h4⟩;have hb5:=aE hb3 hb4;have tc0':=aF hb4 tc0;have hsz5:=hb5.size
   cases rc with
   | error q =>
    have HX:=Ng (aL.go_err hq HR.out);obtain⟨v,u,rfl,h5,hfv⟩:=h4;have h6:=h5.from hb3.size
    obtain⟨eb,rfl⟩:=h5.form';clear h5 HR hq HC;go_wp2_with fail
    go_ret2;exact cF.bad (c:=q.1) (p:=q.2) HX.out rfl h6 hb5 (by first | assumption | exact⟨_,_,_,rfl⟩)
   | ok l =>
    obtain⟨v,rfl,h5⟩:=h4;have HX:=Ng (aL.go_ok hq HR.out)
    by_cases k3:x.kind=3∨x.kind=5
    ·have HX2:=Ng (kJ (show oOk (aC 9 0 [] [l])=some r from by have:=HX.out;rw[if_pos k3] at this;exact this))
     have HF:=Ng (JG l b v w3 (by omega) h5 (by have:=Hb k3 hq;omega))
     obtain⟨gv,cv,rfl,-⟩:=h5;clear HX HR hq HC
     by_cases k33:x.kind=3
     ·have ek:(x.kind:Int)=3:=by omega
      rw[ek] at tc0' ⊢;go_wp2_with fail
      refine HF.out.mono ?_;rintro e w6 ⟨v6,rfl,h7,h8⟩;go_wp2_with fail
      go_ret2;exact cF.ok HX2.out rfl h7 (aE hb5 h8)
     ·have ek:(x.kind:Int)=5:=by omega
      rw[ek] at tc0' ⊢;go_wp2_with fail
      refine HF.out.mono ?_;rintro e w6 ⟨v6,rfl,h7,h8⟩;go_wp2_with fail
      go_ret2;exact cF.ok HX2.out rfl h7 (aE hb5 h8)
    ·have HX2:=Ng (kJ (show oOk l=some r from by have:=HX.out;rw[if_neg k3] at this;exact this))
     have k3a:((x.kind:Int)==3)=false:=by rw[beq_eq_false_iff_ne];omega
     have k3b:((x.kind:Int)==5)=false:=by rw[beq_eq_false_iff_ne];omega
     have h6:=h5;obtain⟨gv,cv,rfl,-⟩:=h5;clear HX HR hq HC;go_wp2_with fail
     go_ret2;exact cF.ok HX2.out rfl h6 hb5
theorem wW {S:Nat→Nat→aD→aL aA}{bs d:Nat}{x:aD}{l:aA}(hk:x.kind=3∨x.kind=5∨x.kind=6)(h:eM (S bs d) x=some (.ok l)):l.length≤10:=by
 unfold eM dP at h;rw[if_neg (by omega)] at h
 rcases hk with hk | hk | hk <;> simp [hk,aL.go,oOk] at h <;> subst h <;> simp [aC,pF]
theorem KC {S:Nat→Nat→aD→aL aA}{bs d n:Nat}{x:aD}{l:aA}(hm:zQ S)(hx:mQ n x)(hk:x.kind=4)(h:eM (S bs d) x=some (.ok l)):l.length≤200002:=by
 unfold eM dP at h;rw[if_neg (by omega),if_neg (by omega),if_neg (by omega),if_neg (by omega)] at h
 cases hq:S bs d x with
 | none=>exact (aL.go_none hq h).elim
 | some rc =>
  cases rc with
  | error e=>cases aL.go_err hq h
  | ok m =>
   have h2:=aL.go_ok hq h;have h2:=kJ (show oOk _=some _ from h2)
   rw[if_neg (by omega)] at h2
   injection h2 with h2
   have:=hm bs d n x m hx hk hq
   rw[h2];omega
theorem Hx {sent:Nat→Addr}{S B:Nat→Nat→aD→aL aA}(K:FuncId)(hen:∀ args w,(callFunc K args).run Tryz.prog w = .ok (.enter K args) w)(hP:lS sent 252 rX (fun b d x=>eM (S b d) x))(okK:Nat→Prop)(hkk:∀ k,k≠1→k≠2→okK k)(hK:lS sent K okK B)(hm:zQ S)
  (w:World) (b g cap n base i d:Nat) (ts:List aG) (x:aD) (r:Except (Nat×Nat) aA) (hd:d≤31) (F:eO n base cap ts) (hQ:QSt w b g cap ts base i d) (hE:f8 w b sent) (hx:mQ n x) (hr:Hid (gU (S base d) (B base d) x=some r)) :
  Calls Tryz.prog 258 #[.pointer (some ⟨b,0,none⟩),.agg #[.int .i64 x.kind,.int .i64 x.place,.int .i64 x.num,.bool x.quoted,.string (bs x.text)],.func (.func K) #[.pointer (some ⟨b,0,none⟩)] #[]] w (cF w b sent r):=by
 have hbl:=hQ.blt;have HR:=Ng hr.out;unfold gU at HR;have hb1:=(Below.refl _ w).alloc (Nat.le_refl _) (.cells #[.int .i64 x.kind,.int .i64 x.place,.int .i64 x.num,.bool x.quoted,.string (bs x.text)] 189);have hbl1:b<(w.alloc (.cells #[.int .i64 x.kind,.int .i64 x.place,.int .i64 x.num,.bool x.quoted,.string (bs x.text)] 189)).heap.size:=by simp;omega
 have hlen:=hx.len
 by_cases k1:x.kind=1
 ·rw[if_pos k1] at HR;have HX:=Ng (kJ HR.out);have ek:(x.kind:Int)=1:=by omega
  rw[ek] at hb1 hbl1 ⊢;have HL:=Ng (xF x.text b _ hbl1);clear HR hr hE hP hK;go_enter Tryz.func258,Tryz.ntmps258
  go_wp2_with fail
  refine HL.out.mono ?_;rintro e w2 ⟨v2,rfl,h1,h2⟩;go_wp2_with fail
  go_ret2;exact cF.ok HX.out rfl h1 (aE hb1 h2)
 ·rw[if_neg k1] at HR;have k1':((x.kind:Int)==1)=false:=by rw[beq_eq_false_iff_ne];omega
  by_cases k2:x.kind=2
  ·rw[if_pos k2] at HR;have HX:=Ng (kJ HR.out);have ek:(x.kind:Int)=2:=by omega
   rw[ek] at hb1 hbl1 ⊢;have HL:=Ng (AY (bs x.text) (w.alloc (.cells #[.int .i64 2,.int .i64 x.place,.int .i64 x.num,.bool x.quoted,.string (bs x.text)] 189)) (by rw[aY];omega))
   rw[bK] at HL;clear HR hr hE hP hK;go_enter Tryz.func258,Tryz.ntmps258
   go_wp2_with fail
   refine HL.out.mono ?_;rintro e w2 ⟨rfl,h2⟩;have hb2:=aE hb1 h2;have hsz:=hb2.size;go_wp2_with fail
   refine (xF (cC x.text) b _ (by omega)).mono ?_
   rintro e w3 ⟨v3,rfl,h3,h4⟩;go_wp2_with fail
   go_ret2;exact cF.ok HX.out rfl h3 (aE hb2 h4)
  ·rw[if_neg k2] at HR;have k2':((x.kind:Int)==2)=false:=by rw[beq_eq_false_iff_ne];omega
   cases hqt:x.quoted with
   | false =>
    rw[hqt,if_pos rfl] at HR;have hQ1:=hQ.alloc (.cells #[.int .i64 x.kind,.int .i64 x.place,.int .i64 x.num,.bool x.quoted,.string (bs x.text)] 189);have hE1:=hE.below hb1;have HC:=Ng (hK _ b g cap n base i d ts x r hd F hQ1 hE1 hx (hkk _ k1 k2) HR);rw[hqt] at HC hb1 hbl1;clear HR hr hE hP hK hQ1 hE1;go_enter Tryz.func258,Tryz.ntmps258
    go_wp2_with fail
    refine HC.out.mono ?_;intro e w2 h2;have h3:=h2.later hb1;obtain⟨-,h4⟩:=h2
    cases r with
    | ok l =>
     obtain⟨v,rfl,-⟩:=h4;go_wp2_with fail
     go_ret2;exact h3
    | error q =>
     obtain⟨v,u,rfl,-⟩:=h4;go_wp2_with fail
     go_ret2;exact h3
   | true =>
    rw[hqt,if_neg (by simp)] at HR
    have hQ1:=hQ.alloc (.cells #[.int .i64 x.kind,.int .i64 x.place,.int .i64 x.num,.bool x.quoted,.string (bs x.text)] 189);have hE1:=hE.below hb1
    cases hq:eM (S base d) x with
    | none=>exact (aL.go_none hq HR.out).elim
    | some rc =>
     have HC:=Ng (hP _ b g cap n base i d ts x rc hd F hQ1 hE1 hx trivial (Ng hq));rw[hqt] at HC hb1 hbl1;clear hr hE hP hK hQ1 hE1;go_enter Tryz.func258,Tryz.ntmps258
     go_wp2_with fail
     refine HC.out.mono ?_;rintro e w3 ⟨hb4,h4⟩;have hb5:=aE hb1 hb4;have hsz5:=hb5.size
     cases rc with
     | error q =>
      have HX:=Ng (aL.go_err hq HR.out);obtain⟨v,u,rfl,h5,hfv⟩:=h4;have h6:=h5.from hb1.size
      obtain⟨eb,rfl⟩:=h5.form';clear h5 HR hq HC;go_wp2_with fail
      go_ret2;exact cF.bad (c:=q.1) (p:=q.2) HX.out rfl h6 hb5 (by first | assumption | exact⟨_,_,_,rfl⟩)
     | ok l =>
      obtain⟨v,rfl,h5⟩:=h4;have HX:=aL.go_ok hq HR.out;have HX:=Ng (kJ (show oOk _=some _ from HX))
      have hll:l.length≤200002:=by
       rcases hx.valid with h | h | h | h | h | h
       ·exact absurd h.1 k1
       ·exact absurd h k2
       ·exact Nat.le_trans (wW (.inl h.1) hq) (by omega)
       ·exact KC hm hx h hq
       ·exact Nat.le_trans (wW (.inr (.inl h.1)) hq) (by omega)
       ·exact Nat.le_trans (wW (.inr (.inr h)) hq) (by omega)
      have HF:=Ng (LS l b v w3 (by omega) h5 (by omega))
      obtain⟨gv,cv,rfl,-⟩:=h5;clear HR hq HC;go_wp2_with fail
      refine HF.out.mono ?_;rintro e w6 ⟨v6,rfl,h7,h8⟩;go_wp2_with fail
      go_ret2;exact cF.ok HX.out rfl h7 (aE hb5 h8)
open Go.Extern.Stop
open Go.Stop
open Go.Extern
theorem H2 (t:Addr)(w:World):(ReflectliteValue.unpack (.iface 117 (.pointer (some t)))).run Tryz.prog w
  = .ok (.agg #[.pointer (some ⟨18,117,none⟩),.pointer (some ⟨w.heap.size,0,none⟩),.int .u64 150]) (w.alloc (.cells #[.pointer (some t)] 117)):=by kernel_rfl
theorem KP (a : Addr) (w : World) : (ReflectliteValue.methodAny (ReflectliteValue.valueError "reflectlite.Value.Type" 0) (fun t _ _ _ => ReflectliteType.toType t) #[.agg #[.pointer (some ⟨18, 117, none⟩), .pointer (some a), .int .u64 150]]).run Tryz.prog w
  = .ok (.iface 134 (.agg #[.pointer (some ⟨18,117,none⟩)])) w:=by kernel_rfl
theorem FN (h : Value) (w : World) : (Go.method 415 134 (.agg #[h]) "Kind").run Tryz.prog w = .ok (308, h) w := by kernel_rfl
theorem KN (w:World):((ReflectliteType.abiMethod fun t=>(fun a:Nat=>Value.int IntKind.u8 (a:Int)) <$> Rtype.kind t) #[.pointer (some ⟨18,117,none⟩)]).run Tryz.prog w = .ok (.int .u8 22) w:=by kernel_rfl
theorem L4 (w:World):((ReflectliteType.abiMethod fun t=>(fun a:Nat=>Value.int IntKind.u8 (a:Int)) <$> Rtype.kind t) #[.pointer (some ⟨18,61,none⟩)]).run Tryz.prog w = .ok (.int .u8 22) w:=by kernel_rfl
theorem EF (z:Sem Value)(f:TypeId→Addr→Nat→Nat→Sem Value)(v:Value) :
  ReflectliteValue.method z f #[v]=(do match ← ReflectliteValue.parts v with | none=>z | some (t,a,fl)=>f t a fl (fl % 32)):=rfl
theorem CJ (a:Addr)(w:World):(ReflectliteValue.parts (.agg #[.pointer (some ⟨18,117,none⟩),.pointer (some a),.int .u64 150])).run Tryz.prog w = .ok (some (117,a,150)) w:=by kernel_rfl
theorem JB (a p:Addr)(W:World)(ha:W.cell? a=some (.pointer (some p))) :
  (ReflectliteValue.method (ReflectliteValue.valueError "reflectlite.Value.IsNil" 0) ReflectliteValue.isNil #[.agg #[.pointer (some ⟨18, 117, none⟩), .pointer (some a), .int .u64 150]]).run Tryz.prog W = .ok (.bool false) W := by
 rw[EF];simp only[Sem.run_bind,CJ,Result.andThen];simp [ReflectliteValue.isNil,loadVar,isAgg,underlying,Tryz.underlying117,ha,Result.andThen]
theorem Gd (h : Value) (w : World) : (Go.method 415 134 (.agg #[h]) "Elem").run Tryz.prog w = .ok (316, .agg #[h]) w := by kernel_rfl
theorem EO (h : Value) (w : World) : (Go.method 415 134 (.agg #[h]) "Implements").run Tryz.prog w = .ok (317, .agg #[h]) w := by kernel_rfl
theorem EN (h : Value) (w : World) : (Go.method 415 134 (.agg #[h]) "AssignableTo").run Tryz.prog w = .ok (314, .agg #[h]) w := by kernel_rfl
theorem Lg (w:World):(ReflectliteType.method ReflectliteType.elem #[.agg #[.pointer (some ⟨18,117,none⟩)]]).run Tryz.prog w = .ok (.iface 134 (.agg #[.pointer (some ⟨18,61,none⟩)])) w:=by kernel_rfl
theorem Fj (w : World) : (ReflectliteType.relation "Implements" ReflectliteType.implements_ #[.agg #[.pointer (some ⟨18, 61, none⟩)], .iface 134 (.agg #[.pointer (some ⟨18, 31, none⟩)])]).run Tryz.prog w = .ok (.bool true) w := by kernel_rfl
theorem Kn (v:Value)(w:World):(ReflectliteType.typeOf #[.iface 61 v]).run Tryz.prog w = .ok (.iface 134 (.agg #[.pointer (some ⟨18,61,none⟩)])) w:=by kernel_rfl
theorem Fo (w : World) : (ReflectliteType.relation "AssignableTo" ReflectliteType.assignableTo #[.agg #[.pointer (some ⟨18, 61, none⟩)], .iface 134 (.agg #[.pointer (some ⟨18, 61, none⟩)])]).run Tryz.prog w = .ok (.bool true) w := by kernel_rfl
theorem Jq (e:Addr)(w:World):(ReflectliteValue.unpack (.iface 61 (.pointer (some e)))).run Tryz.prog w
  = .ok (.agg #[.pointer (some ⟨18,61,none⟩),.pointer (some ⟨w.heap.size,0,none⟩),.int .u64 150]) (w.alloc (.cells #[.pointer (some e)] 61)):=by kernel_rfl
theorem IG (w:World):(Rtype.elem? 117).run Tryz.prog w = .ok (some 61) w:=by kernel_rfl
theorem M4 (p:Addr)(w:World):(ReflectliteValue.mk 61 p ReflectliteValue.flagAddr).run Tryz.prog w = .ok (.agg #[.pointer (some ⟨18,61,none⟩),.pointer (some p),.int .u64 406]) w:=by kernel_rfl
theorem Mb (a p:Addr)(W:World)(ha:W.cell? a=some (.pointer (some p))) :
  (ReflectliteValue.method (ReflectliteValue.valueError "reflectlite.Value.Elem" 0) ReflectliteValue.elem #[.agg #[.pointer (some ⟨18, 117, none⟩), .pointer (some a), .int .u64 150]]).run Tryz.prog W
   = .ok (.agg #[.pointer (some ⟨18,61,none⟩),.pointer (some p),.int .u64 406]) W:=by
 rw[EF];simp only[Sem.run_bind,CJ,Result.andThen];simp [ReflectliteValue.elem,loadVar,isAgg,underlying,Tryz.underlying117,ha,Result.andThen,IG,M4]
theorem MW (v x:Value):ReflectliteValue.set #[v,x]=(do
  let (some (dst,a,fl),some (src,b,_)):=(← ReflectliteValue.parts v,← ReflectliteValue.parts x)
   | unsupported (.noEntry "extern/(internal/reflectlite.Value).Set.zeroValue")
  if fl / ReflectliteValue.flagAddr % 2 == 0 then unsupported (.noEntry "extern/(internal/reflectlite.Value).Set.unaddressable")
  let val ← loadVar src b
  if ← Rtype.directlyAssignable dst src then storeVar dst a val
  else if ← Rtype.implements dst src then
   if (← Rtype.kind src)==20 then
    match val with
    | .nilIface => unsupported (.noEntry "extern/reflectlite: a nil value of one interface type handed on as a value of another")
    | _=>storeVar dst a val
   else storeVar dst a (.iface src val)
  else panicString ("reflectlite.Set: value of type " ++ (← Rtype.spelt src) ++ " is not assignable to type " ++ (← Rtype.spelt dst))
  pure (.tuple #[])):=rfl
theorem Kf (a:Addr)(w:World):(ReflectliteValue.parts (.agg #[.pointer (some ⟨18,61,none⟩),.pointer (some a),.int .u64 406])).run Tryz.prog w = .ok (some (61,a,406)) w:=by kernel_rfl
theorem LC (a:Addr)(w:World):(ReflectliteValue.parts (.agg #[.pointer (some ⟨18,61,none⟩),.pointer (some a),.int .u64 150])).run Tryz.prog w = .ok (some (61,a,150)) w:=by kernel_rfl
theorem Kc (w:World):(Rtype.directlyAssignable 61 61).run Tryz.prog w = .ok true w:=by kernel_rfl
theorem MX (ta b e:Addr)(old:Value)(W:World)(hb:W.cell? b=some (.pointer (some e)))(ht:W.cell? ta=some old)(hf:W.frozen? ta=false) :
  (ReflectliteValue.set #[.agg #[.pointer (some ⟨18,61,none⟩),.pointer (some ta),.int .u64 406],.agg #[.pointer (some ⟨18,61,none⟩),.pointer (some b),.int .u64 150]]).run Tryz.prog W
   = .ok (.tuple #[]) (W.setCell ta (.pointer (some e))):=by
 rw[MW];simp only[Sem.run_bind,Kf,LC,Result.andThen];simp [ReflectliteValue.flagAddr,loadVar,isAgg,underlying,Tryz.underlying61,hb,Result.andThen,Kc,storeVar,Value.cells,storeCells,Addr.add]
 rw[run_store Tryz.prog W ta _ _ (by rfl)]
 simp [ht,hf]
theorem L6 (e t:Addr)(a:Addr)(old:Value)(w:World)(ha:w.cell? a=some (.pointer (some t)))(ht0:w.cell? t=some old)(hf0:w.frozen? t=false)(r1:Value) :
  Calls Tryz.prog 141 #[.iface 61 (.pointer (some e)),r1,.agg #[.pointer (some ⟨18,117,none⟩),.pointer (some a),.int .u64 150],.iface 134 (.agg #[.pointer (some ⟨18,61,none⟩)])] w fun ev w'=>ev = .returned (.bool true) ∧
   w'=((w.alloc (.cells #[.pointer (some ⟨18,117,none⟩),.pointer (some a),.int .u64 150] 161)).alloc (.cells #[.pointer (some e)] 61)).setCell t (.pointer (some e)):=by
 have h1:=@run_callFunc_extern Tryz.prog 138 _ (fun args=>ReflectliteValue.unpack (args.getD 0 (.tuple #[]))) Tryz.func138 (by kernel_rfl) (by kernel_rfl) (by kernel_rfl) (by kernel_rfl)
 have h2:=@run_callFunc_extern Tryz.prog 53 _ ReflectliteType.typeOf Tryz.func53 (by kernel_rfl) (by kernel_rfl) (by kernel_rfl) (by kernel_rfl)
 have h3 := @run_callFunc_extern Tryz.prog 314 _ (ReflectliteType.relation "AssignableTo" ReflectliteType.assignableTo) Tryz.func314 (by kernel_rfl) (by kernel_rfl) (by kernel_rfl) (by kernel_rfl)
 have h4 := @run_callFunc_extern Tryz.prog 177 _ (ReflectliteValue.method (ReflectliteValue.valueError "reflectlite.Value.Elem" 0) ReflectliteValue.elem) Tryz.func177 (by kernel_rfl) (by kernel_rfl) (by kernel_rfl) (by kernel_rfl)
 have h5:=@run_callFunc_extern Tryz.prog 178 _ ReflectliteValue.set Tryz.func178 (by kernel_rfl) (by kernel_rfl) (by kernel_rfl) (by kernel_rfl)
 have tO:=Kn;have mA:=EN;have aP:=Fo;have vP:=Jq;have hal:=block_lt_of_cell ha;have htl:=block_lt_of_cell ht0;have hb1:=(Below.refl w.heap.size w).alloc (Nat.le_refl _) (.cells #[.pointer (some ⟨18,117,none⟩),.pointer (some a),.int .u64 150] 161);have el:=Mb a t (w.alloc (.cells #[.pointer (some ⟨18,117,none⟩),.pointer (some a),.int .u64 150] 161)) (aF hb1 ha);have hb2:=aE hb1 ((Below.refl _ _).alloc (Nat.le_refl _) (.cells #[.pointer (some e)] 61))
 have st:=MX t ⟨w.heap.size+1,0,none⟩ e old ((w.alloc (.cells #[.pointer (some ⟨18,117,none⟩),.pointer (some a),.int .u64 150] 161)).alloc (.cells #[.pointer (some e)] 61))
  (by rw[World.cell?_alloc_at _ _ _ _ (by simp)];rfl) (aF hb2 ht0) (kT hb2 ht0 hf0)
 go_enter Tryz.func141,Tryz.ntmps141
 go_wp2
 refine wp_loop_rounds 1 ?_;rw[rounds_succ];go_wp2
 go_ret;exact⟨rfl,rfl⟩
theorem Kr (v:Value)(tv:TypeId)(t:Addr)(w:World)(R:Ending→World→Prop)(hg:w.cell? ⟨8,0,none⟩=some (.iface 134 (.agg #[.pointer (some ⟨18,31,none⟩)])))
  (hne:∀ w,(binOp .eql 31 (.iface tv v) .nilIface).run Tryz.prog w = .ok (.bool false) w)
  (hR:Hid (∀ w9,w9=((w.alloc (.cells #[.pointer (some t)] 117)).alloc (.cells #[.pointer (some ⟨18,117,none⟩),.pointer (some ⟨w.heap.size,0,none⟩),.int .u64 150] 161)) →
   Calls Tryz.prog 141 #[.iface tv v,.iface 117 (.pointer (some t)),.agg #[.pointer (some ⟨18,117,none⟩),.pointer (some ⟨w.heap.size,0,none⟩),.int .u64 150],.iface 134 (.agg #[.pointer (some ⟨18,61,none⟩)])] w9 fun e w'=>∃ b,e = .returned (.bool b)∧R (.returned (.bool b)) w')) :
  Calls Tryz.prog 86 #[.iface tv v,.iface 117 (.pointer (some t))] w R:=by
 have h1:=@run_callFunc_extern Tryz.prog 138 _ (fun args=>ReflectliteValue.unpack (args.getD 0 (.tuple #[]))) Tryz.func138 (by kernel_rfl) (by kernel_rfl) (by kernel_rfl) (by kernel_rfl)
 have h2 := @run_callFunc_extern Tryz.prog 139 _ (ReflectliteValue.methodAny (ReflectliteValue.valueError "reflectlite.Value.Type" 0) (fun t _ _ _ => ReflectliteType.toType t)) Tryz.func139 (by kernel_rfl) (by kernel_rfl) (by kernel_rfl) (by kernel_rfl)
 have h3 := @run_callFunc_extern Tryz.prog 140 _ (ReflectliteValue.method (ReflectliteValue.valueError "reflectlite.Value.IsNil" 0) ReflectliteValue.isNil) Tryz.func140 (by kernel_rfl) (by kernel_rfl) (by kernel_rfl) (by kernel_rfl)
 have h4:=@run_callFunc_extern Tryz.prog 308 _ (ReflectliteType.abiMethod fun t=>do pure (.int .u8 (← Rtype.kind t))) Tryz.func308 (by kernel_rfl) (by kernel_rfl) (by kernel_rfl) (by kernel_rfl)
 have h5:=@run_callFunc_extern Tryz.prog 316 _ (ReflectliteType.method ReflectliteType.elem) Tryz.func316 (by kernel_rfl) (by kernel_rfl) (by kernel_rfl) (by kernel_rfl)
 have h6 := @run_callFunc_extern Tryz.prog 317 _ (ReflectliteType.relation "Implements" ReflectliteType.implements_) Tryz.func317 (by kernel_rfl) (by kernel_rfl) (by kernel_rfl) (by kernel_rfl)
 have f6:=H2;have f7:=KP;have mK:=FN;have mE:=Gd;have mI:=EO;have k1:=KN;have k2:=L4;have e1:=Lg;have i1:=Fj;have n8:=JB ⟨w.heap.size,0,none⟩ t ((w.alloc (.cells #[.pointer (some t)] 117)).alloc (.cells #[.pointer (some ⟨18,117,none⟩),.pointer (some ⟨w.heap.size,0,none⟩),.int .u64 150] 161)) (by simp)
 have hb2:=aE ((Below.refl w.heap.size w).alloc (Nat.le_refl _) (.cells #[.pointer (some t)] 117)) ((Below.refl _ _).alloc (Nat.le_refl _) (.cells #[.pointer (some ⟨18,117,none⟩),.pointer (some ⟨w.heap.size,0,none⟩),.int .u64 150] 161));have hg2:=aF hb2 hg;go_enter Tryz.func86,Tryz.ntmps86
 go_wp2_with fail
 refine (hR.out _ rfl).mono ?_;rintro e w9 ⟨b,rfl,h9⟩;have HR9:=Ng h9;clear h9;go_wp2_with fail
 exact HR9.out
theorem Jz (e t:Addr)(old:Value)(w:World)(hg:w.cell? ⟨8,0,none⟩=some (.iface 134 (.agg #[.pointer (some ⟨18,31,none⟩)])))(ht0:w.cell? t=some old)(hf0:w.frozen? t=false) :
  Calls Tryz.prog 86 #[.iface 61 (.pointer (some e)),.iface 117 (.pointer (some t))] w fun ev w'=>ev = .returned (.bool true)∧aB (At t.block) w w'∧w'.cell? t=some (.pointer (some e)):=by
 refine Kr _ _ t w _ hg (fun w=>by kernel_rfl) (Ng fun w9 h9=>?_)
 have hb2:Below w.heap.size w w9:=by
  rw[h9];exact aE ((Below.refl w.heap.size w).alloc (Nat.le_refl _) (.cells #[.pointer (some t)] 117)) ((Below.refl _ _).alloc (Nat.le_refl _) (.cells #[.pointer (some ⟨18,117,none⟩),.pointer (some ⟨w.heap.size,0,none⟩),.int .u64 150] 161))
 have hc:w9.cell? ⟨w.heap.size,0,none⟩=some (.pointer (some t)):=by
  rw[h9];simp
 refine (L6 e t ⟨w.heap.size,0,none⟩ old w9 hc (aF hb2 ht0) (kT hb2 ht0 hf0) _).mono ?_;rintro ev w' ⟨rfl,rfl⟩;have htl:=block_lt_of_cell ht0;refine ⟨true,rfl,rfl,?_,?_⟩
 ·refine aB.setCell (S:=At t.block) (p:=t) ?_ (fun _=>rfl) _
  exact ((aB.ofBelow (S:=At t.block) hb2).alloc _).alloc _
 ·have h1:=aF (aE hb2 (aE ((Below.refl _ w9).alloc (Nat.le_refl _) (.cells #[.pointer (some ⟨18,117,none⟩),.pointer (some ⟨w.heap.size,0,none⟩),.int .u64 150] 161)) ((Below.refl _ _).alloc (Nat.le_refl _) (.cells #[.pointer (some e)] 61)))) ht0;exact World.cell?_setCell_same' _ _ _ (by rw[h1];rfl)
end Go.Proofs.YtbpjobmpacjgcaaGreatDoor
namespace Go.Proofs.YtbpjobmpacjgcaaGreatDoor
set_option maxHeartbeats 8000000
set_option maxRecDepth 100000
open Go Go.RowKit
def gZ (w:World) (b g cap:Nat) (ts:List aG) (base d:Nat) (sent:Nat→Addr) (r:Except (Nat×Nat) (aA×Nat)) (e:Ending) (w':World):Prop :=
 aB (At b) w w'∧match r with
 | .ok (l,j)=>∃ v,e = .returned (.tuple #[v,.nilIface])∧NSl w' b v l∧QSt w' b g cap ts base j d
 | .error (c,p)=>∃ v u j,e = .returned (.tuple #[v,u])∧cU w w' sent c p u∧QSt w' b g cap ts base j d∧∃ ao n cp,v = .slice ao n cp
theorem gZ.ok {w w':World}{b g cap:Nat}{ts:List aG}{base d:Nat}{sent:Nat→Addr}{l:aA}{j:Nat}{v:Value}{r:Except (Nat×Nat) (aA×Nat)}{e:Ending}(hr:r = .ok (l,j))(he:e = .returned (.tuple #[v,.nilIface]))(h1:NSl w' b v l)(h2:QSt w' b g cap ts base j d)(hk:aB (At b) w w'):gZ w b g cap ts base d sent r e w':=by
 subst hr;exact⟨hk,v,he,h1,h2⟩
theorem gZ.bad {w w':World}{b g cap:Nat}{ts:List aG}{base d:Nat}{sent:Nat→Addr}{c p j:Nat}{v u:Value}{r:Except (Nat×Nat) (aA×Nat)}{e:Ending}(hr:r = .error (c,p))(he:e = .returned (.tuple #[v,u]))(h1:cU w w' sent c p u)(h2:QSt w' b g cap ts base j d)(hk:aB (At b) w w')(hv:∃ ao n cp,v = .slice ao n cp):gZ w b g cap ts base d sent r e w':=by
 subst hr;exact⟨hk,v,u,j,he,h1,h2,hv⟩
theorem gZ.tuple {w w':World}{b g cap:Nat}{ts:List aG}{base d:Nat}{sent:Nat→Addr}{r:Except (Nat×Nat) (aA×Nat)}{e:Ending}(h:gZ w b g cap ts base d sent r e w'):∃ v u,e = .returned (.tuple #[v,u]):=by
 obtain⟨-,h⟩:=h
 cases r with
 | ok y =>
  obtain⟨v,h,-⟩:=h;exact⟨v,_,h⟩
 | error q =>
  obtain⟨v,u,j,h,-⟩:=h;exact⟨v,u,h⟩
theorem gZ.after {w w1 w':World}{b g cap:Nat}{ts:List aG}{base d:Nat}{sent:Nat→Addr}{r:Except (Nat×Nat) (aA×Nat)}{e:Ending}(h:gZ w1 b g cap ts base d sent r e w')(hk:aB (At b) w w1):gZ w b g cap ts base d sent r e w':=by
 obtain⟨h1,h2⟩:=h;refine ⟨hk.same h1,?_⟩
 cases r with
 | ok y=>exact h2
 | error q =>
  obtain⟨v,u,j,q1,q2,q3⟩:=h2;exact⟨v,u,j,q1,q2.from hk.size,q3⟩
def o9 (sent:Nat→Addr) (fn:FuncId) (X:List aG→Nat→Nat→Nat→aJ aA):Prop :=
 ∀ (w:World) (b g cap n base i d:Nat) (ts:List aG) (r:Except (Nat×Nat) (aA×Nat)),d≤31→i<ts.length→eO n base cap ts→QSt w b g cap ts base i d→f8 w b sent→Hid (X ts base d i=some r) →
  Calls Tryz.prog fn #[.pointer (some ⟨b,0,none⟩)] w (gZ w b g cap ts base d sent r)
theorem f8.fresh {w:World}{b bp:Nat}{sent:Nat→Addr}(h:f8 w b sent)(hb:w.heap.size≤bp):f8 w bp sent:=by
 refine ⟨⟨h.env.env,fun c g hg e=>?_,h.env.mx,fun e=>?_⟩,h.et,fun e=>?_⟩
 ·have:=block_lt_of_cell (h.env.env c g hg)
  simp only at this;omega
 ·obtain⟨m,hm⟩:=h.env.mx;have:=block_lt_of_cell hm
  simp only at this;omega
 ·have:=block_lt_of_cell h.et
  simp only at this;omega
theorem FS (w:World)(eb c p k:Nat)(sent:Nat→Addr)(hE:bJ w eb sent c p)(hg:w.cell? ⟨8,0,none⟩=some (.iface 134 (.agg #[.pointer (some ⟨18,31,none⟩)])))(hp:p≤100000)(hk:k≤100000) :
  Calls Tryz.prog 41 #[.iface 61 (.pointer (some ⟨eb,0,none⟩)),.int .i64 k] w fun e w'=>∃ u,e = .returned u∧cU w w' sent c (k+p) u∧Below w.heap.size w w':=by
 have hb1:=(Below.refl _ w).alloc (Nat.le_refl _) (.cells #[.pointer none] 61);have hc:=(Blk.new w [.pointer none] 61).cell 0 rfl;have hf:=(Blk.new w [.pointer none] 61).free 0;have HA:=Ng (Jz ⟨eb,0,none⟩ ⟨w.heap.size,0,none⟩ (.pointer none) _ (aF hb1 hg) hc hf);have hE1:bJ _ eb sent c p:=hE.below hb1;have hel:=hE.lt;have hwr:IntKind.i64.wrap ((p:Int)+(k:Int))=((k+p:Nat):Int):=by rw[IntKind.wrap_i64];omega
 clear hc hf hg;go_enter Tryz.func41,Tryz.ntmps41
 go_wp2_with fail
 refine HA.out.mono ?_;rintro e w2 ⟨rfl,hK2,hc2⟩;have hE2:Blk w2 eb _:=hE1.kept hK2 (fun e=>by unfold At at e;omega)
 have hb2:Below w.heap.size w w2:=hb1.trans (hK2.below (by simp) (fun k hk e=>by unfold At at e;omega))
 have x0:=hE2.cell 0 rfl;have x1:=hE2.cell 1 rfl;clear hE1 hE HA;have hsz:=hb2.size;have hb3:=hb2.alloc hb2.size (.cells #[Value.int .i64 ((p:Int)+(k:Int)),.iface 286 (.pointer (some (sent c)))] 63);have hbk:=Blk.new w2 [Value.int .i64 ((p:Int)+(k:Int)),.iface 286 (.pointer (some (sent c)))] 63;have hkp:((k+p:Nat):Int)=(p:Int)+(k:Int):=by omega
 rw[hkp] at hwr;go_upto_region 3 with fail
 go_region
 all_goals (go_wp2_with fail)
 all_goals (go_ret)
 all_goals (refine ⟨_,rfl,⟨w2.heap.size,rfl,?_,hsz⟩,?_⟩)
 all_goals (first | exact hb3 | exact lH hb3 | (unfold bJ;rw[hkp];first | exact hbk | exact hbk.drew))
def wH (f base d:Nat) (s:List UInt8):aL aA :=
 match dA s (s.length+1) 0 with
 | .error (c,p)=>mT c (base+p)
 | .ok ts=>match cG f ts base d 0 with
  | none=>none
  | some (.error e)=>some (.error e)
  | some (.ok (l,i))=>if aIs ts i [0]=false then mT 108 (base+(aM ts i).place) else oOk l
def mL (w:World) (sent:Nat→Addr) (r:Except (Nat×Nat) aA) (e:Ending) (w':World):Prop :=
 Below w.heap.size w w'∧match r with
 | .ok l=>∃ v bp,e = .returned (.tuple #[v,.nilIface])∧w.heap.size≤bp∧bp<w'.heap.size∧NSl w' bp v l
 | .error (c,p)=>∃ v u,e = .returned (.tuple #[v,u])∧cU w w' sent c p u
theorem mL.bad {w w':World}{sent:Nat→Addr}{c p:Nat}{v u:Value}{r:Except (Nat×Nat) aA}{e:Ending}(hr:r = .error (c,p))(he:e = .returned (.tuple #[v,u]))(h1:cU w w' sent c p u)(hb:Below w.heap.size w w'):mL w sent r e w':=by
 subst hr;exact⟨hb,v,u,he,h1⟩
theorem mL.ok {w w':World}{sent:Nat→Addr}{l:aA}{v:Value}{bp:Nat}{r:Except (Nat×Nat) aA}{e:Ending}(hr:r = .ok l)(he:e = .returned (.tuple #[v,.nilIface]))(h0:w.heap.size≤bp)(h2:bp<w'.heap.size)(h1:NSl w' bp v l)(hb:Below w.heap.size w w'):mL w sent r e w':=by
 subst hr;exact⟨hb,v,bp,he,h0,h2,h1⟩
theorem F3 {sent:Nat→Addr}(f:Nat)(hL:o9 sent 42 (fun ts b d i=>cG f ts b d i))(w:World)(b base d:Nat)(s:List UInt8)(r:Except (Nat×Nat) aA)(hd:d≤31)(hs:base+s.length≤8192)(hE:f8 w b sent)(hcls:∀ ts,dA s (s.length+1) 0 = .ok ts→jO ts)(hr:Hid (wH f base d s=some r)) :
  Calls Tryz.prog 20 #[.string (bs s),.int .i64 base,.int .i64 d] w (mL w sent r):=by
 have HR:=Ng hr.out;unfold wH at HR;have hsz:(bs s).size≤8192:=by rw[aY];omega
 cases hl:dA s (s.length+1) 0 with
 | error q =>
  obtain⟨c,p⟩:=q;rw[hl] at HR
  have HX:=Ng (show r = .error (c,base+p) from by
   have:=HR.out
   injection this with this
   exact this.symm)
  have hpl:=Dm s (s.length+1) 0 c p hl;have HLx:=Ng (Lc (bs s) w hsz sent hE.env.env c p (by rw[bK,aY];exact hl))
  clear HR hr hL;go_enter Tryz.func20,Tryz.ntmps20
  go_wp2_with fail
  refine HLx.out.mono ?_;rintro e w1 ⟨eb,rfl,hEb,hb1⟩;have HS:=Ng (FS w1 eb c p base sent hEb (aF hb1 hE.et) (by omega) (by omega))
  go_wp2_with fail
  refine HS.out.mono ?_;rintro e w2 ⟨u,rfl,hP,hb2⟩;go_wp2_with fail
  go_ret2;exact mL.bad HX.out rfl (hP.from hb1.size) (aE hb1 hb2)
 | ok ts =>
  rw[hl] at HR;have HR:=Ng (show (match cG f ts base d 0 with | none=>none | some (.error e)=>some (.error e) | some (.ok (l,i))=>if aIs ts i [0]=false then mT 108 (base+(aM ts i).place) else oOk l)=some r from HR.out)
  have hg:=qQ s (by omega) ts hl
  have htx:=Lf s ts hl;have hcl:=hcls ts hl;clear hcls;have HLx:=Ng (KR (bs s) w hsz sent hE.env.env ts (by rw[bK,aY];exact hl) hg.pos)
  cases hq:cG f ts base d 0 with
  | none =>
   rw[hq] at HR;exact absurd HR.out (by simp)
  | some rl =>
   rw[hq] at HR;go_enter Tryz.func20,Tryz.ntmps20
   go_wp2_with fail
   refine HLx.out.mono ?_;rintro e w1 ⟨g,cap,rfl,hc1,hc2,hgl,hrow,hb1⟩;have F:eO s.length base cap ts:=⟨hg,hs,hc1,hc2,fun i=>by have:=htx i;omega,hcl⟩
   have hbx:=(Below.refl _ w1).alloc (Nat.le_refl _) (.cells #[.slice (some ⟨g,0,none⟩) ts.length cap,.int .i64 0,.int .i64 base,.int .i64 d] 79);have hQ:QSt (w1.alloc (.cells #[.slice (some ⟨g,0,none⟩) ts.length cap,.int .i64 0,.int .i64 base,.int .i64 d] 79)) w1.heap.size g cap ts base 0 d:=⟨Blk.new w1 _ _,w1,hrow,hgl,Nat.le_refl _,hbx⟩;have hE2:=((hE.below hb1).fresh (Nat.le_refl _)).below hbx;have HC:=Ng (hL _ w1.heap.size g cap s.length base 0 d ts rl hd hg.pos F hQ hE2 (Ng hq));clear hQ;go_wp2_with fail
   refine HC.out.mono ?_;rintro e w2 ⟨hK2,h4⟩;have hb3:Below w.heap.size w w2:=(aE hb1 hbx).trans (hK2.below (Nat.le_trans hb1.size hbx.size) (fun k hk e=>by have:=hb1.size;unfold At at e;omega))
   cases rl with
   | error q =>
    obtain⟨c,p⟩:=q
    have HX:=Ng (show r = .error (c,p) from by
     have:=HR.out
     injection this with this
     exact this.symm)
    obtain⟨v,u,j,rfl,hP,hQ2⟩:=h4;have hP2:=hP.from (Nat.le_trans hb1.size hbx.size)
    obtain⟨eb,rfl⟩:=hP.form';clear HR hr HC hP;go_wp2_with fail
    go_ret2;exact mL.bad HX.out rfl hP2 hb3
   | ok y =>
    obtain⟨l,j⟩:=y;obtain⟨v,rfl,hN,hQ2⟩:=h4;have hjl:j<ts.length:=((kG f).list hg base d 0 hg.pos).1 l j hq |>.2.1
    obtain⟨gv,cv,rfl,-⟩:=id hN;have hsz2:=hK2.size;have hbl2:=hQ2.blt;have hE3:=hE2.kept hK2;clear HC HLx hr;go_wp2_with fail
    refine (m6 F (hQ2.alloc _) hjl [0] _ _ (by decide) (show Blk _ _ [Value.int .i64 0] from Blk.new w2 _ _)).mono ?_
    rintro e w3 ⟨rfl,hb4⟩;have hb5:=aE ((Below.refl _ w2).alloc (Nat.le_refl _) (.cells #[Value.int .i64 0] 3)) hb4;have hb6:=hb3.trans (hb5.mono hb3.size)
    cases hx:aIs ts j [0] with
    | true =>
     have HX:=Ng (show r = .ok l from by
      have:=HR.out
      simp only[hx,Bool.true_eq_false,if_false] at this;exact kJ this)
     have hN2:=hN.below hb5;have hsz5:=hb5.size;clear HR;go_wp2_with fail
     go_ret2;exact mL.ok HX.out rfl hb1.size (by omega) hN2 hb6
    | false =>
     have HX:=Ng (show r = .error (108,base+(aM ts j).place) from by
      have:=HR.out
      simp only[hx,if_true] at this;injection this with this
      exact this.symm)
     have HFm:=Ng (qP F (hQ2.below hb5) hjl sent (hE3.below hb5).env.env);rw[hx,if_neg (by simp)] at HFm
     clear HR;go_wp2_with fail
     refine HFm.out.mono ?_;rintro e w6 ⟨eb,rfl,hEb,hle,hb7⟩;go_wp2_with fail
     go_ret2;exact mL.bad HX.out rfl ⟨eb,rfl,hEb,Nat.le_trans hb6.size hle⟩ (hb6.trans (hb7.mono hb6.size))
theorem pR (l:aA)(b:Nat)(v:Value)(w:World)(h:NSl w b v l) :
  Calls Tryz.prog 288 #[v] w fun e w'=>e = .returned (.bool (fX l))∧w'=w:=by
 obtain⟨g,cap,rfl,h1,h2,h3,h4,h5⟩:=h
 match l,h1,h5 with
 | [],_,_ =>
  go_enter Tryz.func288,Tryz.ntmps288
  go_wp2_with fail
  go_ret;exact⟨rfl,rfl⟩
 | [x],h1,h5 =>
  have c0:=h5 0 (.int .i64 x.kind) rfl
  by_cases hk:x.kind=1
  ·rw[hk] at c0;have hr:fX [x]=true:=by simp [fX,hk]
   rw[hr];simp only[List.length_cons,List.length_nil] at h1 ⊢;clear h5;go_enter Tryz.func288,Tryz.ntmps288
   go_wp2_with fail
   go_ret;exact⟨rfl,rfl⟩
  ·have hr:fX [x]=false:=by simp [fX,hk]
   have hk2:(x.kind==1)=false:=by rw[beq_eq_false_iff_ne];exact hk
   rw[hr];simp only[List.length_cons,List.length_nil] at h1 ⊢;clear h5 hk;go_enter Tryz.func288,Tryz.ntmps288
   go_wp2_with fail
   go_ret;exact⟨rfl,rfl⟩
 | x :: y :: r,h1,h5 =>
  have hr:fX (x :: y :: r)=false:=rfl;rw[hr];obtain⟨n,hn⟩:∃ n,(x :: y :: r).length=n+2:=⟨r.length,rfl⟩;rw[hn];have hk2:(((n+2:Nat):Int)==1)=false:=by rw[beq_eq_false_iff_ne];omega
  clear h1 h5 hr hn;go_enter Tryz.func288,Tryz.ntmps288
  go_wp2_with fail
  go_ret;exact⟨rfl,rfl⟩
theorem CB (L:List aA)(b:Nat)(v:Value)(w:World)(hbl:b<w.heap.size)(hn:L.length≤30000)(hsz:L.flatten.length≤300000)(htx:txP L.flatten≤800000000)(h:KSl w b v L)(hne:Hid (∀ l∈L,0<l.length)) :
  Calls Tryz.prog 274 #[v] w fun e w'=>∃ v',e = .returned v'∧NSl w' b v' (dW L)∧Below w.heap.size w w':=by
 obtain⟨k0,hk0,hk1,hk2,hk3⟩:=info_parts jB;obtain⟨ao,cap,rfl,hc1,hc2,hc3⟩:=h;obtain⟨n,hN⟩:∃ n,L.length=n:=⟨_,rfl⟩;have HN:=Ng hN;rw[hN] at hc1 hc3 hn ⊢;have HC3:=Ng hc3;clear hN hc3;go_enter Tryz.func274,Tryz.ntmps274
 go_wp2_with fail
 go_loopg [3,5,6,12] n (fun m o xx la c wr=>∃ k:Nat,m=n - k∧k≤n∧c = .int .i64 k∧aO wr w.heap.size b o ((L.take k).foldl a8 [])∧Below w.heap.size w wr)
 case atStart=>exact⟨0,rfl,Nat.zero_le _,rfl,aO.nil _ _ _,Below.refl _ _⟩
 case round =>
  obtain⟨k,rfl,hk,rfl,hO,hb⟩:=hrel;obtain⟨O,hOO⟩:∃ O,(L.take k).foldl a8 []=O:=⟨_,rfl⟩;have hfold:=pK (L.take k) [];have htk:=vI L k;rw[hOO] at hO hfold;simp only[List.flatten_nil,List.length_nil,e7,Nat.zero_add,List.length_take] at hfold;have hOl:O.length≤k:=by omega
  by_cases hlt:k<n
  ·obtain⟨g,rfl,hg1,hg2,hg3⟩:=HC3.out (by omega)
   obtain⟨x,hx⟩:∃ x,L[k]?=some x:=⟨_,List.getElem?_eq_getElem (by have:=HN.out;omega)⟩
   have HS:=Ng (show (L.take (k+1)).foldl a8 []=a8 O x by rw[CM L k x hx,hOO])
   obtain⟨u,hu,hul⟩:=hg3 k x hx;have hxp:=hne.out x (List.mem_of_getElem? hx);have hu:=aF hb hu
   have hx0:NSl wr b u x:=by
    rcases hul.below hb with h | ⟨_,rfl⟩
    ·exact h
    ·simp at hxp
   obtain⟨oa,oc,rfl⟩:=hO.form;have hx:=hx0;obtain⟨gx,cx,rfl,-⟩:=hx0;clear hul hOO;have hw1:IntKind.i64.wrap ((O.length:Int) - 1)=(O.length:Int) - 1:=by rw[IntKind.wrap_i64];omega
   cases hlx:fX x with
   | false =>
    have HJ:=Ng (Bm O x hlx);go_wp2_with fail
    refine (pR x b _ wr hx).mono ?_;rintro e w2 ⟨rfl,hw2⟩;have hw2:=hw2.symm;subst hw2;rw[hlx];clear hlx;obtain⟨us,u1,u2,u3⟩:=hO;have hOA:∀ o,(wr.alloc o).ownsRow w.heap.size 26 1 _ O.length us:=fun o=>by first | exact bM u2 (aB.ofBelow (S:=bW) ((Below.refl _ wr).alloc (Nat.le_refl _) o)) (fun _ _ _ e=>e) | (rw[← HM.out];exact bM u2 (aB.ofBelow (S:=bW) ((Below.refl _ wr).alloc (Nat.le_refl _) o)) (fun _ _ _ e=>e))
    have HN:=Ng hx;have hsz5:=hb.size;go_wp2_with (at_builtin;refine wpList_append_own _ rfl _ _ 25 rfl w.heap.size 26 k0 _ 1 24 Tryz.underlying25 hk0 hk1 hk2 hk3 rfl (by decide) _ _ _ rfl (hOA _) ⟨wr.heap.size,0,none⟩ 1 1 [.slice (some ⟨gx,0,none⟩) x.length cx] rfl rfl (cL (by simp)) (by intro u hu;simp at hu;subst hu;rfl) (by unfold maxLen;omega) (by omega) (by simp;omega) ?_;intro v6 w6 hown' hgrow _)
    obtain⟨hO6,hb6⟩:=aO.grown hsz5 u1 u2 u3 HN.out (by first | exact hown' | (rw[HM.out];exact hown')) hgrow
    have hb7:=hb.trans hb6;have hO7:aO w6 w.heap.size b v6 ((L.take (k+1)).foldl a8 []):=by rw[HS.out,HJ.out];exact hO6
    go_wp2_with fail
    go_roundg (n - (k+1))
    case measure=>omega
    case rel=>exact⟨k+1,rfl,by omega,by go_num,hO7,hb7⟩
   | true =>
    obtain⟨z,rfl,hz⟩:=sH hlx
    rcases List.eq_nil_or_concat O with rfl | ⟨Q,y,rfl⟩
    ·have HJ:=Ng (show a8 [] [z]=[]++[[z]] from rfl)
     simp only[List.length_nil] at hO hw1 ⊢;have hw0:decide ((0:Int)≤((0:Nat):Int) - 1)=false:=by decide
     go_wp2_with fail
     refine (pR [z] b _ wr hx).mono ?_;rintro e w2 ⟨rfl,hw2⟩;have hw2:=hw2.symm;subst hw2;rw[hlx];clear hlx;obtain⟨us,u1,u2,u3⟩:=hO;have hOA:∀ o,(wr.alloc o).ownsRow w.heap.size 26 1 _ 0 us:=fun o=>by first | exact bM u2 (aB.ofBelow (S:=bW) ((Below.refl _ wr).alloc (Nat.le_refl _) o)) (fun _ _ _ e=>e) | (rw[← HM.out];exact bM u2 (aB.ofBelow (S:=bW) ((Below.refl _ wr).alloc (Nat.le_refl _) o)) (fun _ _ _ e=>e))
     have HN:=Ng hx;have hsz5:=hb.size;go_wp2_with (at_builtin;refine wpList_append_own _ rfl _ _ 25 rfl w.heap.size 26 k0 _ 1 24 Tryz.underlying25 hk0 hk1 hk2 hk3 rfl (by decide) _ _ _ rfl (hOA _) ⟨wr.heap.size,0,none⟩ 1 1 [.slice (some ⟨gx,0,none⟩) 1 cx] rfl rfl (cL (by simp)) (by intro u hu;simp at hu;subst hu;rfl) (by unfold maxLen;omega) (by omega) (by simp;omega) ?_;intro v6 w6 hown' hgrow _)
     obtain⟨hO6,hb6⟩:=aO.grown hsz5 u1 u2 u3 HN.out (by first | exact hown' | (rw[HM.out];exact hown')) hgrow
     have hb7:=hb.trans hb6;have hO7:aO w6 w.heap.size b v6 ((L.take (k+1)).foldl a8 []):=by rw[HS.out,HJ.out];exact hO6
     go_wp2_with fail
     go_roundg (n - (k+1))
     case measure=>omega
     case rel=>exact⟨k+1,rfl,by omega,by go_num,hO7,hb7⟩
    ·rw[List.concat_eq_append] at *;obtain⟨og,uy,rfl,hol,hoc,hog,huy,hy,hfr⟩:=hO.last;obtain⟨n2,hn2⟩:∃ n2,Q.length=n2:=⟨_,rfl⟩;obtain⟨m1,hm1⟩:∃ m1,(Q++[y]).length=m1:=⟨_,rfl⟩;have HM:=Ng hm1;have HN2:=Ng hn2;rw[hm1] at hO hw1 hol hoc hOl ⊢;rw[hn2] at hol huy hfr;have hw2:IntKind.i64.wrap ((m1:Int) - 1)=(n2:Int):=by rw[hw1];omega
     have hlt2:(n2:Int)<(m1:Int):=by omega
     have hge2:(0:Int)≤(n2:Int):=by omega
     clear hm1 hn2 hw1;subst hol;obtain⟨gy,cy,rfl,-⟩:=id hy;go_wp2_with fail
     refine (pR [z] b _ wr hx).mono ?_;rintro e w2 ⟨rfl,hw3⟩;have hw3:=hw3.symm;subst hw3;rw[hlx];clear hlx;go_wp2_with fail
     refine (pR y b _ wr hy).mono ?_;rintro e w2 ⟨rfl,hw3⟩;have hw3:=hw3.symm;subst hw3
     cases hly:fX y with
     | false =>
      have HJ:=Ng (AB Q y [z] hly);clear hly;obtain⟨us,u1,u2,u3⟩:=hO;have hOA:∀ o,(wr.alloc o).ownsRow w.heap.size 26 1 _ (n2+1) us:=fun o=>by first | exact bM u2 (aB.ofBelow (S:=bW) ((Below.refl _ wr).alloc (Nat.le_refl _) o)) (fun _ _ _ e=>e) | (rw[← HM.out];exact bM u2 (aB.ofBelow (S:=bW) ((Below.refl _ wr).alloc (Nat.le_refl _) o)) (fun _ _ _ e=>e))
      have HN:=Ng hx;have hsz5:=hb.size;go_wp2_with (at_builtin;refine wpList_append_own _ rfl _ _ 25 rfl w.heap.size 26 k0 _ 1 24 Tryz.underlying25 hk0 hk1 hk2 hk3 rfl (by decide) _ _ _ rfl (hOA _) ⟨wr.heap.size,0,none⟩ 1 1 [.slice (some ⟨gx,0,none⟩) 1 cx] rfl rfl (cL (by simp)) (by intro u hu;simp at hu;subst hu;rfl) (by unfold maxLen;omega) (by omega) (by simp;omega) ?_;intro v6 w6 hown' hgrow _)
      obtain⟨hO6,hb6⟩:=aO.grown hsz5 u1 u2 u3 HN.out (by first | exact hown' | (rw[HM.out];exact hown')) hgrow
      have hb7:=hb.trans hb6;have hO7:aO w6 w.heap.size b v6 ((L.take (k+1)).foldl a8 []):=by rw[HS.out,HJ.out];exact hO6
      go_wp2_with fail
      go_roundg (n - (k+1))
      case measure=>omega
      case rel=>exact⟨k+1,rfl,by omega,by go_num,hO7,hb7⟩
     | true =>
      obtain⟨yn,rfl,hyn⟩:=sH hly;have HJ:=Ng (AC Q yn z hyn hz);clear hly;obtain⟨gx',cx',ex,-,-,-,hgx,hxr⟩:=id hx
      cases ex
      obtain⟨gy',cy',ey,-,-,-,hgy,hyr⟩:=id hy
      cases ey
      have x1:=hxr 1 (.int .i64 z.n) rfl;have x4:=hxr 4 (.string (bs z.text)) rfl;have y4:=hyr 4 (.string (bs yn.text)) rfl
      have htt:yn.text.length+z.text.length≤900000000:=by
       have h1:=(pK (L.take (k+1)) []).2.1;have h2:=vI L (k+1);rw[HS.out,HJ.out,List.flatten_append,dF,List.flatten_nil,e7,List.flatten_cons,List.flatten_nil,List.append_nil,eH,List.length_append] at h1;omega
      have hcat:bs yn.text++bs z.text=bs (yn.text++z.text):=rH _ _;have hz1:(bs yn.text).size≤900000000:=by rw[aY];omega
      have hz2:(bs z.text).size≤900000000:=by rw[aY];omega
      have hz3:¬ ((bs yn.text).size+(bs z.text).size > 9223372036854775807):=by omega
      have HN:=Ng (show ∀ w9:World,b<w9.heap.size→Calls Tryz.prog 7 #[.int .i64 1,.int .i64 z.n,.string (bs yn.text++bs z.text),.slice none 0 0] w9 fun e w'=>∃ v',e = .returned v'∧NSl w' b v' (aC 1 z.n (yn.text++z.text) [])∧Below w9.heap.size w9 w' from fun w9 h9=>by
       rw[hcat];exact bT 1 z.n (yn.text++z.text) [] b _ w9 h9 (KSl.nil _ _) (by simp) (by simp))
      clear hcat hxr hyr hgx hgy;have hbr:b<wr.heap.size:=Nat.lt_of_lt_of_le hbl hb.size
      have hogl:og<wr.heap.size:=by
       by_cases h:og<wr.heap.size
       ·exact h
       ·rw[show wr.cell? ⟨og,n2,none⟩=none from by simp [World.cell?,h]] at huy
        cases huy
      have i1:(n2:Int)<(n2:Int)+1:=by omega
      have i2:decide ((n2:Int)<(n2:Int)+1)=true:=by rw[decide_eq_true_eq];omega
      have i3:n2<n2+1:=by omega
      have i4:decide (n2<n2+1)=true:=by rw[decide_eq_true_eq];omega
      go_upto_region 7 with fail
      go_region_with (go_at_call 7;(with_reducible refine (HN.out _ (by first | exact hbr | (simp;exact hbr))).mono ?_);rintro e w9 ⟨v9,rfl,hN9,hb9⟩;obtain⟨g9,c9,rfl,-⟩:=id hN9;have x1':=aF hb9 x1;have x4':=aF hb9 x4;have y4':=aF hb9 y4;have huy':=aF hb9 huy;have hfr':=(World.frozen?_of_block (hb9.block og hogl)).trans hfr;have hbq:Below wr.heap.size wr w9:=(by first | exact hb9 | exact ((Below.refl _ wr).drew).trans hb9))
      all_goals (have hO8:=aO.setLast (hO.below hbl hbq) hN9)
      all_goals (rw[HN2.out] at hO8)
      all_goals (have hb8:=(hb.trans (hbq.mono hb.size)).setCell (p:=⟨og,n2,none⟩) hog (.slice (some ⟨g9,0,none⟩) (aC 1 z.n (yn.text++z.text) []).length c9))
      all_goals (have hO7:aO (w9.setCell ⟨og,n2,none⟩ (.slice (some ⟨g9,0,none⟩) (aC 1 z.n (yn.text++z.text) []).length c9)) w.heap.size b (.slice (some ⟨og,0,none⟩) (n2+1) oc) ((L.take (k+1)).foldl a8 []):=by rw[HS.out,HJ.out];exact hO8)
      all_goals (clear hO hO8 hN9 hb9 hbq HN x1 x4 y4 x1' x4' y4' huy huy' hfr hfr' hx hy)
      all_goals (go_wp2_with fail)
      all_goals (go_roundg (n - (k+1)))
      all_goals (first | omega | exact⟨k+1,rfl,by omega,by go_num,hO7,hb8⟩)
  ·obtain rfl:k=n:=by omega
   have hT:L.take k=L:=List.take_of_length_le (by have:=HN.out;omega)
   rw[hT] at hOO hfold;obtain⟨w1,rfl⟩:∃ w1,w1=wr:=⟨wr,rfl⟩;obtain⟨oa,oc,rfl⟩:=hO.form;have hlb:b<w1.heap.size:=Nat.lt_of_lt_of_le hbl hb.size;have HOK:=Ng (hO.ksl hbl);have hOne:=Ng (show ∀ y∈O,0<y.length from by rw[← hOO];exact wK L [] (fun y hy=>by cases hy) hne.out)
   have hOf:O.flatten.length≤400000:=by omega
   clear hO hne htk htx hsz;obtain⟨m,hm⟩:∃ m,O.length=m:=⟨_,rfl⟩;have HM:=Ng hm;rw[hm] at hfold hOl ⊢;clear hm;go_wp2_with fail
   go_loopg [7,9,59] m (fun mm f xx c wr=>∃ q:Nat,mm=m - q∧q≤m∧c = .int .i64 q∧aO wr w1.heap.size b f ((O.take q).filter fW)∧Below w1.heap.size w1 wr)
   case atStart=>exact⟨0,rfl,Nat.zero_le _,rfl,aO.nil _ _ _,Below.refl _ _⟩
   case round =>
    obtain⟨q,rfl,hq,rfl,hF,hb2⟩:=hrel;obtain⟨fa,fc,rfl⟩:=hF.form;have hfl:((O.take q).filter fW).length≤q:=Nat.le_trans (List.length_filter_le _ _) (by rw[List.length_take];omega)
    obtain⟨F,hFF⟩:∃ F,(O.take q).filter fW=F:=⟨_,rfl⟩;have HFF:=Ng hFF;rw[hFF] at hF hfl ⊢;clear hFF
    by_cases hlt2:q<m
    ·obtain⟨oa',oc',eo,d1,d2,d3⟩:=HOK.out
     cases eo
     obtain⟨g,rfl,hg1,hg2,hg3⟩:=d3 (by have:=HM.out;omega)
     obtain⟨x,hx⟩:∃ x,O[q]?=some x:=⟨_,List.getElem?_eq_getElem (by have:=HM.out;omega)⟩
     obtain⟨u,hu,hul⟩:=hg3 q x hx;have hxp:=hOne.out x (List.mem_of_getElem? hx);have hu:=aF hb2 hu
     have hx0:NSl wr b u x:=by
      rcases hul.below hb2 with h | ⟨_,rfl⟩
      ·exact h
      ·simp at hxp
     have hx:=hx0
     have hstep:=Ng (show (O.take (q+1)).filter fW=(if fW x=true then F++[x] else F) from by
      have hk2:=List.getElem?_eq_some_iff.1 ‹O[q]?=some x›;obtain⟨hk2,e⟩:=hk2;rw[List.take_succ_eq_append_getElem hk2,e,List.filter_append,HFF.out]
      cases hh:fW x <;> simp [hh])
     obtain⟨gx,cx,rfl,-⟩:=hx0;have hlb2:b<w1.heap.size:=hlb;clear hul d3 hg3
     cases hlx:fX x with
     | false =>
      have HJ:=Ng (show (O.take (q+1)).filter fW=F++[x] from by rw[hstep.out,if_pos (by simp [fW,hlx])])
      go_wp2_with fail
      refine (pR x b _ wr hx).mono ?_;rintro e w2 ⟨rfl,hw2⟩;have hw2:=hw2.symm;subst hw2;rw[hlx];clear hlx;obtain⟨us,u1,u2,u3⟩:=hF;have hOA:∀ o,(wr.alloc o).ownsRow w1.heap.size 26 1 _ F.length us:=fun o=>bM u2 (aB.ofBelow (S:=bW) ((Below.refl _ wr).alloc (Nat.le_refl _) o)) (fun _ _ _ e=>e)
      have HN:=Ng hx;have hsz5:=hb2.size;go_wp2_with (at_builtin;refine wpList_append_own _ rfl _ _ 25 rfl w1.heap.size 26 k0 _ 1 24 Tryz.underlying25 hk0 hk1 hk2 hk3 rfl (by decide) _ _ _ rfl (hOA _) ⟨wr.heap.size,0,none⟩ 1 1 [.slice (some ⟨gx,0,none⟩) x.length cx] rfl rfl (cL (by simp)) (by intro u hu;simp at hu;subst hu;rfl) (by unfold maxLen;omega) (by omega) (by simp;omega) ?_;intro v6 w6 hown' hgrow _)
      obtain⟨hO6,hb6⟩:=aO.grown hsz5 u1 u2 u3 HN.out hown' hgrow;have hb7:=hb2.trans hb6;go_wp2_with fail
      go_roundg (m - (q+1))
      case measure=>omega
      case rel=>exact⟨q+1,rfl,by omega,by go_num,by rw[HJ.out];exact hO6,hb7⟩
     | true =>
      obtain⟨z,rfl,hz⟩:=sH hlx;obtain⟨gx',cx',ex,-,-,-,hgx,hxr⟩:=id hx
      cases ex
      have x4:=hxr 4 (.string (bs z.text)) rfl
      by_cases hzt:z.text=[]
      ·have HJ:=Ng (show (O.take (q+1)).filter fW=F from by rw[hstep.out,if_neg (by simp [fW,hlx,hzt])])
       have hzz:(bs ([]:List UInt8)).toList=[]:=by rw[ByteArray.toList_eq];rfl
       rw[hzt] at x4;go_wp2_with fail
       refine (pR [z] b _ wr hx).mono ?_;rintro e w2 ⟨rfl,hw2⟩;have hw2:=hw2.symm;subst hw2;rw[hlx];clear hlx;go_wp2_with fail
       go_roundg (m - (q+1))
       case measure=>omega
       case rel=>exact⟨q+1,rfl,by omega,by go_num,by rw[HJ.out];exact hF,hb2⟩
      ·have HJ:=Ng (show (O.take (q+1)).filter fW=F++[[z]] from by rw[hstep.out,if_pos (by simp [fW,hzt])])
       have hzz:((bs z.text).toList==[])=false:=by rw[ByteArray.toList_eq,bK,beq_eq_false_iff_ne];exact hzt
       clear hzt;go_wp2_with fail
       refine (pR [z] b _ wr hx).mono ?_;rintro e w2 ⟨rfl,hw2⟩;have hw2:=hw2.symm;subst hw2;rw[hlx];clear hlx;obtain⟨us,u1,u2,u3⟩:=hF;have hOA:∀ o,(wr.alloc o).ownsRow w1.heap.size 26 1 _ F.length us:=fun o=>bM u2 (aB.ofBelow (S:=bW) ((Below.refl _ wr).alloc (Nat.le_refl _) o)) (fun _ _ _ e=>e)
       have HN:=Ng hx;have hsz5:=hb2.size;go_wp2_with (at_builtin;refine wpList_append_own _ rfl _ _ 25 rfl w1.heap.size 26 k0 _ 1 24 Tryz.underlying25 hk0 hk1 hk2 hk3 rfl (by decide) _ _ _ rfl (hOA _) ⟨wr.heap.size,0,none⟩ 1 1 [.slice (some ⟨gx,0,none⟩) 1 cx] rfl rfl (cL (by simp)) (by intro u hu;simp at hu;subst hu;rfl) (by unfold maxLen;omega) (by omega) (by simp;omega) ?_;intro v6 w6 hown' hgrow _)
       obtain⟨hO6,hb6⟩:=aO.grown hsz5 u1 u2 u3 HN.out hown' hgrow;have hb7:=hb2.trans hb6;go_wp2_with fail
       go_roundg (m - (q+1))
       case measure=>omega
       case rel=>exact⟨q+1,rfl,by omega,by go_num,by rw[HJ.out];exact hO6,hb7⟩
    ·obtain rfl:q=m:=by omega
     have hT2:O.take q=O:=List.take_of_length_le (by have:=HM.out;omega)
     have HFO:=Ng (show O.filter fW=F from by rw[← HFF.out,hT2])
     have hlen:=B0 O fW;rw[HFO.out] at hlen;have hb9:=hb.trans (hb2.mono hb.size);have hsz9:=hb9.size;have hb2z:=hb2.size
     by_cases hk0:k=0
     ·subst hk0
      have HX:=Ng (show dW L=aR [] from by
       have:L=[]:=List.length_eq_zero_iff.1 HN.out
       rw[this];rfl)
      have HC:=Ng (qW [] b wr (by omega))
      generalize F.length=fl at *;clear hOO;go_wp2_with fail
      refine HC.out.mono ?_;rintro e w3 ⟨v3,rfl,hN3,hb3⟩;obtain⟨g3,c3,rfl,-⟩:=id hN3;go_wp2_with fail
      go_ret;exact⟨_,rfl,by rw[HX.out];exact hN3,aE hb9 hb3⟩
     ·have hk1:((k:Int)==0)=false:=by rw[beq_eq_false_iff_ne];omega
      have HL:=Ng (show ∃ x xs,L=x :: xs from by
       cases L with
       | nil=>exact absurd HN.out.symm hk0
       | cons x xs=>exact⟨x,xs,rfl⟩)
      have hJA:dW L=(match O.filter fW with | []=>O.headD [] | [x]=>x | f=>aC 4 0 [] f):=by
       obtain⟨x,xs,rfl⟩:=HL.out;show (match ((x :: xs).foldl a8 []).filter fW with | []=>((x :: xs).foldl a8 []).headD [] | [x]=>x | f=>aC 4 0 [] f)=_
       rw[hOO]
      have HJ0:=Ng (show F=[]→dW L=O.headD [] from fun e=>by rw[hJA,HFO.out,e])
      have HJ1:=Ng (show ∀ x,F=[x]→dW L=x from fun x e=>by rw[hJA,HFO.out,e])
      have HJ2:=Ng (show ∀ x y r,F=x :: y :: r→dW L=aC 4 0 [] (x :: y :: r) from fun x y r e=>by rw[hJA,HFO.out,e])
      clear hJA HFO HFF hT hT2
      have hOpos:0<q:=by
       have h:=zD L [] (.inr (by obtain⟨x,xs,rfl⟩:=HL.out;simp))
       rw[hOO] at h;have:=List.length_pos_iff.2 h
       have:=HM.out
       omega
      rcases F with _ | ⟨y,_ | ⟨z,r⟩⟩
      ·have HJA:=Ng (HJ0.out rfl);obtain⟨g1,cap1,hd1,e1,hc1',hu1,hN1⟩:=HOK.out.first (by have:=HM.out;omega) hOne.out
       cases e1
       have hu1:=aF hb2 hu1;have hN1:=hN1.below hb2;rw[HM.out] at hc1';obtain⟨y0,hy0⟩:∃ y0,O.headD []=y0:=⟨_,rfl⟩;rw[hy0] at hN1 HJA;clear hy0;obtain⟨gd,gf,rfl,-⟩:=id hN1;simp only[List.length_nil];go_wp2_with fail
       go_ret;exact⟨_,rfl,by rw[HJA.out];exact hN1,hb9⟩
      ·have HJA:=Ng (HJ1.out _ rfl);have hF':aO wr w1.heap.size b (.slice fa 1 fc) ([]++[y]):=hF;obtain⟨og,uy,rfl,-,hoc,hog,huy,hy,-⟩:=hF'.last;simp only[List.length_cons,List.length_nil,Nat.zero_add] at huy hoc ⊢;obtain⟨gy,cy,rfl,-⟩:=id hy;clear hF hF';go_wp2_with fail
       go_ret;exact⟨_,rfl,by rw[HJA.out];exact hy,hb9⟩
      ·have HJA:=Ng (HJ2.out _ _ _ rfl);have HC:=Ng (bT 4 0 [] (y :: z :: r) b _ wr (by omega) (hF.ksl hlb) (by omega) (by omega))
       have HX:=Ng (show dW L=aC 4 0 [] (y :: z :: r) from HJA.out)
       clear HJ0 HJ1 HJ2;obtain⟨fl,hfl2⟩:∃ fl,(y :: z :: r).length=fl+2:=⟨r.length,rfl⟩;have k1:(((fl+2:Nat):Int)==1)=false:=by rw[beq_eq_false_iff_ne];omega
       have k2:(((fl+2:Nat):Int)==0)=false:=by rw[beq_eq_false_iff_ne];omega
       rw[hfl2] at HC ⊢;clear hF hfl2 hfl HJA hlen;go_wp2_with fail
       refine HC.out.mono ?_;rintro e w3 ⟨v3,rfl,hN3,hb3⟩;obtain⟨g3,c3,rfl,-⟩:=id hN3;go_wp2_with fail
       go_ret;exact⟨_,rfl,by rw[HX.out];exact hN3,aE hb9 hb3⟩
theorem yE {sent:Nat→Addr}(w:World)(b g cap n base i d:Nat)(ts:List aG)(t:aG)(tv ov:Value)(O:aA)(r:Except (Nat×Nat) aA)(F:eO n base cap ts)(hQ:QSt w b g cap ts base i d)(hE:f8 w b sent)(ht:iW w tv t)(hp:t.place≤n)(hN:NSl w b ov O)(hl:O.length≤1000000)(hr:Hid (iC base t O=some r)) :
  Calls Tryz.prog 255 #[.pointer (some ⟨b,0,none⟩),tv,ov] w (cF w b sent r):=by
 obtain⟨tp,rfl,-⟩:=ht;have hnum:=F.num;have hbl:=hQ.blt;have c2:=hQ.c2;have HX:=Ng (show (if cW O=true then mT 101 (base+t.place) else oOk O)=some r from hr.out)
 have hB:=Blk.new w [.int .i64 t.kind,.int .i64 t.place,tp] 113;have hb1:=(Below.refl _ w).alloc (Nat.le_refl _) (.cells #[.int .i64 t.kind,.int .i64 t.place,tp] 113);have hse:=hE.env.env 101 3 (by simp [cH])
 have hwr:IntKind.i64.wrap ((base:Int)+(t.place:Int))=(base:Int)+(t.place:Int):=by rw[IntKind.wrap_i64];omega
 obtain⟨og,oc,rfl,o1,o2,o3,o4,o5⟩:=id hN;obtain⟨m,hm⟩:∃ m,O.length=m:=⟨_,rfl⟩;have HM:=Ng hm;have hNo:=Ng hN;have hRo:=Ng (show mS w og O from o5)
 rw[hm] at o1 hl ⊢;have hnn:m≤1000000:=hl;clear hm hN o5 hr hQ hE F;go_enter Tryz.func255,Tryz.ntmps255
 go_wp2_with fail
 go_loopg [9,12] m (fun mm p c wr=>∃ k:Nat,mm=m - k∧k≤m∧c = .int .i64 k∧Below w.heap.size w wr∧Blk wr w.heap.size [.int .i64 t.kind,.int .i64 t.place,tp]∧Hid (cW (O.take k)=false))
 case atStart=>exact⟨0,rfl,Nat.zero_le _,rfl,hb1,hB,Ng (by simp [cW])⟩
 case round =>
  obtain⟨k,rfl,hkn,rfl,hbr,hBr,hnl⟩:=hrel
  by_cases hlt:k<m
  ·obtain⟨x,hx⟩:∃ x,O[k]?=some x:=⟨_,List.getElem?_eq_getElem (by have:=HM.out;omega)⟩
   have HT:=Ng (r5 hx hnl.out);obtain⟨n0,n1,n2,n3,n4⟩:=hRo.out.facts hx;have n0:=aF hbr n0;have n1:=aF hbr n1;have n2:=aF hbr n2;have n3:=aF hbr n3;have n4:=aF hbr n4;have hszr:=hbr.size;have hb2:=hbr.alloc hbr.size (.cells #[Value.int .i64 x.kind,.int .i64 x.n,.int .i64 x.k,.int .i64 x.size,.string (bs x.text)] 40);have hB2:=hBr.below ((Below.refl _ wr).alloc (Nat.le_refl _) (.cells #[Value.int .i64 x.kind,.int .i64 x.n,.int .i64 x.k,.int .i64 x.size,.string (bs x.text)] 40));clear hx
   by_cases q1:x.kind=1
   ·by_cases q2:2000<x.text.length
    ·have HX2:=Ng (show r = .error (101,base+t.place) from by
      have h1:=HX.out;rw[if_pos (rZ (k:=k+1) (by rw[HT.out,q1];simp [q2]))] at h1
      injection h1 with h1
      exact h1.symm)
     have q3:decide ((2000:Int)<((bs x.text).size:Int))=true:=by rw[decide_eq_true_eq,aY];omega
     have hse':=aF hbr hse;have hcb:=aF hbr c2;have hcp:=hBr.cell 1 rfl;rw[q1] at n0;rw[q1] at hb2 hB2;clear q1 q2 HX HT hse c2;have hcp2:=aF ((Below.refl _ wr).alloc (Nat.le_refl _) (.cells #[Value.int .i64 1,.int .i64 x.n,.int .i64 x.k,.int .i64 x.size,.string (bs x.text)] 40)) hcp;have hse2:=aF ((Below.refl _ wr).alloc (Nat.le_refl _) (.cells #[Value.int .i64 1,.int .i64 x.n,.int .i64 x.k,.int .i64 x.size,.string (bs x.text)] 40)) hse';have hcb2:=aF ((Below.refl _ wr).alloc (Nat.le_refl _) (.cells #[Value.int .i64 1,.int .i64 x.n,.int .i64 x.k,.int .i64 x.size,.string (bs x.text)] 40)) hcb;go_upto_region 5 with fail
     go_region
     go_wp2_with fail
     go_ret2;have hb4:=lH (hb2.alloc hb2.size (.cells #[Value.int .i64 ((base:Int)+(t.place:Int)),.iface 286 (.pointer (some (sent 101)))] 63));have hbk:=(Blk.new (wr.alloc (.cells #[Value.int .i64 1,.int .i64 x.n,.int .i64 x.k,.int .i64 x.size,.string (bs x.text)] 40)) [Value.int .i64 ((base:Int)+(t.place:Int)),.iface 286 (.pointer (some (sent 101)))] 63).drew;rw[World.size_alloc] at hbk;exact cF.bad HX2.out rfl ⟨_,rfl,by unfold bJ;rw[Int.natCast_add];exact hbk,by omega⟩ hb4 ⟨_,_,_,rfl⟩
    ·have q3:decide ((2000:Int)<((bs x.text).size:Int))=false:=by rw[decide_eq_false_iff_not,aY];omega
     have HT2:=Ng (show cW (O.take (k+1))=false by rw[HT.out];simp [q2])
     rw[q1] at n0;rw[q1] at hb2 hB2;clear q1 q2 HT;go_wp2_with fail
     go_roundg (m - (k+1))
     case measure=>omega
     case rel=>exact⟨k+1,rfl,by omega,by go_num,hb2,hB2,HT2⟩
   ·have q3:(x.kind==1)=false:=by rw[beq_eq_false_iff_ne];exact q1
    have HT2:=Ng (show cW (O.take (k+1))=false by rw[HT.out];simp [q1])
    clear q1 HT;go_wp2_with fail
    go_roundg (m - (k+1))
    case measure=>omega
    case rel=>exact⟨k+1,rfl,by omega,by go_num,hb2,hB2,HT2⟩
  ·obtain rfl:k=m:=by omega
   have HX2:=Ng (show r = .ok O from by
    have h1:=HX.out;have h2:=hnl.out;rw[List.take_of_length_le (by have:=HM.out;omega)] at h2
    rw[h2,if_neg (by simp)] at h1
    exact kJ h1)
   clear HX hnl;go_wp2_with fail
   go_ret2;have hNf:=hNo.out.below hbr;rw[HM.out] at hNf;exact cF.ok HX2.out rfl hNf hbr
end Go.Proofs.YtbpjobmpacjgcaaGreatDoor
