/- Dialect A's parser: commands with && and ||. -/
import Derived.Test.YtbpjobmpacjgcaaGreatDoorGQWordB
import Derived.Test.YtbpjobmpacjgcaaGreatDoorGQTurnG
import Derived.Test.YtbpjobmpacjgcaaGreatDoorGQKitG
namespace Go.Proofs.YtbpjobmpacjgcaaGreatDoor
set_option maxHeartbeats 16000000
set_option maxRecDepth 100000
open Go Go.RowKit
theorem aW.rem_le {n:Nat}{ts:List aG}(g:aW n ts){i:Nat}(hi:i<ts.length):aI ts i≤24577:=by
 have h:=Go.Proofs.YtbpjobmpacjgcaaGreatDoor.rem_le (ts:=ts) (Nat.zero_le i) (Nat.le_of_lt hi);have hwt:=g.wt;have hsm:=g.small;rw[pI] at h;omega
theorem Hm {sent:Nat→Addr}(f:Nat)(ih:∀ f'≤f,mM sent 144 (fun ts b d i=>eD f' ts b d i)):o9 sent 92 (fun ts b d i=>fJ (f+1) ts b d i):=by
 intro w b g cap n base i d ts r hd hi F hQ hE hr;have HR:=Ng (show fJ (f+1) ts base d i=some r from hr.out)
 rw[fJ] at HR;have hbl:=hQ.blt;have hi24:=F.good.rem_le hi;have IH:=Ng ih;clear hr ih
 cases hq:eD f ts base d i with
 | none=>rw[hq] at HR;exact absurd HR.out (by simp [aJ.go])
 | some rc =>
  rw[hq] at HR;have HD:=Ng (IH.out f (Nat.le_refl _) w b g cap n base i d ts rc hd hi F hQ hE (Ng hq));go_enter Tryz.func92,Tryz.ntmps92
  go_wp2_with fail
  refine HD.out.mono ?_;intro e w2 hp
  have hstart:∃ ao an ac er m0,e = .returned (.tuple #[.slice ao an ac,er])∧((∃ k fk l,m0=ts.length - k+1∧er = .nilIface∧k<ts.length∧fk≤f∧0<l.length∧l.length+8 * aI ts k≤8 * aI ts i∧aB (At b) w w2∧QSt w2 b g cap ts base k d∧NSl w2 b (.slice ao an ac) l∧Hid (gJ fk ts base d k l=some r))∨(m0=0∧∃ c p k,r = .error (c,p)∧cU w w2 sent c p er∧QSt w2 b g cap ts base k d∧aB (At b) w w2)):=by
   cases rc with
   | error e0 =>
    obtain⟨c0,p0⟩:=e0;obtain⟨hK2,u,j',rfl,hPE,hS2⟩:=hp;exact⟨none,0,0,u,0,rfl,.inr ⟨rfl,c0,p0,j',eP HR.out,hPE,hS2,hK2⟩⟩
   | ok q =>
    obtain⟨l,j⟩:=q;obtain⟨z1,z2,z3,z4,-⟩:=((kG f).pipe F.good base d i hi).1 l j hq;obtain⟨hK2,v,rfl,hN,hS2⟩:=hp;have hN2:=hN;obtain⟨ga,gc,rfl,-⟩:=hN;exact⟨_,_,_,.nilIface,_,rfl,.inl ⟨j,f,l,rfl,rfl,z2,Nat.le_refl _,z3,z4,hK2,hS2,hN2,Ng HR.out⟩⟩
  obtain⟨ao,an,ac,er,m0,rfl,hst⟩:=hstart;clear hp HR hq hQ HD;go_wp2_with fail
  go_loopg [4,5,6,7] m0 (fun m o er kd nx wr=>(∃ k fk l,m=ts.length - k+1∧er = .nilIface∧k<ts.length∧fk≤f∧0<l.length∧l.length+8 * aI ts k≤8 * aI ts i∧aB (At b) w wr∧QSt wr b g cap ts base k d∧NSl wr b o l∧Hid (gJ fk ts base d k l=some r))∨(m=0∧∃ c p k,r = .error (c,p)∧(∃ ao an ac,o = .slice ao an ac)∧cU w wr sent c p er∧QSt wr b g cap ts base k d∧aB (At b) w wr))
  case atStart =>
   rcases hst with h | ⟨h,c,p,k,h1,h2⟩
   ·exact .inl h
   ·exact .inr ⟨h,c,p,k,h1,⟨_,_,_,rfl⟩,h2⟩
  case round =>
   clear hst
   rcases hrel with ⟨k,fk,l,rfl,rfl,hk,hfk,hl0,hl6,hK,hS,hN,hr⟩ | ⟨rfl,c,p,k,rfl,⟨oa,on,oc,rfl⟩,⟨eb,rfl,q2,q3⟩,hS,hK⟩
   ·obtain⟨fk,rfl⟩:∃ q,fk=q+1:=by
     cases fk with
     | zero=>have:=hr.out;rw[gJ] at this;cases this
     | succ q=>exact⟨q,rfl⟩
    have HR:=Ng hr.out;rw[gJ] at HR;clear hr;go_wp2_with fail
    refine (m6 F (hS.alloc _) hk [4,5] _ _ (by decide) (show Blk _ _ [Value.int .i64 4,Value.int .i64 5] from Blk.new wr _ _)).mono ?_
    rintro e w3 ⟨rfl,hb3⟩;have hb4:=aE ((Below.refl _ wr).alloc (Nat.le_refl _) _) hb3;have hS3:=hS.below hb4;have hN3:=hN.below hb4;have hK3:=hK.andBelow hb4;clear hS hN hK hb3 hb4
    by_cases x0:aIs ts k [4,5]=true
    ·rw[if_pos x0] at HR;rw[x0];obtain⟨s1,s2⟩:=uY F.good hk (by decide) x0
     rw[s1] at HR;clear x0;obtain⟨kd,hkd⟩:∃ kd:Int,(if aIs ts k [5]=true then (26:Int) else 25)=kd:=⟨_,rfl⟩
     rw[hkd] at HR;have HKD:=Ng hkd;go_wp2_with fail
     refine (m6 F (hS3.alloc _) hk [5] _ _ (by decide) (show Blk _ _ [Value.int .i64 5] from Blk.new w3 _ _)).mono ?_
     rintro e w4 ⟨rfl,hb4⟩;have hb5:=aE ((Below.refl _ w3).alloc (Nat.le_refl _) _) hb4;have hS4:=hS3.below hb5;have hN4:=hN3.below hb5;have hK4:=hK3.andBelow hb5;clear hS3 hN3 hK3 hb4 hb5 hkd;have hj:=vB (ts:=ts) [1] s2;have hrk:=rem_le (ts:=ts) (show k≤k+1 by omega) (Nat.le_of_lt s2)
     obtain⟨j,hjj⟩:∃ j,fK ts [1] (k+1)=j:=⟨_,rfl⟩;rw[hjj] at HR hj;have hrj:=rem_le (ts:=ts) hj.1 (Nat.le_of_lt hj.2)
     cases x4:aIs ts k [5] with
     | true =>
      obtain rfl:(26:Int)=kd:=by have:=HKD.out;rw[x4,if_pos rfl] at this;exact this
      clear HKD x4;go_wp2_with fail
      refine (lL F hS4 hk).mono ?_;rintro e w5 ⟨rfl,hS5,hK5⟩;rw[s1] at hS5;have hN5:=hN4.kept hK5;have hK6:=hK4.same hK5;have hsz6:=hK6.size;clear hS4 hN4 hK4 hK5;go_wp2_with fail
      refine (uN F (hS5.alloc _) s2 [1] _ _ (by decide) (by decide) (show Blk _ _ [Value.int .i64 1] from Blk.new w5 _ _) (by omega)).mono ?_
      rintro e w6 ⟨rfl,hS6,hK7⟩;rw[hjj] at hS6;have hK8:=((aB.refl (At b) w5).alloc _).same hK7;have hN6:=hN5.kept hK8;have hK9:=hK6.same hK8;have hE6:=hE.kept hK9;have hsz9:=hK9.size;clear hS5 hN5 hK6 hK7 hK8
      cases hq:eD fk ts base d j with
      | none =>
       rw[hq] at HR;exact absurd HR.out (by simp [aJ.go])
      | some rc =>
       rw[hq] at HR;have HD:=Ng (IH.out fk (by omega) w6 b g cap n base j d ts rc hd hj.2 F hS6 hE6 (Ng hq))
       clear hS6 hE6;obtain⟨ga,gc,rfl,-⟩:=id hN6;go_wp2_with fail
       refine HD.out.mono ?_
       cases rc with
       | error e0 =>
        obtain⟨c0,p0⟩:=e0;have HX:=Ng (eP HR.out);clear HR hq HD;rintro e w7 ⟨hKa,u,j',rfl,⟨eb,rfl,q2,q3⟩,hS7⟩;have hN7:=hN6.kept hKa;have hKb:=hK9.same hKa;go_wp2_with fail
        go_roundg 0
        case measure=>omega
        case rel=>exact .inr ⟨rfl,c0,p0,j',HX.out,⟨_,_,_,rfl⟩,⟨eb,rfl,q2,by omega⟩,hS7,hKb⟩
       | ok q =>
        obtain⟨l2,k2⟩:=q;obtain⟨z1,z2,z3,z4,-⟩:=((kG fk).pipe F.good base d j hj.2).1 l2 k2 hq;have HX:=Ng HR.out;clear HR hq HD;rintro e w7 ⟨hKa,v7,rfl,hN2,hS7⟩;have hN7:=hN6.kept hKa;have hKb:=hK9.same hKa;have hszb:=hKb.size;clear hN6 hK9 hKa;obtain⟨va,vc,rfl,-⟩:=id hN2;have HN:=Ng (bT 26 0 [] [l,l2] b _ _ (by simp;omega) (KSl.new2 (w:=w7) (by omega) (.inl hN7) (.inl hN2)) (by simp;omega) (by simp))
        clear hN7 hN2;go_wp2_with fail
        refine HN.out.mono ?_;rintro e w8 ⟨v8,rfl,hN8,hb8⟩;have hb9:=aE ((Below.refl _ w7).alloc (Nat.le_refl _) _) hb8;obtain⟨g4,c4,rfl,-⟩:=id hN8;have hS9:=hS7.below hb9;have hKc:=hKb.andBelow hb9;go_wp2_with fail
        go_roundg (ts.length - k2+1)
        case measure=>omega
        case rel=>exact .inl ⟨k2,fk,_,rfl,rfl,z2,by omega,nS _ _ _ _,by rw[(jF _ _ _ _ _).1];omega,hKc,hS9,hN8,HX⟩
     | false =>
      obtain rfl:(25:Int)=kd:=by have:=HKD.out;rw[x4,if_neg (by simp)] at this;exact this
      clear HKD x4;go_wp2_with fail
      refine (lL F hS4 hk).mono ?_;rintro e w5 ⟨rfl,hS5,hK5⟩;rw[s1] at hS5;have hN5:=hN4.kept hK5;have hK6:=hK4.same hK5;have hsz6:=hK6.size;clear hS4 hN4 hK4 hK5;go_wp2_with fail
      refine (uN F (hS5.alloc _) s2 [1] _ _ (by decide) (by decide) (show Blk _ _ [Value.int .i64 1] from Blk.new w5 _ _) (by omega)).mono ?_
      rintro e w6 ⟨rfl,hS6,hK7⟩;rw[hjj] at hS6;have hK8:=((aB.refl (At b) w5).alloc _).same hK7;have hN6:=hN5.kept hK8;have hK9:=hK6.same hK8;have hE6:=hE.kept hK9;have hsz9:=hK9.size;clear hS5 hN5 hK6 hK7 hK8
      cases hq:eD fk ts base d j with
      | none =>
       rw[hq] at HR;exact absurd HR.out (by simp [aJ.go])
      | some rc =>
       rw[hq] at HR;have HD:=Ng (IH.out fk (by omega) w6 b g cap n base j d ts rc hd hj.2 F hS6 hE6 (Ng hq))
       clear hS6 hE6;obtain⟨ga,gc,rfl,-⟩:=id hN6;go_wp2_with fail
       refine HD.out.mono ?_
       cases rc with
       | error e0 =>
        obtain⟨c0,p0⟩:=e0;have HX:=Ng (eP HR.out);clear HR hq HD;rintro e w7 ⟨hKa,u,j',rfl,⟨eb,rfl,q2,q3⟩,hS7⟩;have hN7:=hN6.kept hKa;have hKb:=hK9.same hKa;go_wp2_with fail
        go_roundg 0
        case measure=>omega
        case rel=>exact .inr ⟨rfl,c0,p0,j',HX.out,⟨_,_,_,rfl⟩,⟨eb,rfl,q2,by omega⟩,hS7,hKb⟩
       | ok q =>
        obtain⟨l2,k2⟩:=q;obtain⟨z1,z2,z3,z4,-⟩:=((kG fk).pipe F.good base d j hj.2).1 l2 k2 hq;have HX:=Ng HR.out;clear HR hq HD;rintro e w7 ⟨hKa,v7,rfl,hN2,hS7⟩;have hN7:=hN6.kept hKa;have hKb:=hK9.same hKa;have hszb:=hKb.size;clear hN6 hK9 hKa;obtain⟨va,vc,rfl,-⟩:=id hN2;have HN:=Ng (bT 25 0 [] [l,l2] b _ _ (by simp;omega) (KSl.new2 (w:=w7) (by omega) (.inl hN7) (.inl hN2)) (by simp;omega) (by simp))
        clear hN7 hN2;go_wp2_with fail
        refine HN.out.mono ?_;rintro e w8 ⟨v8,rfl,hN8,hb8⟩;have hb9:=aE ((Below.refl _ w7).alloc (Nat.le_refl _) _) hb8;obtain⟨g4,c4,rfl,-⟩:=id hN8;have hS9:=hS7.below hb9;have hKc:=hKb.andBelow hb9;go_wp2_with fail
        go_roundg (ts.length - k2+1)
        case measure=>omega
        case rel=>exact .inl ⟨k2,fk,_,rfl,rfl,z2,by omega,nS _ _ _ _,by rw[(jF _ _ _ _ _).1];omega,hKc,hS9,hN8,HX⟩
    ·have x0:aIs ts k [4,5]=false:=by simpa using x0
     rw[x0,if_neg (by simp)] at HR
     rw[x0];have HX:=Ng (gI HR.out);go_wp2_with fail
     go_ret2;exact gZ.ok HX.out rfl hN3 hS3 hK3
   ·go_wp2_with fail
    go_ret2;exact gZ.bad rfl rfl ⟨eb,rfl,q2,q3⟩ hS hK ⟨_,_,_,rfl⟩
def QTn (w:World) (b g cap:Nat) (ts:List aG) (base d k:Nat) (sent:Nat→Addr) (r:Except (Nat×Nat) (aA×Nat)) (e:Ending) (w':World):Prop :=
 aB (At b) w w'∧match r with
 | .ok (l,j)=>∃ v,e = .returned (.tuple #[.agg #[.int .i64 (k:Int),v],.nilIface])∧NSl w' b v l∧QSt w' b g cap ts base j d
 | .error (c,p)=>∃ v u j,e = .returned (.tuple #[.agg #[.int .i64 (k:Int),v],u])∧(∃ ao n cp,v = .slice ao n cp)∧cU w w' sent c p u∧QSt w' b g cap ts base j d
theorem QTn.ok {w w':World}{b g cap:Nat}{ts:List aG}{base d k:Nat}{sent:Nat→Addr}{l:aA}{j:Nat}{v:Value}{r:Except (Nat×Nat) (aA×Nat)}{e:Ending}(hr:r = .ok (l,j))(he:e = .returned (.tuple #[.agg #[.int .i64 (k:Int),v],.nilIface]))(h1:NSl w' b v l)(h2:QSt w' b g cap ts base j d)(hk:aB (At b) w w'):QTn w b g cap ts base d k sent r e w':=by
 subst hr;exact⟨hk,v,he,h1,h2⟩
theorem QTn.bad {w w':World}{b g cap:Nat}{ts:List aG}{base d k:Nat}{sent:Nat→Addr}{c p j:Nat}{v u:Value}{r:Except (Nat×Nat) (aA×Nat)}{e:Ending}(hr:r = .error (c,p))(he:e = .returned (.tuple #[.agg #[.int .i64 (k:Int),v],u]))(hv:∃ ao n cp,v = .slice ao n cp)(h1:cU w w' sent c p u)(h2:QSt w' b g cap ts base j d)(hk:aB (At b) w w'):QTn w b g cap ts base d k sent r e w':=by
 subst hr;exact⟨hk,v,u,j,he,hv,h1,h2⟩
theorem FP:∀ args w,(callFunc 222 args).run Tryz.prog w = .ok (.enter 222 args) w:=enters_of Tryz.func222 (by kernel_rfl) rfl
theorem Bo {n:Nat}{ts:List aG}(g:aW n ts){f b d i:Nat}{l:aA}{e:Nat}(hi:i<ts.length)(h:wordOf (cZ (fun x=>bD f b d x)) ts b i=some (.ok (l,e))):i<e∧e<ts.length∧0<l.length∧l.length+5+8 * aI ts e≤8 * aI ts i∧l.length≤200000:=by
 obtain⟨h1,h2,h3,h4,-⟩:=(nQ g hi (l8 (g.parts i) ((kG f).subQ g b d i))).1 l e h;have:=g.rem_le hi
 exact⟨by omega,h2,h3,h4,by omega⟩
theorem BI {sent:Nat→Addr}(f:Nat)(hV:lT sent 222 (fun b d t=>cZ (fun x=>bD f b d x) b t))(w:World)(b g cap n base i d:Nat)(ts:List aG)(r:Except (Nat×Nat) (aA×Nat))(hd:d≤31)(hi:i<ts.length)(F:eO n base cap ts)(hQ:QSt w b g cap ts base i d)(hE:f8 w b sent)(hr:Hid (wordOf (cZ (fun x=>bD f base d x)) ts base (aSk ts i)=some r)) :
  Calls Tryz.prog 220 #[.pointer (some ⟨b,0,none⟩)] w (QTn w b g cap ts base d (aM ts i).kind sent r):=by
 have hmf:∀ (fn:Fn) (first cap:Array Value) (w:World),(Instr.makeFunc fn first cap).run Tryz.prog w = .ok (.func fn first cap) w:=fun _ _ _ _=>rfl
 have hbl:=hQ.blt;have hf0:=DN;have HV:=Ng hV;clear hV;have hj:=(rI (ts:=ts) hi).2;obtain⟨j,hjj⟩:∃ j,aSk ts i=j:=⟨_,rfl⟩;rw[hjj] at hr hj;obtain⟨tk,htk⟩:∃ tk,(aM ts i).kind=tk:=⟨_,rfl⟩;rw[htk];have hx:=World.alloc_heap_new w (.cells #[Value.int .i64 0,.slice none 0 0] 216);have hb0:=(Below.refl w.heap.size w).alloc (Nat.le_refl _) (.cells #[Value.int .i64 0,.slice none 0 0] 216);have hS0:=hQ.below hb0;have hE0:=hE.below hb0;have hK0:=(aB.refl (At b) w).andBelow hb0;clear hQ hE;go_enter Tryz.func220,Tryz.ntmps220
 go_wp2_with fail
 refine (pP F hS0 hi).mono ?_;rintro e w1 ⟨v,rfl,⟨v2,rfl,-⟩,hb1⟩;rw[htk];have hx1:=(hb1.block _ (lt_of_block hx)).trans hx;have hS1:=hS0.below hb1;have hE1:=hE0.below hb1;have hK1:=hK0.andBelow hb1;clear hx hb0 hS0 hE0 hK0 hb1 htk;go_wp2_with fail
 refine (lL F hS1 hi).mono ?_;rintro e w2 ⟨rfl,hS2,hK2⟩;rw[hjj] at hS2;have hx2:=(hK2.block _ (lt_of_block hx1) (fun e=>by unfold At at e;omega)).trans hx1
 have hE2:=hE1.kept hK2;have hK3:=hK1.same hK2;clear hx1 hS1 hE1 hK1 hK2;have HD:=Ng (I7 (V:=fun b d t=>cZ (fun x=>bD f b d x) b t) 222 FP HV.out w2 b g cap n base j d ts r hd hj F hS2 hE2 (Ng hr.out))
 have hsz2:=hK3.size;have hlt2:=lt_of_block hx2;go_wp2_with fail
 refine HD.out.mono ?_
 cases r with
 | error e0 =>
  obtain⟨c0,p0⟩:=e0;rintro e w5 ⟨hK5,v,u,j',rfl,⟨eb,rfl,q2,q3⟩,hS5,va,vn,vc,rfl⟩;have hx5:=(hK5.block _ (lt_of_block hx2) (fun e=>by unfold At at e;omega)).trans hx2
  have hBx5:Blk w5 w.heap.size [Value.int .i64 0,.slice none 0 0]:=⟨_,hx5⟩;have x0:=hBx5.cell 0 rfl;have x1:=hBx5.cell 1 rfl;have f0:=hBx5.free 0;have f1:=hBx5.free 1;have hK6:=hK3.same hK5;go_wp2_with fail
  have hB9:=(hBx5.set 0 (.int .i64 (tk:Int))).set 1 (.slice va vn vc);have hb9:=((Below.refl w.heap.size w5).setCell (p:=⟨w.heap.size,0,none⟩) (Nat.le_refl _) (.int .i64 (tk:Int))).setCell (p:=⟨w.heap.size,1,none⟩) (Nat.le_refl _) (.slice va vn vc);have hK9:=(hK6.setCell (p:=⟨w.heap.size,0,none⟩) (fun h=>absurd h (by simp)) (.int .i64 (tk:Int))).setCell (p:=⟨w.heap.size,1,none⟩) (fun h=>absurd h (by simp)) (.slice va vn vc)
  have hS9:=hS5.belowB hb9 hbl;unfold bJ at q2;have hE9:=(q2.other (p:=⟨w.heap.size,0,none⟩) (by show w.heap.size≠eb;omega) (.int .i64 (tk:Int))).other (p:=⟨w.heap.size,1,none⟩) (by show w.heap.size≠eb;omega) (.slice va vn vc)
  refine bodyPost_ret (eY (p:=2) (u:=3) (g:=w.heap.size) (cs:=[.int .i64 (tk:Int),.slice va vn vc]) rfl _ _ _ rfl hB9 Tryz.underlying216 rfl (by kernel_rfl)) rfl (QTn.bad rfl rfl ⟨_,_,_,rfl⟩ ⟨eb,rfl,hE9,by omega⟩ hS9 hK9)
 | ok q =>
  obtain⟨l,e2⟩:=q;rintro e w5 ⟨hK5,v,rfl,hN,hS5⟩;obtain⟨ga,gc,rfl,-⟩:=id hN;have hx5:=(hK5.block _ (lt_of_block hx2) (fun e=>by unfold At at e;omega)).trans hx2
  have hBx5:Blk w5 w.heap.size [Value.int .i64 0,.slice none 0 0]:=⟨_,hx5⟩;have x0:=hBx5.cell 0 rfl;have x1:=hBx5.cell 1 rfl;have f0:=hBx5.free 0;have f1:=hBx5.free 1;have hK6:=hK3.same hK5;go_wp2_with fail
  have hB9:=(hBx5.set 0 (.int .i64 (tk:Int))).set 1 (.slice (some ⟨ga,0,none⟩) l.length gc);have hb9:=((Below.refl w.heap.size w5).setCell (p:=⟨w.heap.size,0,none⟩) (Nat.le_refl _) (.int .i64 (tk:Int))).setCell (p:=⟨w.heap.size,1,none⟩) (Nat.le_refl _) (.slice (some ⟨ga,0,none⟩) l.length gc);have hK9:=(hK6.setCell (p:=⟨w.heap.size,0,none⟩) (fun h=>absurd h (by simp)) (.int .i64 (tk:Int))).setCell (p:=⟨w.heap.size,1,none⟩) (fun h=>absurd h (by simp)) (.slice (some ⟨ga,0,none⟩) l.length gc)
  have hS9:=hS5.belowB hb9 hbl
  have hN9:=hN.of_block (w':=(w5.setCell ⟨w.heap.size,0,none⟩ (.int .i64 (tk:Int))).setCell ⟨w.heap.size,1,none⟩ (.slice (some ⟨ga,0,none⟩) l.length gc)) fun g cur fz h4 _=>by
   have hne:g≠w.heap.size:=fun e=>by
    subst e;have h9:=h4.symm.trans hx5;injection h9 with h9
    injection h9 with _ h9 _
    exact absurd h9 (by decide)
   exact (Below.heap_setCell _ _ _ _ hne).trans (Below.heap_setCell _ _ _ _ hne)
  refine bodyPost_ret (eY (p:=2) (u:=3) (g:=w.heap.size) (cs:=[.int .i64 (tk:Int),.slice (some ⟨ga,0,none⟩) l.length gc]) rfl _ _ _ rfl hB9 Tryz.underlying216 rfl (by kernel_rfl)) rfl (QTn.ok rfl rfl hN9 hS9 hK9)
theorem BG {ts:List aG}{i:Nat}(h:lM ts i=true):(aM ts i).kind≤100∧(aM ts i).kind≠0:=by
 unfold lM at h;rw[m7] at h;simp only[List.mem_cons,List.not_mem_nil,or_false] at h;omega
def Ep (sent:Nat→Addr) (X:List aG→Nat→Nat→Nat→aA→aJ aA):Prop :=
 ∀ (w:World) (b g cap n base i d:Nat) (ts:List aG) (c:aA) (vc:Value) (r:Except (Nat×Nat) (aA×Nat)),d≤31→i<ts.length→eO n base cap ts→QSt w b g cap ts base i d→f8 w b sent→NSl w b vc c→c.length≤1000000→Hid (X ts base d i c=some r) →
  Calls Tryz.prog 201 #[.pointer (some ⟨b,0,none⟩),vc] w (fB w b g cap ts base d sent r)
theorem Hl {sent:Nat→Addr}(f:Nat)(ih:∀ f'<f,lT sent 222 (fun b d t=>cZ (fun x=>bD f' b d x) b t)):Ep sent (fun ts b d i c=>cI f ts b d i c []):=by
 intro w b g cap n base i d ts c vc r hd hi F hQ hE hc hcl hr;have hbl:=hQ.blt;have hlen:=F.good.len;have hi24:=F.good.rem_le hi;obtain⟨i0,hi0,hz0,hz1,hz2⟩:=info_parts Bu;have IH:=Ng ih;have HC:=Ng hc;have HR0:=Ng (show cI f ts base d i c []=some r from hr.out)
 obtain⟨gv,cv,rfl,-⟩:=hc;generalize hcz:c.length=z at *;have HCZ:=Ng hcz;clear ih hcz hr;go_enter Tryz.func201,Tryz.ntmps201
 go_wp2_with fail
 go_loopg [6,7,8] (ts.length - i) (fun m v t er wr=>∃ (k fk:Nat) (L:List (Nat×aA)),m=ts.length - k∧k<ts.length∧fk≤f∧L.length≤k∧Hid (∀ t∈L,t.1≤100∧t.2.length≤200000)∧aB (At b) w wr∧QSt wr b g cap ts base k d∧gB wr w.heap.size b v L∧Hid (cI fk ts base d k c L=some r))
 case atStart=>exact⟨i,f,[],rfl,hi,Nat.le_refl _,by simp,Ng (fun _ h=>nomatch h),aB.refl _ _,hQ,gB.nil _ _ _,HR0⟩
 case round =>
  clear hQ HR0 hi;obtain⟨k,fk,L,rfl,hk,hfk,hL1,hL2,hK,hS,hO,hr⟩:=hrel
  obtain⟨fk,rfl⟩:∃ q,fk=q+1:=by
   cases fk with
   | zero=>have:=hr.out;rw[cI] at this;cases this
   | succ q=>exact⟨q,rfl⟩
  obtain⟨ao,acap,rfl⟩:=hO.form;have HP:=Ng hr.out;rw[cI] at HP;clear hr;go_wp2_with fail
  refine (wO F hS hk).mono ?_;rintro e w1 ⟨rfl,hb1⟩;have hS1:=hS.below hb1;have hO1:=hO.below hbl hb1;have hK1:=hK.andBelow hb1;have hE1:=hE.kept hK1;have hsz:=hK1.size;clear hS hO hK hb1
  by_cases x0:lM ts k=true
  ·rw[if_pos x0] at HP;obtain⟨hkd,hk0⟩:=BG x0;rw[x0];obtain⟨s1,s2⟩:=sX F.good hk hk0;have hj:=(rI (ts:=ts) hk).2
   cases hq:wordOf (cZ (fun x=>bD fk base d x)) ts base (aSk ts k) with
   | none =>
    rw[hq] at HP;exact absurd HP.out (by simp [aJ.go])
   | some rc =>
    rw[hq] at HP;have HD:=Ng (BI fk (IH.out fk (by omega)) w1 b g cap n base k d ts rc hd hk F hS1 hE1 (Ng hq))
    clear hS1 x0;obtain⟨kd,hkk⟩:∃ kd,(aM ts k).kind=kd:=⟨_,rfl⟩;rw[hkk] at HD HP hkd;go_wp2_with fail
    refine HD.out.mono ?_
    cases rc with
    | error e0 =>
     obtain⟨c0,p0⟩:=e0;have HX:=Ng (eP HP.out);clear HP hq HD;rintro e w5 ⟨hK5,v,u,j',rfl,⟨va,vn,vc,rfl⟩,⟨eb,rfl,q2,q3⟩,hS5⟩;go_wp2_with fail
     go_ret2;unfold bJ at q2;exact fB.bad HX.out rfl ⟨eb,rfl,q2.alloc _,by omega⟩ (hS5.alloc _) ((hK1.same hK5).alloc _)
    | ok q =>
     obtain⟨l,e2⟩:=q;obtain⟨y1,y2,y3,y4,y5⟩:=Bo F.good hj hq;have HX:=Ng (show cI fk ts base d e2 c (L++[(kd,l)])=some r from HP.out)
     rw[s1] at y1;clear HP hq HD;rintro e w5 ⟨hK5,v,rfl,hN,hS5⟩;have hK6:=hK1.same hK5;have HN:=Ng hN;obtain⟨ga,gc,rfl,-⟩:=hN;have hO5:=hO1.kept hbl hK5;have hsz5:=hK6.size
     have HL:=Ng (show ∀ t∈L++[(kd,l)],t.1≤100∧t.2.length≤200000 from fun t ht=>by
      rcases List.mem_append.1 ht with ht | ht
      ·exact hL2.out t ht
      ·rw[List.mem_singleton] at ht;subst ht;exact⟨hkd,by show l.length≤200000;omega⟩)
     generalize hlz:l.length=lz at *;have HLZ:=Ng hlz;clear hK5 hO1 hK1 hlz hL2;go_upto_region 6 with fail
     have hb6:=(Below.refl w5.heap.size w5).alloc (Nat.le_refl _) (.cells #[.int .i64 (kd:Int),.slice (some ⟨ga,0,none⟩) lz gc] 216);have hB6:=Blk.new w5 [.int .i64 (kd:Int),.slice (some ⟨ga,0,none⟩) lz gc] 216;obtain⟨w6,hw6⟩:∃ w6,w5.alloc (.cells #[.int .i64 (kd:Int),.slice (some ⟨ga,0,none⟩) lz gc] 216)=w6:=⟨_,rfl⟩;rw[hw6] at hb6 ⊢;have hB6:Blk w6 w5.heap.size [.int .i64 (kd:Int),.slice (some ⟨ga,0,none⟩) lz gc]:=by rw[← hw6];exact hB6
     have HN6:=Ng (HN.out.below hb6);have hS6:=hS5.below hb6;have hK7:=hK6.andBelow hb6;have hsz6:=hb6.size;have t0:=hB6.cell 0 rfl;have t1:=hB6.cell 1 rfl;obtain⟨us,u1,u2,u3⟩:=hO5.below hbl hb6;generalize w5.heap.size=tb at *;clear hO5 hS5 HN hw6 hb6 hB6 hK6;have hOA:∀ o,(w6.alloc o).ownsRow w.heap.size 216 2 _ L.length _:=fun o=>bM u2 (aB.ofBelow (S:=bW) ((Below.refl _ w6).alloc (Nat.le_refl _) o)) (fun _ _ _ e=>e)
     have hsz7:=hK7.size;go_wp2_with (at_builtin;refine wpList_append_own _ rfl _ _ 214 rfl w.heap.size 216 i0 _ 2 32 Tryz.underlying214 hi0 hz0 hz1 hz2 rfl (by decide) _ _ _ rfl (hOA _) ⟨w6.heap.size,0,none⟩ 1 1 [.int .i64 (kd:Int),.slice (some ⟨ga,0,none⟩) lz gc] rfl rfl (cL (by simp)) (by intro u hu;simp at hu;rcases hu with rfl | rfl <;> rfl) (by unfold maxLen;omega) (by omega) (by simp;omega) ?_;intro v7 w7 hown' hgrow _)
     obtain⟨hO7,hb7⟩:=gB.grown (w0:=w) (t:=(kd,l)) hsz7 u1 u2 u3 (by have:=HN6.out;exact this) hown' hgrow
     have hS7:=hS6.belowB hb7 hbl;have hK8:=hK7.belowB hb7 (Nat.le_refl _);go_wp2_with fail
     go_roundg (ts.length - e2)
     case measure=>omega
     case rel=>exact⟨e2,fk,L++[(kd,l)],rfl,y2,by omega,by simp;omega,HL,hK8,hS7,hO7,HX⟩
  ·have x0:lM ts k=false:=by simpa using x0
   rw[x0,if_neg (by simp)] at HP
   have HX:=Ng (gI HP.out);rw[x0];have HA:=Ng (Bc L c b _ _ w1 (by omega) hO1.tsl (HC.out.kept hK1) (by have:=HCZ.out;omega) hL2.out (by omega))
   clear HP x0;go_wp2_with fail
   refine HA.out.mono ?_;rintro e w5 ⟨v5,rfl,hN5,hb5⟩;obtain⟨g5,c5,rfl,-⟩:=id hN5;go_wp2_with fail
   go_ret2;exact fB.ok HX.out rfl hN5 (hS1.below hb5) (hK1.andBelow hb5)
theorem JN {n:Nat}{ts:List aG}(g:aW n ts){i:Nat}{s:List UInt8}(h:dC (aM ts i)=some s):s.length≤8192∧(aM ts i).kind≠0:=by
 obtain⟨p,hp,hk,hs⟩:=sI h;have:=(g.part i p (by rw[hp];simp)).2.1
 rw[hs] at this;exact⟨this,by rw[oS h];decide⟩
theorem Fx {sent:Nat→Addr}(f:Nat)(hL:mM sent 42 (fun ts b d i=>cG f ts b d i))(hT:Ep sent (fun ts b d i c=>cI f ts b d i c []))(hS:mM sent 195 (fun ts b d i=>cD f ts b d i [] [] [])) :
  o9 sent 181 (fun ts b d i=>eI (f+1) ts b d i):=by
 intro w b g cap n base i d ts r hd hi F hQ hE hr;have HR:=Ng (show eI (f+1) ts base d i=some r from hr.out)
 rw[eI] at HR;have HL:=Ng hL;have HT:=Ng hT;have HS:=Ng hS;have hi24:=F.good.rem_le hi;have hbl:=hQ.blt;clear hr hL hT hS;go_enter Tryz.func181,Tryz.ntmps181
 go_wp2_with fail
 refine (pP F hQ hi).mono ?_;rintro e w1 ⟨v,rfl,hv,hb1⟩;have HB:=Ng (Ct v _ w1 hv);obtain⟨v2,rfl,hp2⟩:=hv;obtain⟨ao,pc,rfl⟩:=hp2.form;have hQ1:=hQ.below hb1;have hE1:=hE.below hb1;have hK1:=(aB.refl (At b) w).andBelow hb1;clear hQ hb1 hp2;go_wp2_with fail
 refine HB.out.mono ?_;rintro e w2 ⟨rfl,hb2⟩;have hQ2:=hQ1.below hb2;have hE2:=hE1.below hb2;have hK2:=hK1.andBelow hb2;clear hQ1 hE1 hK1 hb2 HB
 cases hx:dC (aM ts i) with
 | none =>
  rw[hx] at HR;simp only[Option.isSome_none,Option.getD_none];go_wp2_with fail
  refine wp_region_quiet_below (by kernel_rfl) (by kernel_rfl) ?_
  repeat (go_big_quiet_step (fail))
  refine wpQuiet_nil ?_;intro w5 hw';have hb:Below w2.heap.size w2 w5:=b8 hw';clear hw';have HD:=Ng (HS.out w5 b g cap n base i d ts r hd hi F (hQ2.below hb) (hE2.below hb) HR);replace hK2:=hK2.andBelow hb;clear hQ2 hE2;go_wp2_with fail
  refine HD.out.mono ?_;intro e w7 h7;have h8:=h7.out.after hK2;obtain⟨v,u,rfl⟩:=h8.tuple;go_wp2_with fail
  go_ret2;exact h8
 | some s =>
  rw[hx] at HR;obtain⟨hsl,hk0⟩:=JN F.good hx;obtain⟨mx,hmx⟩:=hE2.env.mx;have hsz8:(bs s).size≤8192:=by rw[aY];exact hsl
  simp only[Option.isSome_some,Option.getD_some]
  have HR:=Ng (show (if lY s=false then (if bI s=true∧(aM ts (aSk ts i)).kind=7 then jS f ts base d i s else cD f ts base d i [] [] [])
   else if s=[123] then (cG f ts base d (aSk ts i)).go fun l j=>gM ts base j [125] fun e=>cI f ts base d e l []
   else if s=[105,102] then (iQ f ts base d i).go fun l j=>cI f ts base d j l []
   else if s=[119,104,105,108,101] then (j7 f ts base d i).go fun l j=>cI f ts base d j l []
   else if s=[102,111,114] then (kB f ts base d i).go fun l j=>cI f ts base d j l []
   else if s=[99,97,115,101] then (jX f ts base d i).go fun l j=>cI f ts base d j l []
   else formA ts base i)=some r from HR.out)
  have hc:=(F.cls _ (List.mem_of_getElem? (y8 hi))).2.2 s hx;have x2:lY s=true:=by rcases hc with rfl | rfl | rfl <;> decide
  go_wp2_with fail
  refine (IL s w2 hsl mx hmx).mono ?_;rintro e w4 ⟨rfl,rfl⟩;rw[x2];rw[if_neg (by rw[x2];simp)] at HR
  have hQ4:=hQ2;have hE4:=hE2;have hK4:=hK2;clear hmx hQ2 hE2 hK2 hx hsl hsz8 x2
  rcases hc with x2 | x2 | x2
  ·subst x2;rw[show bs [123]=(⟨#[123]⟩:ByteArray) from rfl]
   have HRb:=Ng (show (cG f ts base d (aSk ts i)).go (fun l j=>gM ts base j [125] fun e=>cI f ts base d e l [])=some r from by have h:=HR.out;first | exact (if_pos rfl).symm.trans h | (rw[if_neg (by decide),if_pos trivial] at h;exact h))
   clear HR;have h1:=(rI (ts:=ts) hi).2;obtain⟨i1,hi1⟩:∃ q,aSk ts i=q:=⟨_,rfl⟩;rw[hi1] at HRb h1;go_wp2_with fail
   refine (lL F hQ4 hi).mono ?_;rintro e w5 ⟨rfl,hQ5,hK5⟩;rw[hi1] at hQ5;have hE5:=hE4.kept hK5;have hK6:=hK4.same hK5;have hsz6:=hK6.size;clear hQ4 hE4 hK4 hK5 hi1
   cases hq:cG f ts base d i1 with
   | none=>rw[hq] at HRb;exact absurd HRb.out (by simp [aJ.go])
   | some rc =>
    rw[hq] at HRb;have HD:=Ng (HL.out w5 b g cap n base i1 d ts rc hd h1 F hQ5 hE5 (Ng hq));clear hQ5 hE5;go_wp2_with fail
    refine HD.out.mono ?_;rintro e w6 ⟨hK7,h6⟩;have hK9:=hK6.same hK7;have hsz9':=hK9.size
    cases rc with
    | error q =>
     obtain⟨c9,p9⟩:=q;have HX:=Ng (Option.some.inj (show some (Except.error (c9,p9))=some r from HRb.out)).symm
     obtain⟨u,j,rfl,⟨eb,rfl,hEb,hle⟩,hQ6⟩:=h6;clear HRb HD;go_wp2_with fail
     go_ret2;exact gZ.bad HX.out rfl ⟨eb,rfl,hEb,Nat.le_trans hsz6 hle⟩ hQ6 hK9 ⟨_,_,_,rfl⟩
    | ok y =>
     obtain⟨l,j⟩:=y;obtain⟨v9,rfl,hN9,hQ9⟩:=h6;obtain⟨-,hjl,-,hll,-⟩:=((kG f).list F.good base d i1 h1).1 l j hq;have hr1:=F.good.rem_le h1;have HR:=Ng (show gM ts base j [125] (fun e=>cI f ts base d e l [])=some r from HRb.out)
     have hN9c:=hN9;obtain⟨gx,cx,rfl,-⟩:=hN9;have hE9:=hE.kept hK9;clear HD hq hK7;unfold gM at HR
     cases xw:eN ts j [[125]] with
     | false =>
      rw[xw,if_neg (by simp)] at HR
      have HX:=Ng (uJ HR.out);have HW:=Ng (KF F hQ9 hjl [125] xw sent hE9.env.env);clear HR;go_wp2_with fail
      refine HW.out.mono ?_;rintro e w7 ⟨eb,rfl,hEb,hle,hb7⟩;go_wp2_with fail
      go_ret2;exact gZ.bad HX.out rfl ⟨eb,rfl,hEb,by omega⟩ (hQ9.below hb7) (hK9.andBelow hb7) ⟨_,_,_,rfl⟩
     | true =>
      rw[xw,if_pos rfl] at HR;obtain⟨s1,s2⟩:=zN F.good hjl xw;have HW:=Ng (Km F hQ9 hjl [125] xw);rw[s1] at HR HW;clear xw s1 hQ9 hE9;go_wp2_with fail
      refine HW.out.mono ?_;rintro e w7 ⟨rfl,hQ7,hKx⟩;have hN9:=hN9c.kept hKx;have hK8:=hK9.same hKx;have hQ9:=hQ7;have hjl:=s2;clear hK9 hKx hN9c hQ7 s2 HW;have hK9:=hK8;clear hK8;have hE9:=hE.kept hK9;have HC:=Ng (HT.out w7 b g cap n base (j+1) d ts l (.slice (some ⟨gx,0,none⟩) l.length cx) r hd hjl F hQ9 hE9 hN9 (by omega) HR)
      have hsz9:=hK9.size
      (try (obtain⟨ga,gc,rfl,-⟩:=id hN9))
      clear hE9 hN9 hQ9;go_wp2_with fail
      refine HC.out.mono ?_;intro e w7 h7;have h8:=h7.out.after hK9;obtain⟨v,u,rfl⟩:=h8.tuple;go_wp2_with fail
      go_ret2;exact h8
  ·subst x2;rw[show bs [125]=(⟨#[125]⟩:ByteArray) from rfl]
   repeat rw[if_neg (by decide)] at HR
   have HX:=Ng (uJ HR.out);have HF:=Ng (qP F hQ4 hi sent hE4.env.env);clear HR;go_wp2_with fail
   refine HF.out.mono ?_;rintro e w6 ⟨eb,rfl,hEb,hle,hb7⟩;have hsz4:=hK4.size;go_wp2_with fail
   go_ret2;exact gZ.bad HX.out rfl ⟨eb,rfl,hEb,Nat.le_trans hsz4 hle⟩ (hQ4.below hb7) (hK4.andBelow hb7) ⟨_,_,_,rfl⟩
  ·subst x2;rw[show bs [33]=(⟨#[33]⟩:ByteArray) from rfl]
   repeat rw[if_neg (by decide)] at HR
   have HX:=Ng (uJ HR.out);have HF:=Ng (qP F hQ4 hi sent hE4.env.env);clear HR;go_wp2_with fail
   refine HF.out.mono ?_;rintro e w6 ⟨eb,rfl,hEb,hle,hb7⟩;have hsz4:=hK4.size;go_wp2_with fail
   go_ret2;exact gZ.bad HX.out rfl ⟨eb,rfl,hEb,Nat.le_trans hsz4 hle⟩ (hQ4.below hb7) (hK4.andBelow hb7) ⟨_,_,_,rfl⟩
theorem AP {n:Nat}{ts:List aG}(g:aW n ts){f b d i:Nat}{l:aA}(hi:i<ts.length)(h:fS (fun x=>bD f b d x) b (aM ts i)=some (.ok l)):0<l.length∧l.length+5+8 * aI ts (i+1)≤8 * aI ts i∧l.length≤200000:=by
 have h1:=(sC (g.parts i) ((kG f).subQ g b d i)).1 l h;unfold jL at h1;have h2:=k9 hi;have h3:=g.rem_le hi;omega
theorem lT.use {sent:Nat→Addr}{fn:FuncId}{V:Nat→Nat→aG→aL aA}(h:lT sent fn V){w:World}{b g cap n base i d:Nat}{ts:List aG}{tv:Value}{r:Except (Nat×Nat) aA}(hd:d≤31)(hi:i<ts.length)(F:eO n base cap ts)(hQ:QSt w b g cap ts base i d)(hE:f8 w b sent)(ht:iW w tv (aM ts i))(hr:Hid (V base d (aM ts i)=some r)) :
  Calls Tryz.prog fn #[.pointer (some ⟨b,0,none⟩),tv] w (cF w b sent r) :=
 h w b g cap n base i d ts (aM ts i) tv r hd F hQ hE ht (fun x hxm=>F.partI i x hxm) (F.tx i) (F.good.place i) (F.good.wtPs_le hi) hr
theorem aJ.at_err {β:Type}{c p i:Nat}{k:aA→Nat→aJ β}{r:Except (Nat×Nat) (β×Nat)}(h:(aL.at (some (.error (c,p)):aL aA) i).go k=some r):r = .error (c,p):=(Option.some.inj h).symm
end Go.Proofs.YtbpjobmpacjgcaaGreatDoor
