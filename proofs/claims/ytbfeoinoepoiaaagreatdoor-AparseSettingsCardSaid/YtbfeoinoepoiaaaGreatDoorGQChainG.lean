/- Dialect A's parser: commands with && and ||. -/
import Derived.Test.YtbfeoinoepoiaaaGreatDoorGQWordB
import Derived.Test.YtbfeoinoepoiaaaGreatDoorGQTurnG
namespace Go.Proofs.YtbfeoinoepoiaaaGreatDoor
set_option maxHeartbeats 16000000
set_option maxRecDepth 100000
open Go Go.RowKit
theorem GoodA.rem_le {n:Nat} {ts:List ATok} (g:GoodA n ts) {i:Nat} (hi:i<ts.length):remA ts i≤24577:=by
 have h:=Go.Proofs.YtbfeoinoepoiaaaGreatDoor.rem_le (ts:=ts) (Nat.zero_le i) (Nat.le_of_lt hi)
 have hwt:=g.wt
 have hsm:=g.small
 rw [remA_zero] at h
 omega
theorem qChain_walk {sent:Nat→Addr} (f:Nat) (ih:∀ f'≤f,QDoesN sent 160 (fun ts b d i=>aPipe f' ts b d i)):QDoes sent 114 (fun ts b d i=>aChain (f+1) ts b d i):=by
 intro w b g cap n base i d ts r hd hi F hQ hE hr
 have HR:=Lib.hid (show aChain (f+1) ts base d i=some r from hr.out)
 rw [aChain] at HR
 have hbl:=hQ.blt
 have hi24:=F.good.rem_le hi
 have IH:=Lib.hid ih
 clear hr ih
 cases hq:aPipe f ts base d i with
 | none=>rw [hq] at HR; exact absurd HR.out (by simp [PRes.go])
 | some rc =>
  rw [hq] at HR
  have HD:=Lib.hid (IH.out f (Nat.le_refl _) w b g cap n base i d ts rc hd hi F hQ hE (Lib.hid hq))
  go_enter Tryz.func114,Tryz.ntmps114
  go_wp2_with fail
  refine HD.out.mono ?_
  intro e w2 hp
  have hstart:∃ ao an ac er m0,e = .returned (.tuple #[.slice ao an ac,er])∧((∃ k fk l,m0=ts.length - k+1∧er = .nilIface∧k<ts.length∧fk≤f∧0<l.length∧l.length+8 * remA ts k≤8 * remA ts i∧Kept (At b) w w2∧QSt w2 b g cap ts base k d∧NSl w2 b (.slice ao an ac) l∧Hid (aChainR fk ts base d k l=some r))∨(m0=0∧∃ c p k,r = .error (c,p)∧PErr w w2 sent c p er∧QSt w2 b g cap ts base k d∧Kept (At b) w w2)):=by
   cases rc with
   | error e0 =>
    obtain ⟨c0,p0⟩:=e0
    obtain ⟨hK2,u,j',rfl,hPE,hS2⟩:=hp
    exact ⟨none,0,0,u,0,rfl,.inr ⟨rfl,c0,p0,j',some_err HR.out,hPE,hS2,hK2⟩⟩
   | ok q =>
    obtain ⟨l,j⟩:=q
    obtain ⟨z1,z2,z3,z4,-⟩:=((postAllA f).pipe F.good base d i hi).1 l j hq
    obtain ⟨hK2,v,rfl,hN,hS2⟩:=hp
    have hN2:=hN
    obtain ⟨ga,gc,rfl,-⟩:=hN
    exact ⟨_,_,_,.nilIface,_,rfl,.inl ⟨j,f,l,rfl,rfl,z2,Nat.le_refl _,z3,z4,hK2,hS2,hN2,Lib.hid HR.out⟩⟩
  obtain ⟨ao,an,ac,er,m0,rfl,hst⟩:=hstart
  clear hp HR hq hQ HD
  go_wp2_with fail
  go_loopg [4,5,6,7] m0 (fun m o er kd nx wr=>(∃ k fk l,m=ts.length - k+1∧er = .nilIface∧k<ts.length∧fk≤f∧0<l.length∧l.length+8 * remA ts k≤8 * remA ts i∧Kept (At b) w wr∧QSt wr b g cap ts base k d∧NSl wr b o l∧Hid (aChainR fk ts base d k l=some r))∨(m=0∧∃ c p k,r = .error (c,p)∧(∃ ao an ac,o = .slice ao an ac)∧PErr w wr sent c p er∧QSt wr b g cap ts base k d∧Kept (At b) w wr))
  case atStart =>
   rcases hst with h | ⟨h,c,p,k,h1,h2⟩
   ·exact .inl h
   ·exact .inr ⟨h,c,p,k,h1,⟨_,_,_,rfl⟩,h2⟩
  case round =>
   clear hst
   rcases hrel with ⟨k,fk,l,rfl,rfl,hk,hfk,hl0,hl6,hK,hS,hN,hr⟩ | ⟨rfl,c,p,k,rfl,⟨oa,on,oc,rfl⟩,⟨eb,rfl,q2,q3⟩,hS,hK⟩
   ·obtain ⟨fk,rfl⟩:∃ q,fk=q+1:=by
     cases fk with
     | zero=>have:=hr.out; rw [aChainR] at this; cases this
     | succ q=>exact ⟨q,rfl⟩
    have HR:=Lib.hid hr.out
    rw [aChainR] at HR
    clear hr
    go_wp2_with fail
    refine (qIs_any F (hS.alloc _) hk [4,5] _ _ (by decide) (show Blk _ _ [Value.int .i64 4,Value.int .i64 5] from Blk.new wr _ _)).mono ?_
    rintro e w3 ⟨rfl,hb3⟩
    have hb4:=bNext ((Below.refl _ wr).alloc (Nat.le_refl _) _) hb3
    have hS3:=hS.below hb4
    have hN3:=hN.below hb4
    have hK3:=hK.andBelow hb4
    clear hS hN hK hb3 hb4
    by_cases x0:aIs ts k [4,5]=true
    ·rw [if_pos x0] at HR
     rw [x0]
     obtain ⟨s1,s2⟩:=askip_of F.good hk (by decide) x0
     rw [s1] at HR
     clear x0
     obtain ⟨kd,hkd⟩:∃ kd:Int,(if aIs ts k [5]=true then (26:Int) else 25)=kd:=⟨_,rfl⟩
     rw [hkd] at HR
     have HKD:=Lib.hid hkd
     go_wp2_with fail
     refine (qIs_any F (hS3.alloc _) hk [5] _ _ (by decide) (show Blk _ _ [Value.int .i64 5] from Blk.new w3 _ _)).mono ?_
     rintro e w4 ⟨rfl,hb4⟩
     have hb5:=bNext ((Below.refl _ w3).alloc (Nat.le_refl _) _) hb4
     have hS4:=hS3.below hb5
     have hN4:=hN3.below hb5
     have hK4:=hK3.andBelow hb5
     clear hS3 hN3 hK3 hb4 hb5 hkd
     have hj:=aPass_le (ts:=ts) [1] s2
     have hrk:=rem_le (ts:=ts) (show k≤k+1 by omega) (Nat.le_of_lt s2)
     obtain ⟨j,hjj⟩:∃ j,aPass ts [1] (k+1)=j:=⟨_,rfl⟩
     rw [hjj] at HR hj
     have hrj:=rem_le (ts:=ts) hj.1 (Nat.le_of_lt hj.2)
     cases x4:aIs ts k [5] with
     | true =>
      obtain rfl:(26:Int)=kd:=by have:=HKD.out; rw [x4,if_pos rfl] at this; exact this
      clear HKD x4
      go_wp2_with fail
      refine (qSkip_any F hS4 hk).mono ?_
      rintro e w5 ⟨rfl,hS5,hK5⟩
      rw [s1] at hS5
      have hN5:=hN4.kept hK5
      have hK6:=hK4.same hK5
      have hsz6:=hK6.size
      clear hS4 hN4 hK4 hK5
      go_wp2_with fail
      refine (qPass_any F (hS5.alloc _) s2 [1] _ _ (by decide) (by decide) (show Blk _ _ [Value.int .i64 1] from Blk.new w5 _ _) (by omega)).mono ?_
      rintro e w6 ⟨rfl,hS6,hK7⟩
      rw [hjj] at hS6
      have hK8:=((Kept.refl (At b) w5).alloc _).same hK7
      have hN6:=hN5.kept hK8
      have hK9:=hK6.same hK8
      have hE6:=hE.kept hK9
      have hsz9:=hK9.size
      clear hS5 hN5 hK6 hK7 hK8
      cases hq:aPipe fk ts base d j with
      | none =>
       rw [hq] at HR
       exact absurd HR.out (by simp [PRes.go])
      | some rc =>
       rw [hq] at HR
       have HD:=Lib.hid (IH.out fk (by omega) w6 b g cap n base j d ts rc hd hj.2 F hS6 hE6 (Lib.hid hq))
       clear hS6 hE6
       obtain ⟨ga,gc,rfl,-⟩:=id hN6
       go_wp2_with fail
       refine HD.out.mono ?_
       cases rc with
       | error e0 =>
        obtain ⟨c0,p0⟩:=e0
        have HX:=Lib.hid (some_err HR.out)
        clear HR hq HD
        rintro e w7 ⟨hKa,u,j',rfl,⟨eb,rfl,q2,q3⟩,hS7⟩
        have hN7:=hN6.kept hKa
        have hKb:=hK9.same hKa
        go_wp2_with fail
        go_roundg 0
        case measure=>omega
        case rel=>exact .inr ⟨rfl,c0,p0,j',HX.out,⟨_,_,_,rfl⟩,⟨eb,rfl,q2,by omega⟩,hS7,hKb⟩
       | ok q =>
        obtain ⟨l2,k2⟩:=q
        obtain ⟨z1,z2,z3,z4,-⟩:=((postAllA fk).pipe F.good base d j hj.2).1 l2 k2 hq
        have HX:=Lib.hid HR.out
        clear HR hq HD
        rintro e w7 ⟨hKa,v7,rfl,hN2,hS7⟩
        have hN7:=hN6.kept hKa
        have hKb:=hK9.same hKa
        have hszb:=hKb.size
        clear hN6 hK9 hKa
        obtain ⟨va,vc,rfl,-⟩:=id hN2
        have HN:=Lib.hid (cNewS_any 26 0 [] [l,l2] b _ _ (by simp; omega) (KSl.new2 (w:=w7) (by omega) (.inl hN7) (.inl hN2)) (by simp; omega) (by simp))
        clear hN7 hN2
        go_wp2_with fail
        refine HN.out.mono ?_
        rintro e w8 ⟨v8,rfl,hN8,hb8⟩
        have hb9:=bNext ((Below.refl _ w7).alloc (Nat.le_refl _) _) hb8
        obtain ⟨g4,c4,rfl,-⟩:=id hN8
        have hS9:=hS7.below hb9
        have hKc:=hKb.andBelow hb9
        go_wp2_with fail
        go_roundg (ts.length - k2+1)
        case measure=>omega
        case rel=>exact .inl ⟨k2,fk,_,rfl,rfl,z2,by omega,newP_pos _ _ _ _,by rw [(len_two _ _ _ _ _).1]; omega,hKc,hS9,hN8,HX⟩
     | false =>
      obtain rfl:(25:Int)=kd:=by have:=HKD.out; rw [x4,if_neg (by simp)] at this; exact this
      clear HKD x4
      go_wp2_with fail
      refine (qSkip_any F hS4 hk).mono ?_
      rintro e w5 ⟨rfl,hS5,hK5⟩
      rw [s1] at hS5
      have hN5:=hN4.kept hK5
      have hK6:=hK4.same hK5
      have hsz6:=hK6.size
      clear hS4 hN4 hK4 hK5
      go_wp2_with fail
      refine (qPass_any F (hS5.alloc _) s2 [1] _ _ (by decide) (by decide) (show Blk _ _ [Value.int .i64 1] from Blk.new w5 _ _) (by omega)).mono ?_
      rintro e w6 ⟨rfl,hS6,hK7⟩
      rw [hjj] at hS6
      have hK8:=((Kept.refl (At b) w5).alloc _).same hK7
      have hN6:=hN5.kept hK8
      have hK9:=hK6.same hK8
      have hE6:=hE.kept hK9
      have hsz9:=hK9.size
      clear hS5 hN5 hK6 hK7 hK8
      cases hq:aPipe fk ts base d j with
      | none =>
       rw [hq] at HR
       exact absurd HR.out (by simp [PRes.go])
      | some rc =>
       rw [hq] at HR
       have HD:=Lib.hid (IH.out fk (by omega) w6 b g cap n base j d ts rc hd hj.2 F hS6 hE6 (Lib.hid hq))
       clear hS6 hE6
       obtain ⟨ga,gc,rfl,-⟩:=id hN6
       go_wp2_with fail
       refine HD.out.mono ?_
       cases rc with
       | error e0 =>
        obtain ⟨c0,p0⟩:=e0
        have HX:=Lib.hid (some_err HR.out)
        clear HR hq HD
        rintro e w7 ⟨hKa,u,j',rfl,⟨eb,rfl,q2,q3⟩,hS7⟩
        have hN7:=hN6.kept hKa
        have hKb:=hK9.same hKa
        go_wp2_with fail
        go_roundg 0
        case measure=>omega
        case rel=>exact .inr ⟨rfl,c0,p0,j',HX.out,⟨_,_,_,rfl⟩,⟨eb,rfl,q2,by omega⟩,hS7,hKb⟩
       | ok q =>
        obtain ⟨l2,k2⟩:=q
        obtain ⟨z1,z2,z3,z4,-⟩:=((postAllA fk).pipe F.good base d j hj.2).1 l2 k2 hq
        have HX:=Lib.hid HR.out
        clear HR hq HD
        rintro e w7 ⟨hKa,v7,rfl,hN2,hS7⟩
        have hN7:=hN6.kept hKa
        have hKb:=hK9.same hKa
        have hszb:=hKb.size
        clear hN6 hK9 hKa
        obtain ⟨va,vc,rfl,-⟩:=id hN2
        have HN:=Lib.hid (cNewS_any 25 0 [] [l,l2] b _ _ (by simp; omega) (KSl.new2 (w:=w7) (by omega) (.inl hN7) (.inl hN2)) (by simp; omega) (by simp))
        clear hN7 hN2
        go_wp2_with fail
        refine HN.out.mono ?_
        rintro e w8 ⟨v8,rfl,hN8,hb8⟩
        have hb9:=bNext ((Below.refl _ w7).alloc (Nat.le_refl _) _) hb8
        obtain ⟨g4,c4,rfl,-⟩:=id hN8
        have hS9:=hS7.below hb9
        have hKc:=hKb.andBelow hb9
        go_wp2_with fail
        go_roundg (ts.length - k2+1)
        case measure=>omega
        case rel=>exact .inl ⟨k2,fk,_,rfl,rfl,z2,by omega,newP_pos _ _ _ _,by rw [(len_two _ _ _ _ _).1]; omega,hKc,hS9,hN8,HX⟩
    ·have x0:aIs ts k [4,5]=false:=by simpa using x0
     rw [x0,if_neg (by simp)] at HR
     rw [x0]
     have HX:=Lib.hid (some_ok HR.out)
     go_wp2_with fail
     go_ret2
     exact QOut.ok HX.out rfl hN3 hS3 hK3
   ·go_wp2_with fail
    go_ret2
    exact QOut.bad rfl rfl ⟨eb,rfl,q2,q3⟩ hS hK ⟨_,_,_,rfl⟩
end Go.Proofs.YtbfeoinoepoiaaaGreatDoor
namespace Go.Proofs.YtbfeoinoepoiaaaGreatDoor
set_option maxHeartbeats 16000000
set_option maxRecDepth 100000
open Go Go.RowKit
def QTn (w:World) (b g cap:Nat) (ts:List ATok) (base d k:Nat) (sent:Nat→Addr) (r:Except (Nat × Nat) (Prog × Nat)) (e:Ending) (w':World):Prop :=
 Kept (At b) w w'∧match r with
 | .ok (l,j)=>∃ v,e = .returned (.tuple #[.agg #[.int .i64 (k:Int),v],.nilIface])∧NSl w' b v l∧QSt w' b g cap ts base j d
 | .error (c,p)=>∃ v u j,e = .returned (.tuple #[.agg #[.int .i64 (k:Int),v],u])∧(∃ ao n cp,v = .slice ao n cp)∧PErr w w' sent c p u∧QSt w' b g cap ts base j d
theorem QTn.ok {w w':World} {b g cap:Nat} {ts:List ATok} {base d k:Nat} {sent:Nat→Addr} {l:Prog} {j:Nat} {v:Value} {r:Except (Nat × Nat) (Prog × Nat)} {e:Ending} (hr:r = .ok (l,j)) (he:e = .returned (.tuple #[.agg #[.int .i64 (k:Int),v],.nilIface])) (h1:NSl w' b v l) (h2:QSt w' b g cap ts base j d) (hk:Kept (At b) w w'):QTn w b g cap ts base d k sent r e w':=by
 subst hr
 exact ⟨hk,v,he,h1,h2⟩
theorem QTn.bad {w w':World} {b g cap:Nat} {ts:List ATok} {base d k:Nat} {sent:Nat→Addr} {c p j:Nat} {v u:Value} {r:Except (Nat × Nat) (Prog × Nat)} {e:Ending} (hr:r = .error (c,p)) (he:e = .returned (.tuple #[.agg #[.int .i64 (k:Int),v],u])) (hv:∃ ao n cp,v = .slice ao n cp) (h1:PErr w w' sent c p u) (h2:QSt w' b g cap ts base j d) (hk:Kept (At b) w w'):QTn w b g cap ts base d k sent r e w':=by
 subst hr
 exact ⟨hk,v,u,j,he,hv,h1,h2⟩
theorem enters_value:∀ args w,(callFunc 238 args).run Tryz.prog w = .ok (.enter 238 args) w:=enters_of Tryz.func238 (by kernel_rfl) rfl
theorem wordV_facts {n:Nat} {ts:List ATok} (g:GoodA n ts) {f b d i:Nat} {l:Prog} {e:Nat} (hi:i<ts.length) (h:wordOf (valueA (fun x=>aSub f b d x)) ts b i=some (.ok (l,e))):i<e∧e<ts.length∧0<l.length∧l.length+5+8 * remA ts e≤8 * remA ts i∧l.length≤200000:=by
 obtain ⟨h1,h2,h3,h4,-⟩:=(word_post g hi (value_post (g.parts i) ((postAllA f).subQ g b d i))).1 l e h
 have:=g.rem_le hi
 exact ⟨by omega,h2,h3,h4,by omega⟩
theorem wordL_facts {n:Nat} {ts:List ATok} (g:GoodA n ts) {f b d i:Nat} {l:Prog} {e:Nat} (hi:i<ts.length) (h:wordOf (livesA (fun x=>aSub f b d x)) ts b i=some (.ok (l,e))):i<e∧e<ts.length∧0<l.length∧l.length+5+8 * remA ts e≤8 * remA ts i∧l.length≤200000:=by
 obtain ⟨h1,h2,h3,h4,-⟩:=(word_post g hi (lives_post (g.parts i) ((postAllA f).subQ g b d i))).1 l e h
 have:=g.rem_le hi
 exact ⟨by omega,h2,h3,h4,by omega⟩
theorem qTurn_walk {sent:Nat→Addr} (f:Nat) (hV:DoesV sent 238 (fun b d t=>valueA (fun x=>aSub f b d x) b t)) (w:World) (b g cap n base i d:Nat) (ts:List ATok) (r:Except (Nat × Nat) (Prog × Nat)) (hd:d≤31) (hi:i<ts.length) (F:QFix n base cap ts) (hQ:QSt w b g cap ts base i d) (hE:EnvQ w b sent) (hr:Hid (wordOf (valueA (fun x=>aSub f base d x)) ts base (aSk ts i)=some r)) :
  Calls Tryz.prog 236 #[.pointer (some ⟨b,0,none⟩)] w (QTn w b g cap ts base d (akAt ts i).kind sent r):=by
 have hmf:∀ (fn:Fn) (first cap:Array Value) (w:World),(Instr.makeFunc fn first cap).run Tryz.prog w = .ok (.func fn first cap) w:=fun _ _ _ _=>rfl
 have hbl:=hQ.blt
 have hf0:=atok_f0
 have HV:=Lib.hid hV
 clear hV
 have hj:=(aSk_le (ts:=ts) hi).2
 obtain ⟨j,hjj⟩:∃ j,aSk ts i=j:=⟨_,rfl⟩
 rw [hjj] at hr hj
 obtain ⟨tk,htk⟩:∃ tk,(akAt ts i).kind=tk:=⟨_,rfl⟩
 rw [htk]
 have hx:=World.alloc_heap_new w (.cells #[Value.int .i64 0,.slice none 0 0] 253)
 have hb0:=(Below.refl w.heap.size w).alloc (Nat.le_refl _) (.cells #[Value.int .i64 0,.slice none 0 0] 253)
 have hS0:=hQ.below hb0
 have hE0:=hE.below hb0
 have hK0:=(Kept.refl (At b) w).andBelow hb0
 clear hQ hE
 go_enter Tryz.func236,Tryz.ntmps236
 go_wp2_with fail
 refine (qNow_any F hS0 hi).mono ?_
 rintro e w1 ⟨v,rfl,⟨v2,rfl,-⟩,hb1⟩
 rw [htk]
 have hx1:=(hb1.block _ (lt_of_block hx)).trans hx
 have hS1:=hS0.below hb1
 have hE1:=hE0.below hb1
 have hK1:=hK0.andBelow hb1
 clear hx hb0 hS0 hE0 hK0 hb1 htk
 go_wp2_with fail
 refine (qSkip_any F hS1 hi).mono ?_
 rintro e w2 ⟨rfl,hS2,hK2⟩
 rw [hjj] at hS2
 have hx2:=(hK2.block _ (lt_of_block hx1) (fun e=>by unfold At at e; omega)).trans hx1
 have hE2:=hE1.kept hK2
 have hK3:=hK1.same hK2
 clear hx1 hS1 hE1 hK1 hK2
 have HD:=Lib.hid (qWord_walk (V:=fun b d t=>valueA (fun x=>aSub f b d x) b t) 238 enters_value HV.out w2 b g cap n base j d ts r hd hj F hS2 hE2 (Lib.hid hr.out))
 have hsz2:=hK3.size
 have hlt2:=lt_of_block hx2
 go_wp2_with fail
 refine HD.out.mono ?_
 cases r with
 | error e0 =>
  obtain ⟨c0,p0⟩:=e0
  rintro e w5 ⟨hK5,v,u,j',rfl,⟨eb,rfl,q2,q3⟩,hS5,va,vn,vc,rfl⟩
  have hx5:=(hK5.block _ (lt_of_block hx2) (fun e=>by unfold At at e; omega)).trans hx2
  have hBx5:Blk w5 w.heap.size [Value.int .i64 0,.slice none 0 0]:=⟨_,hx5⟩
  have x0:=hBx5.cell 0 rfl
  have x1:=hBx5.cell 1 rfl
  have f0:=hBx5.free 0
  have f1:=hBx5.free 1
  have hK6:=hK3.same hK5
  go_wp2_with fail
  have hB9:=(hBx5.set 0 (.int .i64 (tk:Int))).set 1 (.slice va vn vc)
  have hb9:=((Below.refl w.heap.size w5).setCell (p:=⟨w.heap.size,0,none⟩) (Nat.le_refl _) (.int .i64 (tk:Int))).setCell (p:=⟨w.heap.size,1,none⟩) (Nat.le_refl _) (.slice va vn vc)
  have hK9:=(hK6.setCell (p:=⟨w.heap.size,0,none⟩) (fun h=>absurd h (by simp)) (.int .i64 (tk:Int))).setCell (p:=⟨w.heap.size,1,none⟩) (fun h=>absurd h (by simp)) (.slice va vn vc)
  have hS9:=hS5.belowB hb9 hbl
  unfold ErrAt at q2
  have hE9:=(q2.other (p:=⟨w.heap.size,0,none⟩) (by show w.heap.size≠eb; omega) (.int .i64 (tk:Int))).other (p:=⟨w.heap.size,1,none⟩) (by show w.heap.size≠eb; omega) (.slice va vn vc)
  refine bodyPost_ret (results_blk (p:=2) (u:=3) (g:=w.heap.size) (cs:=[.int .i64 (tk:Int),.slice va vn vc]) rfl _ _ _ rfl hB9 Tryz.underlying253 rfl (by kernel_rfl)) rfl (QTn.bad rfl rfl ⟨_,_,_,rfl⟩ ⟨eb,rfl,hE9,by omega⟩ hS9 hK9)
 | ok q =>
  obtain ⟨l,e2⟩:=q
  rintro e w5 ⟨hK5,v,rfl,hN,hS5⟩
  obtain ⟨ga,gc,rfl,-⟩:=id hN
  have hx5:=(hK5.block _ (lt_of_block hx2) (fun e=>by unfold At at e; omega)).trans hx2
  have hBx5:Blk w5 w.heap.size [Value.int .i64 0,.slice none 0 0]:=⟨_,hx5⟩
  have x0:=hBx5.cell 0 rfl
  have x1:=hBx5.cell 1 rfl
  have f0:=hBx5.free 0
  have f1:=hBx5.free 1
  have hK6:=hK3.same hK5
  go_wp2_with fail
  have hB9:=(hBx5.set 0 (.int .i64 (tk:Int))).set 1 (.slice (some ⟨ga,0,none⟩) l.length gc)
  have hb9:=((Below.refl w.heap.size w5).setCell (p:=⟨w.heap.size,0,none⟩) (Nat.le_refl _) (.int .i64 (tk:Int))).setCell (p:=⟨w.heap.size,1,none⟩) (Nat.le_refl _) (.slice (some ⟨ga,0,none⟩) l.length gc)
  have hK9:=(hK6.setCell (p:=⟨w.heap.size,0,none⟩) (fun h=>absurd h (by simp)) (.int .i64 (tk:Int))).setCell (p:=⟨w.heap.size,1,none⟩) (fun h=>absurd h (by simp)) (.slice (some ⟨ga,0,none⟩) l.length gc)
  have hS9:=hS5.belowB hb9 hbl
  have hN9:=hN.of_block (w':=(w5.setCell ⟨w.heap.size,0,none⟩ (.int .i64 (tk:Int))).setCell ⟨w.heap.size,1,none⟩ (.slice (some ⟨ga,0,none⟩) l.length gc)) fun g cur fz h4 _=>by
   have hne:g≠w.heap.size:=fun e=>by
    subst e
    have h9:=h4.symm.trans hx5
    injection h9 with h9
    injection h9 with _ h9 _
    exact absurd h9 (by decide)
   exact (Below.heap_setCell _ _ _ _ hne).trans (Below.heap_setCell _ _ _ _ hne)
  refine bodyPost_ret (results_blk (p:=2) (u:=3) (g:=w.heap.size) (cs:=[.int .i64 (tk:Int),.slice (some ⟨ga,0,none⟩) l.length gc]) rfl _ _ _ rfl hB9 Tryz.underlying253 rfl (by kernel_rfl)) rfl (QTn.ok rfl rfl hN9 hS9 hK9)
theorem aturn_kind {ts:List ATok} {i:Nat} (h:aTurning ts i=true):(akAt ts i).kind≤100∧(akAt ts i).kind≠0:=by
 unfold aTurning at h
 rw [aIs_iff] at h
 simp only [List.mem_cons,List.not_mem_nil,or_false] at h
 omega
def QDoesT (sent:Nat→Addr) (X:List ATok→Nat→Nat→Nat→Prog→PRes Prog):Prop :=
 ∀ (w:World) (b g cap n base i d:Nat) (ts:List ATok) (c:Prog) (vc:Value) (r:Except (Nat × Nat) (Prog × Nat)),d≤31→i<ts.length→QFix n base cap ts→QSt w b g cap ts base i d→EnvQ w b sent→NSl w b vc c→c.length≤1000000→Hid (X ts base d i c=some r) →
  Calls Tryz.prog 218 #[.pointer (some ⟨b,0,none⟩),vc] w (QOutN w b g cap ts base d sent r)
theorem qTurns_walk {sent:Nat→Addr} (f:Nat) (ih:∀ f'<f,DoesV sent 238 (fun b d t=>valueA (fun x=>aSub f' b d x) b t)):QDoesT sent (fun ts b d i c=>aTurns f ts b d i c []):=by
 intro w b g cap n base i d ts c vc r hd hi F hQ hE hc hcl hr
 have hbl:=hQ.blt
 have hlen:=F.good.len
 have hi24:=F.good.rem_le hi
 obtain ⟨i0,hi0,hz0,hz1,hz2⟩:=info_parts infoQTurns
 have IH:=Lib.hid ih
 have HC:=Lib.hid hc
 have HR0:=Lib.hid (show aTurns f ts base d i c []=some r from hr.out)
 obtain ⟨gv,cv,rfl,-⟩:=hc
 generalize hcz:c.length=z at *
 have HCZ:=Lib.hid hcz
 clear ih hcz hr
 go_enter Tryz.func218,Tryz.ntmps218
 go_wp2_with fail
 go_loopg [6,7,8] (ts.length - i) (fun m v t er wr=>∃ (k fk:Nat) (L:List (Nat × Prog)),m=ts.length - k∧k<ts.length∧fk≤f∧L.length≤k∧Hid (∀ t∈L,t.1≤100∧t.2.length≤200000)∧Kept (At b) w wr∧QSt wr b g cap ts base k d∧QTOwn wr w.heap.size b v L∧Hid (aTurns fk ts base d k c L=some r))
 case atStart=>exact ⟨i,f,[],rfl,hi,Nat.le_refl _,by simp,Lib.hid (fun _ h=>nomatch h),Kept.refl _ _,hQ,QTOwn.nil _ _ _,HR0⟩
 case round =>
  clear hQ HR0 hi
  obtain ⟨k,fk,L,rfl,hk,hfk,hL1,hL2,hK,hS,hO,hr⟩:=hrel
  obtain ⟨fk,rfl⟩:∃ q,fk=q+1:=by
   cases fk with
   | zero=>have:=hr.out; rw [aTurns] at this; cases this
   | succ q=>exact ⟨q,rfl⟩
  obtain ⟨ao,acap,rfl⟩:=hO.form
  have HP:=Lib.hid hr.out
  rw [aTurns] at HP
  clear hr
  go_wp2_with fail
  refine (qTurning_any F hS hk).mono ?_
  rintro e w1 ⟨rfl,hb1⟩
  have hS1:=hS.below hb1
  have hO1:=hO.below hbl hb1
  have hK1:=hK.andBelow hb1
  have hE1:=hE.kept hK1
  have hsz:=hK1.size
  clear hS hO hK hb1
  by_cases x0:aTurning ts k=true
  ·rw [if_pos x0] at HP
   obtain ⟨hkd,hk0⟩:=aturn_kind x0
   rw [x0]
   obtain ⟨s1,s2⟩:=aSk_eq F.good hk hk0
   have hj:=(aSk_le (ts:=ts) hk).2
   cases hq:wordOf (valueA (fun x=>aSub fk base d x)) ts base (aSk ts k) with
   | none =>
    rw [hq] at HP
    exact absurd HP.out (by simp [PRes.go])
   | some rc =>
    rw [hq] at HP
    have HD:=Lib.hid (qTurn_walk fk (IH.out fk (by omega)) w1 b g cap n base k d ts rc hd hk F hS1 hE1 (Lib.hid hq))
    clear hS1 x0
    obtain ⟨kd,hkk⟩:∃ kd,(akAt ts k).kind=kd:=⟨_,rfl⟩
    rw [hkk] at HD HP hkd
    go_wp2_with fail
    refine HD.out.mono ?_
    cases rc with
    | error e0 =>
     obtain ⟨c0,p0⟩:=e0
     have HX:=Lib.hid (some_err HP.out)
     clear HP hq HD
     rintro e w5 ⟨hK5,v,u,j',rfl,⟨va,vn,vc,rfl⟩,⟨eb,rfl,q2,q3⟩,hS5⟩
     go_wp2_with fail
     go_ret2
     unfold ErrAt at q2
     exact QOutN.bad HX.out rfl ⟨eb,rfl,q2.alloc _,by omega⟩ (hS5.alloc _) ((hK1.same hK5).alloc _)
    | ok q =>
     obtain ⟨l,e2⟩:=q
     obtain ⟨y1,y2,y3,y4,y5⟩:=wordV_facts F.good hj hq
     have HX:=Lib.hid (show aTurns fk ts base d e2 c (L++[(kd,l)])=some r from HP.out)
     rw [s1] at y1
     clear HP hq HD
     rintro e w5 ⟨hK5,v,rfl,hN,hS5⟩
     have hK6:=hK1.same hK5
     have HN:=Lib.hid hN
     obtain ⟨ga,gc,rfl,-⟩:=hN
     have hO5:=hO1.kept hbl hK5
     have hsz5:=hK6.size
     have HL:=Lib.hid (show ∀ t∈L++[(kd,l)],t.1≤100∧t.2.length≤200000 from fun t ht=>by
      rcases List.mem_append.1 ht with ht | ht
      ·exact hL2.out t ht
      ·rw [List.mem_singleton] at ht
       subst ht
       exact ⟨hkd,by show l.length≤200000; omega⟩)
     generalize hlz:l.length=lz at *
     have HLZ:=Lib.hid hlz
     clear hK5 hO1 hK1 hlz hL2
     go_upto_region 6 with fail
     have hb6:=(Below.refl w5.heap.size w5).alloc (Nat.le_refl _) (.cells #[.int .i64 (kd:Int),.slice (some ⟨ga,0,none⟩) lz gc] 253)
     have hB6:=Blk.new w5 [.int .i64 (kd:Int),.slice (some ⟨ga,0,none⟩) lz gc] 253
     obtain ⟨w6,hw6⟩:∃ w6,w5.alloc (.cells #[.int .i64 (kd:Int),.slice (some ⟨ga,0,none⟩) lz gc] 253)=w6:=⟨_,rfl⟩
     rw [hw6] at hb6 ⊢
     have hB6:Blk w6 w5.heap.size [.int .i64 (kd:Int),.slice (some ⟨ga,0,none⟩) lz gc]:=by rw [← hw6]; exact hB6
     have HN6:=Lib.hid (HN.out.below hb6)
     have hS6:=hS5.below hb6
     have hK7:=hK6.andBelow hb6
     have hsz6:=hb6.size
     have t0:=hB6.cell 0 rfl
     have t1:=hB6.cell 1 rfl
     obtain ⟨us,u1,u2,u3⟩:=hO5.below hbl hb6
     generalize w5.heap.size=tb at *
     clear hO5 hS5 HN hw6 hb6 hB6 hK6
     have hOA:∀ o,(w6.alloc o).ownsRow w.heap.size 253 2 _ L.length _:=fun o=>ownsRow_kept u2 (Kept.ofBelow (S:=Nowhere) ((Below.refl _ w6).alloc (Nat.le_refl _) o)) (fun _ _ _ e=>e)
     have hsz7:=hK7.size
     go_wp2_with (at_builtin; refine wpList_append_own _ rfl _ _ 251 rfl w.heap.size 253 i0 _ 2 32 Tryz.underlying251 hi0 hz0 hz1 hz2 rfl (by decide) _ _ _ rfl (hOA _) ⟨w6.heap.size,0,none⟩ 1 1 [.int .i64 (kd:Int),.slice (some ⟨ga,0,none⟩) lz gc] rfl rfl (cells_new (by simp)) (by intro u hu; simp at hu; rcases hu with rfl | rfl <;> rfl) (by unfold maxLen; omega) (by omega) (by simp; omega) ?_; intro v7 w7 hown' hgrow _)
     obtain ⟨hO7,hb7⟩:=QTOwn.grown (w0:=w) (t:=(kd,l)) hsz7 u1 u2 u3 (by have:=HN6.out; exact this) hown' hgrow
     have hS7:=hS6.belowB hb7 hbl
     have hK8:=hK7.belowB hb7 (Nat.le_refl _)
     go_wp2_with fail
     go_roundg (ts.length - e2)
     case measure=>omega
     case rel=>exact ⟨e2,fk,L++[(kd,l)],rfl,y2,by omega,by simp; omega,HL,hK8,hS7,hO7,HX⟩
  ·have x0:aTurning ts k=false:=by simpa using x0
   rw [x0,if_neg (by simp)] at HP
   have HX:=Lib.hid (some_ok HP.out)
   rw [x0]
   have HA:=Lib.hid (qAround_any L c b _ _ w1 (by omega) hO1.tsl (HC.out.kept hK1) (by have:=HCZ.out; omega) hL2.out (by omega))
   clear HP x0
   go_wp2_with fail
   refine HA.out.mono ?_
   rintro e w5 ⟨v5,rfl,hN5,hb5⟩
   obtain ⟨g5,c5,rfl,-⟩:=id hN5
   go_wp2_with fail
   go_ret2
   exact QOutN.ok HX.out rfl hN5 (hS1.below hb5) (hK1.andBelow hb5)
end Go.Proofs.YtbfeoinoepoiaaaGreatDoor
namespace Go.Proofs.YtbfeoinoepoiaaaGreatDoor
set_option maxHeartbeats 16000000
set_option maxRecDepth 100000
open Go Go.RowKit
def QDoesF (sent:Nat→Addr) (X:List ATok→Nat→Nat→Nat→List UInt8→PRes Prog):Prop :=
 ∀ (w:World) (b g cap n base i d:Nat) (ts:List ATok) (s:List UInt8) (r:Except (Nat × Nat) (Prog × Nat)),d≤31→i<ts.length→QFix n base cap ts→QSt w b g cap ts base i d→EnvQ w b sent→Hid (X ts base d i s=some r) →
  Calls Tryz.prog 211 #[.pointer (some ⟨b,0,none⟩),.string (bs s)] w (QOut w b g cap ts base d sent r)
theorem qFunction_walk {sent:Nat→Addr} (f:Nat) (hB:QDoesB sent (fun ts b d i s t=>aBody f ts b d i s t)):QDoesF sent (fun ts b d i s=>aFunction (f+1) ts b d i s):=by
 intro w b g cap n base i d ts s r hd hi F hQ hE hr
 have HR:=Lib.hid (show aFunction (f+1) ts base d i s=some r from hr.out)
 rw [aFunction] at HR
 have HB:=Lib.hid hB
 have hbl:=hQ.blt
 have h1:=(aSk_le (ts:=ts) hi).2
 obtain ⟨i1,hi1⟩:∃ q,aSk ts i=q:=⟨_,rfl⟩
 rw [hi1] at HR h1
 have h2:=(aSk_le (ts:=ts) h1).2
 obtain ⟨i2,hi2⟩:∃ q,aSk ts i1=q:=⟨_,rfl⟩
 rw [hi2] at HR h2
 clear hr hB
 go_enter Tryz.func211,Tryz.ntmps211
 go_wp2_with fail
 refine (qSkip_any F hQ hi).mono ?_
 rintro e w1 ⟨rfl,hQ1,hK1⟩
 rw [hi1] at hQ1
 clear hQ
 go_wp2_with fail
 refine (qSkip_any F hQ1 h1).mono ?_
 rintro e w2 ⟨rfl,hQ2,hK2⟩
 rw [hi2] at hQ2
 have hK3:=hK1.same hK2
 have hE2:=hE.kept hK3
 clear hQ1 hK1 hK2 hi1 hi2 hi h1
 go_wp2_with fail
 refine (qIs_any F (hQ2.alloc _) h2 [8] _ _ (by decide) (show Blk _ _ [Value.int .i64 8] from Blk.new w2 _ _)).mono ?_
 rintro e w3 ⟨rfl,hb3⟩
 have hb4:=bNext ((Below.refl _ w2).alloc (Nat.le_refl _) _) hb3
 have hQ3:=hQ2.below hb4
 have hE3:=hE2.below hb4
 have hK4:=hK3.andBelow hb4
 have hsz:=hK4.size
 clear hQ2 hE2 hK3 hb3 hb4
 cases hx:aIs ts i2 [8] with
 | false =>
  rw [hx,if_neg (by simp)] at HR
  have HX:=Lib.hid (form_errA HR.out)
  have HF:=Lib.hid (qForm_any F hQ3 h2 sent hE3.env.env)
  clear HR
  go_wp2_with fail
  refine HF.out.mono ?_
  rintro e w6 ⟨eb,rfl,hEb,hle,hb7⟩
  go_wp2_with fail
  go_ret2
  exact QOut.bad HX.out rfl ⟨eb,rfl,hEb,Nat.le_trans hsz hle⟩ (hQ3.below hb7) (hK4.andBelow hb7) ⟨_,_,_,rfl⟩
 | true =>
  rw [hx,if_pos rfl] at HR
  obtain ⟨s1,s2⟩:=askip_of F.good h2 (by decide) hx
  rw [s1] at HR
  have hj:=aPass_le (ts:=ts) [1] s2
  obtain ⟨j,hjj⟩:∃ j,aPass ts [1] (i2+1)=j:=⟨_,rfl⟩
  rw [hjj] at HR hj
  clear hx
  go_wp2_with fail
  refine (qSkip_any F hQ3 h2).mono ?_
  rintro e w4 ⟨rfl,hQ4,hK5⟩
  rw [s1] at hQ4
  have hK6:=hK4.same hK5
  have hsz6:=hK6.size
  clear hQ3 hK4 hK5 hE3
  go_wp2_with fail
  refine (qPass_any F (hQ4.alloc _) s2 [1] _ _ (by decide) (by decide) (show Blk _ _ [Value.int .i64 1] from Blk.new w4 _ _) (by omega)).mono ?_
  rintro e w5 ⟨rfl,hQ5,hKa⟩
  rw [hjj] at hQ5
  have hKb:=((Kept.refl (At b) w4).alloc _).same hKa
  have hKc:=hK6.same hKb
  have hE5:=hE.kept hKc
  have hsz5:=hKc.size
  clear hQ4 hK6 hKa hKb hE hjj
  cases hq:aBody f ts base d j [123] [125] with
  | none=>rw [hq] at HR; exact absurd HR.out (by simp [PRes.go])
  | some rc =>
   rw [hq] at HR
   have HD:=Lib.hid (HB.out w5 b g cap n base j d ts [123] [125] rc hd hj.2 F hQ5 hE5 (Lib.hid hq))
   clear hQ5 hE5 HB
   go_wp2_with fail
   refine HD.out.mono ?_
   rintro e w6 ⟨hK7,h4⟩
   have hK8:=hKc.same hK7
   have hsz8:=hK7.size
   cases rc with
   | error q =>
    obtain ⟨c9,p9⟩:=q
    have HX:=Lib.hid (Option.some.inj (show some (Except.error (c9,p9))=some r from HR.out)).symm
    obtain ⟨v,u,j2,l0,rfl,h0,hl0,⟨eb,rfl,hEb,hle⟩,hQ6⟩:=h4
    have HN:=Lib.hid (cNewS_any 31 0 s [l0] b _ _ (by simp; omega) (KSl.new1 (w:=w6) (by omega) h0) (by simp; omega) (by simp))
    obtain ⟨va,vc,rfl⟩:=h0.form
    clear HR HD
    go_wp2_with fail
    refine HN.out.mono ?_
    rintro e w7 ⟨v7,rfl,h7,h8⟩
    have hb9:=bNext ((Below.refl _ w6).alloc (Nat.le_refl _) _) h8
    go_wp2_with fail
    go_ret2
    exact QOut.bad HX.out rfl ⟨eb,rfl,hEb.below hb9,Nat.le_trans hsz5 hle⟩ (hQ6.below hb9) (hK8.andBelow hb9) (by obtain ⟨ga,gc,h9,-⟩:=h7; exact ⟨_,_,_,h9⟩)
   | ok y =>
    obtain ⟨l,j2⟩:=y
    have HX:=Lib.hid (Option.some.inj (show some (Except.ok (newP 31 0 s [l],j2))=some r from HR.out)).symm
    obtain ⟨v,rfl,hNl,hQ6⟩:=h4
    have hll:=(body_lenA F.good hj.2 hq).2
    have HN:=Lib.hid (cNewS_any 31 0 s [l] b _ _ (by simp; omega) (KSl.new1 (w:=w6) (by omega) (.inl hNl)) (by simp; omega) (by simp))
    obtain ⟨ga,gc,rfl,-⟩:=hNl
    clear HR HD
    go_wp2_with fail
    refine HN.out.mono ?_
    rintro e w7 ⟨v7,rfl,h7,h8⟩
    have hb9:=bNext ((Below.refl _ w6).alloc (Nat.le_refl _) _) h8
    go_wp2_with fail
    go_ret2
    exact QOut.ok HX.out rfl h7 (hQ6.below hb9) (hK8.andBelow hb9)
end Go.Proofs.YtbfeoinoepoiaaaGreatDoor
namespace Go.Proofs.YtbfeoinoepoiaaaGreatDoor
set_option maxHeartbeats 16000000
set_option maxRecDepth 100000
open Go Go.RowKit
theorem bare_lenA {n:Nat} {ts:List ATok} (g:GoodA n ts) {i:Nat} {s:List UInt8} (h:bareA (akAt ts i)=some s):s.length≤8192∧(akAt ts i).kind≠0:=by
 obtain ⟨p,hp,hk,hs⟩:=bare_part h
 have:=(g.partI i p (by rw [hp]; simp)).len
 rw [hs] at this
 exact ⟨this,by rw [bare_kind h]; decide⟩
theorem qCommand_walk {sent:Nat→Addr} (f:Nat) (hL:QDoesN sent 74 (fun ts b d i=>aList f ts b d i)) (hT:QDoesT sent (fun ts b d i c=>aTurns f ts b d i c [])) (hS:QDoesN sent 212 (fun ts b d i=>aSimple f ts b d i [] [] []))
  (ih1:QDoes sent 214 (fun ts b d i=>aChoice f ts b d i)) (ih2:QDoes sent 215 (fun ts b d i=>aWhile f ts b d i)) (ih3:QDoes sent 216 (fun ts b d i=>aEach f ts b d i)) (ih4:QDoes sent 217 (fun ts b d i=>aChoose f ts b d i)) (ih5:QDoesF sent (fun ts b d i s=>aFunction f ts b d i s)) :
  QDoes sent 193 (fun ts b d i=>aCommand (f+1) ts b d i):=by
 intro w b g cap n base i d ts r hd hi F hQ hE hr
 have HR:=Lib.hid (show aCommand (f+1) ts base d i=some r from hr.out)
 rw [aCommand] at HR
 have HL:=Lib.hid hL
 have HT:=Lib.hid hT
 have HS:=Lib.hid hS
 have IH1:=Lib.hid ih1
 have IH2:=Lib.hid ih2
 have IH3:=Lib.hid ih3
 have IH4:=Lib.hid ih4
 have IH5:=Lib.hid ih5
 have hi24:=F.good.rem_le hi
 have hbl:=hQ.blt
 clear hr hL hT hS ih1 ih2 ih3 ih4 ih5
 go_enter Tryz.func193,Tryz.ntmps193
 go_wp2_with fail
 refine (qNow_any F hQ hi).mono ?_
 rintro e w1 ⟨v,rfl,hv,hb1⟩
 have HB:=Lib.hid (aBare_any v _ w1 hv)
 obtain ⟨v2,rfl,hp2⟩:=hv
 obtain ⟨ao,pc,rfl⟩:=hp2.form
 have hQ1:=hQ.below hb1
 have hE1:=hE.below hb1
 have hK1:=(Kept.refl (At b) w).andBelow hb1
 clear hQ hb1 hp2
 go_wp2_with fail
 refine HB.out.mono ?_
 rintro e w2 ⟨rfl,hb2⟩
 have hQ2:=hQ1.below hb2
 have hE2:=hE1.below hb2
 have hK2:=hK1.andBelow hb2
 clear hQ1 hE1 hK1 hb2 HB
 cases hx:bareA (akAt ts i) with
 | none =>
  rw [hx] at HR
  simp only [Option.isSome_none,Option.getD_none]
  go_wp2_with fail
  refine wp_region_quiet_below (by kernel_rfl) (by kernel_rfl) ?_
  repeat (go_big_quiet_step (fail))
  refine wpQuiet_nil ?_
  intro w5 hw'
  have hb:Below w2.heap.size w2 w5:=below_of_regrown hw'
  clear hw'
  have HD:=Lib.hid (HS.out w5 b g cap n base i d ts r hd hi F (hQ2.below hb) (hE2.below hb) HR)
  replace hK2:=hK2.andBelow hb
  clear hQ2 hE2
  go_wp2_with fail
  refine HD.out.mono ?_
  intro e w7 h7
  have h8:=h7.out.after hK2
  obtain ⟨v,u,rfl⟩:=h8.tuple
  go_wp2_with fail
  go_ret2
  exact h8
 | some s =>
  rw [hx] at HR
  obtain ⟨hsl,hk0⟩:=bare_lenA F.good hx
  obtain ⟨mx,hmx⟩:=hE2.env.mx
  have hsz8:(bs s).size≤8192:=by rw [bs_size]; exact hsl
  simp only [Option.isSome_some,Option.getD_some]
  have HR:=Lib.hid (show (if keyA s=false then (if nameB s=true∧(akAt ts (aSk ts i)).kind=7 then aFunction f ts base d i s else aSimple f ts base d i [] [] [])
   else if s=[123] then (aList f ts base d (aSk ts i)).go fun l j=>wantA ts base j [125] fun e=>aTurns f ts base d e l []
   else if s=[105,102] then (aChoice f ts base d i).go fun l j=>aTurns f ts base d j l []
   else if s=[119,104,105,108,101] then (aWhile f ts base d i).go fun l j=>aTurns f ts base d j l []
   else if s=[102,111,114] then (aEach f ts base d i).go fun l j=>aTurns f ts base d j l []
   else if s=[99,97,115,101] then (aChoose f ts base d i).go fun l j=>aTurns f ts base d j l []
   else formA ts base i)=some r from HR.out)
  go_wp2_with fail
  refine (qIsKey_any s w2 hsl mx hmx).mono ?_
  rintro e w4 ⟨rfl,rfl⟩
  cases x2:keyA s with
  | false =>
   rw [if_pos x2] at HR
   clear hmx
   have hj:=(aSk_le (ts:=ts) hi).2
   have hm:=aSk_cast (ts:=ts) (i:=i) F.good.pos
   obtain ⟨q,hqq⟩:∃ q,aSk ts i=q:=⟨_,rfl⟩
   rw [hqq] at HR hj hm
   obtain ⟨r0,-,-⟩:=hQ2.row q _ (ak_get' hj)
   obtain ⟨kq,hkq⟩:∃ k,(akAt ts q).kind=k:=⟨_,rfl⟩
   rw [hkq] at HR r0
   have c0:=hQ2.c0
   have c1:=hQ2.c1
   have hn:=F.good.len
   have hc1:=F.cap1
   have hi':=hi
   have hbig:(bs s).size≤1000000:=by omega
   obtain ⟨N,hN⟩:∃ n,ts.length=n:=⟨_,rfl⟩
   rw [hN] at hi' hn hc1 c0 hm hj
   have hw1:IntKind.i64.wrap ((i:Int)+1)=(i:Int)+1:=by rw [IntKind.wrap_i64]; omega
   have hw2:IntKind.i64.wrap ((N:Int) - 1)=(N:Int) - 1:=by rw [IntKind.wrap_i64]; omega
   have hq0:(0:Int)≤(q:Int):=by omega
   have hq1:(q:Int)<(N:Int):=by omega
   have HI:=Lib.hid hi
   have k0:=cell_regrown c0
   have k1:=cell_regrown c1
   have k3:=cell_regrown r0
   have HT9:=Lib.hid (fun (w9:World)=>show Calls Tryz.prog 127 #[.string (bs s)] w9 fun e w'=>e = .returned (.bool (nameB s))∧Below w9.heap.size w9 w' from (tName_any (bs s) w9 hbig).mono (by rintro e w' ⟨rfl,rfl⟩; rw [bs_list]; exact ⟨rfl,Below.refl _ _⟩))
   have HQ:=Lib.hid hQ2
   have HE:=Lib.hid hE2
   have HK:=Lib.hid hK2
   clear hx hN hkq hqq hi hi24 hsl hk0 hQ2 hE2 hK2 hE
   go_wp2_with fail
   cases xn:nameB s with
   | false =>
    rw [xn] at HT9 HR
    refine wp_region_quiet_below (by kernel_rfl) (by kernel_rfl) ?_
    repeat (go_big_quiet_step ((first | (go_at_call 127; exact Calls.regrown_of (HT9.out _)))))
    refine wpQuiet_nil ?_
    intro w5 hw'
    have hb:Below w4.heap.size w4 w5:=below_of_regrown hw'
    clear hw'
    have HR:=Lib.hid (show aSimple f ts base d i [] [] []=some r from by have:=HR.out; simpa using this)
    have HD:=Lib.hid (HS.out w5 b g cap n base i d ts r hd (HI.out) F (HQ.out.below hb) (HE.out.below hb) HR)
    have hK9:=HK.out.andBelow hb
    go_wp2_with fail
    refine HD.out.mono ?_
    intro e w7 h7
    have h8:=h7.out.after hK9
    obtain ⟨v,u,rfl⟩:=h8.tuple
    go_wp2_with fail
    go_ret2
    exact h8
   | true =>
    rw [xn] at HT9 HR
    by_cases h7:kq=7
    ·subst h7
     refine wp_region_quiet_below (by kernel_rfl) (by kernel_rfl) ?_
     repeat (go_big_quiet_step ((first | (go_at_call 127; exact Calls.regrown_of (HT9.out _)))))
     refine wpQuiet_nil ?_
     intro w5 hw'
     have hb:Below w4.heap.size w4 w5:=below_of_regrown hw'
     clear hw'
     have HR:=Lib.hid (show aFunction f ts base d i s=some r from by have:=HR.out; simpa using this)
     have HD:=Lib.hid (IH5.out w5 b g cap n base i d ts s r hd (HI.out) F (HQ.out.below hb) (HE.out.below hb) HR)
     have hK9:=HK.out.andBelow hb
     go_wp2_with fail
     refine HD.out.mono ?_
     intro e w7 h7
     have h8:=h7.after hK9
     obtain ⟨v,u,rfl⟩:=h8.tuple
     go_wp2_with fail
     go_ret2
     exact h8
    ·have h7':((kq:Int) == 7)=false:=by rw [beq_eq_false_iff_ne]; omega
     refine wp_region_quiet_below (by kernel_rfl) (by kernel_rfl) ?_
     repeat (go_big_quiet_step ((first | (go_at_call 127; exact Calls.regrown_of (HT9.out _)))))
     refine wpQuiet_nil ?_
     intro w5 hw'
     have hb:Below w4.heap.size w4 w5:=below_of_regrown hw'
     clear hw'
     have HR:=Lib.hid (show aSimple f ts base d i [] [] []=some r from by have:=HR.out; simpa [h7] using this)
     have HD:=Lib.hid (HS.out w5 b g cap n base i d ts r hd (HI.out) F (HQ.out.below hb) (HE.out.below hb) HR)
     have hK9:=HK.out.andBelow hb
     go_wp2_with fail
     refine HD.out.mono ?_
     intro e w7 h7
     have h8:=h7.out.after hK9
     obtain ⟨v,u,rfl⟩:=h8.tuple
     go_wp2_with fail
     go_ret2
     exact h8
  | true =>
   rw [if_neg (by rw [x2]; simp)] at HR
   unfold keyA keyLA at x2
   rw [List.contains_iff_mem] at x2
   simp only [List.mem_cons,List.not_mem_nil,or_false] at x2
   have hQ4:=hQ2
   have hE4:=hE2
   have hK4:=hK2
   clear hmx hQ2 hE2 hK2 hx hsl hsz8
   rcases x2 with x2 | x2 | x2 | x2 | x2 | x2 | x2 | x2 | x2 | x2 | x2 | x2 | x2 | x2
   ·subst x2
    rw [show bs [105,102]=(⟨#[105,102]⟩:ByteArray) from rfl]
    repeat rw [if_neg (by decide)] at HR
    rw [if_pos rfl] at HR
    cases hq:aChoice f ts base d i with
    | none=>rw [hq] at HR; exact absurd HR.out (by simp [PRes.go])
    | some rc =>
     rw [hq] at HR
     have HD:=Lib.hid (IH1.out w4 b g cap n base i d ts rc hd hi F hQ4 hE4 (Lib.hid hq))
     clear hQ4 hE4
     go_wp2_with fail
     refine HD.out.mono ?_
     rintro e w6 ⟨hK6,h6⟩
     have hK9:=hK4.same hK6
     have hsz4:=hK4.size
     cases rc with
     | error q =>
      obtain ⟨c9,p9⟩:=q
      have HX:=Lib.hid (Option.some.inj (show some (Except.error (c9,p9))=some r from HR.out)).symm
      obtain ⟨v,u,j,rfl,⟨eb,rfl,hEb,hle⟩,hQ6,va,vn,vc,rfl⟩:=h6
      clear HR HD
      go_wp2_with fail
      go_ret2
      exact QOut.bad HX.out rfl ⟨eb,rfl,hEb,Nat.le_trans hsz4 hle⟩ hQ6 hK9 ⟨_,_,_,rfl⟩
     | ok y =>
      obtain ⟨l,j⟩:=y
      obtain ⟨v9,rfl,hN9,hQ9⟩:=h6
      obtain ⟨-,hjl,-,hll,-⟩:=((postAllA f).choice F.good base d i hi).1 l j hq
      have HR:=Lib.hid (show aTurns f ts base d j l []=some r from HR.out)
      clear HD hq
      have hE9:=hE.kept hK9
      have HC:=Lib.hid (HT.out w6 b g cap n base j d ts l v9 r hd hjl F hQ9 hE9 hN9 (by omega) HR)
      have hsz9:=hK9.size
      (try (obtain ⟨ga,gc,rfl,-⟩:=id hN9))
      clear hE9 hN9 hQ9
      go_wp2_with fail
      refine HC.out.mono ?_
      intro e w7 h7
      have h8:=h7.out.after hK9
      obtain ⟨v,u,rfl⟩:=h8.tuple
      go_wp2_with fail
      go_ret2
      exact h8
   ·subst x2
    rw [show bs [116,104,101,110]=(⟨#[116,104,101,110]⟩:ByteArray) from rfl]
    repeat rw [if_neg (by decide)] at HR
    have HX:=Lib.hid (form_errA HR.out)
    have HF:=Lib.hid (qForm_any F hQ4 hi sent hE4.env.env)
    clear HR
    go_wp2_with fail
    refine HF.out.mono ?_
    rintro e w6 ⟨eb,rfl,hEb,hle,hb7⟩
    have hsz4:=hK4.size
    go_wp2_with fail
    go_ret2
    exact QOut.bad HX.out rfl ⟨eb,rfl,hEb,Nat.le_trans hsz4 hle⟩ (hQ4.below hb7) (hK4.andBelow hb7) ⟨_,_,_,rfl⟩
   ·subst x2
    rw [show bs [101,108,115,101]=(⟨#[101,108,115,101]⟩:ByteArray) from rfl]
    repeat rw [if_neg (by decide)] at HR
    have HX:=Lib.hid (form_errA HR.out)
    have HF:=Lib.hid (qForm_any F hQ4 hi sent hE4.env.env)
    clear HR
    go_wp2_with fail
    refine HF.out.mono ?_
    rintro e w6 ⟨eb,rfl,hEb,hle,hb7⟩
    have hsz4:=hK4.size
    go_wp2_with fail
    go_ret2
    exact QOut.bad HX.out rfl ⟨eb,rfl,hEb,Nat.le_trans hsz4 hle⟩ (hQ4.below hb7) (hK4.andBelow hb7) ⟨_,_,_,rfl⟩
   ·subst x2
    rw [show bs [102,105]=(⟨#[102,105]⟩:ByteArray) from rfl]
    repeat rw [if_neg (by decide)] at HR
    have HX:=Lib.hid (form_errA HR.out)
    have HF:=Lib.hid (qForm_any F hQ4 hi sent hE4.env.env)
    clear HR
    go_wp2_with fail
    refine HF.out.mono ?_
    rintro e w6 ⟨eb,rfl,hEb,hle,hb7⟩
    have hsz4:=hK4.size
    go_wp2_with fail
    go_ret2
    exact QOut.bad HX.out rfl ⟨eb,rfl,hEb,Nat.le_trans hsz4 hle⟩ (hQ4.below hb7) (hK4.andBelow hb7) ⟨_,_,_,rfl⟩
   ·subst x2
    rw [show bs [119,104,105,108,101]=(⟨#[119,104,105,108,101]⟩:ByteArray) from rfl]
    repeat rw [if_neg (by decide)] at HR
    rw [if_pos rfl] at HR
    cases hq:aWhile f ts base d i with
    | none=>rw [hq] at HR; exact absurd HR.out (by simp [PRes.go])
    | some rc =>
     rw [hq] at HR
     have HD:=Lib.hid (IH2.out w4 b g cap n base i d ts rc hd hi F hQ4 hE4 (Lib.hid hq))
     clear hQ4 hE4
     go_wp2_with fail
     refine HD.out.mono ?_
     rintro e w6 ⟨hK6,h6⟩
     have hK9:=hK4.same hK6
     have hsz4:=hK4.size
     cases rc with
     | error q =>
      obtain ⟨c9,p9⟩:=q
      have HX:=Lib.hid (Option.some.inj (show some (Except.error (c9,p9))=some r from HR.out)).symm
      obtain ⟨v,u,j,rfl,⟨eb,rfl,hEb,hle⟩,hQ6,va,vn,vc,rfl⟩:=h6
      clear HR HD
      go_wp2_with fail
      go_ret2
      exact QOut.bad HX.out rfl ⟨eb,rfl,hEb,Nat.le_trans hsz4 hle⟩ hQ6 hK9 ⟨_,_,_,rfl⟩
     | ok y =>
      obtain ⟨l,j⟩:=y
      obtain ⟨v9,rfl,hN9,hQ9⟩:=h6
      obtain ⟨-,hjl,-,hll,-⟩:=((postAllA f).whl F.good base d i hi).1 l j hq
      have HR:=Lib.hid (show aTurns f ts base d j l []=some r from HR.out)
      clear HD hq
      have hE9:=hE.kept hK9
      have HC:=Lib.hid (HT.out w6 b g cap n base j d ts l v9 r hd hjl F hQ9 hE9 hN9 (by omega) HR)
      have hsz9:=hK9.size
      (try (obtain ⟨ga,gc,rfl,-⟩:=id hN9))
      clear hE9 hN9 hQ9
      go_wp2_with fail
      refine HC.out.mono ?_
      intro e w7 h7
      have h8:=h7.out.after hK9
      obtain ⟨v,u,rfl⟩:=h8.tuple
      go_wp2_with fail
      go_ret2
      exact h8
   ·subst x2
    rw [show bs [100,111]=(⟨#[100,111]⟩:ByteArray) from rfl]
    repeat rw [if_neg (by decide)] at HR
    have HX:=Lib.hid (form_errA HR.out)
    have HF:=Lib.hid (qForm_any F hQ4 hi sent hE4.env.env)
    clear HR
    go_wp2_with fail
    refine HF.out.mono ?_
    rintro e w6 ⟨eb,rfl,hEb,hle,hb7⟩
    have hsz4:=hK4.size
    go_wp2_with fail
    go_ret2
    exact QOut.bad HX.out rfl ⟨eb,rfl,hEb,Nat.le_trans hsz4 hle⟩ (hQ4.below hb7) (hK4.andBelow hb7) ⟨_,_,_,rfl⟩
   ·subst x2
    rw [show bs [100,111,110,101]=(⟨#[100,111,110,101]⟩:ByteArray) from rfl]
    repeat rw [if_neg (by decide)] at HR
    have HX:=Lib.hid (form_errA HR.out)
    have HF:=Lib.hid (qForm_any F hQ4 hi sent hE4.env.env)
    clear HR
    go_wp2_with fail
    refine HF.out.mono ?_
    rintro e w6 ⟨eb,rfl,hEb,hle,hb7⟩
    have hsz4:=hK4.size
    go_wp2_with fail
    go_ret2
    exact QOut.bad HX.out rfl ⟨eb,rfl,hEb,Nat.le_trans hsz4 hle⟩ (hQ4.below hb7) (hK4.andBelow hb7) ⟨_,_,_,rfl⟩
   ·subst x2
    rw [show bs [102,111,114]=(⟨#[102,111,114]⟩:ByteArray) from rfl]
    repeat rw [if_neg (by decide)] at HR
    rw [if_pos rfl] at HR
    cases hq:aEach f ts base d i with
    | none=>rw [hq] at HR; exact absurd HR.out (by simp [PRes.go])
    | some rc =>
     rw [hq] at HR
     have HD:=Lib.hid (IH3.out w4 b g cap n base i d ts rc hd hi F hQ4 hE4 (Lib.hid hq))
     clear hQ4 hE4
     go_wp2_with fail
     refine HD.out.mono ?_
     rintro e w6 ⟨hK6,h6⟩
     have hK9:=hK4.same hK6
     have hsz4:=hK4.size
     cases rc with
     | error q =>
      obtain ⟨c9,p9⟩:=q
      have HX:=Lib.hid (Option.some.inj (show some (Except.error (c9,p9))=some r from HR.out)).symm
      obtain ⟨v,u,j,rfl,⟨eb,rfl,hEb,hle⟩,hQ6,va,vn,vc,rfl⟩:=h6
      clear HR HD
      go_wp2_with fail
      go_ret2
      exact QOut.bad HX.out rfl ⟨eb,rfl,hEb,Nat.le_trans hsz4 hle⟩ hQ6 hK9 ⟨_,_,_,rfl⟩
     | ok y =>
      obtain ⟨l,j⟩:=y
      obtain ⟨v9,rfl,hN9,hQ9⟩:=h6
      obtain ⟨-,hjl,-,hll,-⟩:=((postAllA f).each F.good base d i hi hk0).1 l j hq
      have HR:=Lib.hid (show aTurns f ts base d j l []=some r from HR.out)
      clear HD hq
      have hE9:=hE.kept hK9
      have HC:=Lib.hid (HT.out w6 b g cap n base j d ts l v9 r hd hjl F hQ9 hE9 hN9 (by omega) HR)
      have hsz9:=hK9.size
      (try (obtain ⟨ga,gc,rfl,-⟩:=id hN9))
      clear hE9 hN9 hQ9
      go_wp2_with fail
      refine HC.out.mono ?_
      intro e w7 h7
      have h8:=h7.out.after hK9
      obtain ⟨v,u,rfl⟩:=h8.tuple
      go_wp2_with fail
      go_ret2
      exact h8
   ·subst x2
    rw [show bs [105,110]=(⟨#[105,110]⟩:ByteArray) from rfl]
    repeat rw [if_neg (by decide)] at HR
    have HX:=Lib.hid (form_errA HR.out)
    have HF:=Lib.hid (qForm_any F hQ4 hi sent hE4.env.env)
    clear HR
    go_wp2_with fail
    refine HF.out.mono ?_
    rintro e w6 ⟨eb,rfl,hEb,hle,hb7⟩
    have hsz4:=hK4.size
    go_wp2_with fail
    go_ret2
    exact QOut.bad HX.out rfl ⟨eb,rfl,hEb,Nat.le_trans hsz4 hle⟩ (hQ4.below hb7) (hK4.andBelow hb7) ⟨_,_,_,rfl⟩
   ·subst x2
    rw [show bs [99,97,115,101]=(⟨#[99,97,115,101]⟩:ByteArray) from rfl]
    repeat rw [if_neg (by decide)] at HR
    rw [if_pos rfl] at HR
    cases hq:aChoose f ts base d i with
    | none=>rw [hq] at HR; exact absurd HR.out (by simp [PRes.go])
    | some rc =>
     rw [hq] at HR
     have HD:=Lib.hid (IH4.out w4 b g cap n base i d ts rc hd hi F hQ4 hE4 (Lib.hid hq))
     clear hQ4 hE4
     go_wp2_with fail
     refine HD.out.mono ?_
     rintro e w6 ⟨hK6,h6⟩
     have hK9:=hK4.same hK6
     have hsz4:=hK4.size
     cases rc with
     | error q =>
      obtain ⟨c9,p9⟩:=q
      have HX:=Lib.hid (Option.some.inj (show some (Except.error (c9,p9))=some r from HR.out)).symm
      obtain ⟨v,u,j,rfl,⟨eb,rfl,hEb,hle⟩,hQ6,va,vn,vc,rfl⟩:=h6
      clear HR HD
      go_wp2_with fail
      go_ret2
      exact QOut.bad HX.out rfl ⟨eb,rfl,hEb,Nat.le_trans hsz4 hle⟩ hQ6 hK9 ⟨_,_,_,rfl⟩
     | ok y =>
      obtain ⟨l,j⟩:=y
      obtain ⟨v9,rfl,hN9,hQ9⟩:=h6
      obtain ⟨-,hjl,-,hll,-⟩:=((postAllA f).choose F.good base d i hi hk0).1 l j hq
      have HR:=Lib.hid (show aTurns f ts base d j l []=some r from HR.out)
      clear HD hq
      have hE9:=hE.kept hK9
      have HC:=Lib.hid (HT.out w6 b g cap n base j d ts l v9 r hd hjl F hQ9 hE9 hN9 (by omega) HR)
      have hsz9:=hK9.size
      (try (obtain ⟨ga,gc,rfl,-⟩:=id hN9))
      clear hE9 hN9 hQ9
      go_wp2_with fail
      refine HC.out.mono ?_
      intro e w7 h7
      have h8:=h7.out.after hK9
      obtain ⟨v,u,rfl⟩:=h8.tuple
      go_wp2_with fail
      go_ret2
      exact h8
   ·subst x2
    rw [show bs [101,115,97,99]=(⟨#[101,115,97,99]⟩:ByteArray) from rfl]
    repeat rw [if_neg (by decide)] at HR
    have HX:=Lib.hid (form_errA HR.out)
    have HF:=Lib.hid (qForm_any F hQ4 hi sent hE4.env.env)
    clear HR
    go_wp2_with fail
    refine HF.out.mono ?_
    rintro e w6 ⟨eb,rfl,hEb,hle,hb7⟩
    have hsz4:=hK4.size
    go_wp2_with fail
    go_ret2
    exact QOut.bad HX.out rfl ⟨eb,rfl,hEb,Nat.le_trans hsz4 hle⟩ (hQ4.below hb7) (hK4.andBelow hb7) ⟨_,_,_,rfl⟩
   ·subst x2
    rw [show bs [123]=(⟨#[123]⟩:ByteArray) from rfl]
    have HRb:=Lib.hid (show (aList f ts base d (aSk ts i)).go (fun l j=>wantA ts base j [125] fun e=>aTurns f ts base d e l [])=some r from by have h:=HR.out; first | exact (if_pos rfl).symm.trans h | (rw [if_neg (by decide),if_pos trivial] at h; exact h))
    clear HR
    have h1:=(aSk_le (ts:=ts) hi).2
    obtain ⟨i1,hi1⟩:∃ q,aSk ts i=q:=⟨_,rfl⟩
    rw [hi1] at HRb h1
    go_wp2_with fail
    refine (qSkip_any F hQ4 hi).mono ?_
    rintro e w5 ⟨rfl,hQ5,hK5⟩
    rw [hi1] at hQ5
    have hE5:=hE4.kept hK5
    have hK6:=hK4.same hK5
    have hsz6:=hK6.size
    clear hQ4 hE4 hK4 hK5 hi1
    cases hq:aList f ts base d i1 with
    | none=>rw [hq] at HRb; exact absurd HRb.out (by simp [PRes.go])
    | some rc =>
     rw [hq] at HRb
     have HD:=Lib.hid (HL.out w5 b g cap n base i1 d ts rc hd h1 F hQ5 hE5 (Lib.hid hq))
     clear hQ5 hE5
     go_wp2_with fail
     refine HD.out.mono ?_
     rintro e w6 ⟨hK7,h6⟩
     have hK9:=hK6.same hK7
     have hsz9':=hK9.size
     cases rc with
     | error q =>
      obtain ⟨c9,p9⟩:=q
      have HX:=Lib.hid (Option.some.inj (show some (Except.error (c9,p9))=some r from HRb.out)).symm
      obtain ⟨u,j,rfl,⟨eb,rfl,hEb,hle⟩,hQ6⟩:=h6
      clear HRb HD
      go_wp2_with fail
      go_ret2
      exact QOut.bad HX.out rfl ⟨eb,rfl,hEb,Nat.le_trans hsz6 hle⟩ hQ6 hK9 ⟨_,_,_,rfl⟩
     | ok y =>
      obtain ⟨l,j⟩:=y
      obtain ⟨v9,rfl,hN9,hQ9⟩:=h6
      obtain ⟨-,hjl,-,hll,-⟩:=((postAllA f).list F.good base d i1 h1).1 l j hq
      have hr1:=F.good.rem_le h1
      have HR:=Lib.hid (show wantA ts base j [125] (fun e=>aTurns f ts base d e l [])=some r from HRb.out)
      have hN9c:=hN9
      obtain ⟨gx,cx,rfl,-⟩:=hN9
      have hE9:=hE.kept hK9
      clear HD hq hK7
      unfold wantA at HR
      cases xw:aKey ts j [[125]] with
      | false =>
       rw [xw,if_neg (by simp)] at HR
       have HX:=Lib.hid (form_errA HR.out)
       have HW:=Lib.hid (qWant_no F hQ9 hjl [125] xw sent hE9.env.env)
       clear HR
       go_wp2_with fail
       refine HW.out.mono ?_
       rintro e w7 ⟨eb,rfl,hEb,hle,hb7⟩
       go_wp2_with fail
       go_ret2
       exact QOut.bad HX.out rfl ⟨eb,rfl,hEb,by omega⟩ (hQ9.below hb7) (hK9.andBelow hb7) ⟨_,_,_,rfl⟩
      | true =>
       rw [xw,if_pos rfl] at HR
       obtain ⟨s1,s2⟩:=akey_of F.good hjl xw
       have HW:=Lib.hid (qWant_yes F hQ9 hjl [125] xw)
       rw [s1] at HR HW
       clear xw s1 hQ9 hE9
       go_wp2_with fail
       refine HW.out.mono ?_
       rintro e w7 ⟨rfl,hQ7,hKx⟩
       have hN9:=hN9c.kept hKx
       have hK8:=hK9.same hKx
       have hQ9:=hQ7
       have hjl:=s2
       clear hK9 hKx hN9c hQ7 s2 HW
       have hK9:=hK8
       clear hK8
       have hE9:=hE.kept hK9
       have HC:=Lib.hid (HT.out w7 b g cap n base (j+1) d ts l (.slice (some ⟨gx,0,none⟩) l.length cx) r hd hjl F hQ9 hE9 hN9 (by omega) HR)
       have hsz9:=hK9.size
       (try (obtain ⟨ga,gc,rfl,-⟩:=id hN9))
       clear hE9 hN9 hQ9
       go_wp2_with fail
       refine HC.out.mono ?_
       intro e w7 h7
       have h8:=h7.out.after hK9
       obtain ⟨v,u,rfl⟩:=h8.tuple
       go_wp2_with fail
       go_ret2
       exact h8
   ·subst x2
    rw [show bs [125]=(⟨#[125]⟩:ByteArray) from rfl]
    repeat rw [if_neg (by decide)] at HR
    have HX:=Lib.hid (form_errA HR.out)
    have HF:=Lib.hid (qForm_any F hQ4 hi sent hE4.env.env)
    clear HR
    go_wp2_with fail
    refine HF.out.mono ?_
    rintro e w6 ⟨eb,rfl,hEb,hle,hb7⟩
    have hsz4:=hK4.size
    go_wp2_with fail
    go_ret2
    exact QOut.bad HX.out rfl ⟨eb,rfl,hEb,Nat.le_trans hsz4 hle⟩ (hQ4.below hb7) (hK4.andBelow hb7) ⟨_,_,_,rfl⟩
   ·subst x2
    rw [show bs [33]=(⟨#[33]⟩:ByteArray) from rfl]
    repeat rw [if_neg (by decide)] at HR
    have HX:=Lib.hid (form_errA HR.out)
    have HF:=Lib.hid (qForm_any F hQ4 hi sent hE4.env.env)
    clear HR
    go_wp2_with fail
    refine HF.out.mono ?_
    rintro e w6 ⟨eb,rfl,hEb,hle,hb7⟩
    have hsz4:=hK4.size
    go_wp2_with fail
    go_ret2
    exact QOut.bad HX.out rfl ⟨eb,rfl,hEb,Nat.le_trans hsz4 hle⟩ (hQ4.below hb7) (hK4.andBelow hb7) ⟨_,_,_,rfl⟩
end Go.Proofs.YtbfeoinoepoiaaaGreatDoor
namespace Go.Proofs.YtbfeoinoepoiaaaGreatDoor
set_option maxHeartbeats 16000000
set_option maxRecDepth 100000
open Go Go.RowKit
theorem fieldV_facts {n:Nat} {ts:List ATok} (g:GoodA n ts) {f b d i:Nat} {l:Prog} (hi:i<ts.length) (h:fieldA (fun x=>aSub f b d x) b (akAt ts i)=some (.ok l)):0<l.length∧l.length+5+8 * remA ts (i+1)≤8 * remA ts i∧l.length≤200000:=by
 have h1:=(field_post (g.parts i) ((postAllA f).subQ g b d i)).1 l h
 unfold WordQ at h1
 have h2:=remA_step hi
 have h3:=g.rem_le hi
 omega
theorem DoesV.use {sent:Nat→Addr} {fn:FuncId} {V:Nat→Nat→ATok→POne Prog} (h:DoesV sent fn V) {w:World} {b g cap n base i d:Nat} {ts:List ATok} {tv:Value} {r:Except (Nat × Nat) Prog} (hd:d≤31) (hi:i<ts.length) (F:QFix n base cap ts) (hQ:QSt w b g cap ts base i d) (hE:EnvQ w b sent) (ht:ATokV w tv (akAt ts i)) (hr:Hid (V base d (akAt ts i)=some r)) :
  Calls Tryz.prog fn #[.pointer (some ⟨b,0,none⟩),tv] w (OneOut w b sent r) :=
 h w b g cap n base i d ts (akAt ts i) tv r hd F hQ hE ht (fun x hxm=>F.good.partI i x hxm) (F.tx i) (F.good.place i) (F.good.wtPs_le hi) hr
theorem PRes.at_err {β:Type} {c p i:Nat} {k:Prog→Nat→PRes β} {r:Except (Nat × Nat) (β × Nat)} (h:(POne.at (some (.error (c,p)):POne Prog) i).go k=some r):r = .error (c,p):=(Option.some.inj h).symm
theorem qEach_walk {sent:Nat→Addr} (f:Nat) (hFd:∀ f'<f,DoesV sent 239 (fun b d t=>fieldA (fun x=>aSub f' b d x) b t)) (hB:QDoesB sent (fun ts b d i s t=>aBody f ts b d i s t)):QDoes sent 216 (fun ts b d i=>aEach (f+1) ts b d i):=by
 intro w b g cap n base i d ts r hd hi F hQ hE hr
 have HR:=Lib.hid (show aEach (f+1) ts base d i=some r from hr.out)
 rw [aEach] at HR
 obtain ⟨k0,hk0,hk1,hk2,hk3⟩:=info_parts infoNodes
 have HB:=Lib.hid hB
 have HFd:=Lib.hid hFd
 have hbl:=hQ.blt
 have hlen:=F.good.len
 have h1:=(aSk_le (ts:=ts) hi).2
 obtain ⟨i1,hi1⟩:∃ q,aSk ts i=q:=⟨_,rfl⟩
 rw [hi1] at HR h1
 clear hr hB hFd
 go_enter Tryz.func216,Tryz.ntmps216
 go_wp2_with fail
 refine (qSkip_any F hQ hi).mono ?_
 rintro e w1 ⟨rfl,hQ1,hK1⟩
 rw [hi1] at hQ1
 clear hQ hi1 hi
 go_wp2_with fail
 refine (qNow_any F hQ1 h1).mono ?_
 rintro e w2 ⟨v,rfl,hv,hb2⟩
 have HBr:=Lib.hid (aBare_any v _ w2 hv)
 obtain ⟨v2,rfl,hp2⟩:=hv
 obtain ⟨ao,pc,rfl⟩:=hp2.form
 have hQ2:=hQ1.below hb2
 have hK2:=hK1.andBelow hb2
 clear hQ1 hK1 hb2 hp2
 go_wp2_with fail
 refine HBr.out.mono ?_
 rintro e w3 ⟨rfl,hb3⟩
 have hQ3:=hQ2.below hb3
 have hK3:=hK2.andBelow hb3
 have hE3:=hE.kept hK3
 have hsz3:=hK3.size
 clear hQ2 hK2 hb3 HBr
 have HFm:=Lib.hid (fun (w9:World) (h9:QSt w9 b g cap ts base i1 d) (hE9:EnvQ w9 b sent)=>qForm_any F h9 h1 sent hE9.env.env)
 cases hx:bareA (akAt ts i1) with
 | none =>
  rw [hx] at HR
  have HX:=Lib.hid (form_errA HR.out)
  simp only [Option.isSome_none,Option.getD_none]
  clear HR
  go_wp2_with fail
  refine (HFm.out _ hQ3 hE3).mono ?_
  rintro e w6 ⟨eb,rfl,hEb,hle,hb7⟩
  go_wp2_with fail
  go_ret2
  exact QOut.bad HX.out rfl ⟨eb,rfl,hEb,Nat.le_trans hsz3 hle⟩ (hQ3.below hb7) (hK3.andBelow hb7) ⟨_,_,_,rfl⟩
 | some s =>
  rw [hx] at HR
  obtain ⟨hsl,-⟩:=bare_lenA F.good hx
  have HR:=Lib.hid (show (if nameB s=true then
    wantA ts base (aSk ts i1) [105,110] fun a=>(aFields f ts base d a []).go fun ws j =>
     (aBody f ts base d (aPass ts [1,2] j) [100,111] [100,111,110,101]).go fun l e=>pOk (newP 29 0 s [catP ws,l]) e
   else formA ts base i1)=some r from HR.out)
  have hsz8:(bs s).size≤1000000:=by rw [bs_size]; omega
  simp only [Option.isSome_some,Option.getD_some]
  go_wp2_with fail
  refine (tName_any (bs s) w3 hsz8).mono ?_
  rintro e w4 ⟨rfl,rfl⟩
  rw [bs_list]
  cases xn:nameB s with
  | false =>
   rw [xn,if_neg (by simp)] at HR
   have HX:=Lib.hid (form_errA HR.out)
   clear HR
   go_wp2_with fail
   refine (HFm.out _ hQ3 hE3).mono ?_
   rintro e w6 ⟨eb,rfl,hEb,hle,hb7⟩
   go_wp2_with fail
   go_ret2
   exact QOut.bad HX.out rfl ⟨eb,rfl,hEb,Nat.le_trans hsz3 hle⟩ (hQ3.below hb7) (hK3.andBelow hb7) ⟨_,_,_,rfl⟩
  | true =>
   rw [if_pos xn] at HR
   unfold wantA at HR
   have h2:=(aSk_le (ts:=ts) h1).2
   obtain ⟨i2,hi2⟩:∃ q,aSk ts i1=q:=⟨_,rfl⟩
   rw [hi2] at HR h2
   clear xn HFm
   go_wp2_with fail
   refine (qSkip_any F hQ3 h1).mono ?_
   rintro e w4 ⟨rfl,hQ4,hK4⟩
   rw [hi2] at hQ4
   have hE4:=hE3.kept hK4
   have hK5:=hK3.same hK4
   have hsz5:=hK5.size
   clear hQ3 hE3 hK3 hK4 hi2
   cases xw:aKey ts i2 [[105,110]] with
   | false =>
    rw [xw,if_neg (by simp)] at HR
    have HX:=Lib.hid (form_errA HR.out)
    have HW:=Lib.hid (qWant_no F hQ4 h2 [105,110] xw sent hE4.env.env)
    clear HR
    go_wp2_with fail
    refine HW.out.mono ?_
    rintro e w6 ⟨eb,rfl,hEb,hle,hb7⟩
    go_wp2_with fail
    go_ret2
    exact QOut.bad HX.out rfl ⟨eb,rfl,hEb,Nat.le_trans hsz5 hle⟩ (hQ4.below hb7) (hK5.andBelow hb7) ⟨_,_,_,rfl⟩
   | true =>
    rw [xw,if_pos rfl] at HR
    obtain ⟨s1,s2⟩:=akey_of F.good h2 xw
    have HW:=Lib.hid (qWant_yes F hQ4 h2 [105,110] xw)
    rw [s1] at HR HW
    clear xw s1
    go_wp2_with fail
    refine HW.out.mono ?_
    rintro e w5 ⟨rfl,hQ5,hK6⟩
    have hK7:=hK5.same hK6
    clear hQ4 hE4 hK5 hK6 HW
    cases hq:aFields f ts base d (i2+1) [] with
    | none=>rw [hq] at HR; exact absurd HR.out (by simp [PRes.go])
    | some rr =>
     rw [hq] at HR
     have HQ:=Lib.hid hq
     have HFS:=Lib.hid (show ∀ L j,rr = .ok (L,j)→j<ts.length∧L.flatten.length≤200000∧L.length≤25000∧(∀ l∈L,0<l.length) from fun L j h=>by
      obtain ⟨q1,q2,q3,q4,-,q6⟩:=((postAllA f).fields F.good base d (i2+1) [] s2 (fun _ h=>nomatch h)).1 L j (by rw [hq,h])
      have:=F.good.rem_le s2
      simp only [List.flatten_nil,List.length_nil] at q4 q6
      exact ⟨q2,by omega,by omega,q3⟩)
     have hi24:=F.good.rem_le s2
     clear hq
     go_wp2_with fail
     go_loopg [7,8,9] (ts.length - (i2+1)) (fun m v x9 er wr=>∃ (k fk:Nat) (L:List Prog),m=ts.length - k∧k<ts.length∧fk≤f∧L.length≤k∧L.flatten.length+8 * remA ts k≤8 * remA ts (i2+1)∧Hid (∀ l∈L,0<l.length)∧Kept (At b) w wr∧QSt wr b g cap ts base k d∧KOwn wr w.heap.size b v L∧Hid (aFields fk ts base d k L=some rr))
     case atStart=>exact ⟨i2+1,f,[],rfl,s2,Nat.le_refl _,by simp,by simp,Lib.hid (fun _ h=>nomatch h),hK7,hQ5,KOwn.nil _ _ _,HQ⟩
     case round =>
      clear hQ5 HQ hK7 s2
      obtain ⟨k,fk,L,rfl,hk,hfk,hL1,hL2,hL3,hK,hS,hO,hr⟩:=hrel
      obtain ⟨fk,rfl⟩:∃ q,fk=q+1:=by
       cases fk with
       | zero=>have:=hr.out; rw [aFields] at this; cases this
       | succ q=>exact ⟨q,rfl⟩
      obtain ⟨ao,acap,rfl⟩:=hO.form
      have HP:=Lib.hid hr.out
      rw [aFields] at HP
      have hszk:=hK.size
      clear hr
      go_wp2_with fail
      refine (qIs_any F (hS.alloc _) hk [13] _ _ (by decide) (show Blk _ _ [Value.int .i64 13] from Blk.new wr _ _)).mono ?_
      rintro e w6 ⟨rfl,hb6⟩
      have hb7:=bNext ((Below.refl _ wr).alloc (Nat.le_refl _) _) hb6
      have hS6:=hS.below hb7
      have hO6:=hO.below hbl hb7
      have hK6:=hK.andBelow hb7
      have hE6:=hE.kept hK6
      have hsz6:=hK6.size
      clear hS hO hK hb6 hb7
      cases x0:aIs ts k [13] with
      | true =>
       rw [x0,if_pos rfl] at HP
       obtain ⟨e1,e2⟩:=askip_of F.good hk (by decide) x0
       rw [e1] at HP
       clear x0
       go_wp2_with fail
       refine (qNow_any F hS6 hk).mono ?_
       rintro e w7 ⟨tv,rfl,hv7,hb7⟩
       have hS7:=hS6.below hb7
       have hO7:=hO6.below hbl hb7
       have hK7:=hK6.andBelow hb7
       have hE7:=hE.kept hK7
       have hsz7:=hK7.size
       clear hS6 hO6 hK6 hE6 hb7
       cases hq:fieldA (fun x=>aSub fk base d x) base (akAt ts k) with
       | none=>rw [hq] at HP; exact absurd HP.out (by simp [PRes.go,POne.at])
       | some rc =>
        rw [hq] at HP
        have HD:=Lib.hid ((HFd.out fk (by omega)).use hd hk F hS7 hE7 hv7 (Lib.hid hq))
        obtain ⟨tq,rfl,-⟩:=hv7
        go_wp2_with fail
        refine HD.out.mono ?_
        rintro e w8 ⟨hb8,h8⟩
        have hK8:=hK7.andBelow hb8
        cases rc with
        | error q =>
         obtain ⟨c0,p0⟩:=q
         have HX0:=Lib.hid (PRes.at_err HP.out)
         have HX:=Lib.hid (show r = .error (c0,p0) from by
          have:=HR.out
          rw [HX0.out] at this
          exact some_err this)
         obtain ⟨v,u,rfl,⟨eb,rfl,hEb,hle⟩,va,vn,vc,rfl⟩:=h8
         clear HP HD hq HX0 HR
         go_wp2_with fail
         go_ret2
         exact QOut.bad HX.out rfl ⟨eb,rfl,hEb,by omega⟩ (hS7.below hb8) hK8 ⟨_,_,_,rfl⟩
        | ok l =>
         obtain ⟨v,rfl,hN⟩:=h8
         obtain ⟨y1,y2,y3⟩:=fieldV_facts F.good hk hq
         have HX:=Lib.hid (show aFields fk ts base d (k+1) (L++[l])=some rr from HP.out)
         have hS8:=hS7.below hb8
         obtain ⟨us,u1,u2,u3⟩:=hO7.below hbl hb8
         have hOA:∀ o,(w8.alloc o).ownsRow w.heap.size 23 1 _ L.length us:=fun o=>ownsRow_kept u2 (Kept.ofBelow (S:=Nowhere) ((Below.refl _ w8).alloc (Nat.le_refl _) o)) (fun _ _ _ e=>e)
         have HN:=Lib.hid hN
         have hsz8:=hK8.size
         have hL6:(L++[l]).length≤k+1:=by rw [List.length_append,List.length_cons,List.length_nil]; omega
         have hL7:(L++[l]).flatten.length+8 * remA ts (k+1)≤8 * remA ts (i2+1):=by rw [flat_snoc,List.length_append]; omega
         have hL8:=Lib.hid (snoc_all hL3.out y1)
         obtain ⟨gc,cc,rfl,-⟩:=hN
         clear hK7 hO7 hS7 HD HP hq hb8 hE7
         go_wp2_with (at_builtin; refine wpList_append_own _ rfl _ _ 38 rfl w.heap.size 23 k0 _ 1 24 Tryz.underlying38 hk0 hk1 hk2 hk3 rfl (by decide) _ _ _ rfl (hOA _) ⟨w8.heap.size,0,none⟩ 1 1 [.slice (some ⟨gc,0,none⟩) l.length cc] rfl rfl (cells_new (by simp)) (by intro u hu; simp at hu; subst hu; rfl) (by unfold maxLen; omega) (by omega) (by simp; omega) ?_; intro v9 w9 hown' hgrow _)
         obtain ⟨hO9,hb9⟩:=KOwn.grown hsz8 u1 u2 u3 HN.out hown' hgrow
         have hS9:=hS8.belowB hb9 hbl
         have hK9:=hK8.belowB hb9 (Nat.le_refl _)
         obtain ⟨L',hL'⟩:∃ L',L++[l]=L':=⟨_,rfl⟩
         rw [hL'] at hL6 hL7 hL8 HX hO9
         clear hS8 hK8 hb9 hown' hgrow hOA u1 u2 u3 HN
         obtain ⟨ao9,ac9,rfl⟩:=hO9.form
         go_wp2_with fail
         refine (qSkip_any F hS9 hk).mono ?_
         rintro e wa ⟨rfl,hSa,hKa⟩
         rw [e1] at hSa
         have hOa:=hO9.kept hbl hKa
         have hKb:=hK9.same hKa
         go_wp2_with fail
         go_roundg (ts.length - (k+1))
         case measure=>omega
         case rel=>exact ⟨k+1,fk,L',rfl,e2,by omega,hL6,hL7,hL8,hKb,hSa,hOa,HX⟩
      | false =>
       rw [x0,if_neg (by simp)] at HP
       have HRR:=Lib.hid (some_ok HP.out)
       obtain ⟨-,hLf,hLn,hLp⟩:=HFS.out L k HRR.out
       have hLp:=Lib.hid hLp
       rw [HRR.out] at HR
       have hj:=aPass_le (ts:=ts) [1,2] hk
       have HR:=Lib.hid (show (aBody f ts base d (aPass ts [1,2] k) [100,111] [100,111,110,101]).go (fun l e=>pOk (newP 29 0 s [catP L,l]) e)=some r from HR.out)
       obtain ⟨j,hjj⟩:∃ j,aPass ts [1,2] k=j:=⟨_,rfl⟩
       rw [hjj] at HR hj
       clear x0 HP HRR HFS
       go_wp2_with fail
       refine (qPass_any F (hS6.alloc _) hk [1,2] _ _ (by decide) (by decide) (show Blk _ _ [Value.int .i64 1,Value.int .i64 2] from Blk.new w6 _ _) (by omega)).mono ?_
       rintro e w7 ⟨rfl,hS7,hKa⟩
       rw [hjj] at hS7
       have hKb:=((Kept.refl (At b) w6).alloc (.cells #[Value.int .i64 1,Value.int .i64 2] 3)).same hKa
       have hO7:=hO6.kept hbl hKb
       have hKc:=hK6.same hKb
       have hE7:=hE.kept hKc
       have hszc:=hKc.size
       clear hS6 hO6 hK6 hE6 hKa hKb hjj
       cases hq:aBody f ts base d j [100,111] [100,111,110,101] with
       | none=>rw [hq] at HR; exact absurd HR.out (by simp [PRes.go])
       | some rb =>
        rw [hq] at HR
        have HD:=Lib.hid (HB.out w7 b g cap n base j d ts [100,111] [100,111,110,101] rb hd hj.2 F hS7 hE7 (Lib.hid hq))
        clear hS7 hE7
        go_wp2_with fail
        refine HD.out.mono ?_
        rintro e w8 ⟨hK8,h8⟩
        have hKd:=hKc.same hK8
        have hO8:=hO7.kept hbl hK8
        have hsz8:=hK8.size
        cases rb with
        | error q =>
         obtain ⟨c9,p9⟩:=q
         have HX:=Lib.hid (some_err HR.out)
         obtain ⟨v,u,j2,l0,rfl,h0,hl0,⟨eb,rfl,hEb,hle⟩,hS8⟩:=h8
         have HX:=Lib.hid (show r = .error (c9,p9)∧catP L=catP L from ⟨HX.out,rfl⟩)
         obtain ⟨va,vc,rfl⟩:=h0.form
         clear HR HD hq hO7 hKc
         have hszd:=hKd.size
         have hbw:=Nat.lt_of_lt_of_le hbl hszd
         have HCT:=Lib.hid (cNewS_any 3 0 [] L b _ w8 (by omega) (hO8.ksl hbl) (by omega) (by omega))
         by_cases x1:L.length=1
         ·obtain ⟨gw,cw,u1,hv1,hc1,hu1,hN1⟩:=(hO8.ksl hbl).first (by omega) hLp.out
          obtain ⟨lw,hlw⟩:∃ lw,L=[lw]:=List.length_eq_one_iff.1 x1
          have hcat:catP L=lw:=by rw [hlw]; rfl
          have hhd:L.headD []=lw:=by rw [hlw]; rfl
          have hlwl:lw.length≤200000:=by have:=hLf; rw [hlw] at this; simp at this; omega
          rw [hhd] at hN1
          rw [hcat] at HX
          rw [x1] at HCT hv1 ⊢
          cases hv1
          clear hO8 hlw hcat hhd x1
          go_wp2_with fail
          refine HCT.out.mono ?_
          rintro e wa ⟨va0,rfl,-,hba⟩
          have hN1':=hN1.below hba
          have hu1':=bSome hba hu1
          have h0':=h0.below hba
          have hsze:=hba.size
          obtain ⟨g8,c8,rfl,-⟩:=id hN1'
          have HN:=Lib.hid (cNewS_any 29 0 s [lw,l0] b _ _ (by simp; omega) (KSl.new2 (w:=wa) (by omega) (.inl hN1') h0') (by simp; omega) (by simp))
          go_wp2_with fail
          refine HN.out.mono ?_
          rintro e w9 ⟨v9,rfl,hN9,hb9⟩
          have hbb:=hba.trans ((bNextW hb9).mono hsze)
          go_wp2_with fail
          go_ret2
          exact QOut.bad HX.out.1 rfl ⟨eb,rfl,hEb.below hbb,by omega⟩ (hS8.below hbb) (hKd.andBelow hbb) (by obtain ⟨ga,gc,h9,-⟩:=hN9; exact ⟨_,_,_,h9⟩)
         ·have hcat:catP L=newP 3 0 [] L:=by
           unfold catP
           split
           ·exact absurd rfl x1
           ·rfl
          have x1':((L.length:Int) == 1)=false:=by rw [beq_eq_false_iff_ne]; omega
          have hcl:(newP 3 0 [] L).length≤1000000:=by rw [len_newP]; omega
          rw [hcat] at HX
          clear hO8 hcat
          generalize newP 3 0 [] L=lw at *
          generalize L.length=ln at *
          go_wp2_with fail
          refine HCT.out.mono ?_
          rintro e wa ⟨va0,rfl,hN1',hba⟩
          have h0':=h0.below hba
          have hsze:=hba.size
          obtain ⟨g8,c8,rfl,-⟩:=id hN1'
          have HN:=Lib.hid (cNewS_any 29 0 s [lw,l0] b _ _ (by simp; omega) (KSl.new2 (w:=wa) (by omega) (.inl hN1') h0') (by simp; omega) (by simp))
          go_wp2_with fail
          refine HN.out.mono ?_
          rintro e w9 ⟨v9,rfl,hN9,hb9⟩
          have hbb:=hba.trans ((bNextW hb9).mono hsze)
          go_wp2_with fail
          go_ret2
          exact QOut.bad HX.out.1 rfl ⟨eb,rfl,hEb.below hbb,by omega⟩ (hS8.below hbb) (hKd.andBelow hbb) (by obtain ⟨ga,gc,h9,-⟩:=hN9; exact ⟨_,_,_,h9⟩)
        | ok q =>
         obtain ⟨l0,j2⟩:=q
         have HX:=Lib.hid (some_ok HR.out)
         obtain ⟨v,rfl,hNl,hS8⟩:=h8
         have hl0:=(body_lenA F.good hj.2 hq).2
         have h0:NSl0 w8 b v l0:=.inl hNl
         obtain ⟨va,vc,rfl,-⟩:=id hNl
         clear HR HD hq hO7 hKc hNl
         have hszd:=hKd.size
         have hbw:=Nat.lt_of_lt_of_le hbl hszd
         have HCT:=Lib.hid (cNewS_any 3 0 [] L b _ w8 (by omega) (hO8.ksl hbl) (by omega) (by omega))
         by_cases x1:L.length=1
         ·obtain ⟨gw,cw,u1,hv1,hc1,hu1,hN1⟩:=(hO8.ksl hbl).first (by omega) hLp.out
          obtain ⟨lw,hlw⟩:∃ lw,L=[lw]:=List.length_eq_one_iff.1 x1
          have hcat:catP L=lw:=by rw [hlw]; rfl
          have hhd:L.headD []=lw:=by rw [hlw]; rfl
          have hlwl:lw.length≤200000:=by have:=hLf; rw [hlw] at this; simp at this; omega
          rw [hhd] at hN1
          rw [hcat] at HX
          rw [x1] at HCT hv1 ⊢
          cases hv1
          clear hO8 hlw hcat hhd x1
          go_wp2_with fail
          refine HCT.out.mono ?_
          rintro e wa ⟨va0,rfl,-,hba⟩
          have hN1':=hN1.below hba
          have hu1':=bSome hba hu1
          have h0':=h0.below hba
          have hsze:=hba.size
          obtain ⟨g8,c8,rfl,-⟩:=id hN1'
          have HN:=Lib.hid (cNewS_any 29 0 s [lw,l0] b _ _ (by simp; omega) (KSl.new2 (w:=wa) (by omega) (.inl hN1') h0') (by simp; omega) (by simp))
          go_wp2_with fail
          refine HN.out.mono ?_
          rintro e w9 ⟨v9,rfl,hN9,hb9⟩
          have hbb:=hba.trans ((bNextW hb9).mono hsze)
          go_wp2_with fail
          go_ret2
          exact QOut.ok HX.out rfl hN9 (hS8.below hbb) (hKd.andBelow hbb)
         ·have hcat:catP L=newP 3 0 [] L:=by
           unfold catP
           split
           ·exact absurd rfl x1
           ·rfl
          have x1':((L.length:Int) == 1)=false:=by rw [beq_eq_false_iff_ne]; omega
          have hcl:(newP 3 0 [] L).length≤1000000:=by rw [len_newP]; omega
          rw [hcat] at HX
          clear hO8 hcat
          generalize newP 3 0 [] L=lw at *
          generalize L.length=ln at *
          go_wp2_with fail
          refine HCT.out.mono ?_
          rintro e wa ⟨va0,rfl,hN1',hba⟩
          have h0':=h0.below hba
          have hsze:=hba.size
          obtain ⟨g8,c8,rfl,-⟩:=id hN1'
          have HN:=Lib.hid (cNewS_any 29 0 s [lw,l0] b _ _ (by simp; omega) (KSl.new2 (w:=wa) (by omega) (.inl hN1') h0') (by simp; omega) (by simp))
          go_wp2_with fail
          refine HN.out.mono ?_
          rintro e w9 ⟨v9,rfl,hN9,hb9⟩
          have hbb:=hba.trans ((bNextW hb9).mono hsze)
          go_wp2_with fail
          go_ret2
          exact QOut.ok HX.out rfl hN9 (hS8.below hbb) (hKd.andBelow hbb)
end Go.Proofs.YtbfeoinoepoiaaaGreatDoor
