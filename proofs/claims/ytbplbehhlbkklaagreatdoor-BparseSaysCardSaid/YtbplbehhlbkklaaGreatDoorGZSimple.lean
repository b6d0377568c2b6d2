/- The document's parser of dialect B: a simple command. -/
import Derived.Test.YtbplbehhlbkklaaGreatDoorGZSets
import Derived.Test.YtbplbehhlbkklaaGreatDoorGZKey
import Derived.Test.YtbplbehhlbkklaaGreatDoorGZD
import Derived.Deep.CutBlock
import Derived.Deep.RegionHeld3
import Derived.Deep.DeepCutAuto
import Derived.Deep.RegionLawGrows
namespace Go.Proofs.YtbplbehhlbkklaaGreatDoor
open Go Go.RowKit
theorem ZTOwn.other {w w':World}{B b:Nat}{v:Value}{L:List (Nat×Prog)}{e:TypeId}{row:Option Nat}(h:ZTOwn w B b v L)(hg:w.grownBy w' row)(h1:e≠164)(h2:e≠67)(hr:∀ k,row=some k→∃ cur fz t,w.heap[k]?=some (.cells cur t fz)∧t=e):ZTOwn w' B b v L:=by
 obtain⟨us,u1,u2,u3⟩:=h;refine ⟨us,u1,ownsRow_other u2 hg (fun k hk=>?_),fun i u l hu hl=>(u3 i u l hu hl).grown hg (fun k hk=>?_)⟩
 ·obtain⟨c,f,t,h3,rfl⟩:=hr k hk;exact⟨c,f,t,h3,h1⟩
 ·obtain⟨c,f,t,h3,rfl⟩:=hr k hk;exact⟨c,f,t,h3,h2⟩
theorem zstep_append_own {P:Program}{ops:Array Oper}{o:Oper}{a:Act}{w:World}{K:Act→World→Prop}{Q:Exit→Act→World→Prop}{E:Prop}
  (hg:o.guard=none) (s x:Operand) (t:TypeId) (hop:o.op=Op.call { callee:=Callee.builtin Builtin.append,args:=#[s,x],argTypes:=#[t,t] })
  (e:TypeId) (i:TypeInfo) (z:Value) (size bytes:Nat) (h1:P.underlying t=some (.slice e)) (h2:P.info? e=some i) (h3:i.zero=some z) (h4:i.size=size) (h5:i.bytes=bytes) (h6:z.cells.size=size) (h7:0<size)
  (B:Nat) (v:Value) (n:Nat) (olds:List Value) (hs:a.eval s=v) (hown:w.ownsRow B e size v n olds) (hB:B≤w.heap.size)
  (ad:Addr) (m c:Nat) (news:List Value) (hx:a.eval x = .slice (some ad) m c) (hn:news.length=m * size) (hc:∀ j u,news[j]?=some u→w.cell? (ad.add j)=some u) (h1c:∀ u∈news,u.oneCell'=true)
  (b1:n+m≤maxLen) (b2:(n+m) * bytes≤140737488355328)
  (hK:∀ v' w',w'.ownsRow B e size v' (n+m) (olds++news)→w.grownBy w' v.ownBlock→K (a.put o.dst v') w') :
  if Region.wanted o (yielded ops a.tmps)=true then Oper.wp P o a w K Q else E:=by
 have hw:Region.wanted o (yielded ops a.tmps)=true:=by simp [Region.wanted,hg]
 rw[if_pos hw];obtain⟨v',w',hrun,r1,r2,_⟩:=run_append_own (P:=P) w B t o.type e i z size bytes h1 h2 h3 h4 h5 h6 h7 v n olds hown ad m c news hn hc h1c b1 b2 hB;unfold Oper.wp;simp [execOp,hop,resolve,invoke,builtin,hs,hx,hrun,Result.andThen]
 exact hK v' w' r1 r2
section
variable {w:World} {b g cap:Nat} {ts:List BTok} {i:Nat} {f:Option (Nat×Nat)}
theorem zq_kind (F:ZFix cap ts)(h:ZIn w b g cap ts i f)(hi:i<ts.length)(r:Bool)(hr:(f.isNone&&isK ts i [18])=r)(d:Nat)(os:Array Obj) :
  Calls Tryz.prog 22 #[.pointer (some ⟨b,0,none⟩),.int .i64 18] (Go.Sort.grow (redrawn w d) os) fun e w'=>e = .returned (.bool r)∧Below (Go.Sort.grow (redrawn w d) os).heap.size (Go.Sort.grow (redrawn w d) os) w':=by
 have h2:=zkind_any F (h.below (below_regrown w d os)) hi 18 18 rfl;rwa [hr] at h2
theorem zq_now (F:ZFix cap ts)(h:ZIn w b g cap ts i f)(hi:i<ts.length)(tx:List UInt8)(htx:(tkAt ts i).text=tx)(d:Nat)(os:Array Obj) :
  Calls Tryz.prog 54 #[.pointer (some ⟨b,0,none⟩)] (Go.Sort.grow (redrawn w d) os) fun e w'=>e = .returned (.agg #[.int .i64 (tkAt ts i).kind,.int .i64 (tkAt ts i).place,.int .i64 (tkAt ts i).num,.string (bs tx),.bool (tkAt ts i).glue])∧Below (Go.Sort.grow (redrawn w d) os).heap.size (Go.Sort.grow (redrawn w d) os) w':=by
 have h2:=znow_any F (h.below (below_regrown w d os)) hi;unfold BTok.cells at h2;rwa [htx] at h2
theorem zq_name (tx:List UInt8)(htx:tx.length≤100000)(r:Bool)(hr:nameB tx=r)(W:World) :
  Calls Tryz.prog 128 #[.string (bs tx)] W fun e w'=>e = .returned (.bool r)∧Below W.heap.size W w':=by
 refine (rName_any (bs tx) W (by rw[bs_size];omega)).mono ?_
 rintro e w' ⟨rfl,rfl⟩;exact⟨by rw[bs_list,hr],Below.refl _ _⟩
theorem zq_key (tx:List UInt8)(r:Bool)(hr:keyB tx=r)(W:World) :
  Calls Tryz.prog 10 #[.string (bs tx)] W fun e w'=>e = .returned (.bool r)∧Below W.heap.size W w':=by
 refine (z12Key_any tx W).mono ?_;rintro e w' ⟨rfl,rfl⟩;exact⟨by rw[hr],Below.refl _ _⟩
end
section
variable {b g cap:Nat} {ts:List BTok}
set_option maxHeartbeats 16000000
set_option maxRecDepth 100000
theorem zsimple_bad (F:ZFix cap ts)(w:World)(i _d:Nat)(dz:Int)(x:Nat×Nat)(s:Nat)(X:PRes Prog)(hi:i<ts.length)(hS:ZIn w b g cap ts i (some x)):Calls Tryz.prog 114 #[.pointer (some ⟨b,0,none⟩),.int .i64 dz] w (ZOutW w b g cap ts i (some x) s X):=by
 have HK:=Lib.hid (zq_kind F hS hi false rfl)
 have c1:w.cell? ⟨b,1,none⟩=some (.int .i64 i):=by
  obtain⟨cd,fa,h1,h2⟩:=hS;exact h1.c1
 go_enter Tryz.func114,Tryz.ntmps114
 go_wp2_with fail
 go_loopg [5,6] 0 (fun m s5 s6 wr=>m=0∧s5 = .slice none 0 0∧s6 = .slice none 0 0∧wr=w)
 case atStart=>exact⟨rfl,rfl,rfl,rfl⟩
 case round =>
  obtain⟨rfl,rfl,rfl,rfl⟩:=hrel;rename World=>w
  go_upto_region 5 with fail
  refine wp_region_quiet_below (by kernel_rfl) (by kernel_rfl) ?_
  repeat (go_big_quiet_step ((go_at_call 22;exact Calls.regrown_of (HK.out _ _))))
  refine wpQuiet_nil ?_;intro w5 hw';have hb:Below w.heap.size w w5:=below_of_regrown hw';clear hw';have h5:=hS.below hb;go_wp2_with fail
  go_loopg [7,8] 0 (fun m s5 s6 wr=>m=0∧s5 = .slice none 0 0∧s6 = .slice none 0 0∧wr=w5)
  case atStart=>exact⟨rfl,rfl,rfl,rfl⟩
  case round =>
   obtain⟨rfl,rfl,rfl,rfl⟩:=hrel;rename World=>w5
   go_wp2_with fail
   refine (zbad_any h5).mono ?_;rintro e w6 ⟨rfl,rfl⟩;rw[show ((some x).isSome:Bool)=true from rfl]
   go_wp2_with fail
   refine (zbad_any h5).mono ?_;rintro e w6 ⟨rfl,rfl⟩;rw[show ((some x).isSome:Bool)=true from rfl]
   go_wp2_with fail
   refine (zbad_any h5).mono ?_;rintro e w6 ⟨rfl,rfl⟩;rw[show ((some x).isSome:Bool)=true from rfl]
   go_wp2_with fail
   refine (z12nop_any h5.blt).mono ?_;rintro e w7 ⟨v7,rfl,hN7,hb7⟩;obtain⟨g7,c7,rfl,-⟩:=id hN7;go_wp2_with fail
   go_ret;exact ZOutW.mk rfl hN7 (Tree.leaf _ _ _) (h5.below hb7) (Nat.le_refl _) hi (Kept.ofBelow (bNext hb hb7)) ⟨rfl,by simp [newP]⟩
theorem zsimple_walk (F:ZFix cap ts)(f0:Nat)(hW:∀ f',f'<f0→ZDoesW b g cap ts f'):ZDoes b g cap ts 114 0 zS (pSimple ts (f0+1)):=by
 intro w0 i d dz f hdz hi hS hX
 cases f with
 | some x=>exact zsimple_bad F w0 i d dz x _ _ hi hS
 | none =>
  obtain⟨rfl,hd⟩:dz=(d:Int)∧d≤30:=by have:=hdz rfl;omega
  obtain⟨k0,hk0,hk1,hk2,hk3⟩:=info_parts infoNodes;obtain⟨q0,hq0,hq1,hq2,hq3⟩:=info_parts infoZTurn;obtain⟨s0,hs0,hs1,hs2,hs3⟩:=info_parts infoString;have hbl:=hS.blt;have hgl:=hS.glt;have hf3:=ztok_f3;have hnum:=F.few;have HW:=Lib.hid hW;obtain⟨X,hXE⟩:∃ X,pSimple ts (f0+1) d i=X:=⟨_,rfl⟩;have HXN:=Lib.hid (show X≠none from by rw[← hXE];exact hX.out rfl)
  obtain⟨C,hC⟩:∃ C:List (List UInt8×Prog)→List Prog×List (Nat×Prog)→Nat→PRes Prog,C=fun S wt e=>if S.length+wt.1.length+wt.2.length=0 then formP ts e else pOk (aroundP wt.2 (madeP S wt.1)) e:=⟨_,rfl⟩
  have HC:=Lib.hid hC;obtain⟨K,hK⟩:∃ K:List (List UInt8×Prog)→Nat→PRes Prog,K=fun S j=>(pItems ts f0 d j [] []).go (C S):=⟨_,rfl⟩
  have HKK:=Lib.hid hK
  have HA0:=Lib.hid (show SetsAt ts f0 d i K X i none [] from by
   have h:=SetsAt.start (ts:=ts) (f0:=f0) (d:=d) (K:=K) hi;rwa [show (pSets ts f0 d i []).go K=X from by rw[← hXE,pSimple,hK,hC]] at h)
  rw[hXE]
  have c1:w0.cell? ⟨b,1,none⟩=some (.int .i64 i):=by
   obtain⟨cd,fa,h1,h2⟩:=hS;exact h1.c1
  have hcap1:=F.T.fix.cap1;have hcap2:=F.T.fix.cap2;clear hW hX hdz hXE hC hK;go_enter Tryz.func114,Tryz.ntmps114
  go_upto_block 0 with fail
  go_cut [5,6] (fun s5 s6 w2=>∃ (k:Nat) (f1:Option (Nat×Nat)) (S:List (List UInt8×Prog)),SOwn w2 w0.heap.size s5 (S.map (·.1))∧KOwn w2 w0.heap.size b s6 (S.map (·.2))∧ZIn w2 b g cap ts k f1∧Kept (At b) w0 w2∧Hid (SetsAt ts f0 d i K X k f1 S)∧Hid (SetsEnd K X k f1 S))
  case first =>
   go_wp2_with fail
   go_loopg [5,6] (ts.length - i+1) (fun m s5 s6 wr=>∃ (k:Nat) (f1:Option (Nat×Nat)) (S:List (List UInt8×Prog)),m=(if f1=none then ts.length - k+1 else 0)∧SOwn wr w0.heap.size s5 (S.map (·.1))∧KOwn wr w0.heap.size b s6 (S.map (·.2))∧ZIn wr b g cap ts k f1∧Kept (At b) w0 wr∧Hid (SetsAt ts f0 d i K X k f1 S))
   case atStart=>exact⟨i,none,[],rfl,SOwn.nil _ _,KOwn.nil _ _ _,hS,Kept.refl _ _,HA0⟩
   case round =>
    clear hS HA0 c1;obtain⟨k,f1,S,rfl,hN,hV,h4,hK4,HA⟩:=hrel;have hlt4:=HA.out.lt;have hle4:=HA.out.le;have hnum4:S.length≤1001:=by have h1:=HA.out.num;omega
    obtain⟨A,hA⟩:∃ A,S.map (·.1)=A:=⟨_,rfl⟩;obtain⟨L,hL⟩:∃ L,S.map (·.2)=L:=⟨_,rfl⟩;have hAl:A.length=S.length:=by rw[← hA,List.length_map]
    have hLl:L.length=S.length:=by rw[← hL,List.length_map]
    have HAE:=Lib.hid hA;have HLE:=Lib.hid hL;have hAn:A.length≤1001:=by omega
    have hLn:L.length≤1001:=by omega
    have HLL:=Lib.hid hLl;clear hAl hLl;rw[hA] at hN;rw[hL] at hV;clear hA hL;have HEX:=Lib.hid (fun (s5 s6:Value) (wx:World) (f9:Option (Nat×Nat)) (h1:SOwn wx w0.heap.size s5 A) (h2:KOwn wx w0.heap.size b s6 L)=>show SOwn wx w0.heap.size s5 (S.map (·.1))∧KOwn wx w0.heap.size b s6 (S.map (·.2)) from by rw[HAE.out,HLE.out];exact⟨h1,h2⟩)
    obtain⟨rs,rsc,rfl⟩:=hN.form;obtain⟨ra,rc,rfl⟩:=hV.form
    cases f1 with
    | some x =>
     have HK:=Lib.hid (zq_kind F h4 hlt4 false rfl);go_upto_region 5 with fail
     refine wp_region_quiet_below (by kernel_rfl) (by kernel_rfl) ?_
     repeat (go_big_quiet_step ((first | (go_at_call 22;exact Calls.regrown_of (HK.out _ _)) | (go_at_call 54;exact Calls.regrown_of (HNW.out _ _)) | (go_at_call 128;exact Calls.regrown_of (HNA.out _)) | (go_at_call 10;exact Calls.regrown_of (HKY.out _)))))
     refine wpQuiet_nil ?_;intro w5 hw';have hb:Below wr.heap.size wr w5:=below_of_regrown hw';clear hw';have h5:=h4.below hb;have hV5:=hV.below hbl hb;have hN5:=hN.below hbl hb;have hK5:=hK4.andBelow hb;have hsz5:=hK5.size;go_wp2_with fail
     go_meet
     case rel=>exact⟨k,_,S,(HEX.out _ _ _ none hN5 hV5).1,(HEX.out _ _ _ none hN5 hV5).2,h5,hK5,HA,Lib.hid (HA.out.done HXN.out rfl)⟩
    | none =>
     cases x1:isK ts k [18] with
     | false =>
      have HK:=Lib.hid (zq_kind F h4 hlt4 false x1);go_upto_region 5 with fail
      refine wp_region_quiet_below (by kernel_rfl) (by kernel_rfl) ?_
      repeat (go_big_quiet_step ((first | (go_at_call 22;exact Calls.regrown_of (HK.out _ _)) | (go_at_call 54;exact Calls.regrown_of (HNW.out _ _)) | (go_at_call 128;exact Calls.regrown_of (HNA.out _)) | (go_at_call 10;exact Calls.regrown_of (HKY.out _)))))
      refine wpQuiet_nil ?_;intro w5 hw';have hb:Below wr.heap.size wr w5:=below_of_regrown hw';clear hw';have h5:=h4.below hb;have hV5:=hV.below hbl hb;have hN5:=hN.below hbl hb;have hK5:=hK4.andBelow hb;have hsz5:=hK5.size;go_wp2_with fail
      go_meet
      case rel=>exact⟨k,_,S,(HEX.out _ _ _ none hN5 hV5).1,(HEX.out _ _ _ none hN5 hV5).2,h5,hK5,HA,Lib.hid (HA.out.done HXN.out (by unfold setAt;rw[x1];rfl))⟩
     | true =>
      have HK:=Lib.hid (zq_kind F h4 hlt4 true x1);obtain⟨tx,htx⟩:∃ tx,(tkAt ts k).text=tx:=⟨_,rfl⟩;have htxl:tx.length≤100000:=by have:=F.T.fix.good.text k;rw[htx] at this;omega
      have HNW:=Lib.hid (zq_now F h4 hlt4 tx htx);have HTX:=Lib.hid htx
      cases x3:nameB tx with
      | false =>
       have HNA:=Lib.hid (zq_name tx htxl false x3);clear htx htxl;go_upto_region 5 with fail
       refine wp_region_quiet_below (by kernel_rfl) (by kernel_rfl) ?_
       repeat (go_big_quiet_step ((first | (go_at_call 22;exact Calls.regrown_of (HK.out _ _)) | (go_at_call 54;exact Calls.regrown_of (HNW.out _ _)) | (go_at_call 128;exact Calls.regrown_of (HNA.out _)) | (go_at_call 10;exact Calls.regrown_of (HKY.out _)))))
       refine wpQuiet_nil ?_;intro w5 hw';have hb:Below wr.heap.size wr w5:=below_of_regrown hw';clear hw';have h5:=h4.below hb;have hV5:=hV.below hbl hb;have hN5:=hN.below hbl hb;have hK5:=hK4.andBelow hb;have hsz5:=hK5.size;go_wp2_with fail
       go_meet
       case rel=>exact⟨k,_,S,(HEX.out _ _ _ none hN5 hV5).1,(HEX.out _ _ _ none hN5 hV5).2,h5,hK5,HA,Lib.hid (HA.out.done HXN.out (by unfold setAt;rw[HTX.out,x3];simp))⟩
      | true =>
       have HNA:=Lib.hid (zq_name tx htxl true x3)
       cases x4:keyB tx with
       | true =>
        have HKY:=Lib.hid (zq_key tx true x4);clear htx htxl;go_upto_region 5 with fail
        refine wp_region_quiet_below (by kernel_rfl) (by kernel_rfl) ?_
        repeat (go_big_quiet_step ((first | (go_at_call 22;exact Calls.regrown_of (HK.out _ _)) | (go_at_call 54;exact Calls.regrown_of (HNW.out _ _)) | (go_at_call 128;exact Calls.regrown_of (HNA.out _)) | (go_at_call 10;exact Calls.regrown_of (HKY.out _)))))
        refine wpQuiet_nil ?_;intro w5 hw';have hb:Below wr.heap.size wr w5:=below_of_regrown hw';clear hw';have h5:=h4.below hb;have hV5:=hV.below hbl hb;have hN5:=hN.below hbl hb;have hK5:=hK4.andBelow hb;have hsz5:=hK5.size;go_wp2_with fail
        go_meet
        case rel=>exact⟨k,_,S,(HEX.out _ _ _ none hN5 hV5).1,(HEX.out _ _ _ none hN5 hV5).2,h5,hK5,HA,Lib.hid (HA.out.done HXN.out (by unfold setAt;rw[HTX.out,x4];simp))⟩
       | false =>
        have HKY:=Lib.hid (zq_key tx false x4);have hk18:(tkAt ts k).kind≠0:=by rw[isK_one,decide_eq_true_eq] at x1;omega
        obtain⟨hsk,hk1⟩:=skP_eq F.T.fix.good hlt4 hk18;obtain⟨k1,hkk1⟩:∃ k1,k+1=k1:=⟨_,rfl⟩;obtain⟨kd,hkd⟩:∃ kd,(tkAt ts k1).kind=kd:=⟨_,rfl⟩;have HKD:=Lib.hid hkd;obtain⟨n,hn⟩:∃ n,ts.length=n:=⟨_,rfl⟩;have HNN:=Lib.hid hn
        obtain⟨c0,c1,y0⟩:wr.cell? ⟨b,0,none⟩=some (.slice (some ⟨g,0,none⟩) n cap)∧wr.cell? ⟨b,1,none⟩=some (.int .i64 k)∧wr.cell? ⟨g,k1 * 5,none⟩=some (.int .i64 kd):=by
         obtain⟨cd,fa,h1,h2⟩:=h4;exact⟨hn ▸ h1.c0,h1.c1,hkd ▸ (h1.facts (by omega)).1⟩
        have c0r:=cell_regrown c0;have c1r:=cell_regrown c1;have y0r:=cell_regrown y0;have hw1:IntKind.i64.wrap ((k:Int)+1)=(k1:Int):=by rw[IntKind.wrap_i64];omega
        have hw2:IntKind.i64.wrap ((n:Int) - 1)=(n:Int) - 1:=by rw[IntKind.wrap_i64];omega
        have hm:min (k1:Int) ((n:Int) - 1)=(k1:Int):=by omega
        have hb1:(0:Int)≤(k1:Int):=by omega
        have hb2:(k1:Int)<(n:Int):=by omega
        have hncap:n≤cap:=by omega
        have HSK:=Lib.hid hsk;have HK1:=Lib.hid hkk1;rw[hn] at hlt4;clear hn hkd htx htxl hsk hkk1 hk1 hk18 hcap1
        by_cases x2:kd=16
        ·have k2:((kd:Int)==16)=true:=by rw[beq_iff_eq];omega
         have HST:=Lib.hid (show setAt ts k=true from setAt_iff.2 ⟨x1,by rw[HSK.out,HK1.out,HKD.out,x2],by rw[HTX.out,x3],by rw[HTX.out,x4]⟩)
         clear x1 x2 x3 x4;go_upto_region 5 with fail
         refine wp_region_quiet_below (by kernel_rfl) (by kernel_rfl) ?_
         repeat (go_big_quiet_step ((first | (go_at_call 22;exact Calls.regrown_of (HK.out _ _)) | (go_at_call 54;exact Calls.regrown_of (HNW.out _ _)) | (go_at_call 128;exact Calls.regrown_of (HNA.out _)) | (go_at_call 10;exact Calls.regrown_of (HKY.out _)))))
         refine wpQuiet_nil ?_;intro w5 hw';have hb:Below wr.heap.size wr w5:=below_of_regrown hw';clear hw';have h5:=h4.below hb;have hV5:=hV.below hbl hb;have hN5:=hN.below hbl hb;have hK5:=hK4.andBelow hb;have hsz5:=hK5.size;obtain⟨-,e1,l1,e2,l2,fk,hfk,hne,hstep⟩:=SetsAt.more (sl:=zS d - 11) F HA.out HXN.out (show ((none:Option (Nat×Nat)).isNone&&setAt ts k)=true from HST.out)
         have HE1:=Lib.hid e1;have HE2:=Lib.hid e2;have HSTEP:=Lib.hid hstep;have HNE:=Lib.hid hne;clear hV hN h4 hK4 HK HNA HKY c0 c1 y0 c0r c1r y0r k2 hm hb1 hb2 hw1 hw2 e1 e2 hstep hb hne;go_wp2_with fail
         refine (znow_any F h5 (by have:=HNN.out;omega)).mono ?_
         rintro e w7 ⟨rfl,hb7⟩;unfold BTok.cells;rw[HTX.out];have h7:=h5.below hb7;have hV7:=hV5.below hbl hb7;have HOS:=Lib.hid (hN5.below hbl hb7);have HV7:=Lib.hid hV7;have hK7:=hK5.andBelow hb7;have hsz7:=hK7.size;clear h5 hV5 hN5 hK5 hsz5 hb7 hV7;obtain⟨al,hal⟩:∃ al,A.length=al:=⟨_,rfl⟩;have HAL:=Lib.hid hal;rw[hal] at hAn HOS ⊢;clear hal;have hOA:∀ o,(w7.alloc o).ownsRow w0.heap.size 9 1 (.slice rs al rsc) al (A.map fun s=>Value.string (bs s)):=fun o=>ownsRow_kept (by have h:=HOS.out;unfold SOwn at h;rw[HAL.out] at h;exact h) (Kept.ofBelow (S:=Nowhere) ((Below.refl _ w7).alloc (Nat.le_refl _) o)) (fun _ _ _ e=>e)
         go_wp2_with (at_builtin;refine wpList_append_own _ rfl _ _ 92 rfl w0.heap.size 9 s0 _ 1 16 Tryz.underlying92 hs0 hs1 hs2 hs3 rfl (by decide) _ al _ rfl (hOA _) ⟨w7.heap.size,0,none⟩ 1 1 [.string (bs tx)] rfl rfl ?c1 ?c2 ?c3 ?c4 ?c5 ?_)
         case c1=>exact cells_new (by simp)
         case c2=>intro u9 hu9;simp at hu9;subst hu9;rfl
         case c3=>unfold maxLen;omega
         case c4=>omega
         case c5=>simp;omega
         intro v8 w8 hown' hgrow _;have hOS:=HOS.out;have hrw:w7.ownsRow w0.heap.size 9 1 (.slice rs al rsc) al (A.map fun s=>Value.string (bs s)):=by have h:=HOS.out;unfold SOwn at h;rw[HAL.out] at h;exact h
         have h8:=h7.grown hgrow (row_tag hrw (by decide)) hbl hgl
         obtain⟨hM8,hb8⟩:=SOwn.grown (s:=tx) hsz7 hOS (by rw[HAL.out];exact hown') hgrow
         have hV8:=(HV7.out.below hbl ((Below.refl _ w7).alloc (Nat.le_refl _) _)).other hgrow (by decide) (by decide) (row_kind hrw _)
         have hK8:=hK7.belowB hb8 (Nat.le_refl _);obtain⟨M,hM⟩:∃ M,A++[tx]=M:=⟨_,rfl⟩;have HME:=Lib.hid hM;rw[hM] at hM8;clear hOA hOS hrw hown' hgrow HOS HV7 h7 hK7 hsz7 hb8 hM;have hk8:k<ts.length:=by have:=HNN.out;omega
         obtain⟨rs2,rsc2,rfl⟩:=hM8.form;go_wp2_with fail
         refine (znext_any F h8 hk8).mono ?_;rintro e w9 ⟨rfl,h9,hK9⟩;rw[HE1.out] at h9;go_wp2_with fail
         refine (znext_any F h9 l1).mono ?_;rintro e w10 ⟨rfl,h10,hK10⟩;rw[HE2.out] at h10;have hM10:=(hM8.kept hbl hK9).kept hbl hK10;have hV10:=(hV8.kept hbl hK9).kept hbl hK10;have hK11:=(hK8.same hK9).same hK10;clear h8 h9 hM8 hV8 hK8 hK9 hK10;go_wp2_with fail
         refine (HW.out fk hfk w10 (k+2) d _ none 0 (by omega) (fun _=>⟨rfl,hd⟩) l2 h10 (Lib.hid fun _=>HNE.out)).mono ?_
         rintro e w12 ⟨v12,l,k',f',rfl,hN12,hT12,h12,hle12,hlt12,hK12,hR12⟩;have HA12:=Lib.hid (HSTEP.out k' f' l hT12 hle12 hlt12 hR12);have HN:=Lib.hid hN12;obtain⟨g12,cp12,rfl,-⟩:=hN12;have hM12:=hM10.kept hbl hK12;have HO:=Lib.hid (hV10.kept hbl hK12);have hK13:=hK11.same hK12;have hsz1:=hK13.size;clear h10 hM10 hV10 hK11 hK12 hR12;obtain⟨ml,hml⟩:∃ ml,M.length=ml:=⟨_,rfl⟩;have HML:=Lib.hid hml;rw[hml];clear hml;obtain⟨us,u1,u2,u3⟩:=HO.out;have U1:=Lib.hid u1;have U2:=Lib.hid u2;have U3:=Lib.hid u3;have hOA:∀ o,(w12.alloc o).ownsRow w0.heap.size 23 1 (.slice ra (L).length rc) (L).length us:=fun o=>ownsRow_kept U2.out (Kept.ofBelow (S:=Nowhere) ((Below.refl _ w12).alloc (Nat.le_refl _) o)) (fun _ _ _ e=>e)
         clear u1 u2 u3;go_wp2_with (at_builtin;refine wpList_append_own _ rfl _ _ 99 rfl w0.heap.size 23 k0 _ 1 24 Tryz.underlying99 hk0 hk1 hk2 hk3 rfl (by decide) _ (L).length _ rfl (hOA _) ⟨w12.heap.size,0,none⟩ 1 1 [.slice (some ⟨g12,0,none⟩) (l).length cp12] rfl rfl ?c1 ?c2 ?c3 ?c4 ?c5 ?_)
         case c1=>exact cells_new (by simp)
         case c2=>intro u9 hu9;simp at hu9;subst hu9;rfl
         case c3=>unfold maxLen;omega
         case c4=>omega
         case c5=>simp;omega
         intro v6 w6 hown' hgrow _;have hS6:=(h12).grown hgrow (row_tag U2.out (by decide)) hbl hgl
         obtain⟨hO6,hb6⟩:=KOwn.grown hsz1 U1.out U2.out U3.out HN.out hown' hgrow;have hM13:=(hM12.below hbl ((Below.refl _ w12).alloc (Nat.le_refl _) _)).other hgrow (by decide) (row_kind U2.out _)
         have hK14:=hK13.belowB hb6 (Nat.le_refl _);clear hOA hown' hgrow U1 U2 U3;rw[← HML.out];go_wp2_with fail
         go_roundg (if f'=none then ts.length - k'+1 else 0)
         case measure =>
          have:=HNN.out
          by_cases hf':f'=none
          ·rw[if_pos hf'];omega
          ·rw[if_neg hf'];omega
         case rel=>exact⟨k',f',S++[((tkAt ts k).text,l)],rfl,by rw[List.map_append,HAE.out,HTX.out,List.map_cons,List.map_nil,HME.out];exact hM13,by rw[List.map_append,HLE.out,List.map_cons,List.map_nil];exact hO6,hS6,hK14,HA12⟩
        ·have k2:((kd:Int)==16)=false:=by rw[beq_eq_false_iff_ne];omega
         have HX2:=Lib.hid x2;clear x2;go_upto_region 5 with fail
         refine wp_region_quiet_below (by kernel_rfl) (by kernel_rfl) ?_
         repeat (go_big_quiet_step ((first | (go_at_call 22;exact Calls.regrown_of (HK.out _ _)) | (go_at_call 54;exact Calls.regrown_of (HNW.out _ _)) | (go_at_call 128;exact Calls.regrown_of (HNA.out _)) | (go_at_call 10;exact Calls.regrown_of (HKY.out _)))))
         refine wpQuiet_nil ?_;intro w5 hw';have hb:Below wr.heap.size wr w5:=below_of_regrown hw';clear hw';have h5:=h4.below hb;have hV5:=hV.below hbl hb;have hN5:=hN.below hbl hb;have hK5:=hK4.andBelow hb;have hsz5:=hK5.size;go_wp2_with fail
         go_meet
         case rel=>exact⟨k,_,S,(HEX.out _ _ _ none hN5 hV5).1,(HEX.out _ _ _ none hN5 hV5).2,h5,hK5,HA,Lib.hid (HA.out.done HXN.out (by rw[Bool.and_eq_false_iff];exact .inr (by rw[Bool.eq_false_iff];exact fun h=>HX2.out (by have h2:=(setAt_iff.1 h).2.1;rwa [HSK.out,HK1.out,HKD.out] at h2))))⟩
  case rest =>
   clear hS HA0 c1;rename World=>w
   obtain⟨k1,f1,S,hN,hV,h4,hK04,HA,HE⟩:=hcut;have hlt1:=HA.out.lt;have hle1:=HA.out.le;have hnum1:S.length≤1001:=by have h1:=HA.out.num;omega
   have hsz0:=hK04.size;have hbw:b<w.heap.size:=by omega
   have hgw:=h4.glt;obtain⟨n1,hn1⟩:∃ n1,S.length=n1:=⟨_,rfl⟩;have HN1:=Lib.hid hn1;have HSS0:=hN.ssl;have HVS0:=hV.ksl hbl;have hrl:=World.ownsRow.lt hN;obtain⟨ao5,ac5,rfl⟩:=hN.form;obtain⟨ao6,ac6,rfl⟩:=hV.form;rw[List.length_map,hn1] at HSS0 HVS0 hrl ⊢;rw[List.length_map,hn1];rw[hn1] at hnum1;have HSS:=Lib.hid HSS0;have HVS:=Lib.hid HVS0;have HSB:=Lib.hid (show ∀ q,(Value.slice ao5 n1 ac5).ownBlock=some q→q≠b from fun q hq=>by have:=hrl q hq;omega)
   have HI0:=Lib.hid (show ItemsAt ts f0 d k1 (C S) X k1 f1 [] [] from ItemsAt.start hlt1 (by
    have h:=HE.out
    cases f1 with
    | some x=>exact h
    | none =>
     unfold SetsEnd at h;rw[HKK.out] at h;exact h))
   clear hN hV HSS0 HVS0 hrl hn1 HKK;go_upto_block 2 with fail
   go_cut [7,8] (fun s7 s8 w3=>∃ (k:Nat) (f2:Option (Nat×Nat)) (Ws:List Prog) (L:List (Nat×Prog)),KOwn w3 w.heap.size b s7 Ws∧ZTOwn w3 w.heap.size b s8 L∧ZIn w3 b g cap ts k f2∧Kept (At b) w w3∧Hid (ItemsAt ts f0 d k1 (C S) X k f2 Ws L)∧Hid (ItemsEnd (C S) X k f2 Ws L))
   case first =>
    go_wp2_with fail
    go_loopg [7,8] (if f1=none then ts.length - k1+1 else 0) (fun m s7 s8 wr=>∃ (k:Nat) (f2:Option (Nat×Nat)) (Ws:List Prog) (L:List (Nat×Prog)),m=(if f2=none then ts.length - k+1 else 0)∧KOwn wr w.heap.size b s7 Ws∧ZTOwn wr w.heap.size b s8 L∧ZIn wr b g cap ts k f2∧Kept (At b) w wr∧Hid (ItemsAt ts f0 d k1 (C S) X k f2 Ws L))
    case atStart=>exact⟨k1,f1,[],[],rfl,KOwn.nil _ _ _,ZTOwn.nil _ _ _,h4,Kept.refl _ _,HI0⟩
    case round =>
     clear h4 HI0 HA;obtain⟨k,f2,Ws,L,rfl,hO,hT,h4,hK4,HA⟩:=hrel;have hlt4:=HA.out.lt;have hle4:=HA.out.le;have hnum4:Ws.length+L.length≤1001:=by have h1:=HA.out.num;split at h1 <;> omega
     obtain⟨ra,rc,rfl⟩:=hO.form;obtain⟨ta,tc,rfl⟩:=hT.form;go_wp2_with fail
     refine (zbad_any h4).mono ?_;rintro e w5 ⟨rfl,rfl⟩;rename World=>wr
     cases f2 with
     | some x =>
      rw[show ((some x).isSome:Bool)=true from rfl]
      go_wp2_with fail
      go_meet
      case rel=>exact⟨k,some x,Ws,L,hO,hT,h4,hK4,HA,Lib.hid (HA.out.done HXN.out rfl rfl)⟩
     | none =>
      rw[show ((none:Option (Nat×Nat)).isSome:Bool)=false from rfl]
      go_wp2_with fail
      refine (zitem_any F h4 hlt4).mono ?_;rintro e w5 ⟨rfl,hb5⟩;have h5:=h4.below hb5;have hO5:=hO.below hbw hb5;have hT5:=hT.below hbw hb5;have hK5:=hK4.andBelow hb5;clear h4 hO hT hK4 hb5
      cases x1:itemP ts k with
      | true =>
       rw[show ((none:Option (Nat×Nat)).isNone&&true)=true from rfl]
       go_wp2_with fail
       refine (zkey_any F h5 hlt4 [101,108,115,101]).mono ?_;rintro e w7 ⟨rfl,hb7⟩;have h7:=h5.below hb7;have hO7:=hO5.below hbw hb7;have hT7:=hT5.below hbw hb7;have hK7:=hK5.andBelow hb7;clear h5 hO5 hT5 hK5 hb7
       cases x2:keyAt ts k [101,108,115,101] with
       | true =>
        rw[show ((none:Option (Nat×Nat)).isNone&&true)=true from rfl]
        have x3:=item_turning x1;go_wp2_with fail
        refine (zturning_any F h7 hlt4).mono ?_;rintro e w8 ⟨rfl,hb8⟩;rw[show ((none:Option (Nat×Nat)).isNone&&turningP ts k)=false from by rw[x3];rfl]
        go_wp2_with fail
        go_meet
        case rel=>exact⟨k,none,Ws,L,hO7.below hbw hb8,hT7.below hbw hb8,h7.below hb8,hK7.andBelow hb8,HA,Lib.hid (HA.out.done HXN.out (by unfold wordAt;rw[x1,x2];rfl) (by rw[x3];rfl))⟩
       | false =>
        rw[show ((none:Option (Nat×Nat)).isNone&&false)=false from rfl]
        obtain⟨-,fk,hfk,hne,hstep⟩:=ItemsAt.word (sl:=zS d - 11) F HA.out HXN.out (show ((none:Option (Nat×Nat)).isNone&&wordAt ts k)=true from by unfold wordAt;rw[x1,x2];rfl)
        have HST:=Lib.hid hstep;clear HA hstep x1 x2;go_wp2_with fail
        refine (HW.out fk hfk w7 k d _ none 0 (by omega) (fun _=>⟨rfl,hd⟩) hlt4 h7 (Lib.hid fun _=>hne)).mono ?_
        rintro e w9 ⟨v9,l,k',f',rfl,hN9,hT9,h9,hle9,hlt9,hK9,hR9⟩;obtain⟨HA9,hmove⟩:=HST.out k' f' l hT9 hle9 hlt9 hR9;have HA9:=Lib.hid HA9;have HN:=Lib.hid hN9;obtain⟨g9,cp9,rfl,-⟩:=hN9;have hK79:=hK7.same hK9;have HO:=Lib.hid (hO7.kept hbw hK9);have HTT:=Lib.hid (hT7.kept hbw hK9);have hsz1:=hK79.size;have hblx:=hbl;have hglx:=hgl;clear h7 hO7 hT7 hK7 hK9 HST hR9 hne hbl hgl;have hbl:=hbw;have hgl:=hgw;obtain⟨us,u1,u2,u3⟩:=HO.out;have U1:=Lib.hid u1;have U2:=Lib.hid u2;have U3:=Lib.hid u3;have hOA:∀ o,(w9.alloc o).ownsRow w.heap.size 23 1 (.slice ra (Ws).length rc) (Ws).length us:=fun o=>ownsRow_kept U2.out (Kept.ofBelow (S:=Nowhere) ((Below.refl _ w9).alloc (Nat.le_refl _) o)) (fun _ _ _ e=>e)
        clear u1 u2 u3;go_wp2_with (at_builtin;refine wpList_append_own _ rfl _ _ 99 rfl w.heap.size 23 k0 _ 1 24 Tryz.underlying99 hk0 hk1 hk2 hk3 rfl (by decide) _ (Ws).length _ rfl (hOA _) ⟨w9.heap.size,0,none⟩ 1 1 [.slice (some ⟨g9,0,none⟩) (l).length cp9] rfl rfl ?c1 ?c2 ?c3 ?c4 ?c5 ?_)
        case c1=>exact cells_new (by simp)
        case c2=>intro u9 hu9;simp at hu9;subst hu9;rfl
        case c3=>unfold maxLen;omega
        case c4=>omega
        case c5=>simp;omega
        intro v6 w6 hown' hgrow _;have hS6:=(h9).grown hgrow (row_tag U2.out (by decide)) hbl hgl
        obtain⟨hO6,hb6⟩:=KOwn.grown hsz1 U1.out U2.out U3.out HN.out hown' hgrow;have hT6:=(HTT.out.below hbw ((Below.refl _ w9).alloc (Nat.le_refl _) _)).other hgrow (by decide) (by decide) (row_kind U2.out _)
        have hK6:=hK79.belowB hb6 (Nat.le_refl _);clear hOA hown' hgrow U1 U2 U3;go_wp2_with fail
        go_roundg (if f'=none then ts.length - k'+1 else 0)
        case measure =>
         by_cases hf':f'=none
         ·rw[if_pos hf'];have:=hmove hf'
          omega
         ·rw[if_neg hf'];omega
        case rel=>exact⟨k',f',Ws++[l],L,rfl,hO6,hT6,hS6,hK6,HA9⟩
      | false =>
       rw[show ((none:Option (Nat×Nat)).isNone&&false)=false from rfl]
       go_wp2_with fail
       refine (zturning_any F h5 hlt4).mono ?_;rintro e w8 ⟨rfl,hb8⟩;have h8:=h5.below hb8;have hO8:=hO5.below hbw hb8;have hT8:=hT5.below hbw hb8;have hK8:=hK5.andBelow hb8;clear h5 hO5 hT5 hK5 hb8
       cases x3:turningP ts k with
       | false =>
        rw[show ((none:Option (Nat×Nat)).isNone&&false)=false from rfl]
        go_wp2_with fail
        go_meet
        case rel=>exact⟨k,none,Ws,L,hO8,hT8,h8,hK8,HA,Lib.hid (HA.out.done HXN.out (by unfold wordAt;rw[x1];rfl) (by rw[x3];rfl))⟩
       | true =>
        rw[show ((none:Option (Nat×Nat)).isNone&&true)=true from rfl]
        obtain⟨-,htk,hsk,fk,hfk,hne,hstep⟩:=ItemsAt.turn (sl:=zS d - 11) F HA.out HXN.out (show ((none:Option (Nat×Nat)).isNone&&turningP ts k)=true from by rw[x3];rfl)
        have HST:=Lib.hid hstep;have HTN:=Lib.hid (zturn_walk F fk (HW.out fk hfk) w8 k d hd hlt4 htk h8 (Lib.hid hne));clear HA hstep htk h8 x1 x3;go_wp2_with fail
        refine HTN.out.mono ?_;rintro e w9 ⟨v9,l,k',f',rfl,hN9,hT9,h9,hle9,hlt9,hK9,hR9⟩;have HA9:=Lib.hid (HST.out k' f' l hT9 hle9 hlt9 hR9);have HN:=Lib.hid hN9;obtain⟨g9,cp9,rfl,-⟩:=hN9;have hK89:=hK8.same hK9;have HO:=Lib.hid (hT8.kept hbw hK9);have HWW:=Lib.hid (hO8.kept hbw hK9);have hsz1:=hK89.size;have hkk:k+1≤k':=by omega
        clear hO8 hT8 hK8 hK9 HST hR9 hne HTN hle9 hsk;obtain⟨kd,hkd⟩:∃ kd,(tkAt ts k).kind=kd:=⟨_,rfl⟩;rw[hkd] at HA9 ⊢;obtain⟨wl,hwl⟩:∃ wl,Ws.length=wl:=⟨_,rfl⟩;have HWL:=Lib.hid hwl;rw[hwl] at hnum4 ⊢;clear hkd hwl hbl hgl;have hbl:=hbw;have hgl:=hgw;obtain⟨xa,hxa⟩:∃ xa,ra=xa:=⟨_,rfl⟩;obtain⟨xc,hxc⟩:∃ xc,rc=xc:=⟨_,rfl⟩;rw[hxa,hxc] at HWW ⊢;clear hxa hxc;obtain⟨ra,hra⟩:∃ ra,ta=ra:=⟨_,rfl⟩;obtain⟨rc,hrc⟩:∃ rc,tc=rc:=⟨_,rfl⟩;rw[hra,hrc] at HO ⊢;clear hra hrc;obtain⟨us,u1,u2,u3⟩:=HO.out;have U1:=Lib.hid u1;have U2:=Lib.hid u2;have U3:=Lib.hid u3;have hOA:∀ o,(w9.alloc o).ownsRow w.heap.size 164 2 (.slice ra (L).length rc) (L).length (turnCells ((L).map zm) us):=fun o=>ownsRow_kept U2.out (Kept.ofBelow (S:=Nowhere) ((Below.refl _ w9).alloc (Nat.le_refl _) o)) (fun _ _ _ e=>e)
        clear u1 u2 u3;go_wp2_with (at_builtin;refine wpList_append_own _ rfl _ _ 162 rfl w.heap.size 164 q0 _ 2 32 Tryz.underlying162 hq0 hq1 hq2 hq3 rfl (by decide) _ (L).length _ rfl (hOA _) ⟨w9.heap.size,0,none⟩ 1 1 [.int .i64 (zmode kd:Nat),.slice (some ⟨g9,0,none⟩) (l).length cp9] rfl rfl ?c1 ?c2 ?c3 ?c4 ?c5 ?_)
        case c1=>exact cells_new (by simp)
        case c2=>intro u9 hu9;simp at hu9;rcases hu9 with rfl | rfl <;> rfl
        case c3=>unfold maxLen;omega
        case c4=>omega
        case c5=>simp;omega
        intro v6 w6 hown' hgrow _;have hS6:=(h9).grown hgrow (row_tag U2.out (by decide)) hbl hgl
        obtain⟨hO6,hb6⟩:=ZTOwn.grown (t:=(kd,l)) hsz1 U1.out U2.out U3.out HN.out hown' hgrow;have hW6:=(HWW.out.below hbw ((Below.refl _ w9).alloc (Nat.le_refl _) _)).other hgrow (by decide) (by decide) (row_kind U2.out _)
        have hK6:=hK89.belowB hb6 (Nat.le_refl _);clear hOA hown' hgrow U1 U2 U3;rw[← HWL.out];go_wp2_with fail
        go_roundg (if f'=none then ts.length - k'+1 else 0)
        case measure =>
         by_cases hf':f'=none
         ·rw[if_pos hf'];omega
         ·rw[if_neg hf'];omega
        case rel=>exact⟨k',f',Ws,L++[(kd,l)],rfl,hW6,hO6,hS6,hK6,HA9⟩
   case rest =>
    clear h4 HI0;rename World=>w3
    obtain⟨k,f2,Ws,L,hO,hT,h4,hK3,HB,HF⟩:=hcut;have hlt4:=HB.out.lt;have hle4:=HB.out.le;have hK03:=hK04.same hK3;have hsz3:=hK3.size;have hbw3:b<w3.heap.size:=by omega
    obtain⟨ra,rc,rfl⟩:=hO.form;obtain⟨ta,tc,rfl⟩:=hT.form;have hzs:0<zS d:=by unfold zS;omega
    go_wp2_with fail
    refine (zbad_any h4).mono ?_;rintro e w5 ⟨rfl,rfl⟩;rename World=>w3
    cases f2 with
    | some x =>
     have HX:=Lib.hid (show X=some (.error x) from HF.out)
     rw[show ((some x).isSome:Bool)=true from rfl]
     go_wp2_with fail
     refine (zbad_any h4).mono ?_;rintro e w6 ⟨rfl,rfl⟩;rw[show ((some x).isSome:Bool)=true from rfl]
     go_wp2_with fail
     refine (z12nop_any h4.blt).mono ?_;rintro e w7 ⟨v7,rfl,hN7,hb7⟩;obtain⟨g7,c7,rfl,-⟩:=id hN7;go_wp2_with fail
     go_ret;exact ZOutW.mk rfl hN7 (Tree.leaf _ _ _) (h4.below hb7) (by omega) hlt4 (hK03.andBelow hb7) (by rw[HX.out];exact⟨rfl,by simp [newP];omega⟩)
    | none =>
     rw[show ((none:Option (Nat×Nat)).isSome:Bool)=false from rfl]
     have HXE:=Lib.hid (show (if S.length+Ws.length+L.length=0 then formP ts k else pOk (aroundP L (madeP S Ws)) k)=X from by
      have h:=HF.out;unfold ItemsEnd at h;rw[HC.out] at h;exact h)
     have c1:w3.cell? ⟨b,1,none⟩=some (.int .i64 k):=by
      obtain⟨cd,fa,h1,h2⟩:=h4;exact h1.c1
     by_cases hki:k=i
     ·have HX:=Lib.hid (show X=some (.error (formF ts k)) from by
       have h1:=HA.out.num;have h2:=HB.out.num;rw[if_pos rfl] at h2;rw[← HXE.out,if_pos (by omega)]
       rfl)
      have e1:((k:Int)==i)=true:=by rw[beq_iff_eq];omega
      clear HXE hki HA HB HF HE;go_wp2_with fail
      refine (zwrong_any F h4 hlt4).mono ?_;rintro e w6 ⟨rfl,h6,hK6⟩;have h6:ZIn w6 b g cap ts k (some (formF ts k)):=h6;go_wp2_with fail
      refine (zbad_any h6).mono ?_;rintro e w7 ⟨rfl,rfl⟩;rw[show ((some (formF ts k)).isSome:Bool)=true from rfl]
      go_wp2_with fail
      refine (z12nop_any h6.blt).mono ?_;rintro e w8 ⟨v8,rfl,hN8,hb8⟩;obtain⟨g8,c8,rfl,-⟩:=id hN8;go_wp2_with fail
      go_ret;exact ZOutW.mk rfl hN8 (Tree.leaf _ _ _) (h6.below hb8) (by omega) hlt4 ((hK03.same hK6).andBelow hb8) (by rw[HX.out];exact⟨rfl,by simp [newP];omega⟩)
     ·have e1:((k:Int)==i)=false:=by rw[beq_eq_false_iff_ne];omega
      have HX:=Lib.hid (show X=pOk (aroundP L (madeP S Ws)) k from by
       rw[← HXE.out,if_neg];intro h0;have h1:=HA.out.zero (by omega)
       have h2:=HB.out.zero rfl (by omega)
       omega)
      have hf1:f1=none:=by
       cases f1 with
       | none=>rfl
       | some x =>
        have h:=HE.out;unfold SetsEnd at h;rw[HX.out] at h
        cases h
      have hS1:setsLen S≤6000:=by have:=HA.out.size hf1;omega
      have hS2:Ws.flatten.length+turnsLen L≤6000:=by have:=HB.out.size rfl;omega
      have hWn:Ws.length+L.length≤1001:=by have:=HB.out.num;rw[if_pos rfl] at this;omega
      have HTR:=Lib.hid HA.out.trees;have HTW:=Lib.hid HB.out.trees;have HTL:=Lib.hid HB.out.treesT;have HKT:=Lib.hid HB.out.kinds;clear HXE hki HA HB HF HE hf1;go_wp2_with fail
      refine (zbad_any h4).mono ?_;rintro e w5 ⟨rfl,rfl⟩;rename World=>w3
      rw[show ((none:Option (Nat×Nat)).isSome:Bool)=false from rfl]
      obtain⟨wl,hwl⟩:∃ wl,Ws.length=wl:=⟨_,rfl⟩;have HWL:=Lib.hid hwl;rw[hwl] at hWn hO ⊢;clear hwl;go_upto_if 113 with fail
      go_cut [10] (fun s10 w5=>NSl w5 b s10 (madeP S Ws)∧Below w3.heap.size w3 w5)
      case first =>
       obtain⟨e1n,h1c,-,h1f⟩:=(HSS.out.kept hK3 HSB.out).facts
       obtain⟨e2n,h2c,h2f⟩:=(HVS.out.kept hK3).facts (fun l hl=>by
        obtain⟨x,hx,rfl⟩:=List.mem_map.1 hl;exact (HTR.out x hx).pos)
       have H1F:=Lib.hid h1f;have H2F:=Lib.hid h2f;have HSD:=Lib.hid (setsLen_drop S);clear e1n e2n h1f h2f
       by_cases hW:0<wl
       ·obtain⟨c,hc⟩:∃ c,newP 21 0 [] Ws=c:=⟨_,rfl⟩;have hcl:c.length≤6001:=by rw[← hc,len_newP];omega
        have HMD:=Lib.hid (show madeP S Ws=localsP S c from by rw[← hc];unfold madeP localsP;rw[if_neg (by have:=HWL.out;omega)])
        have HN21:=Lib.hid (z12node_any 21 0 [] Ws _ h4.blt (hO.ksl hbw) (by omega) (by have:=HWL.out;omega))
        rw[hc] at HN21;have kw:decide ((0:Int)<(wl:Int))=true:=by rw[decide_eq_true_eq];omega
        have hdr:S.drop n1=[]:=List.drop_of_length_le (by have:=HN1.out;omega)
        have hw1:IntKind.i64.wrap ((n1:Int) - 1)=(n1:Int) - 1:=by rw[IntKind.wrap_i64];omega
        have HLC:=Lib.hid (fun k=>show (localsP (S.drop k) c).length≤20000 from by rw[locals_size];have:=HSD.out k;omega)
        clear hc hO hT;go_wp2_with fail
        refine HN21.out.mono ?_;rintro e w5 ⟨v5,rfl,hN5,hb5⟩;obtain⟨g5,c5,rfl,-⟩:=id hN5;generalize hcz:c.length=cz at *;go_wp2_with fail
        go_loopg [10,11] n1 (fun m s10 s11 wr=>∃ (q:Nat) (v9:Value),q=m∧q≤n1∧s10=v9∧NSl wr b v9 (localsP (S.drop q) c)∧s11 = .int .i64 ((q:Int) - 1)∧Below w3.heap.size w3 wr)
        case atStart=>exact⟨n1,_,rfl,Nat.le_refl _,rfl,by rw[hdr];rw[← hcz] at hN5;rw[← hcz];exact hN5,rfl,hb5⟩
        case round =>
         clear hN5 hb5;obtain⟨q,v9,rfl,hq,rfl,hv,rfl,hbr⟩:=hrel;have HV:=Lib.hid hv;obtain⟨gv,cv,rfl,-⟩:=id hv;clear hv
         by_cases h0:0<q
         ·obtain⟨p,rfl⟩:∃ p,q=p+1:=⟨q - 1,by omega⟩
          have hkk:((p+1:Nat):Int) - 1=(p:Int):=by omega
          rw[hkk];obtain⟨x,hx⟩:∃ x,S[p]?=some x:=⟨_,List.getElem?_eq_getElem (by have:=HN1.out;omega)⟩
          have HST:=Lib.hid (locals_step (c:=c) hx);obtain⟨g1,rfl,x1⟩:=H1F.out p (by omega)
          obtain⟨g2,u,rfl,x2,x3⟩:=H2F.out p (by omega)
          have ex:(S.map (·.1)).getD p []=x.1∧(S.map (·.2)).getD p []=x.2:=by
           constructor <;> rw[List.getD_eq_getElem?_getD,List.getElem?_map,hx] <;> rfl
          rw[ex.1] at x1;rw[ex.2] at x3;have hsx:x.2.length≤6000:=by have:=setsLen_mem S x (List.mem_of_getElem? hx);omega
          obtain⟨nm,px⟩:=x;dsimp only at x1 x3 HST hsx;replace x1:=bSome hbr x1;replace x2:=bSome hbr x2;have HU:=Lib.hid (x3.below hbr);obtain⟨gu,cu,rfl,-⟩:=x3;have hbr9:b<wr.heap.size:=Nat.lt_of_lt_of_le hbw3 hbr.size;have hla:=HLC.out (p+1);have hwq:IntKind.i64.wrap ((p:Int) - 1)=(p:Int) - 1:=by rw[IntKind.wrap_i64];omega
          have HNB:=Lib.hid (show ∀ o:Obj,o=(.cells #[.slice (some ⟨gu,0,none⟩) px.length cu,.slice (some ⟨gv,0,none⟩) (localsP (S.drop (p+1)) c).length cv] 23)→Calls Tryz.prog 52 #[.int .i64 35,.int .i64 0,.string (bs nm),.slice (some ⟨wr.heap.size,0,none⟩) 2 2] ((wr.alloc o).drew) fun e w'=>∃ v',e = .returned v'∧NSl w' b v' (newP 35 0 nm [px,localsP (S.drop (p+1)) c])∧Below wr.heap.size wr w' from fun o ho=>by
           subst ho;refine (z12node_any 35 0 nm [px,localsP (S.drop (p+1)) c] _ (by simp;omega) ((KSl.new2 (w:=wr) hbr9 (.inl HU.out) (.inl HV.out)).below (Below.refl _ _).drew) (by simp;omega) (by simp)).mono ?_
           rintro e w' ⟨v',rfl,q1,q2⟩;exact⟨v',rfl,q1,bNext (((Below.refl wr.heap.size wr).alloc (Nat.le_refl _) _).drew) q2⟩)
          have hq0:(0:Int)≤(p:Int):=by omega
          have hq1:(p:Int)<(n1:Int):=by omega
          clear hx ex hkk;generalize (localsP (S.drop (p+1)) c).length=al at *;generalize px.length=tl at *;go_upto_region 25 with fail
          go_region_held3 (fun w'=>w'.cell? ⟨g1,p,none⟩=some (.string (bs nm))∧w'.cell? ⟨g2,p,none⟩=some (.slice (some ⟨gu,0,none⟩) tl cu)) (first | exact⟨bSome hb9 x1,bSome hb9 x2⟩ | go_keep) (first | (go_at_call 52;(refine (HNB.out _ rfl).mono ?_);rintro e w9 ⟨v9,rfl,hN9,hb9⟩;obtain⟨g9,c9,rfl,-⟩:=id hN9))
          all_goals (go_wp2_with fail)
          all_goals go_roundg p
          all_goals first
           | omega
           | exact⟨p,_,rfl,by omega,rfl,by rw[HST.out];exact hN9,by go_num,bNext hbr hb9⟩
         ·obtain rfl:q=0:=by omega
          go_wp2_with fail
          go_meet
          case rel=>exact⟨by rw[HMD.out];exact HV.out,hbr⟩
       ·obtain rfl:wl=0:=by omega
        have HMD:=Lib.hid (show madeP S Ws=seqP (S.map setP) from by
         unfold madeP;rw[if_pos HWL.out];rfl)
        have hdr:S.take n1=S:=List.take_of_length_le (by have:=HN1.out;omega)
        have HSP:=Lib.hid (setP_len S);clear hW hO hT;go_wp2_with fail
        go_loopg [12,13] n1 (fun m s12 s13 wr=>∃ q:Nat,m=n1 - q∧q≤n1∧KOwn wr w3.heap.size b s12 ((S.take q).map setP)∧s13 = .int .i64 q∧Below w3.heap.size w3 wr)
        case atStart=>exact⟨0,rfl,Nat.zero_le _,KOwn.nil _ _ _,rfl,Below.refl _ _⟩
        case round =>
         obtain⟨q,rfl,hq,hOq,rfl,hbr⟩:=hrel;have hlk:((S.take q).map setP).length=q:=by rw[List.length_map,List.length_take];have:=HN1.out;omega
         have hf:=hOq.form;rw[hlk] at hf;obtain⟨xa,xc,rfl⟩:=hf;have hbr9:b<wr.heap.size:=Nat.lt_of_lt_of_le hbw3 hbr.size
         by_cases hql:q<n1
         ·obtain⟨x,hx⟩:∃ x,S[q]?=some x:=⟨_,List.getElem?_eq_getElem (by have:=HN1.out;omega)⟩
          have HSN:=Lib.hid (setP_take S q (by have:=HN1.out;omega))
          obtain⟨g1,rfl,x1⟩:=H1F.out q hql;obtain⟨g2,u,rfl,x2,x3⟩:=H2F.out q hql
          have ex:(S.map (·.1)).getD q []=x.1∧(S.map (·.2)).getD q []=x.2:=by
           constructor <;> rw[List.getD_eq_getElem?_getD,List.getElem?_map,hx] <;> rfl
          rw[ex.1] at x1;rw[ex.2] at x3;rw[ex.1,ex.2] at HSN;have hsx:x.2.length≤6000:=by have:=setsLen_mem S x (List.mem_of_getElem? hx);omega
          obtain⟨nm,px⟩:=x;dsimp only at x1 x3 HSN hsx;replace x1:=bSome hbr x1;replace x2:=bSome hbr x2;have HU:=Lib.hid (x3.below hbr);obtain⟨gu,cu,rfl,-⟩:=x3;have hwq:IntKind.i64.wrap ((q:Int)+1)=(q:Int)+1:=by rw[IntKind.wrap_i64];omega
          have HNW:=Lib.hid (fun (W:World) (v:Value) (h1:b<W.heap.size) (h2:KSl W b v [px])=>z12node_any (w:=W) (b:=b) 22 0 nm [px] v h1 h2 (by simp;omega) (by simp))
          have HLK:=Lib.hid hlk;obtain⟨us,u1,u2,u3⟩:=hOq;rw[hlk] at u2;have U1:=Lib.hid u1;have U2:=Lib.hid u2;have U3:=Lib.hid u3;have hszr:=hbr.size;have hq0:(0:Int)≤(q:Int):=by omega
          have hq1:(q:Int)<(n1:Int):=by omega
          clear u1 u2 u3 hlk hx ex;generalize hpl:px.length=pl at *;have HPL:=Lib.hid hpl;clear hpl;have x1a:=bSome ((Below.refl wr.heap.size wr).alloc (Nat.le_refl _) (.cells #[.slice (some ⟨gu,0,none⟩) pl cu] 23)) x1;go_upto_region 30 with fail
          go_region_law (first
           | (refine zstep_append_own rfl _ _ 99 rfl 23 k0 _ 1 24 Tryz.underlying99 hk0 hk1 hk2 hk3 rfl (by decide) w3.heap.size _ q us rfl (hOA _) ?_ ⟨w7.heap.size,0,none⟩ 1 1 [.slice (some ⟨g7,0,none⟩) (newP 22 0 nm [px]).length c7] rfl rfl ?_ ?_ ?_ ?_ ?_;(focus (first | (simp;done) | (simp;omega)));(focus (exact cells_new (by simp)));(focus (intro u hu;simp at hu;subst hu;rfl));(focus (unfold maxLen;omega));(focus (first | omega | (simp;done) | (simp;omega)));(intro v6 w6 hown' hgrow;obtain⟨hO6,hb6⟩:=KOwn.grown (L:=(S.take q).map setP) (Nat.le_trans hszr hB7.size) U1.out (by rw[HLK.out];exact hOB) (fun i u l h1 h2=>(U3.out i u l h1 h2).below hB7) hN7 (by rw[HLK.out];exact hown') hgrow))
           | (go_simp;go_wp2_with (go_at_call 52;(refine (HNW.out _ _ (by simp;omega) (by first | exact KSl.new1 (w:=wr) hbr9 (.inl HU.out) | exact (KSl.new1 (w:=wr) hbr9 (.inl HU.out)).below (Below.refl _ _).drew | exact KSl.new1 (w:=wr.drew) hbr9 (.inl (HU.out.below (Below.refl _ _).drew)))).mono ?_);rintro e w7 ⟨v7,rfl,hN7,hb7⟩;obtain⟨g7,c7,rfl,-⟩:=id hN7;have hB7:Below wr.heap.size wr w7:=(by first | exact bNext (((Below.refl wr.heap.size wr).alloc (Nat.le_refl _) _).drew) hb7 | exact bNext (((Below.refl wr.heap.size wr).drew).alloc (Nat.le_refl _) _) hb7 | exact bNext ((Below.refl wr.heap.size wr).alloc (Nat.le_refl _) _) hb7);have hs7:=hB7.size;have hOB:w7.ownsRow w3.heap.size 23 1 (.slice xa q xc) q us:=ownsRow_kept U2.out (Kept.ofBelow (S:=Nowhere) hB7) (fun _ _ _ e=>e);have hOA:∀ o,(w7.alloc o).ownsRow w3.heap.size 23 1 (.slice xa q xc) q us:=fun o=>ownsRow_kept hOB (Kept.ofBelow (S:=Nowhere) ((Below.refl _ w7).alloc (Nat.le_refl _) o)) (fun _ _ _ e=>e))))
          all_goals (go_wp2_with fail)
          all_goals go_roundg (n1 - (q+1))
          all_goals first
           | omega
           | exact⟨q+1,rfl,by omega,by rw[HSN.out];exact hO6,by go_num,(bNext hbr hB7).trans (hb6.mono (by omega))⟩
         ·obtain rfl:q=n1:=by omega
          rw[hdr] at hOq hlk;have HQ:=Lib.hid (r5Seq_any (S.map setP) _ hbr9 HSP.out.2 (by rw[HSP.out.1];omega) (by omega) (hOq.ksl hbw3))
          go_wp2_with fail
          refine HQ.out.mono ?_;rintro e w6 ⟨v6,rfl,hN6,hb6⟩;obtain⟨g6,c6,rfl,-⟩:=id hN6;go_wp2_with fail
          go_meet
          case rel=>exact⟨by rw[HMD.out];exact hN6,bNext hbr hb6⟩
      case rest =>
       rename World=>w5
       obtain⟨hM,hb5⟩:=hcut;have h5:=h4.below hb5;have HAR:=Lib.hid (z12around_any L (madeP S Ws) b _ _ w5 h5.blt (hT.below hbw hb5).tsl hM (by have:=(made_len S Ws).1;omega) (by omega) HKT.out fun t ht=>(HTL.out t ht).pos)
       obtain⟨gm,cm,rfl,-⟩:=id hM;have HTA:=Lib.hid (tree_around (tree_made HTR.out HTW.out) L HTL.out);clear hM hT;generalize L.length=ll at *;generalize (madeP S Ws).length=ml at *;go_wp2_with fail
       refine HAR.out.mono ?_;rintro e w8 ⟨v8,rfl,hN8,hb8⟩;obtain⟨g8,c8,rfl,-⟩:=id hN8;go_wp2_with fail
       go_ret;exact ZOutW.mk rfl hN8 HTA.out (h5.below hb8) (by omega) hlt4 ((hK03.andBelow hb5).andBelow hb8) (by rw[HX.out];exact⟨rfl,rfl,rfl⟩)
end
end Go.Proofs.YtbplbehhlbkklaaGreatDoor
