/- Dialect A's parser in memory: what its blocks hold. -/
import Derived.Test.YtbpjobmpacjgcaaGreatDoorGAlexI
import Derived.Test.YtbpjobmpacjgcaaGreatDoorGZJ
import Derived.Test.YtbpjobmpacjgcaaGreatDoorGParseAS
import Derived.Test.YtbpjobmpacjgcaaGreatDoorGZC
import Derived.Deep.DrawnRows
import Derived.Test.YtbpjobmpacjgcaaGreatDoorGParseG
import Derived.Lib.IndexMore
import Derived.Lib.IndexAny
namespace Go.Proofs.YtbpjobmpacjgcaaGreatDoor
set_option maxHeartbeats 8000000
set_option maxRecDepth 100000
open Go Go.RowKit
theorem y8 {ts:List aG}{i:Nat}(hi:i<ts.length):ts[i]?=some (aM ts i):=by
 rw[rF hi,List.getElem?_eq_getElem hi]
structure QSt (w:World) (b g cap:Nat) (ts:List aG) (base i d:Nat):Prop where
 here:Blk w b [.slice (some ⟨g,0,none⟩) ts.length cap,.int .i64 i,.int .i64 base,.int .i64 d]
 old:∃ w0,rN w0 g ts∧g<w0.heap.size∧w0.heap.size≤b∧Below w0.heap.size w0 w
def jO (ts:List aG):Prop:=∀ t∈ts,t.kind≠7∧(∀ x∈t.parts,x.kind≤3)∧∀ s,dC t=some s→s=[123]∨s=[125]∨s=[33]
structure eO (n base cap:Nat) (ts:List aG):Prop where
 good:aW n ts
 num:base+n≤8192
 cap1:ts.length≤cap
 cap2:cap≤maxLen
 tx:∀ i,txS (aM ts i).parts≤8192
 cls:jO ts
theorem C7:∀ (ts:List aG),ts.length≤nK ts
 | []=>Nat.le_refl _
 | t :: ts=>by
  have:=C7 ts
  rw[Cz,List.length_cons];unfold wtT;omega
theorem aW.len {n:Nat}{ts:List aG}(g:aW n ts):ts.length≤24577:=by
 have h1:=C7 ts;have h2:=g.wt;have h3:=g.small;omega
section
variable {w w':World} {b g cap:Nat} {ts:List aG} {base i d:Nat}
theorem QSt.c0 (h:QSt w b g cap ts base i d):w.cell? ⟨b,0,none⟩=some (.slice (some ⟨g,0,none⟩) ts.length cap):=h.here.cell 0 rfl
theorem QSt.c1 (h:QSt w b g cap ts base i d):w.cell? ⟨b,1,none⟩=some (.int .i64 i):=h.here.cell 1 rfl
theorem QSt.c2 (h:QSt w b g cap ts base i d):w.cell? ⟨b,2,none⟩=some (.int .i64 base):=h.here.cell 2 rfl
theorem QSt.c3 (h:QSt w b g cap ts base i d):w.cell? ⟨b,3,none⟩=some (.int .i64 d):=h.here.cell 3 rfl
theorem QSt.fr (h:QSt w b g cap ts base i d)(n:Nat):w.frozen? ⟨b,n,none⟩=false:=h.here.free n
theorem QSt.blt (h:QSt w b g cap ts base i d):b<w.heap.size:=h.here.lt
theorem QSt.row (h:QSt w b g cap ts base i d):rN w g ts:=by
 obtain⟨w0,h1,h2,h3,h4⟩:=h.old;exact h1.below h4
theorem QSt.glt (h:QSt w b g cap ts base i d):g<b:=by
 obtain⟨w0,h1,h2,h3,h4⟩:=h.old;omega
theorem QSt.belowB {B:Nat}(h:QSt w b g cap ts base i d)(hb:Below B w w')(h1:b<B):QSt w' b g cap ts base i d:=by
 obtain⟨w0,q1,q2,q3,q4⟩:=h.old;exact⟨h.here.of_heap (hb.block b h1),w0,q1,q2,q3,q4.trans (hb.mono (by omega))⟩
theorem QSt.below (h:QSt w b g cap ts base i d)(hb:Below w.heap.size w w'):QSt w' b g cap ts base i d:=h.belowB hb h.blt
theorem QSt.alloc (h:QSt w b g cap ts base i d)(o:Obj):QSt (w.alloc o) b g cap ts base i d:=h.below ((Below.refl _ _).alloc (Nat.le_refl _) o)
theorem QSt.drew (h:QSt w b g cap ts base i d):QSt w.drew b g cap ts base i d:=by
 obtain⟨w0,q1,q2,q3,q4⟩:=h.old;exact⟨h.here,w0,q1,q2,q3,⟨q4.os,q4.tape,q4.output,q4.size,q4.block⟩⟩
theorem QSt.other (h:QSt w b g cap ts base i d){p:Addr}(h1:b<p.block)(u:Value):QSt (w.setCell p u) b g cap ts base i d:=by
 obtain⟨w0,q1,q2,q3,q4⟩:=h.old;exact⟨h.here.other (by omega) u,w0,q1,q2,q3,q4.setCell (by omega) u⟩
theorem QSt.move (h:QSt w b g cap ts base i d)(k:Nat):QSt (w.setCell ⟨b,1,none⟩ (.int .i64 k)) b g cap ts base k d:=by
 obtain⟨w0,q1,q2,q3,q4⟩:=h.old;exact⟨by have:=h.here.set 1 (.int .i64 k);exact this,w0,q1,q2,q3,q4.setCell (by exact q3) _⟩
theorem QSt.deep (h:QSt w b g cap ts base i d)(k:Nat):QSt (w.setCell ⟨b,3,none⟩ (.int .i64 k)) b g cap ts base i k:=by
 obtain⟨w0,q1,q2,q3,q4⟩:=h.old;exact⟨by have:=h.here.set 3 (.int .i64 k);exact this,w0,q1,q2,q3,q4.setCell (by exact q3) _⟩
end
def iW (w:World) (v:Value) (t:aG):Prop:=∃ v2,v = .agg #[.int .i64 t.kind,.int .i64 t.place,v2]∧PSl w v2 t.parts
theorem iW.below {w w':World}{v:Value}{t:aG}(h:iW w v t)(hb:Below w.heap.size w w'):iW w' v t:=by
 obtain⟨v2,h1,h2⟩:=h;exact⟨v2,h1,h2.below hb⟩
theorem PSl.form {w:World}{v:Value}{P:List aD}(h:PSl w v P):∃ ao cap,v = .slice ao P.length cap:=by
 obtain⟨ao,cap,h1,_⟩:=h;exact⟨ao,cap,h1⟩
attribute [local go_sem ↓] Go.wp_at_zero Go.wp_at_succ
theorem pP {w:World}{b g n base cap:Nat}{ts:List aG}{i d:Nat}(F:eO n base cap ts)(h:QSt w b g cap ts base i d)(hi:i<ts.length) :
  Calls Tryz.prog 93 #[.pointer (some ⟨b,0,none⟩)] w fun e w'=>∃ v,e = .returned v∧iW w' v (aM ts i)∧Below w.heap.size w w':=by
 have hn:=F.good.len;have hc1:=F.cap1;have hc2:=F.cap2;obtain⟨x0,x1,v2,x2,hP⟩:=h.row i _ (y8 hi);have HP:=Ng (hP.below (show Below w.heap.size w (w.alloc (.cells #[.int .i64 (aM ts i).kind,.int .i64 (aM ts i).place,v2] 113)).drew from lH ((Below.refl _ _).alloc (Nat.le_refl _) _)))
 have c0:=h.c0;have c1:=h.c1;have lb:=h.blt;have lg:=h.glt;obtain⟨N,hN⟩:∃ n,ts.length=n:=⟨_,rfl⟩;rw[hN] at hi hn hc1 c0;have hi0:(0:Int)≤(i:Int):=by omega
 have hi1:(i:Int)<(N:Int):=by omega
 unfold iW;generalize (aM ts i).kind=tk at *;generalize (aM ts i).place=tp at *;generalize (aM ts i).parts=tq at *;obtain⟨ao,pc,rfl⟩:=hP.form;clear h F hN hP;generalize tq.length=ln at *;go_enter Tryz.func93,Tryz.ntmps93
 go_upto_region 1 with fail
 go_region_held3 (fun w'=>w'.cell? ⟨b,0,none⟩=some (.slice (some ⟨g,0,none⟩) N cap)∧w'.cell? ⟨b,1,none⟩=some (.int .i64 i)∧w'.cell? ⟨g,i * 3,none⟩=some (.int .i64 tk)∧w'.cell? ⟨g,i * 3+1,none⟩=some (.int .i64 tp)∧w'.cell? ⟨g,i * 3+2,none⟩=some (.slice ao ln pc)) (go_keep) (fail)
 go_wp2_with fail
 (try simp only[Exit.inBlock,Exit.then])
 refine bodyPost_ret (qJ (p:=2) (g:=w.heap.size) (cs:=[.int .i64 tk,.int .i64 tp,.slice ao ln pc]) rfl _ _ _ rfl ((Blk.new w _ _).drew) Tryz.underlying113 rfl (by kernel_rfl)) rfl ⟨_,rfl,⟨_,rfl,HP.out⟩,lH ((Below.refl _ _).alloc (Nat.le_refl _) _)⟩
theorem LT {ts:List aG}{i:Nat}(hp:0<ts.length):min ((i:Int)+1) ((ts.length:Int) - 1)=(aSk ts i:Nat):=by
 unfold aSk;omega
theorem lL {w:World}{b g n base cap:Nat}{ts:List aG}{i d:Nat}(F:eO n base cap ts)(h:QSt w b g cap ts base i d)(hi:i<ts.length) :
  Calls Tryz.prog 142 #[.pointer (some ⟨b,0,none⟩)] w fun e w'=>e = .returned (.tuple #[])∧QSt w' b g cap ts base (aSk ts i) d∧aB (At b) w w':=by
 have hn:=F.good.len;have hc1:=F.cap1;have hc2:=F.cap2;have hm:=LT (ts:=ts) (i:=i) F.good.pos
 have H:=Ng (show QSt (w.setCell ⟨b,1,none⟩ (.int .i64 (aSk ts i:Nat))).drew b g cap ts base (aSk ts i) d∧aB (At b) w (w.setCell ⟨b,1,none⟩ (.int .i64 (aSk ts i:Nat))).drew from
  ⟨(h.move _).drew,(aB.setCell (S:=At b) (p:=⟨b,1,none⟩) (aB.refl _ w) (fun _=>rfl) _).drew⟩)
 obtain⟨q,hQ⟩:∃ q,aSk ts i=q:=⟨_,rfl⟩;rw[hQ] at hm H ⊢;have c0:=h.c0;have c1:=h.c1;have f1:=h.fr 1;have lb:=h.blt;obtain⟨N,hN⟩:∃ n,ts.length=n:=⟨_,rfl⟩;rw[hN] at hi hn hc1 c0 hm;have hw1:IntKind.i64.wrap ((i:Int)+1)=(i:Int)+1:=by rw[IntKind.wrap_i64];omega
 have hw2:IntKind.i64.wrap ((N:Int) - 1)=(N:Int) - 1:=by rw[IntKind.wrap_i64];omega
 clear h F hN;go_enter Tryz.func142,Tryz.ntmps142
 go_region
 refine bodyPost_end (results_none rfl _ _ _) rfl ?_;exact⟨rfl,H.out⟩
theorem DN (a b c:Value)(w:World):(Instr.field 113 (.agg #[a,b,c]) 0).run Tryz.prog w = .ok a w:=by kernel_rfl
theorem Ms (a b c:Value)(w:World):(Instr.field 113 (.agg #[a,b,c]) 1).run Tryz.prog w = .ok b w:=by kernel_rfl
theorem m6 {w:World}{b g n base cap:Nat}{ts:List aG}{i d:Nat}(F:eO n base cap ts)(h:QSt w b g cap ts base i d)(hi:i<ts.length)(ks:List Nat)(kb c:Nat)(hks:ks.length≤100)(hk:Blk w kb (ks.map fun (k:Nat)=>Value.int .i64 (k:Int))) :
  Calls Tryz.prog 43 #[.pointer (some ⟨b,0,none⟩),.slice (some ⟨kb,0,none⟩) ks.length c] w fun e w'=>e = .returned (.bool (aIs ts i ks))∧Below w.heap.size w w':=by
 have HX:=Ng (AH ks (aM ts i).kind);have hf0:=DN;go_enter Tryz.func43,Tryz.ntmps43
 go_wp2_with fail
 refine (pP F h hi).mono ?_;rintro e w1 ⟨v,rfl,⟨v2,rfl,-⟩,hb1⟩;have HK:=Ng (xA (hk.below hb1));clear hk;go_wp2_with fail
 refine (Tryz.slices_Contains_int kb 0 ks.length c (ks.map fun (k:Nat)=>(k:Int)) _ _ (by simp) (by omega) HK.out).mono ?_
 rintro e w2 ⟨rfl,rfl⟩;rw[HX.out,← aIs];go_wp2_with fail
 go_ret;exact⟨rfl,hb1⟩
theorem uN {w:World}{b g n base cap:Nat}{ts:List aG}{i d:Nat}(F:eO n base cap ts)(h:QSt w b g cap ts base i d)(hi:i<ts.length)(ks:List Nat)(kb c:Nat)(hks:ks.length≤100)(h0:0 ∉ ks)(hk:Blk w kb (ks.map fun (k:Nat)=>Value.int .i64 (k:Int)))(hkb:kb≠b) :
  Calls Tryz.prog 89 #[.pointer (some ⟨b,0,none⟩),.slice (some ⟨kb,0,none⟩) ks.length c] w fun e w'=>e = .returned (.tuple #[])∧QSt w' b g cap ts base (fK ts ks i) d∧aB (At b) w w':=by
 obtain⟨T,hT⟩:∃ T,fK ts ks i=T:=⟨_,rfl⟩;have HT:=Ng hT;rw[hT];clear hT;go_enter Tryz.func89,Tryz.ntmps89
 go_wp2_with fail
 go_loopg [] (ts.length - i) (fun m wr=>∃ k f,m=ts.length - k∧k<ts.length∧ts.length - k≤f∧QSt wr b g cap ts base k d∧aB (At b) w wr∧Hid (lQ ts ks f k=T))
 case atStart=>exact⟨i,ts.length,rfl,hi,by omega,h,aB.refl _ _,HT⟩
 case round =>
  clear h hi HT;obtain⟨k,f,rfl,hkn,hf,hS,hK,HT⟩:=hrel;have hk':=hk.kept hK (fun e=>hkb e)
  go_wp2_with fail
  refine (m6 F hS hkn ks kb c hks hk').mono ?_;rintro e w1 ⟨rfl,hb1⟩;have hS1:=hS.below hb1;have hK1:=hK.andBelow hb1;clear hS hK hk' hb1;obtain⟨f,rfl⟩:∃ g,f=g+1:=⟨f - 1,by omega⟩
  cases hx:aIs ts k ks with
  | true =>
   have HT2:=Ng (show lQ ts ks f (aSk ts k)=T by rw[← HT.out,lQ,hx,if_pos rfl])
   obtain⟨e1,e2⟩:=uY F.good hkn h0 hx;rw[e1] at HT2;clear HT hx;go_wp2_with fail
   refine (lL F hS1 hkn).mono ?_;rintro e w2 ⟨rfl,hS2,hK2⟩;rw[e1] at hS2;have hK3:=hK1.same hK2;go_wp2_with fail
   go_roundg (ts.length - (k+1))
   case measure=>omega
   case rel=>exact⟨k+1,f,rfl,e2,by omega,hS2,hK3,HT2⟩
  | false =>
   have HT2:k=T:=by rw[← HT.out,lQ,hx,if_neg (by simp)]
   subst HT2;clear HT hx;go_wp2_with fail
   refine bodyPost_end (results_none rfl _ _ _) rfl ?_;exact⟨rfl,hS1,hK1⟩
theorem xP {w:World}{b g n base cap:Nat}{ts:List aG}{i d:Nat}(F:eO n base cap ts)(h:QSt w b g cap ts base i d)(hi:i<ts.length)(x:Addr) :
  Calls Tryz.prog 88 #[.pointer (some ⟨b,0,none⟩),.iface 286 (.pointer (some x))] w fun e w'=>∃ eb,e = .returned (.iface 61 (.pointer (some ⟨eb,0,none⟩)))∧Blk w' eb [.int .i64 ((base+(aM ts i).place:Nat):Int),.iface 286 (.pointer (some x))]∧w.heap.size≤eb∧Below w.heap.size w w':=by
 have hf1:=Ms;have hpl:=F.good.place i;have hnum:=F.num;have hwr:IntKind.i64.wrap ((base:Int)+((aM ts i).place:Int))=((base+(aM ts i).place:Nat):Int):=by rw[IntKind.wrap_i64];omega
 have c2:=h.c2;have HN:=Ng (show ∀ w9:World,QSt w9 b g cap ts base i d→Calls Tryz.prog 93 #[.pointer (some ⟨b,0,none⟩)] w9 fun e w'=>∃ v,e = .returned v∧iW w' v (aM ts i)∧Below w9.heap.size w9 w' from fun w9 h9=>pP F h9 hi)
 unfold iW at HN;generalize (aM ts i).place=tp at *;have h':=h.drew;go_enter Tryz.func88,Tryz.ntmps88
 go_upto_region 1 with fail
 go_region_with (go_at_call 93;(with_reducible refine (HN.out _ (by first | exact h | exact h')).mono ?_);rintro e w1 ⟨v,rfl,⟨v2,rfl,-⟩,hb1⟩;have c2':=aF hb1 c2;have hbq:Below w.heap.size w w1:=(by first | exact hb1 | exact ((Below.refl _ w).drew).trans hb1))
 all_goals (clear h h' HN F)
 all_goals (go_wp2_with fail)
 all_goals (go_ret)
 all_goals (refine ⟨_,rfl,?_,hbq.size,hbq.alloc hbq.size _⟩)
 all_goals (rw[Int.natCast_add];exact Blk.new w1 _ _)
theorem qP {w:World}{b g n base cap:Nat}{ts:List aG}{i d:Nat}(F:eO n base cap ts)(h:QSt w b g cap ts base i d)(hi:i<ts.length)(sent:Nat→Addr)(hE:Env w sent) :
  Calls Tryz.prog 44 #[.pointer (some ⟨b,0,none⟩)] w fun e w'=>∃ eb,e = .returned (.iface 61 (.pointer (some ⟨eb,0,none⟩)))∧bJ w' eb sent (if aIs ts i [0]=true then 109 else 108) (base+(aM ts i).place)∧w.heap.size≤eb∧Below w.heap.size w w':=by
 obtain⟨cd,hcd⟩:∃ cd,(if aIs ts i [0]=true then 109 else 108)=cd:=⟨_,rfl⟩
 rw[hcd];go_enter Tryz.func44,Tryz.ntmps44
 go_wp2_with fail
 refine (m6 F (h.alloc _) hi [0] _ _ (by decide) (show Blk _ _ [Value.int .i64 0] from Blk.new w _ _)).mono ?_
 rintro e w1 ⟨rfl,hb1⟩;have hS1:=(h.alloc _).below hb1;have hB1:=aE ((Below.refl w.heap.size w).alloc (Nat.le_refl _) _) hb1;have he1:=p7 (hE.below hB1) 109 4 (by simp [cH])
 have he2:=p7 (hE.below hB1) 108 5 (by simp [cH])
 clear h hb1
 cases hx:aIs ts i [0] with
 | true =>
  rw[hx,if_pos rfl] at hcd;subst hcd;clear hx;go_wp2_with fail
  refine (xP F hS1 hi _).mono ?_;rintro e w2 ⟨eb,rfl,hE2,hl,hb2⟩;go_wp2_with fail
  go_ret;exact⟨eb,rfl,hE2,Nat.le_trans hB1.size hl,aE hB1 hb2⟩
 | false =>
  rw[hx,if_neg (by simp)] at hcd
  subst hcd;clear hx;go_wp2_with fail
  refine (xP F hS1 hi _).mono ?_;rintro e w2 ⟨eb,rfl,hE2,hl,hb2⟩;go_wp2_with fail
  go_ret;exact⟨eb,rfl,hE2,Nat.le_trans hB1.size hl,aE hB1 hb2⟩
end Go.Proofs.YtbpjobmpacjgcaaGreatDoor
namespace Go.Proofs.YtbpjobmpacjgcaaGreatDoor
set_option maxHeartbeats 8000000
set_option maxRecDepth 100000
open Go Go.RowKit
def mJ:List UInt8:=[32,105,102,32,116,104,101,110,32,101,108,115,101,32,102,105,32,119,104,105,108,101,32,100,111,32,100,111,110,101,32,102,111,114,32,105,110,32,99,97,115,101,32,101,115,97,99,32,123,32,125,32,33,32]
theorem J1:((List.range 55).all fun i=>(mJ.drop i).headD 0 != 32 || ((mJ.drop (i+1)).takeWhile (fun c=>c != 32)).isEmpty || lY ((mJ.drop (i+1)).takeWhile (fun c=>c != 32)))=true:=by decide +kernel
theorem I6:(Aa.all fun s=>Lib.contains mJ (32 :: (s++[32])))=true:=by decide +kernel
theorem K9 (s:List UInt8)(hb:∀ c∈s,c≠32)(hne:s≠[]):Lib.contains mJ (32 :: (s++[32]))=lY s:=by
 rw[Bool.eq_iff_iff];constructor
 ·intro h;unfold Lib.contains at h;rw[decide_eq_true_eq] at h
  rcases Lib.index_spec mJ (32 :: (s++[32])) with ⟨h1,_⟩ | ⟨i,h1,h2,h3,_⟩
  ·omega
  ·unfold Lib.occAt at h3;have h4:=List.all_eq_true.1 J1 i (List.mem_range.2 (by have:mJ.length=54:=rfl;omega))
   have hd:mJ.drop (i+1)=(mJ.drop i).drop 1:=by rw[List.drop_drop]
   cases hk:mJ.drop i with
   | nil=>rw[hk] at h3;simp [List.isPrefixOf] at h3
   | cons a m =>
    rw[hk] at h3;have h5:(32:UInt8)=a∧(s++[32]).isPrefixOf m=true:=by simpa [List.isPrefixOf] using h3
    obtain⟨rfl,h6⟩:=h5;have h7:=Ay s m hb h6;rw[hd,hk] at h4;have h8:(m.takeWhile fun c=>c != 32)=s:=h7.symm
    simp only[List.headD_cons,List.drop_succ_cons,List.drop_zero,h8] at h4
    have h9:s.isEmpty=false:=by cases s with
     | nil=>exact absurd rfl hne
     | cons c s=>rfl
    simpa [h9] using h4
 ·intro h;unfold lY at h;rw[List.contains_iff_mem] at h;exact List.all_eq_true.1 I6 s h
theorem Iy (s:List UInt8)(h:(32:UInt8)∈s):lY s=false:=by
 have hall:(Aa.all fun s=>!s.contains 32)=true:=by decide +kernel
 cases hk:lY s with
 | false=>rfl
 | true =>
  unfold lY at hk;rw[List.contains_iff_mem] at hk;have:=List.all_eq_true.1 hall s hk
  rw[List.contains_iff_mem.2 h] at this
  cases this
theorem IL (s:List UInt8)(w:World)(hs:s.length≤8192)(mx:Int)(hm:w.cell? ⟨12,0,none⟩=some (.int .i64 mx)) :
  Calls Tryz.prog 59 #[.string (bs s)] w fun e w'=>e = .returned (.bool (lY s))∧w'=w:=by
 obtain⟨r,hr⟩:∃ r,lY s=r:=⟨_,rfl⟩;have HR:=Ng hr;rw[hr];clear hr
 by_cases h0:s=[]
 ·subst h0;have he:(bs ([]:List UInt8)).toList=[]:=by rw[ByteArray.toList_eq];rfl
  go_enter Tryz.func59,Tryz.ntmps59
  go_wp2_with fail
  go_ret;exact⟨by rw[← HR.out];rfl,rfl⟩
 ·have hq:((bs s).toList==[])=false:=by
   rw[ByteArray.toList_eq,bK,beq_eq_false_iff_ne];exact h0
  have H0:=Ng h0;have hz0:(bs s).size≤8192:=by rw[aY];exact hs
  obtain⟨z1,hz1⟩:∃ z,(⟨#[32]⟩:ByteArray)++bs s=z:=⟨_,rfl⟩;have hz1':z1=bs (32 :: s):=by rw[← hz1];exact rH [32] s
  have hz2:z1.size≤8193:=by rw[hz1',aY,List.length_cons];omega
  have hz3:z1++(⟨#[32]⟩:ByteArray)=bs (32 :: (s++[32])):=by rw[hz1'];exact rH (32 :: s) [32]
  clear hz1';clear h0;have HB:=Ng (Lh s);have hls:(bs s).data.toList=s:=bK s;go_enter Tryz.func59,Tryz.ntmps59
  go_wp2_with fail
  refine (Tryz.strings_Contains_one (bs s) 32 w).mono ?_;rintro e w2 ⟨rfl,rfl⟩;rw[hls,HB.out]
  cases hc:s.contains 32 with
  | true =>
   have HX:=Ng (Iy s (List.contains_iff_mem.1 hc));clear hc;go_wp2_with fail
   go_ret;exact⟨by rw[← HR.out,HX.out];rfl,rfl⟩
  | false =>
   have HX:=Ng (K9 s (fun c h e=>by
    subst e;rw[List.contains_iff_mem.2 h] at hc
    cases hc) H0.out)
   clear hc;go_wp2_with fail
   refine (Tryz.strings_Contains (bs mJ) (bs (32 :: (s++[32]))) mx w2 (by decide) hm).mono ?_
   rintro e w3 ⟨rfl,rfl⟩;rw[bK,bK,HX.out,HR.out];go_wp2_with fail
   go_ret;exact⟨rfl,rfl⟩
theorem Ct (v:Value)(t:aG)(w:World)(h:iW w v t) :
  Calls Tryz.prog 179 #[v] w fun e w'=>e = .returned (.tuple #[.string (bs ((dC t).getD [])),.bool (dC t).isSome])∧Below w.heap.size w w':=by
 obtain⟨v2,rfl,ao,cap,rfl,h1,h2,h3⟩:=h;have hb:=(Below.refl w.heap.size w).alloc (Nat.le_refl _) (.cells #[.int .i64 t.kind,.int .i64 t.place,.slice ao t.parts.length cap] 113);obtain⟨r,hr⟩:∃ r,dC t=r:=⟨_,rfl⟩;rw[hr]
 by_cases hk:t.kind=13
 ·rw[dC,if_pos hk] at hr
  by_cases hl:t.parts.length=1
  ·obtain⟨p,hp⟩:=List.length_eq_one_iff.1 hl;rw[hp] at hr;obtain⟨g,rfl,g1,g2⟩:=h3 (by omega)
   obtain⟨x0,x1,x2,x3,x4⟩:=g2.facts 0 p (by rw[hp];rfl)
   simp only[Nat.zero_mul,Nat.zero_add] at x0 x1 x2 x3 x4;clear hp h3 g2;rw[hl] at h1;rw[hl] at hb ⊢;generalize t.kind=tk at *;subst hk
   by_cases hq:p.kind=1
   ·rw[hq] at x0;simp only[hq,if_true] at hr;subst hr;go_enter Tryz.func179,Tryz.ntmps179
    go_wp2_with fail
    go_ret2;exact⟨rfl,hb⟩
   ·simp only[hq,if_false] at hr;subst hr;have hq':((p.kind:Int)==1)=false:=by rw[beq_eq_false_iff_ne];omega
    go_enter Tryz.func179,Tryz.ntmps179
    go_wp2_with fail
    go_ret2;exact⟨rfl,hb⟩
  ·obtain rfl:none=r:=by
    rw[← hr];split
    ·next p he=>rw[he] at hl;exact absurd rfl hl
    ·rfl
   have hl':((t.parts.length:Int)==1)=false:=by rw[beq_eq_false_iff_ne];omega
   clear h3 hr;generalize t.parts.length=N at *;generalize t.kind=tk at *;subst hk;go_enter Tryz.func179,Tryz.ntmps179
   go_wp2_with fail
   go_ret2;exact⟨rfl,hb⟩
 ·rw[dC,if_neg hk] at hr;subst hr;have hk':((t.kind:Int)==13)=false:=by rw[beq_eq_false_iff_ne];omega
  clear h3;generalize t.parts.length=N at *;go_enter Tryz.func179,Tryz.ntmps179
  go_wp2_with fail
  go_ret2;exact⟨rfl,hb⟩
theorem Jo {w:World}{kb:Nat}{ss:List (List UInt8)}(hk:Blk w kb (ss.map fun s=>Value.string (bs s))):∀ j,j<(ss.map bs).length→w.cell? ⟨kb,0+j,none⟩=some (.string ((ss.map bs).getD j ByteArray.empty)):=fun j hj=>by
 rw[List.length_map] at hj;rw[Nat.zero_add];refine hk.cell j ?_;rw[List.getElem?_map,List.getElem?_eq_getElem hj,Option.map_some,List.getD_eq_getElem?_getD,List.getElem?_map,List.getElem?_eq_getElem hj];rfl
theorem Gi (ss:List (List UInt8))(s:List UInt8):Lib.containsS ((ss.map bs).take ss.length) (bs s)=ss.contains s:=by
 rw[List.take_of_length_le (by simp),Bool.eq_iff_iff,Lib.containsS_iff,List.contains_iff_mem,List.mem_map]
 constructor
 ·rintro ⟨a,h1,h2⟩;have h3:=congrArg (fun x=>x.data.toList) h2
  simp only[bK] at h3;rw[← h3];exact h1
 ·exact fun h=>⟨s,h,rfl⟩
theorem uW {w:World}{b g n base cap:Nat}{ts:List aG}{i d:Nat}(F:eO n base cap ts)(h:QSt w b g cap ts base i d)(hi:i<ts.length)(ss:List (List UInt8))(kb c:Nat)(hks:ss.length≤100)(hk:Blk w kb (ss.map fun s=>Value.string (bs s))) :
  Calls Tryz.prog 143 #[.pointer (some ⟨b,0,none⟩),.slice (some ⟨kb,0,none⟩) ss.length c] w fun e w'=>e = .returned (.bool (eN ts i ss))∧Below w.heap.size w w':=by
 obtain⟨r,hr⟩:∃ r,eN ts i ss=r:=⟨_,rfl⟩;rw[hr];go_enter Tryz.func143,Tryz.ntmps143
 go_wp2_with fail
 refine (pP F h hi).mono ?_;rintro e w1 ⟨v,rfl,hv,hb1⟩;have HB:=Ng (Ct v _ w1 hv);obtain⟨v2,rfl,hp2⟩:=hv;obtain⟨ao,pc,rfl⟩:=hp2.form;have hk1:=hk.below hb1;clear h hk hp2;go_wp2_with fail
 refine HB.out.mono ?_;rintro e w2 ⟨rfl,hb2⟩;have hk2:=hk1.below hb2;have hb3:=aE hb1 hb2
 cases hx:dC (aM ts i) with
 | none =>
  rw[eN,hx] at hr;subst hr;clear hx HB hb1 hb2;simp only[Option.isSome_none,Option.getD_none];go_wp2_with fail
  go_ret;exact⟨rfl,hb3⟩
 | some s =>
  rw[eN,hx] at hr;have HR:=Ng (show ss.contains s=r from hr)
  clear hx HB hb1 hb2 hr;simp only[Option.isSome_some,Option.getD_some];have HK:=Ng (Jo hk2);have HY:=Ng (Gi ss s);clear hk1 hk2;go_wp2_with fail
  refine (Tryz.slices_Contains_string kb 0 ss.length c (ss.map bs) (bs s) w2 (by simp) (by omega) HK.out).mono ?_
  rintro e w3 ⟨rfl,rfl⟩;rw[HY.out,HR.out];go_wp2_with fail
  go_ret;exact⟨rfl,hb3⟩
theorem Km {w:World}{b g n base cap:Nat}{ts:List aG}{i d:Nat}(F:eO n base cap ts)(h:QSt w b g cap ts base i d)(hi:i<ts.length)(s:List UInt8)(hx:eN ts i [s]=true) :
  Calls Tryz.prog 196 #[.pointer (some ⟨b,0,none⟩),.string (bs s)] w fun e w'=>e = .returned .nilIface∧QSt w' b g cap ts base (aSk ts i) d∧aB (At b) w w':=by
 go_enter Tryz.func196,Tryz.ntmps196
 go_wp2_with fail
 refine (uW F (h.alloc _) hi [s] _ _ (by simp) (show Blk _ _ [Value.string (bs s)] from Blk.new w _ _)).mono ?_
 rintro e w1 ⟨rfl,hb1⟩;rw[hx];have hS1:=(h.alloc _).below hb1;have hB1:=aE ((Below.refl w.heap.size w).alloc (Nat.le_refl _) _) hb1;clear h hb1;go_wp2_with fail
 refine (lL F hS1 hi).mono ?_;rintro e w2 ⟨rfl,hS2,hK2⟩;have hK:=(aB.ofBelow (S:=At b) hB1).same hK2;go_wp2_with fail
 go_ret;exact⟨rfl,hS2,hK⟩
theorem KF {w:World}{b g n base cap:Nat}{ts:List aG}{i d:Nat}(F:eO n base cap ts)(h:QSt w b g cap ts base i d)(hi:i<ts.length)(s:List UInt8)(hx:eN ts i [s]=false)(sent:Nat→Addr)(hE:Env w sent) :
  Calls Tryz.prog 196 #[.pointer (some ⟨b,0,none⟩),.string (bs s)] w fun e w'=>∃ eb,e = .returned (.iface 61 (.pointer (some ⟨eb,0,none⟩)))∧bJ w' eb sent (if aIs ts i [0]=true then 109 else 108) (base+(aM ts i).place)∧w.heap.size≤eb∧Below w.heap.size w w':=by
 obtain⟨cd,hcd⟩:∃ cd,(if aIs ts i [0]=true then 109 else 108)=cd:=⟨_,rfl⟩
 have HC:=Ng hcd;rw[hcd];clear hcd;go_enter Tryz.func196,Tryz.ntmps196
 go_wp2_with fail
 refine (uW F (h.alloc _) hi [s] _ _ (by simp) (show Blk _ _ [Value.string (bs s)] from Blk.new w _ _)).mono ?_
 rintro e w1 ⟨rfl,hb1⟩;rw[hx];have hS1:=(h.alloc _).below hb1;have hB1:=aE ((Below.refl w.heap.size w).alloc (Nat.le_refl _) _) hb1;have hE1:=hE.below hB1;clear h hb1;go_wp2_with fail
 refine (qP F hS1 hi sent hE1).mono ?_;rw[HC.out];rintro e w2 ⟨eb,rfl,hE2,hl,hb2⟩;have hB:=aE hB1 hb2;go_wp2_with fail
 go_ret;exact⟨eb,rfl,hE2,Nat.le_trans hB1.size hl,hB⟩
end Go.Proofs.YtbpjobmpacjgcaaGreatDoor
