/- Dialect A's parser: settings, words and turns. -/
import Derived.Test.YtbpjobmpacjgcaaGreatDoorGQChooseG
import Derived.Test.YtbpjobmpacjgcaaGreatDoorGQMade
import Derived.Test.YtbpjobmpacjgcaaGreatDoorGQChainG
import Derived.Test.YtbpjobmpacjgcaaGreatDoorGZD
namespace Go.Proofs.YtbpjobmpacjgcaaGreatDoor
set_option maxHeartbeats 32000000
set_option maxRecDepth 100000
open Go Go.RowKit
theorem JO (S:List (List UInt8×aA))(Ws:List aA)(b:Nat)(v1 v2 v3:Value)(w:World)(hb:b<w.heap.size)(h1:SSl w v1 (S.map (·.1)))(h2:KSl w b v2 (S.map (·.2)))(h3:KSl w b v3 Ws)(hS:∀ x∈S,0<x.2.length∧x.2.length≤200000)(hsl:cQ S≤1000000)(hn:S.length≤25000)(hWl:Ws.flatten.length≤1000000)(hWn:Ws.length≤25000) :
  Calls Tryz.prog 225 #[v1,v2,v3] w fun e w'=>∃ v',e = .returned v'∧NSl w' b v' (dT S Ws)∧Below w.heap.size w w':=by
 by_cases hW:0<Ws.length
 ·exact Jm S Ws b v1 v2 v3 w hb h1 h2 h3 hS hn hW hWl hWn
 ·obtain rfl:Ws=[]:=List.length_eq_zero_iff.1 (by omega)
  exact IB S b v1 v2 v3 w hb h1 h2 h3 (fun x hx=>(hS x hx).1) hsl hn
theorem aO.apart {w w':World}{B b B2:Nat}{v:Value}{L:List aA}{row:Option Nat}{o:Obj}(h:aO w B b v L)(hk:∀ k,v.ownBlock=some k→k<B2)(hb:Below B2 w w')(hg:(w.alloc o).grownBy w' row)(hr:∀ k,row=some k→∃ cur fz t,(w.alloc o).heap[k]?=some (.cells cur t fz)∧t≠40):aO w' B b v L:=by
 obtain⟨us,u1,u2,u3⟩:=h;refine ⟨us,u1,⟨u2.1,?_⟩,fun i u l hu hl=>((u3 i u l hu hl).below ((Below.refl _ w).alloc (Nat.le_refl _) o)).grown hg hr⟩
 rcases u2.2 with h2 | ⟨g,cap,cur,hv,hg2,hh,r⟩
 ·exact .inl h2
 ·exact .inr ⟨g,cap,cur,hv,hg2,(hb.block g (hk g (by rw[hv];rfl))).trans hh,r⟩
theorem KT {n:Nat}{t t':aG}{s:List UInt8}(h:eZ t=some (s,t'))(hP:kP n t)(hx:∀ x∈t.parts,mQ n x):∀ x∈t'.parts,mQ n x:=by
 have h1:=qI h hP;obtain⟨_,_,_,p,ps,r,h2,h3,h4,h5⟩:=lZ h;intro x hm;refine ⟨?_,h1.len x hm,fun hk=>?_,h1.valid x hm,?_⟩
 ·rw[h4] at hm
  rcases List.mem_cons.1 hm with rfl | hm
  ·exact (hx p (by rw[h2];simp)).place
  ·exact (hx x (by rw[h2];simp [hm])).place
 ·rw[h4] at hm
  rcases List.mem_cons.1 hm with rfl | hm
  ·dsimp only at hk;omega
  ·exact (hx x (by rw[h2];simp [hm])).sub hk
 ·rw[h4] at hm
  rcases List.mem_cons.1 hm with rfl | hm
  ·exact (hx p (by rw[h2];simp)).few
  ·exact (hx x (by rw[h2];simp [hm])).few
theorem FT {n:Nat}{ts:List aG}(g:aW n ts){f b d i:Nat}{l:aA}{s:List UInt8}{t':aG}(hi:i<ts.length)(hs:eZ (aM ts i)=some (s,t'))(h:cZ (fun x=>bD f b d x) b t'=some (.ok l)):0<l.length∧l.length+5+8 * aI ts (i+1)≤8 * aI ts i∧l.length≤200000:=by
 have h1:=(l8 (b:=b) (qI hs (g.parts i)) (wS hs ((kG f).subQ g b d i))).1 l h;obtain⟨_,_,h5,_⟩:=lZ hs;unfold jL at h1;rw[h5] at h1;have h2:=k9 hi;have h3:=g.rem_le hi;omega
theorem KU (S:List (List UInt8×aA)):S.length≤cQ S:=by
 induction S with
 | nil=>exact Nat.le_refl _
 | cons x S ih=>simp only[cQ,List.map_cons,List.sum_cons,List.length_cons] at ih ⊢;omega
theorem NSl.of_row {w w':World}{b B:Nat}{v vr:Value}{l:aA}{e:TypeId}{size n:Nat}{xs:List Value}{o:Obj}(h:NSl w b v l)(hg:(w.alloc o).grownBy w' vr.ownBlock)(hr:w.ownsRow B e size vr n xs)(he:e≠40:=by decide):NSl w' b v l :=
 (h.below ((Below.refl _ w).alloc (Nat.le_refl _) o)).grown hg fun k hk=>by
  obtain⟨c,f,t,h3,rfl⟩:=jE hr o k hk;exact⟨c,f,_,h3,he⟩
theorem Gr {ts:List aG}{i:Nat}(h:lM ts i=true):aIs ts i [13]=false:=by
 rw[← Bool.not_eq_true];intro h2;unfold lM at h;rw[m7] at h h2;simp only[List.mem_cons,List.not_mem_nil,or_false] at h h2;omega
theorem FU {sent:Nat→Addr}(f:Nat)(hV:∀ f'≤f,lT sent 222 (fun b d t=>cZ (fun x=>bD f' b d x) b t))(hFd:∀ f'≤f,lT sent 223 (fun b d t=>fS (fun x=>bD f' b d x) b t)):mM sent 195 (fun ts b d i=>cD (f+1) ts b d i [] [] []):=by
 intro w b g cap n base i d ts r hd hi F hQ hE hr;have hbl:=hQ.blt;have hlen:=F.good.len;have hi24:=F.good.rem_le hi;obtain⟨i0,hi0,hz0,hz1,hz2⟩:=info_parts Bu;obtain⟨k0,hk0,hk1,hk2,hk3⟩:=info_parts jB;obtain⟨s0,hs0,hs1,hs2,hs3⟩:=info_parts xI;have HV:=Ng hV;have HFd:=Ng hFd;have HR0:=Ng (show cD (f+1) ts base d i [] [] []=some r from hr.out)
 clear hr hV hFd;go_enter Tryz.func195,Tryz.ntmps195
 go_wp2_with fail
 go_loopg [4,5,6,7,8,9,10,11,12,13,14,15] (ts.length - i) (fun m v4 v5 v6 v7 s8 s9 s10 s11 s12 s13 s14 s15 wr=>∃ (k fk:Nat) (ss:List (List UInt8×aA)) (ws:List aA) (L:List (Nat×aA)) (wb:World),m=ts.length - k∧k<ts.length∧fk≤f+1∧ss.length+ws.length+L.length≤k∧cQ ss+ws.flatten.length+dQ L+8 * aI ts k≤8 * aI ts i∧Hid (∀ x∈ss,0<x.2.length∧x.2.length≤200000)∧Hid (∀ l∈ws,0<l.length)∧Hid (∀ t∈L,t.1≤100∧t.2.length≤200000)∧aB (At b) w wr∧QSt wr b g cap ts base k d∧(w.heap.size≤wb.heap.size∧wb.heap.size≤wr.heap.size∧Hid (∀ q,v4.ownBlock=some q→q<wb.heap.size)∧Hid (ws=[]→v5 = .slice none 0 0))∧aO wr w.heap.size b v4 (ss.map (·.2))∧aO wr wb.heap.size b v5 ws∧dY wr w.heap.size v6 (ss.map (·.1))∧gB wr w.heap.size b v7 L∧Hid (cD fk ts base d k ss ws L=some r))
 case atStart=>exact⟨i,f+1,[],[],[],w,rfl,hi,Nat.le_refl _,by simp,by simp [cQ,dQ],Ng (fun _ h=>nomatch h),Ng (fun _ h=>nomatch h),Ng (fun _ h=>nomatch h),aB.refl _ _,hQ,⟨Nat.le_refl _,Nat.le_refl _,Ng (fun q h=>by cases h),Ng (fun _=>rfl)⟩,aO.nil _ _ _,aO.nil _ _ _,dY.nil _ _,gB.nil _ _ _,HR0⟩
 case round =>
  clear hQ HR0 hi;obtain⟨k,fk,ss,ws,L,wb,rfl,hk,hfk,hN1,hN2,hSS,hWS,hLL,hK,hS,⟨hB1,hB2,hB3,hB4⟩,hO4,hO5,hO6,hO7,hr⟩:=hrel
  obtain⟨fk,rfl⟩:∃ q,fk=q+1:=by
   cases fk with
   | zero=>have:=hr.out;rw[cD] at this;cases this
   | succ q=>exact⟨q,rfl⟩
  have HP:=Ng hr.out;rw[cD] at HP;have hszk:=hK.size;have hbb:b<wb.heap.size:=by omega
  have hsl:=KU ss;clear hr;obtain⟨a4,c4,rfl⟩:=hO4.form;obtain⟨a5,c5,rfl⟩:=hO5.form;obtain⟨a6,c6,rfl⟩:=hO6.form;obtain⟨a7,c7,rfl⟩:=hO7.form;have hlm:(ss.map (·.1)).length=ss.length:=List.length_map _;have hlm2:(ss.map (·.2)).length=ss.length:=List.length_map _;rw[hlm] at hO6 ⊢;rw[hlm2] at hO4 hB3 ⊢;have HLM:=Ng hlm;have HLM2:=Ng hlm2;clear hlm hlm2;go_wp2_with fail
  refine (m6 F (hS.alloc _) hk [13] _ _ (by decide) (show Blk _ _ [Value.int .i64 13] from Blk.new wr _ _)).mono ?_
  rintro e w1 ⟨rfl,hb1⟩;have hb2:=aE ((Below.refl _ wr).alloc (Nat.le_refl _) (.cells #[Value.int .i64 13] 3)) hb1;have hS1:=hS.below hb2;have hP4:=hO4.below hbl hb2;have hP5:=hO5.below hbb hb2;have hP6:=hO6.below hbl hb2;have hP7:=hO7.below hbl hb2;have hK1:=hK.andBelow hb2;have hsz1:=hK1.size;have hsz2:=hb2.size;clear hS hO4 hO5 hO6 hO7 hK hb1 hb2
  cases xt:lM ts k with
  | true =>
   rw[if_pos xt] at HP;have x13:=Gr xt;rw[x13];obtain⟨hkd,hk0'⟩:=BG xt;obtain⟨s1,s2⟩:=sX F.good hk hk0';have hj:=(rI (ts:=ts) hk).2;have HT:=Ng (fun (w9:World) (h9:QSt w9 b g cap ts base k d)=>show Calls Tryz.prog 219 #[.pointer (some ⟨b,0,none⟩)] w9 fun e w'=>e = .returned (.bool true)∧Below w9.heap.size w9 w' from by have:=wO F h9 hk;rwa [xt] at this)
   clear x13 xt;go_wp2_with fail
   refine (HT.out w1 hS1).mono ?_;rintro e w2 ⟨rfl,hb2⟩;have hS2:=hS1.below hb2;go_wp2_with fail
   refine (HT.out w2 hS2).mono ?_;rintro e w3 ⟨rfl,hb3⟩;have hb4:=aE hb2 hb3;have hS3:=hS1.below hb4;have hQ4:=hP4.below hbl hb4;have hQ5:=hP5.below hbb hb4;have hQ6:=hP6.below hbl hb4;have hQ7:=hP7.below hbl hb4;have hK3:=hK1.andBelow hb4;have hE3:=hE.kept hK3;have hsz3:=hK3.size;have hsz3b:=hb4.size;clear hS1 hP4 hP5 hP6 hP7 hK1 hb2 hb3 hb4 hS2 HT
   cases hq:wordOf (cZ (fun x=>bD fk base d x)) ts base (aSk ts k) with
   | none =>
    rw[hq] at HP;exact absurd HP.out (by simp [aJ.go])
   | some rc =>
    rw[hq] at HP;have HD:=Ng (BI fk (HV.out fk (by omega)) w3 b g cap n base k d ts rc hd hk F hS3 hE3 (Ng hq))
    clear hS3;obtain⟨kd,hkk⟩:∃ kd,(aM ts k).kind=kd:=⟨_,rfl⟩;rw[hkk] at HD HP hkd;go_wp2_with fail
    refine HD.out.mono ?_
    cases rc with
    | error e0 =>
     obtain⟨c0,p0⟩:=e0;have HX:=Ng (eP HP.out);clear HP hq HD;rintro e w5 ⟨hK5,v,u,j',rfl,⟨va,vn,vc,rfl⟩,⟨eb,rfl,q2,q3⟩,hS5⟩;go_wp2_with fail
     go_ret2;unfold bJ at q2;exact fB.bad HX.out rfl ⟨eb,rfl,q2.alloc _,by omega⟩ (hS5.alloc _) ((hK3.same hK5).alloc _)
    | ok q =>
     obtain⟨l,e2⟩:=q;obtain⟨y1,y2,y3,y4,y5⟩:=Bo F.good hj hq;have HX:=Ng (show cD fk ts base d e2 ss ws (L++[(kd,l)])=some r from HP.out)
     rw[s1] at y1 y4;have hrk:=rem_le (ts:=ts) (show k≤k+1 by omega) (Nat.le_of_lt s2)
     clear HP hq HD;rintro e w5 ⟨hK5,v,rfl,hN,hS5⟩;have hK6:=hK3.same hK5;have HN:=Ng hN;obtain⟨ga,gc,rfl,-⟩:=hN;have hT4:=hQ4.kept hbl hK5;have hT5:=hQ5.kept hbb hK5;have hT6:=hQ6.kept hbl hK5;have hT7:=hQ7.kept hbl hK5;have hsz5:=hK6.size;have hsz5b:=hK5.size
     have HL:=Ng (show ∀ t∈L++[(kd,l)],t.1≤100∧t.2.length≤200000 from fun t ht=>by
      rcases List.mem_append.1 ht with ht | ht
      ·exact hLL.out t ht
      ·rw[List.mem_singleton] at ht;subst ht;exact⟨hkd,by show l.length≤200000;omega⟩)
     have hN3:cQ ss+ws.flatten.length+dQ (L++[(kd,l)])+8 * aI ts e2≤8 * aI ts i:=by
      rw[rY];show cQ ss+ws.flatten.length+(dQ L+(l.length+1))+8 * aI ts e2≤8 * aI ts i
      omega
     generalize hlz:l.length=lz at *;have HLZ:=Ng hlz;clear hK5 hQ4 hQ5 hQ6 hQ7 hK3 hlz hLL;go_upto_region 9 with fail
     have hb6:=(Below.refl w5.heap.size w5).alloc (Nat.le_refl _) (.cells #[.int .i64 (kd:Int),.slice (some ⟨ga,0,none⟩) lz gc] 216);have hB6:=Blk.new w5 [.int .i64 (kd:Int),.slice (some ⟨ga,0,none⟩) lz gc] 216;obtain⟨w6,hw6⟩:∃ w6,w5.alloc (.cells #[.int .i64 (kd:Int),.slice (some ⟨ga,0,none⟩) lz gc] 216)=w6:=⟨_,rfl⟩;rw[hw6] at hb6 ⊢;have hB6:Blk w6 w5.heap.size [.int .i64 (kd:Int),.slice (some ⟨ga,0,none⟩) lz gc]:=by rw[← hw6];exact hB6
     have HN6:=Ng (HN.out.below hb6);have hS6:=hS5.below hb6;have hK7:=hK6.andBelow hb6;have hU4:=hT4.below hbl hb6;have hU5:=hT5.below hbb hb6;have hU6:=hT6.below hbl hb6;have hsz6:=hb6.size;have t0:=hB6.cell 0 rfl;have t1:=hB6.cell 1 rfl;obtain⟨us,u1,u2,u3⟩:=hT7.below hbl hb6;generalize w5.heap.size=tb at *;clear hT4 hT5 hT6 hT7 hS5 HN hw6 hb6 hB6 hK6;have hOA:∀ o,(w6.alloc o).ownsRow w.heap.size 216 2 _ L.length _:=fun o=>bM u2 (aB.ofBelow (S:=bW) ((Below.refl _ w6).alloc (Nat.le_refl _) o)) (fun _ _ _ e=>e)
     have hsz7:=hK7.size;go_wp2_with (at_builtin;refine wpList_append_own _ rfl _ _ 214 rfl w.heap.size 216 i0 _ 2 32 Tryz.underlying214 hi0 hz0 hz1 hz2 rfl (by decide) _ _ _ rfl (hOA _) ⟨w6.heap.size,0,none⟩ 1 1 [.int .i64 (kd:Int),.slice (some ⟨ga,0,none⟩) lz gc] rfl rfl (cL (by simp)) (by intro u hu;simp at hu;rcases hu with rfl | rfl <;> rfl) (by unfold maxLen;omega) (by omega) (by simp;omega) ?_;intro v7 w7 hown' hgrow _)
     obtain⟨hO7,hb7⟩:=gB.grown (w0:=w) (t:=(kd,l)) hsz7 u1 u2 u3 (by have:=HN6.out;exact this) hown' hgrow
     have hA4:=(hU4.below hbl ((Below.refl _ w6).alloc (Nat.le_refl _) _)).other hgrow (by decide) (by decide) (jE u2 _)
     have hA5:=(hU5.below hbb ((Below.refl _ w6).alloc (Nat.le_refl _) _)).other hgrow (by decide) (by decide) (jE u2 _)
     have hA6:=(hU6.below hbl ((Below.refl _ w6).alloc (Nat.le_refl _) _)).other hgrow (by decide) (jE u2 _)
     have hS7:=hS6.belowB hb7 hbl;have hK8:=hK7.belowB hb7 (Nat.le_refl _);have hsz8:=hb7.size;go_wp2_with fail
     go_roundg (ts.length - e2)
     case measure=>omega
     case rel=>exact⟨e2,fk,ss,ws,L++[(kd,l)],wb,rfl,y2,by omega,by simp;omega,hN3,hSS,hWS,HL,hK8,hS7,⟨hB1,by omega,hB3,hB4⟩,hA4,hA5,hA6,hO7,HX⟩
  | false =>
   rw[xt,if_neg (by simp)] at HP
   have HT:=Ng (fun (w9:World) (h9:QSt w9 b g cap ts base k d)=>show Calls Tryz.prog 219 #[.pointer (some ⟨b,0,none⟩)] w9 fun e w'=>e = .returned (.bool false)∧Below w9.heap.size w9 w' from by have:=wO F h9 hk;rwa [xt] at this)
   clear xt
   cases x13:aIs ts k [13] with
   | false =>
    rw[x13,if_neg (by simp)] at HP
    clear x13;go_wp2_with fail
    refine (HT.out w1 hS1).mono ?_;rintro e w2 ⟨rfl,hb2⟩;have hS2:=hS1.below hb2;have hQ4:=hP4.below hbl hb2;have hQ5:=hP5.below hbb hb2;have hQ6:=hP6.below hbl hb2;have hQ7:=hP7.below hbl hb2;have hK2:=hK1.andBelow hb2;have hE2:=hE.kept hK2;have hsz3:=hK2.size;clear hS1 hP4 hP5 hP6 hP7 hK1 hb2 HT
    by_cases h0:ss.length+ws.length+L.length=0
    ·rw[if_pos h0] at HP;have HX:=Ng (uJ HP.out);have e1:ss.length=0:=by omega
     have e2:ws.length=0:=by omega
     have e3:L.length=0:=by omega
     have HF:=Ng (qP F hS2 hk sent hE2.env.env);rw[e1,e2,e3];clear HP h0 e1 e2 e3 hQ4 hQ5 hQ6 hQ7 hN1 hsl;go_wp2_with fail
     refine HF.out.mono ?_;rintro e w6 ⟨eb,rfl,hE7,hl7,hb7⟩;go_wp2_with fail
     go_ret2;exact fB.bad HX.out rfl ⟨eb,rfl,hE7,by omega⟩ (hS2.below hb7) (hK2.andBelow hb7)
    ·rw[if_neg h0] at HP;have HX:=Ng (gI HP.out);have hml:=(vC ss ws).1;have hO4k:=hQ4.ksl hbl;have hO6s:=hQ6.ssl;have HM:=Ng (JO ss ws b _ _ _ w2 (by omega) hO6s hO4k (hQ5.ksl hbb) hSS.out (by omega) (by omega) (by omega) (by omega))
     have HA:=Ng (fun (w5:World) (u:Value) (hb:Below w2.heap.size w2 w5) (hu:NSl w5 b u (dT ss ws))=>Bc L (dT ss ws) b _ u w5 (by have:=hb.size;omega) (hQ7.tsl.below hb) hu (by omega) hLL.out (by omega))
     clear HP hQ4 hQ5 hQ6 hQ7 hO4k hO6s hSS hWS hLL;have q1:IntKind.i64.wrap ((ss.length:Int)+(ws.length:Int))=(ss.length:Int)+(ws.length:Int):=by rw[IntKind.wrap_i64];omega
     have q2:IntKind.i64.wrap ((ss.length:Int)+(ws.length:Int)+(L.length:Int))=(ss.length:Int)+(ws.length:Int)+(L.length:Int):=by rw[IntKind.wrap_i64];omega
     have q3:(((ss.length:Int)+(ws.length:Int)+(L.length:Int))==0)=false:=by rw[beq_eq_false_iff_ne];omega
     clear hml h0 hN1 hN2 hsl HLM HLM2 hB3 hB4;generalize ss.length=n1 at *;generalize ws.length=n2 at *;generalize L.length=n3 at *;go_wp2_with fail
     refine HM.out.mono ?_;rintro e w5 ⟨v5,rfl,hN5,hb5⟩;have HA5:=Ng (HA.out w5 _ hb5 hN5);obtain⟨g5,c5,rfl,-⟩:=id hN5;go_wp2_with fail
     refine HA5.out.mono ?_;rintro e w6 ⟨v6,rfl,hN6,hb6⟩;have hb7:=aE hb5 hb6;obtain⟨g6,c6,rfl,-⟩:=id hN6;go_wp2_with fail
     go_ret2;exact fB.ok HX.out rfl hN6 (hS2.below hb7) (hK2.andBelow hb7)
   | true =>
    rw[x13,if_pos rfl] at HP;obtain⟨s1,s2⟩:=uY F.good hk (by decide) x13
    rw[s1] at HP;clear x13;go_wp2_with fail
    refine (HT.out w1 hS1).mono ?_;rintro e w2 ⟨rfl,hb2⟩;have hS2:=hS1.below hb2;go_wp2_with fail
    refine (pP F hS2 hk).mono ?_;rintro e w3 ⟨tv,rfl,hv3,hb3⟩;have hb4:=aE hb2 hb3;have HV3:=Ng hv3;obtain⟨tp3,rfl,hps3⟩:=hv3;obtain⟨ao3,pc3,rfl⟩:=hps3.form;have hbx:=(Below.refl w3.heap.size w3).alloc (Nat.le_refl _) (.cells #[.int .i64 (aM ts k).kind,.int .i64 (aM ts k).place,.slice ao3 (aM ts k).parts.length pc3] 113);have hBk:=Blk.new w3 [.int .i64 (aM ts k).kind,.int .i64 (aM ts k).place,.slice ao3 (aM ts k).parts.length pc3] 113;have hb5:=aE hb4 hbx;have hS5:=hS1.below hb5;have hQ4:=hP4.below hbl hb5;have hQ5:=hP5.below hbb hb5;have hQ6:=hP6.below hbl hb5;have hQ7:=hP7.below hbl hb5;have hK5:=hK1.andBelow hb5;have hE5:=hE.kept hK5;have hsz5:=hK5.size;have hsz5b:=hb5.size;have HV5:=Ng (HV3.out.below hbx);clear hS1 hP4 hP5 hP6 hP7 hK1 hb2 hb3 hb4 hb5 hS2 HT HV3 hps3;go_upto_region 11 with fail
    obtain⟨w4,hw4⟩:∃ w4,w3.alloc (.cells #[.int .i64 (aM ts k).kind,.int .i64 (aM ts k).place,.slice ao3 (aM ts k).parts.length pc3] 113)=w4:=⟨_,rfl⟩;rw[hw4] at hbx hBk hS5 hQ4 hQ5 hQ6 hQ7 hK5 hE5 hsz5 hsz5b HV5 ⊢;clear hw4;have t0:=hBk.cell 0 rfl;have t1:=hBk.cell 1 rfl;have t2:=hBk.cell 2 rfl;obtain⟨mx,hmx⟩:=hE5.env.mx;have hwp:=F.good.wtPs_le hk;have hpl:=qS (aM ts k).parts;have HS:=Ng (FJ w4 _ (aM ts k) HV5.out (fun x hx=>(F.partI k x hx).len) (by omega) mx hmx)
    clear hmx;go_wp2_with fail
    refine HS.out.mono ?_;rintro e w5 ⟨hb6,hc⟩;have hS6:=hS5.below hb6;have hU4:=hQ4.below hbl hb6;have hU5:=hQ5.below hbb hb6;have hU6:=hQ6.below hbl hb6;have hU7:=hQ7.below hbl hb6;have hK6:=hK5.andBelow hb6;have hBk6:=hBk.below hb6;have HV6:=Ng (HV5.out.below hb6);have hsz6:=hb6.size;clear HS t0 t1 t2 hS5 hQ4 hQ5 hQ6 hQ7 hK5 hE5 hBk HV5 hb6
    cases hst:eZ (aM ts k) with
    | none =>
     rw[hst] at hc;obtain⟨tv',rfl,⟨tp',rfl,hps'⟩⟩:=hc;obtain⟨ao',pc',rfl⟩:=hps'.form
     have HP:=Ng (show ((fS (fun x=>bD fk base d x) base (aM ts k)).at (k+1)).go (fun w j=>cD fk ts base d j ss (ws++[w]) L)=some r from by
      have:=HP.out
      rw[hst] at this;simpa using this)
     clear hst hps';have hbz:=(Below.refl w5.heap.size w5).alloc (Nat.le_refl _) (.cells #[.int .i64 (aM ts k).kind,.int .i64 (aM ts k).place,.slice ao' (aM ts k).parts.length pc'] 113);have hB7:=hBk6.alloc (.cells #[.int .i64 (aM ts k).kind,.int .i64 (aM ts k).place,.slice ao' (aM ts k).parts.length pc'] 113);have t0:=hB7.cell 0 rfl;have t1:=hB7.cell 1 rfl;have t2:=hB7.cell 2 rfl;have hS7:=hS6.below hbz;have hR4:=hU4.below hbl hbz;have hR5:=hU5.below hbb hbz;have hR6:=hU6.below hbl hbz;have hR7:=hU7.below hbl hbz;have hK7:=hK6.andBelow hbz;have hE7:=hE.kept hK7;have HV7:=Ng (HV6.out.below hbz);have hszz:=hbz.size;clear hS6 hU4 hU5 hU6 hU7 hK6 hBk6 HV6
     cases hq:fS (fun x=>bD fk base d x) base (aM ts k) with
     | none=>rw[hq] at HP;exact absurd HP.out (by simp [aJ.go,aL.at])
     | some rc =>
      rw[hq] at HP;have HD:=Ng ((HFd.out fk (by omega)).use hd hk F hS7 hE7 HV7.out (Ng hq))
      go_wp2_with fail
      refine HD.out.mono ?_;rintro e w8 ⟨hb8,h8⟩;have hK8:=hK7.andBelow hb8
      cases rc with
      | error q =>
       obtain⟨c0,p0⟩:=q;have HX:=Ng (aJ.at_err HP.out);obtain⟨v,u,rfl,⟨eb,rfl,hEb,hle⟩,va,vn,vc,rfl⟩:=h8;have hS8:=hS7.below hb8;have hsz8:=hK7.size;clear HP HD hq hR4 hR5 hR6 hR7 t0 t1 t2;go_wp2_with fail
       go_ret2;exact fB.bad HX.out rfl ⟨eb,rfl,hEb,by omega⟩ hS8 hK8
      | ok l =>
       obtain⟨v,rfl,hN⟩:=h8;obtain⟨y1,y2,y3⟩:=AP F.good hk hq;have HX:=Ng (show cD fk ts base d (k+1) ss (ws++[l]) L=some r from HP.out)
       have hS8:=hS7.below hb8;have hT4:=hR4.below hbl hb8;have hT6:=hR6.below hbl hb8;have hT7:=hR7.below hbl hb8;obtain⟨us,u1,u2,u3⟩:=hR5.below hbb hb8;have hOA:∀ o,(w8.alloc o).ownsRow wb.heap.size 26 1 _ ws.length us:=fun o=>bM u2 (aB.ofBelow (S:=bW) ((Below.refl _ w8).alloc (Nat.le_refl _) o)) (fun _ _ _ e=>e)
       have HN:=Ng hN;have hsz8:=hK8.size;have hsz8b:=hb8.size;have HW:=Ng (fP hWS.out y1);have hN3:cQ ss+(ws++[l]).flatten.length+dQ L+8 * aI ts (k+1)≤8 * aI ts i:=by rw[fD,List.length_append];omega
       obtain⟨gc,cc,rfl,-⟩:=hN;clear hK7 hS7 HD HP hq hb8 hE7 hR4 hR5 hR6 hR7 t0 t1 t2 hWS hB7 HV7;have hszw:wb.heap.size≤w8.heap.size:=by omega
       go_wp2_with (at_builtin;refine wpList_append_own _ rfl _ _ 25 rfl wb.heap.size 26 k0 _ 1 24 Tryz.underlying25 hk0 hk1 hk2 hk3 rfl (by decide) _ _ _ rfl (hOA _) ⟨w8.heap.size,0,none⟩ 1 1 [.slice (some ⟨gc,0,none⟩) l.length cc] rfl rfl (cL (by simp)) (by intro u hu;simp at hu;subst hu;rfl) (by unfold maxLen;omega) (by omega) (by simp;omega) ?_;intro v9 w9 hown' hgrow _)
       obtain⟨hO9,hb9⟩:=aO.grown (w0:=wb) hszw u1 u2 u3 HN.out hown' hgrow
       have hO4a:=hT4.apart hB3.out hb9 hgrow (fun k hk=>by
        obtain⟨c,f,t,h3,rfl⟩:=jE u2 _ k hk;exact⟨c,f,_,h3,by decide⟩)
       have hO6a:=(hT6.below hbl ((Below.refl _ w8).alloc (Nat.le_refl _) _)).other hgrow (by decide) (jE u2 _)
       have hO7a:=(hT7.below hbl ((Below.refl _ w8).alloc (Nat.le_refl _) _)).other hgrow (by decide) (by decide) (jE u2 _)
       have hS9:=hS8.belowB hb9 hbb;have hK9:=hK8.belowB hb9 hB1;have hsz9:=hb9.size;clear hS8 hK8 hb9 hown' hgrow hOA u1 u2 u3 HN hT4 hT6 hT7;obtain⟨ao9,ac9,rfl⟩:=hO9.form;go_wp2_with fail
       refine (lL F hS9 hk).mono ?_;rintro e wx ⟨rfl,hSx,hKx⟩;rw[s1] at hSx;have hO4x:=hO4a.kept hbl hKx;have hO5x:=hO9.kept hbb hKx;have hO6x:=hO6a.kept hbl hKx;have hO7x:=hO7a.kept hbl hKx;have hKy:=hK9.same hKx;have hszx:=hKx.size;go_wp2_with fail
       go_roundg (ts.length - (k+1))
       case measure=>omega
       case rel=>exact⟨k+1,fk,ss,ws++[l],L,wb,rfl,s2,by omega,by simp;omega,hN3,hSS,HW,hLL,hKy,hSx,⟨hB1,by omega,hB3,Ng (fun e=>by simp at e)⟩,hO4x,(by have h:=hO5x;rw[List.length_append,List.length_cons,List.length_nil] at h;exact h),hO6x,hO7x,HX⟩
    | some q =>
     obtain⟨s,t'⟩:=q;rw[hst] at hc;obtain⟨tv',rfl,hv'⟩:=hc;have HVs:=Ng hv';obtain⟨tp',rfl,hps'⟩:=hv';obtain⟨ao',pc',rfl⟩:=hps'.form
     by_cases hw0:ws.length=0
     ·have HP:=Ng (show ((cZ (fun x=>bD fk base d x) base t').at (k+1)).go (fun w j=>cD fk ts base d j (ss++[(s,w)]) ws L)=some r from by
       have:=HP.out
       rw[if_pos hw0,hst] at this;exact this)
      obtain⟨_,hpl',hwt',_⟩:=lZ hst;have hwt2:cA t'.parts≤24577:=by unfold wtT at hwt';omega
      have hplace:t'.place≤n:=by rw[hpl'];exact F.good.place k
      have hPI:=Ng (KT hst (F.good.parts k) (fun x hx=>F.partI k x hx))
      have htx:=Nat.le_trans (Iw hst) (F.tx k);have HST:=Ng hst;have e0:ws=[]:=List.length_eq_zero_iff.1 hw0;have e5:=hB4.out e0;injection e5 with e5a e5b e5c
      subst e5a e5c;subst e0;simp only[List.length_nil] at hN1 hN2 ⊢;have hbz:=(Below.refl w5.heap.size w5).alloc (Nat.le_refl _) (.cells #[.int .i64 t'.kind,.int .i64 t'.place,.slice ao' t'.parts.length pc'] 113);have hB7:=Blk.new w5 [.int .i64 t'.kind,.int .i64 t'.place,.slice ao' t'.parts.length pc'] 113;have t0:=hB7.cell 0 rfl;have t1:=hB7.cell 1 rfl;have t2:=hB7.cell 2 rfl;have hS7:=hS6.below hbz;have hR4:=hU4.below hbl hbz;have hR6:=hU6.below hbl hbz;have hR7:=hU7.below hbl hbz;have hK7:=hK6.andBelow hbz;have hE7:=hE.kept hK7;have HV7:=Ng (HVs.out.below hbz);have hszz:=hbz.size;clear hst hps' hS6 hU4 hU5 hU6 hU7 hK6 hBk6 HV6 HVs hw0 hwt' hpl' hpl
      cases hq:cZ (fun x=>bD fk base d x) base t' with
      | none=>rw[hq] at HP;exact absurd HP.out (by simp [aJ.go,aL.at])
      | some rc =>
       rw[hq] at HP;have HD:=Ng (HV.out fk (by omega) _ b g cap n base k d ts t' _ rc hd F hS7 hE7 HV7.out hPI.out htx hplace hwt2 (Ng hq))
       go_wp2_with fail
       refine HD.out.mono ?_;rintro e w8 ⟨hb8,h8⟩;have hK8:=hK7.andBelow hb8
       cases rc with
       | error q =>
        obtain⟨c0,p0⟩:=q;have HX:=Ng (aJ.at_err HP.out);obtain⟨v,u,rfl,⟨eb,rfl,hEb,hle⟩,va,vn,vc,rfl⟩:=h8;have hS8:=hS7.below hb8;have hsz8:=hK7.size;clear HP HD hq hR4 hR6 hR7 t0 t1 t2;go_wp2_with fail
        go_ret2;exact fB.bad HX.out rfl ⟨eb,rfl,hEb,by omega⟩ hS8 hK8
       | ok l =>
        obtain⟨v,rfl,hN⟩:=h8;obtain⟨y1,y2,y3⟩:=FT F.good hk HST.out hq;have HX:=Ng (show cD fk ts base d (k+1) (ss++[(s,l)]) [] L=some r from HP.out)
        have hS8:=hS7.below hb8;have HO4:=Ng (hR4.below hbl hb8);have HO6:=Ng (hR6.below hbl hb8);have hT7:=hR7.below hbl hb8;have HN:=Ng hN;have hsz8:=hK8.size
        have HLs:=Ng (show ∀ x∈ss++[(s,l)],0<x.2.length∧x.2.length≤200000 from fun x hx=>by
         rcases List.mem_append.1 hx with hx | hx
         ·exact hSS.out x hx
         ·rw[List.mem_singleton] at hx;subst hx;exact⟨y1,y3⟩)
        have hN3:cQ (ss++[(s,l)])+([]:List aA).flatten.length+dQ L+8 * aI ts (k+1)≤8 * aI ts i:=by
         rw[wN];show cQ ss+(l.length+1)+0+dQ L+8 * aI ts (k+1)≤8 * aI ts i
         simp only[List.flatten_nil,List.length_nil] at hN2;omega
        obtain⟨ga,gc,rfl,-⟩:=hN;have HOA:=HO6.out;unfold dY at HOA;rw[HLM.out] at HOA;have hOA:∀ o,(w8.alloc o).ownsRow w.heap.size 9 1 _ ss.length ((ss.map (·.1)).map fun s=>Value.string (bs s)):=fun o=>bM HOA (aB.ofBelow (S:=bW) ((Below.refl _ w8).alloc (Nat.le_refl _) o)) (fun _ _ _ e=>e)
        clear hK7 hS7 HD HP hq hb8 hE7 hR4 hR6 hR7 t0 t1 t2 hSS hB7 HV7;go_wp2_with (at_builtin;refine wpList_append_own _ rfl _ _ 22 rfl w.heap.size 9 s0 _ 1 16 Tryz.underlying22 hs0 hs1 hs2 hs3 rfl (by decide) _ _ _ rfl (hOA _) ⟨w8.heap.size,0,none⟩ 1 1 [.string (bs s)] rfl rfl (cL (by simp)) (by intro u hu;simp at hu;subst hu;rfl) (by unfold maxLen;omega) (by omega) (by simp;omega) ?_)
        intro v9 w9 hown' hgrow _;obtain⟨hO6n,hb9⟩:=dY.grown (w0:=w) (s:=s) hsz8 HO6.out (by rw[List.length_map,List.map_map];exact hown') hgrow
        have hO4n:=(HO4.out.below hbl ((Below.refl _ w8).alloc (Nat.le_refl _) _)).other hgrow (by decide) (by decide) (jE HO6.out _)
        have hO7n:=(hT7.below hbl ((Below.refl _ w8).alloc (Nat.le_refl _) _)).other hgrow (by decide) (by decide) (jE HO6.out _)
        have hN9:=HN.out.of_row hgrow HOA;have hS9:=hS8.belowB hb9 hbl;have hK9:=hK8.belowB hb9 (Nat.le_refl _);have HN9:=Ng hN9;have hsz9:=hK9.size;clear hOA HOA HO4 HO6 hT7 HN hown' hgrow hb9 hS8 hK8 hN9;obtain⟨us,u1,u2,u3⟩:=hO4n;rw[HLM2.out] at u1 u2;have hOB:∀ o,(w9.alloc o).ownsRow w.heap.size 26 1 _ ss.length us:=fun o=>bM u2 (aB.ofBelow (S:=bW) ((Below.refl _ w9).alloc (Nat.le_refl _) o)) (fun _ _ _ e=>e)
        go_wp2_with (at_builtin;refine wpList_append_own _ rfl _ _ 25 rfl w.heap.size 26 k0 _ 1 24 Tryz.underlying25 hk0 hk1 hk2 hk3 rfl (by decide) _ _ _ rfl (hOB _) ⟨w9.heap.size,0,none⟩ 1 1 [.slice (some ⟨ga,0,none⟩) l.length gc] rfl rfl ?c1 ?c2 ?c3 ?c4 ?c5 ?_)
        case c1=>exact cL (by simp)
        case c2 =>
         intro u hu;simp at hu
         subst hu;rfl
        case c3=>unfold maxLen;omega
        case c4=>omega
        case c5=>simp;omega
        intro va wa hown' hgrow _;obtain⟨hO4a,hba⟩:=aO.grown (w0:=w) (L:=ss.map (·.2)) hsz9 (by rw[List.length_map];exact u1) (by rw[List.length_map];exact u2) u3 HN9.out (by rw[List.length_map];exact hown') hgrow
        have hO6a:=(hO6n.below hbl ((Below.refl _ w9).alloc (Nat.le_refl _) _)).other hgrow (by decide) (jE u2 _)
        have hO7a:=(hO7n.below hbl ((Below.refl _ w9).alloc (Nat.le_refl _) _)).other hgrow (by decide) (by decide) (jE u2 _)
        have hSa:=hS9.belowB hba hbl;have hKa:=hK9.belowB hba (Nat.le_refl _);have hsza:=hKa.size
        have hlt4:=Ng (show ∀ q,va.ownBlock=some q→q<wa.heap.size from fun q hq=>by
         obtain⟨us',_,u2',_⟩:=hO4a;exact (World.ownsRow.lt u2' q hq).2)
        have hM1:ss.map (·.1)++[s]=(ss++[(s,l)]).map (·.1):=by simp
        have hM2:ss.map (·.2)++[l]=(ss++[(s,l)]).map (·.2):=by simp
        rw[hM1] at hO6a;rw[hM2] at hO4a;clear hOB u1 u2 u3 hown' hgrow hO6n hO7n hS9 hK9 HN9 hba hM1 hM2;obtain⟨ao8,ac8,rfl⟩:=hO4a.form;obtain⟨ao9,ac9,rfl⟩:=hO6a.form;go_wp2_with fail
        refine (lL F hSa hk).mono ?_;rintro e wx ⟨rfl,hSx,hKx⟩;rw[s1] at hSx;have hO4x:=hO4a.kept hbl hKx;have hO6x:=hO6a.kept hbl hKx;have hO7x:=hO7a.kept hbl hKx;have hKy:=hKa.same hKx;have hszx:=hKx.size;go_wp2_with fail
        go_roundg (ts.length - (k+1))
        case measure=>omega
        case rel =>
         have e1:((ss++[(s,l)]).map (·.1)).length=ss.length+1:=by simp
         have e2:((ss++[(s,l)]).map (·.2)).length=ss.length+1:=by simp
         rw[e1] at hO6x;rw[e2] at hO4x hlt4;exact⟨k+1,fk,ss++[(s,l)],[],L,wa,rfl,s2,by omega,by simp;omega,hN3,HLs,hWS,hLL,hKy,hSx,⟨hsza,hszx,hlt4,Ng (fun _=>rfl)⟩,hO4x,aO.nil _ _ _,hO6x,hO7x,HX⟩
     ·have hw0':((ws.length:Int)==0)=false:=by rw[beq_eq_false_iff_ne];omega
      have HP:=Ng (show ((fS (fun x=>bD fk base d x) base (aM ts k)).at (k+1)).go (fun w j=>cD fk ts base d j ss (ws++[w]) L)=some r from by
       have:=HP.out
       rw[if_neg hw0] at this;exact this)
      clear hst hps' HVs;have hbz:=(Below.refl w5.heap.size w5).alloc (Nat.le_refl _) (.cells #[.int .i64 t'.kind,.int .i64 t'.place,.slice ao' t'.parts.length pc'] 113);have hB7:=hBk6.alloc (.cells #[.int .i64 t'.kind,.int .i64 t'.place,.slice ao' t'.parts.length pc'] 113);have t0:=hB7.cell 0 rfl;have t1:=hB7.cell 1 rfl;have t2:=hB7.cell 2 rfl;have hS7:=hS6.below hbz;have hR4:=hU4.below hbl hbz;have hR5:=hU5.below hbb hbz;have hR6:=hU6.below hbl hbz;have hR7:=hU7.below hbl hbz;have hK7:=hK6.andBelow hbz;have hE7:=hE.kept hK7;have HV7:=Ng (HV6.out.below hbz);have hszz:=hbz.size;clear hS6 hU4 hU5 hU6 hU7 hK6 hBk6 HV6
      cases hq:fS (fun x=>bD fk base d x) base (aM ts k) with
      | none=>rw[hq] at HP;exact absurd HP.out (by simp [aJ.go,aL.at])
      | some rc =>
       rw[hq] at HP;have HD:=Ng ((HFd.out fk (by omega)).use hd hk F hS7 hE7 HV7.out (Ng hq))
       go_wp2_with fail
       refine HD.out.mono ?_;rintro e w8 ⟨hb8,h8⟩;have hK8:=hK7.andBelow hb8
       cases rc with
       | error q =>
        obtain⟨c0,p0⟩:=q;have HX:=Ng (aJ.at_err HP.out);obtain⟨v,u,rfl,⟨eb,rfl,hEb,hle⟩,va,vn,vc,rfl⟩:=h8;have hS8:=hS7.below hb8;have hsz8:=hK7.size;clear HP HD hq hR4 hR5 hR6 hR7 t0 t1 t2;go_wp2_with fail
        go_ret2;exact fB.bad HX.out rfl ⟨eb,rfl,hEb,by omega⟩ hS8 hK8
       | ok l =>
        obtain⟨v,rfl,hN⟩:=h8;obtain⟨y1,y2,y3⟩:=AP F.good hk hq;have HX:=Ng (show cD fk ts base d (k+1) ss (ws++[l]) L=some r from HP.out)
        have hS8:=hS7.below hb8;have hT4:=hR4.below hbl hb8;have hT6:=hR6.below hbl hb8;have hT7:=hR7.below hbl hb8;obtain⟨us,u1,u2,u3⟩:=hR5.below hbb hb8;have hOA:∀ o,(w8.alloc o).ownsRow wb.heap.size 26 1 _ ws.length us:=fun o=>bM u2 (aB.ofBelow (S:=bW) ((Below.refl _ w8).alloc (Nat.le_refl _) o)) (fun _ _ _ e=>e)
        have HN:=Ng hN;have hsz8:=hK8.size;have hsz8b:=hb8.size;have HW:=Ng (fP hWS.out y1);have hN3:cQ ss+(ws++[l]).flatten.length+dQ L+8 * aI ts (k+1)≤8 * aI ts i:=by rw[fD,List.length_append];omega
        obtain⟨gc,cc,rfl,-⟩:=hN;clear hK7 hS7 HD HP hq hb8 hE7 hR4 hR5 hR6 hR7 t0 t1 t2 hWS hB7 HV7;have hszw:wb.heap.size≤w8.heap.size:=by omega
        go_wp2_with (at_builtin;refine wpList_append_own _ rfl _ _ 25 rfl wb.heap.size 26 k0 _ 1 24 Tryz.underlying25 hk0 hk1 hk2 hk3 rfl (by decide) _ _ _ rfl (hOA _) ⟨w8.heap.size,0,none⟩ 1 1 [.slice (some ⟨gc,0,none⟩) l.length cc] rfl rfl (cL (by simp)) (by intro u hu;simp at hu;subst hu;rfl) (by unfold maxLen;omega) (by omega) (by simp;omega) ?_;intro v9 w9 hown' hgrow _)
        obtain⟨hO9,hb9⟩:=aO.grown (w0:=wb) hszw u1 u2 u3 HN.out hown' hgrow
        have hO4a:=hT4.apart hB3.out hb9 hgrow (fun k hk=>by
         obtain⟨c,f,t,h3,rfl⟩:=jE u2 _ k hk;exact⟨c,f,_,h3,by decide⟩)
        have hO6a:=(hT6.below hbl ((Below.refl _ w8).alloc (Nat.le_refl _) _)).other hgrow (by decide) (jE u2 _)
        have hO7a:=(hT7.below hbl ((Below.refl _ w8).alloc (Nat.le_refl _) _)).other hgrow (by decide) (by decide) (jE u2 _)
        have hS9:=hS8.belowB hb9 hbb;have hK9:=hK8.belowB hb9 hB1;have hsz9:=hb9.size;clear hS8 hK8 hb9 hown' hgrow hOA u1 u2 u3 HN hT4 hT6 hT7;obtain⟨ao9,ac9,rfl⟩:=hO9.form;go_wp2_with fail
        refine (lL F hS9 hk).mono ?_;rintro e wx ⟨rfl,hSx,hKx⟩;rw[s1] at hSx;have hO4x:=hO4a.kept hbl hKx;have hO5x:=hO9.kept hbb hKx;have hO6x:=hO6a.kept hbl hKx;have hO7x:=hO7a.kept hbl hKx;have hKy:=hK9.same hKx;have hszx:=hKx.size;go_wp2_with fail
        go_roundg (ts.length - (k+1))
        case measure=>omega
        case rel=>exact⟨k+1,fk,ss,ws++[l],L,wb,rfl,s2,by omega,by simp;omega,hN3,hSS,HW,hLL,hKy,hSx,⟨hB1,by omega,hB3,Ng (fun e=>by simp at e)⟩,hO4x,(by have h:=hO5x;rw[List.length_append,List.length_cons,List.length_nil] at h;exact h),hO6x,hO7x,HX⟩
end Go.Proofs.YtbpjobmpacjgcaaGreatDoor
