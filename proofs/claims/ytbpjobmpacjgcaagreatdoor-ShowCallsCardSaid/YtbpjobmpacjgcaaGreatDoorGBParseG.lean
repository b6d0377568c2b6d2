/- Dialect B's parser, of what is shown here: by induction on the fuel. -/
import Derived.Test.YtbpjobmpacjgcaaGreatDoorGZD
import Derived.Test.YtbpjobmpacjgcaaGreatDoorGZB
import Derived.LaidEql
import Derived.Stop.Asserts
import Derived.RowKitTokens
import Derived.Test.YtbpjobmpacjgcaaGreatDoorGZK
namespace Go.Proofs.YtbpjobmpacjgcaaGreatDoor
set_option maxHeartbeats 16000000
set_option maxRecDepth 100000
open Go Go.RowKit
structure Nc (b g cap:Nat) (ts:List aH) (sent:Nat→Addr) (f:Nat):Prop where
 list:Ae b g cap ts sent 23 (dI ts f)
 chain:gN b g cap ts sent 104 (fG ts f)
 pipe:gN b g cap ts sent 150 (eC ts f)
 command:gN b g cap ts sent 185 (eE ts f)
 block:wG b g cap ts sent 203 (fT ts f)
 simple:gN b g cap ts sent 205 (gS ts f)
 one:wD b g cap ts sent f
theorem M5 {b g cap:Nat}{ts:List aH}{sent:Nat→Addr}(T:PTs cap ts):∀ f,Nc b g cap ts sent f:=by
 intro f
 induction f using Nat.strongRecOn with
 | _ f ih =>
  have hword:∀ f',f'≤f→rR b g cap ts sent f':=fun f' h=>Ij T f' fun f'' h2=>(ih f'' (by omega)).one
  have hwords:∀ f',f'≤f→zP b g cap ts sent f':=fun f' h=>G9 T f' fun f'' h2=>hword f'' (by omega)
  have hturns:∀ f',f'≤f→Af b g cap ts sent f':=fun f' h=>GM T f' fun f'' h2=>hword f'' (by omega)
  have hbr:∀ f',f'≤f→gN b g cap ts sent 284 (tK ts f'):=fun f' h=>FC T f' (hwords f' h)
  have hchains:∀ f',f'≤f→gN b g cap ts sent 49 (fun d i=>eK ts f' d i []):=fun f' h=>Gv T f' fun f'' h2=>(ih f'' (by omega)).chain
  cases f with
  | zero =>
   refine ⟨?_,?_,?_,?_,?_,?_,?_⟩
   ·exact fun w i d r _ _ _ _ hr=>by have:=hr.out;rw[dI] at this;cases this
   ·exact fun w i d r _ _ _ _ hr=>by have:=hr.out;rw[fG] at this;cases this
   ·exact fun w i d r _ _ _ _ hr=>by have:=hr.out;rw[eC] at this;cases this
   ·exact fun w i d r _ _ _ _ hr=>by have:=hr.out;rw[eE] at this;cases this
   ·exact fun w i d r _ _ _ _ hr=>by have:=hr.out;rw[fT] at this;cases this
   ·exact fun w i d r _ _ _ _ hr=>by have:=hr.out;rw[gS] at this;cases this
   ·exact fun w i d r _ _ _ _ _ hr=>by have:=hr.out;rw[gG] at this;cases this
  | succ f =>
   have I:=ih f (by omega)
   refine ⟨?_,?_,?_,?_,?_,?_,?_⟩
   ·exact I1 T f (hchains f (by omega))
   ·exact GH T f fun f' h=>(ih f' (by omega)).pipe
   ·exact Jp T f fun f' h=>(ih f' (by omega)).command
   ·exact FF T f I.block.does (hturns f (by omega)) I.simple
   ·exact GP T f I.list
   ·exact Gu T f fun f' h=>hword f' (by omega)
   ·exact JP T f (hbr f (by omega))
open Go.Extern.Stop
open Go.Stop
open Go.Extern
open Go.Extern.Rtype
theorem C5 (v:Value)(w:World):(Extern.ReflectliteType.typeOf #[.iface 286 v]).run Tryz.prog w = .ok (.iface 134 (.agg #[.pointer (some ⟨18,286,none⟩)])) w:=by kernel_rfl
theorem A0 (w : World) : ((Extern.ReflectliteType.method fun t => do noPackHeld "Comparable" t; (fun a => Value.bool a.comparable) <$> typeInfo t) #[.agg #[.pointer (some ⟨18, 286, none⟩)]]).run Tryz.prog w = .ok (.bool true) w := by kernel_rfl
theorem Am (v : Value) (w : World) : (Go.method 415 134 v "Comparable").run Tryz.prog w = .ok (315, v) w := by kernel_rfl
theorem Ar (v : Value) (w : World) : (Go.method 415 61 v "Unwrap").run Tryz.prog w = .ok (312, v) w := by kernel_rfl
theorem Ex (v:Value)(xT:TypeId)(w:World):(Instr.typeAssert (.iface 286 v) xT 136 true).run Tryz.prog w = .ok (.tuple #[.nilIface,.bool false]) w:=run_typeAssert_lacksB Tryz.underlying136 (by kernel_rfl) (by kernel_rfl) v xT w
theorem Cq (v:Value)(xT:TypeId)(w:World):(Instr.typeAssert (.iface 286 v) xT 139 true).run Tryz.prog w = .ok (.tuple #[.nilIface,.bool false]) w:=run_typeAssert_lacksB Tryz.underlying139 (by kernel_rfl) (by kernel_rfl) v xT w
theorem B1 (v:Value)(xT:TypeId)(w:World):(Instr.typeAssert (.iface 286 v) xT 140 true).run Tryz.prog w = .ok (.tuple #[.nilIface,.bool false]) w:=run_typeAssert_lacksB Tryz.underlying140 (by kernel_rfl) (by kernel_rfl) v xT w
theorem Eu (v:Value)(xT:TypeId)(w:World):(Instr.typeAssert (.iface 61 v) xT 136 true).run Tryz.prog w = .ok (.tuple #[.nilIface,.bool false]) w:=run_typeAssert_lacksB Tryz.underlying136 (by kernel_rfl) (by kernel_rfl) v xT w
theorem Bj (v:Value)(xT:TypeId)(w:World):(Instr.typeAssert (.iface 61 v) xT 139 true).run Tryz.prog w = .ok (.tuple #[.iface 61 v,.bool true]) w:=run_typeAssert_hasB Tryz.underlying139 (by kernel_rfl) v xT w
theorem uS (b:Addr)(w:World) :
  Calls Tryz.prog 26 #[.nilIface,.iface 286 (.pointer (some b))] w fun e w'=>e = .returned (.bool false)∧w'=w:=by
 have hn:=run_eql_iface_nil_left (P:=Tryz.prog) w 286 (.pointer (some b)) Tryz.underlying31;go_enter Tryz.func26,Tryz.ntmps26
 go_wp2
 go_ret;exact⟨rfl,rfl⟩
theorem A7 (a b:Addr)(ca cb:Array Value)(ta tb:TypeId)(w:World)(hne:a≠b)(ha:w.heap[a.block]?=some (.cells ca ta (0,0)))(hb:w.heap[b.block]?=some (.cells cb tb (0,0))) :
  Calls Tryz.prog 26 #[.iface 286 (.pointer (some a)),.iface 286 (.pointer (some b))] w fun e w'=>e = .returned (.bool false)∧w'=w:=by
 obtain⟨i,hi,hcmp⟩:=Option.map_eq_some_iff.1 zH;obtain⟨j,hj,hjs⟩:=Option.map_eq_some_iff.1 y6;have h8:=@run_callFunc_extern Tryz.prog 53 _ Extern.ReflectliteType.typeOf Tryz.func53 (by kernel_rfl) (by kernel_rfl) (by kernel_rfl) (by kernel_rfl)
 have h32 := @run_callFunc_extern Tryz.prog 315 _ (Extern.ReflectliteType.method fun t => do noPackHeld "Comparable" t; pure (.bool (← typeInfo t).comparable)) Tryz.func315 (by kernel_rfl) (by kernel_rfl) (by kernel_rfl) (by kernel_rfl)
 have tT:=C5;have cT:=A0;have mR:=Am;have mU:=Ar;have nE:=Ex;have uE:=Cq;have vE:=B1;have nA:=Eu;have uA:=Bj;have heq:=run_eql_iface_ptr_other (P:=Tryz.prog) w Tryz.underlying31 Tryz.underlying286 hi hcmp hj (by rw[hjs];decide) hne ha hb
 go_enter Tryz.func26,Tryz.ntmps26
 go_wp2
 refine wp_loop_rounds 1 ?_;rw[rounds_succ];go_wp2
 go_ret;exact⟨rfl,rfl⟩
theorem Gs (pb:Nat)(v:Value)(w:World)(h:w.cell? ⟨pb,1,none⟩=some v):Calls Tryz.prog 312 #[.pointer (some ⟨pb,0,none⟩)] w fun e w'=>e = .returned v∧w'=w:=by
 go_enter Tryz.func312,Tryz.ntmps312
 go_wp2
 go_ret;exact⟨rfl,rfl⟩
theorem Ax (pb:Nat)(b:Addr)(w:World)(h1:w.cell? ⟨pb,1,none⟩=some (.iface 286 (.pointer (some b)))) :
  Calls Tryz.prog 26 #[.iface 61 (.pointer (some ⟨pb,0,none⟩)),.iface 286 (.pointer (some b))] w fun e w'=>e = .returned (.bool true)∧w'=w:=by
 obtain⟨i,hi,hcmp⟩:=Option.map_eq_some_iff.1 zH;obtain⟨j,hj,hjs⟩:=Option.map_eq_some_iff.1 y6;have h8:=@run_callFunc_extern Tryz.prog 53 _ Extern.ReflectliteType.typeOf Tryz.func53 (by kernel_rfl) (by kernel_rfl) (by kernel_rfl) (by kernel_rfl)
 have h32 := @run_callFunc_extern Tryz.prog 315 _ (Extern.ReflectliteType.method fun t => do noPackHeld "Comparable" t; pure (.bool (← typeInfo t).comparable)) Tryz.func315 (by kernel_rfl) (by kernel_rfl) (by kernel_rfl) (by kernel_rfl)
 have tT:=C5;have cT:=A0;have mR:=Am;have mU:=Ar;have nE:=Ex;have uE:=Cq;have vE:=B1;have nA:=Eu;have uA:=Bj;have heq:=run_eql_iface_ptr_same (P:=Tryz.prog) w b Tryz.underlying31 Tryz.underlying286 hi hcmp hj;have hty:=run_eql_iface_types (P:=Tryz.prog) 61 286 (.pointer (some ⟨pb,0,none⟩)) (.pointer (some b)) Tryz.underlying31 (by decide) w
 go_enter Tryz.func26,Tryz.ntmps26
 go_wp2
 refine wp_loop_rounds 2 ?_;rw[rounds_succ];go_wp2_with (go_at_call 312;refine (Gs pb _ w h1).mono ?_;rintro e w' ⟨rfl,rfl⟩)
 rw[rounds_succ];go_wp2
 go_ret;exact⟨rfl,rfl⟩
end Go.Proofs.YtbpjobmpacjgcaaGreatDoor
namespace Go.Proofs.YtbpjobmpacjgcaaGreatDoor
set_option maxHeartbeats 16000000
set_option maxRecDepth 100000
open Go Go.RowKit
def Ad (w:World) (sent:Nat→Addr) (r:Except (Nat×Option Nat) aA) (e:Ending) (w':World):Prop :=
 Below w.heap.size w w'∧match r with
 | .ok l=>∃ v b,e = .returned (.tuple #[v,.nilIface])∧NSl w' b v l
 | .error (c,none)=>e = .returned (.tuple #[.slice none 0 0,.iface 286 (.pointer (some (sent c)))])
 | .error (c,some p)=>∃ eb,e = .returned (.tuple #[.slice none 0 0,.iface 61 (.pointer (some ⟨eb,0,none⟩))])∧bJ w' eb sent c p
theorem gE.row {w:World}{B:Nat}{v:Value}{ts:List aH}(h:gE w B v ts)(hl:0<ts.length):∃ g cap,v = .slice (some ⟨g,0,none⟩) ts.length cap∧ts.length≤cap∧cap≤maxLen∧B≤g∧g<w.heap.size∧nB w g ts:=by
 obtain⟨g,cap,h1,h2,h3,h4,h5,h6⟩:=kE h hl;refine ⟨g,cap,h1,h2,h3,h4,h5,fun i a ha j u hu=>?_⟩
 have:=h6 _ u (mZ aH.cells 5 JF ts i j a u ha hu)
 rwa [Nat.mul_comm] at this
theorem WFP.nums {K:Int→Bool}{M:Nat}{w:Bool}{D:Nat}{l:aA}(h:WFP K M w D l):∀ x∈l,0≤x.k∧x.k≤l.length∧0≤x.size∧x.size≤l.length:=by
 induction h with
 | node w D kind n s kids hk hf hc hK ih =>
  have hkl:kids.length≤kids.flatten.length:=by
   have:∀ ks:List aA,(∀ k∈ks,0<k.length)→ks.length≤ks.flatten.length:=by
    intro ks hks
    induction ks with
    | nil=>simp
    | cons k ks ihk =>
     have h1:=hks k (by simp)
     have h2:=ihk (fun k hk=>hks k (by simp [hk]))
     rw[List.flatten_cons,List.length_append,List.length_cons];omega
   exact this kids fun k hk=>by
    obtain⟨j,hj⟩:=List.getElem?_of_mem hk;exact (hK j k hj).pos.1
  intro x hx;rw[bN];rw[aC] at hx
  rcases List.mem_cons.1 hx with rfl | hx
  ·dsimp only;omega
  ·obtain⟨kid,h1,h2⟩:=List.mem_flatten.1 hx;obtain⟨j,hj⟩:=List.getElem?_of_mem h1;have h3:=ih j kid hj x h2
   have h4:kid.length≤kids.flatten.length:=by
    obtain⟨a,b,rfl⟩:=List.append_of_mem h1;simp
    omega
   omega
theorem WFP.texts {K:Int→Bool}{M:Nat}{w:Bool}{D:Nat}{l:aA}(h:WFP K M w D l)(hM:M≤50000):∀ x∈l,x.text.length≤100000:=by
 induction h with
 | node w D kind n s kids hk hf hc hK ih =>
  intro x hx;rw[aC] at hx
  rcases List.mem_cons.1 hx with rfl | hx
  ·exact Hy (x:=⟨kind,n,kids.length,0,s⟩) hf hM
  ·obtain⟨kid,h1,h2⟩:=List.mem_flatten.1 hx;obtain⟨j,hj⟩:=List.getElem?_of_mem h1;exact ih j kid hj x h2
theorem DQ {K:Int→Bool}{M:Nat}{w:Bool}{D:Nat}{l:aA}(h:WFP K M w D l)(hM:M≤50000)(hl:l.length≤400000):lJ l:=by
 have hd:∀ i,cK l i∈l∨cK l i=⟨0,0,0,0,[]⟩:=fun i=>by
  unfold cK;rw[List.getD_eq_getElem?_getD]
  by_cases hi:i<l.length
  ·rw[List.getElem?_eq_getElem hi];exact .inl (List.getElem_mem hi)
  ·rw[List.getElem?_eq_none (by omega)]
   exact .inr rfl
 refine ⟨hl,fun i=>?_,fun i=>?_,fun i=>?_⟩
 ·rcases hd i with h1 | h1
  ·exact h.texts hM _ h1
  ·rw[h1];simp
 ·rcases hd i with h1 | h1
  ·have:=h.nums _ h1
   omega
  ·rw[h1];simp
 ·rcases hd i with h1 | h1
  ·have:=h.nums _ h1
   omega
  ·rw[h1];simp
theorem FK (s:ByteArray)(w:World)(hs:s.size≤8192)(sent:Nat→Addr)(hSe:kA w sent)(hmx:∃ m,w.cell? ⟨12,0,none⟩=some (.int .i64 m))(hcls:∀ ts,dZ (s.size+1) true s.data.toList 0 = .ok ts→qG ts) :
  Calls Tryz.prog 11 #[.string s] w (Ad w sent (nX s.data.toList)):=by
 have hsz:=size_eq s;have HSe:=Ng hSe;have hE:=hSe.env;obtain⟨R,hR⟩:∃ R,nX s.data.toList=R:=⟨_,rfl⟩;rw[hR];unfold nX at hR;rw[hsz] at hR
 cases hl:dZ (s.size+1) true s.data.toList 0 with
 | error e0 =>
  obtain⟨c,p⟩:=e0;rw[hl] at hR;subst hR;go_enter Tryz.func11,Tryz.ntmps11
  go_wp2_with fail
  refine (LQ s w hs sent hE c p hl).mono ?_;rintro e w1 ⟨eb,rfl,h1,hb1⟩;go_wp2
  go_ret2;exact⟨hb1,eb,rfl,h1⟩
 | ok ts =>
  rw[hl] at hR;have HR:=Ng hR;have hT:=Es s.data.toList (by omega) ts (by rw[hsz];exact hl)
  have hnum:=hT.num;have hpos:=hT.good.pos;go_enter Tryz.func11,Tryz.ntmps11
  go_wp2_with fail
  refine (Mr s w hs sent hE ts hl).mono ?_;rintro e w1 ⟨v,rfl,hTk,hb1⟩;obtain⟨g,cap,rfl,hc1,hc2,hg1,hg2,hrow⟩:=hTk.row hpos;have T:PTs cap ts:=⟨⟨hT.good,by omega,hc1,hc2⟩,hT.w,hcls ts hl⟩
  have hb2:=aE hb1 ((Below.refl w1.heap.size w1).alloc (Nat.le_refl _) (.cells #[.slice (some ⟨g,0,none⟩) ts.length cap,.int .i64 0,.int .i64 0] 56));have hS2:PSt (w1.alloc (.cells #[.slice (some ⟨g,0,none⟩) ts.length cap,.int .i64 0,.int .i64 0] 56)) w1.heap.size g cap ts 0 0:=⟨Blk.new w1 [.slice (some ⟨g,0,none⟩) ts.length cap,.int .i64 0,.int .i64 0] 56,hrow.below ((Below.refl _ w1).alloc (Nat.le_refl _) _),by omega,by simp;omega⟩
  have hE2:iG (w1.alloc (.cells #[.slice (some ⟨g,0,none⟩) ts.length cap,.int .i64 0,.int .i64 0] 56)) w1.heap.size sent:=⟨hE.below hb2,fun c q hq=>by have:=hE.lt hq;have:=hb1.size;omega,hmx.elim fun m hm=>⟨m,aF hb2 hm⟩,by
   obtain⟨m,hm⟩:=hmx;have h9:12<w.heap.size:=block_lt_of_cell hm;have:=hb1.size
   omega⟩
  have hsz1:=hb1.size;clear hrow hTk;obtain⟨b,hbb⟩:∃ b,w1.heap.size=b:=⟨_,rfl⟩;have hbz:b<(w1.alloc (.cells #[.slice (some ⟨g,0,none⟩) ts.length cap,.int .i64 0,.int .i64 0] 56)).heap.size:=by simp;omega
  obtain⟨w2,hw2⟩:∃ w2,w1.alloc (.cells #[.slice (some ⟨g,0,none⟩) ts.length cap,.int .i64 0,.int .i64 0] 56)=w2:=⟨_,rfl⟩;go_upto_region 5 with fail
  rw[hw2,hbb] at hS2 hE2;rw[hw2] at hb2 hbz;clear hw2;have hn:=(Ag hT.good (12 * ts.length+11)).list 0 0 hT.good.pos (by omega)
  cases hq:dI ts (12 * ts.length+11) 0 0 with
  | none=>exact absurd hq hn
  | some rc =>
   rw[hq] at HR;have HD:=Ng ((M5 T (12 * ts.length+11)).list w2 0 0 rc (by omega) hpos hS2 hE2 (Ng hq))
   clear hS2 hn;go_wp2_with fail
   refine HD.out.mono ?_
   cases rc with
   | error e0 =>
    obtain⟨c0,p0⟩:=e0;have HX:=Ng (show R = .error (c0,some p0) from HR.out.symm)
    clear HR hq HD;rintro e w3 ⟨hK3,v,u,j',l0,rfl,h0,-,⟨eb,rfl,q2,q3⟩,hS3⟩;obtain⟨va,vc,rfl⟩:=h0.form;go_wp2_with fail
    go_ret2;rw[HX.out];exact⟨aB.fresh hb2 hK3 (fun i hi e=>by unfold At at e;omega),eb,rfl,q2⟩
   | ok q =>
    obtain⟨l,i⟩:=q;have hi:=Eb T hpos hq;have hll:=Db T hpos hq;obtain⟨D,hD⟩:=(qF T.w (12 * ts.length+11)).list 0 0 l i hq
    have HR2:=Ng (show (if isK ts i [0]=false then .error (108,some (aK ts i).place) else match dB l with
     | none=>.ok l
     | some (c,p)=>.error (c,if c=102 then some 0 else p))=R from HR.out)
    clear HR hq HD;rintro e w3 ⟨hK3,v,rfl,hN,hS3⟩;have hb3:=aB.fresh hb2 hK3 (fun i hi e=>by unfold At at e;omega)
    have hE3:=hE2.kept hK3;obtain⟨ga,gc,rfl,-⟩:=id hN;have HN:=Ng hN;have HD:=Ng hD;have hl0:=hD.pos.1;clear hN hD;generalize hlz:l.length=lz at *;have HLZ:=Ng hlz;clear hlz;go_wp2_with fail
    refine (iY T.fix (hS3.alloc _) hi [0] _ _ (by decide) (show Blk _ _ [Value.int .i64 0] from Blk.new w3 _ _)).mono ?_
    rintro e w4 ⟨rfl,hb4⟩;have hb5:=aE ((Below.refl _ w3).alloc (Nat.le_refl _) _) hb4;have hS4:=hS3.below hb5;have hE4:=hE3.below hb5;have HN4:=Ng (HN.out.below hb5);have hb6:=aE hb3 hb5;clear hS3 hE3 hb3 hb4 hb5 HN hK3
    cases x0:isK ts i [0] with
    | false =>
     have HX:=Ng (show R = .error (108,some (aK ts i).place) from by
      have h:=HR2.out;rw[if_pos x0] at h;exact h.symm)
     clear HR2;go_wp2_with fail
     refine (uP T.fix hS4 hi sent hE4.env).mono ?_;rw[x0,if_neg (by simp)]
     rintro e w6 ⟨eb,rfl,hE7,hl7,hb7⟩;go_wp2_with fail
     go_ret2;rw[HX.out];exact⟨aE hb6 hb7,eb,rfl,hE7⟩
    | true =>
     have HR3:=Ng (show (match dB l with
      | none=>.ok l
      | some (c,p)=>.error (c,if c=102 then some 0 else p))=R from by
       have h:=HR2.out;rw[if_neg (by rw[x0];simp)] at h
       exact h)
     clear HR2 x0;have hck:=Ll (l:=l) ⟨D,HD.out⟩;have HC:=Ng (pH l (DQ HD.out (by omega) (by have:=HLZ.out;omega)) sent b w4 _ HN4.out (by have:=HLZ.out;omega) hE4.env (fun h=>by rcases hck with h2 | h2 | ⟨p,h2⟩ <;> (rw[h2] at h;cases h)))
     have hSe4:=Ng (HSe.out.below hb6);go_wp2_with fail
     refine HC.out.mono ?_;rintro e w5 ⟨hb5,hco⟩;have hb7:=aE hb6 hb5;have HN5:=Ng (HN4.out.below hb5);have hS5:=HSe.out.below hb7;have he5:=hS5.env 102 1 (by simp [cH])
     rcases hck with h2 | h2 | ⟨p,h2⟩
     ·rw[h2] at hco HR3;subst hco;have HX:=Ng (show R = .ok l from HR3.out.symm)
      clear HR3 HC;go_wp2_with fail
      refine (uS _ _).mono ?_;rintro e w6 ⟨rfl,rfl⟩;go_wp2_with fail
      go_ret2;rw[HX.out];exact⟨hb7,_,b,rfl,HN5.out⟩
     ·rw[h2] at hco HR3;subst hco;have HX:=Ng (show R = .error (111,none) from HR3.out.symm)
      obtain⟨ca,ta,hca⟩:=hS5.blk 111 (by decide)
      obtain⟨cb,tbb,hcb⟩:=hS5.blk 102 (by decide)
      have hne:=hS5.ne 111 102 (by decide) (by decide) (by decide)
      clear HR3 HC;go_wp2_with fail
      refine (A7 _ _ ca cb ta tbb _ hne hca hcb).mono ?_;rintro e w6 ⟨rfl,rfl⟩;go_wp2_with fail
      go_ret2;rw[HX.out];exact⟨hb7,rfl⟩
     ·rw[h2] at hco HR3;obtain⟨eb,rfl,hE9,hl9⟩:=hco;have HX:=Ng (show R = .error (102,some 0) from HR3.out.symm)
      clear HR3 HC;unfold bJ at hE9;have hc1:=hE9.cell 1 rfl;go_wp2_with fail
      refine (Ax eb _ _ hc1).mono ?_;rintro e w6 ⟨rfl,rfl⟩;go_wp2_with fail
      go_ret2;rw[HX.out];exact⟨aE hb7 ((Below.refl _ _).alloc (Nat.le_refl _) _),_,rfl,Blk.new w6 [Value.int .i64 0,.iface 286 (.pointer (some (sent 102)))] 63⟩
end Go.Proofs.YtbpjobmpacjgcaaGreatDoor
