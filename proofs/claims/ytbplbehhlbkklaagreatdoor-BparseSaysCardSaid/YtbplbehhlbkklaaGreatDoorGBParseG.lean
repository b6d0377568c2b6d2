/- Dialect B's parser: all of it at once, by induction on the fuel. -/
import Derived.Test.YtbplbehhlbkklaaGreatDoorGZD
import Derived.Test.YtbplbehhlbkklaaGreatDoorGZB
import Derived.LaidEql
import Derived.Stop.Asserts
import Derived.RowKitTokens
import Derived.Test.YtbplbehhlbkklaaGreatDoorGZK
namespace Go.Proofs.YtbplbehhlbkklaaGreatDoor
set_option maxHeartbeats 16000000
set_option maxRecDepth 100000
open Go Go.RowKit
structure AllB (b g cap:Nat) (ts:List BTok) (sent:Nat→Addr) (f:Nat):Prop where
 list:DoesL b g cap ts sent 14 (pList ts f)
 chain:Does b g cap ts sent 76 (pChain ts f)
 pipe:Does b g cap ts sent 108 (pPipe ts f)
 command:Does b g cap ts sent 135 (pCommand ts f)
 block:DoesM b g cap ts sent 149 (pBlock ts f)
 test:Does b g cap ts sent 170 (pTest ts f)
 body:DoesL b g cap ts sent 171 (pBody ts f)
 choice:DoesK b g cap ts sent 152 (pChoice ts f)
 whl:DoesK b g cap ts sent 153 (pWhile ts f)
 each:DoesK b g cap ts sent 154 (pEach ts f)
 choose:DoesK b g cap ts sent 155 (pChoose ts f)
 function:DoesK b g cap ts sent 156 (pFunction ts f)
 simple:Does b g cap ts sent 151 (pSimple ts f)
 one:DoesO b g cap ts sent f
theorem allB {b g cap:Nat}{ts:List BTok}{sent:Nat→Addr}(T:PTs cap ts):∀ f,AllB b g cap ts sent f:=by
 intro f
 induction f using Nat.strongRecOn with
 | _ f ih =>
  have hword:∀ f',f'≤f→DoesW b g cap ts sent f':=fun f' h=>pWord_walk T f' fun f'' h2=>(ih f'' (by omega)).one
  have hwords:∀ f',f'≤f→DoesWs b g cap ts sent f':=fun f' h=>pWords_walk T f' fun f'' h2=>hword f'' (by omega)
  have hturns:∀ f',f'≤f→DoesT b g cap ts sent f':=fun f' h=>pTurns_walk T f' fun f'' h2=>hword f'' (by omega)
  have hbr:∀ f',f'≤f→Does b g cap ts sent 185 (brkP ts f'):=fun f' h=>pBracket_walk T f' (hwords f' h)
  have hchains:∀ f',f'≤f→Does b g cap ts sent 36 (fun d i=>pChains ts f' d i []):=fun f' h=>pChains_walk T f' fun f'' h2=>(ih f'' (by omega)).chain
  cases f with
  | zero =>
   refine ⟨?_,?_,?_,?_,?_,?_,?_,?_,?_,?_,?_,?_,?_,?_⟩
   ·exact fun w i d r _ _ _ _ hr=>by have:=hr.out;rw[pList] at this;cases this
   ·exact fun w i d r _ _ _ _ hr=>by have:=hr.out;rw[pChain] at this;cases this
   ·exact fun w i d r _ _ _ _ hr=>by have:=hr.out;rw[pPipe] at this;cases this
   ·exact fun w i d r _ _ _ _ hr=>by have:=hr.out;rw[pCommand] at this;cases this
   ·exact fun w i d r _ _ _ _ hr=>by have:=hr.out;rw[pBlock] at this;cases this
   ·exact fun w i d r _ _ _ _ hr=>by have:=hr.out;rw[pTest] at this;cases this
   ·exact fun w i d r _ _ _ _ hr=>by have:=hr.out;rw[pBody] at this;cases this
   ·exact fun w i d r _ _ _ _ _ hr=>by have:=hr.out;rw[pChoice] at this;cases this
   ·exact fun w i d r _ _ _ _ _ hr=>by have:=hr.out;rw[pWhile] at this;cases this
   ·exact fun w i d r _ _ _ _ _ hr=>by have:=hr.out;rw[pEach] at this;cases this
   ·exact fun w i d r _ _ _ _ _ hr=>by have:=hr.out;rw[pChoose] at this;cases this
   ·exact fun w i d r _ _ _ _ _ hr=>by have:=hr.out;rw[pFunction] at this;cases this
   ·exact fun w i d r _ _ _ _ hr=>by have:=hr.out;rw[pSimple] at this;cases this
   ·exact fun w i d r _ _ _ _ _ hr=>by have:=hr.out;rw[pOne] at this;cases this
  | succ f =>
   have I:=ih f (by omega)
   refine ⟨?_,?_,?_,?_,?_,?_,?_,?_,?_,?_,?_,?_,?_,?_⟩
   ·exact pList_walk T f (hchains f (by omega))
   ·exact pChain_walk T f fun f' h=>(ih f' (by omega)).pipe
   ·exact pPipe_walk T f fun f' h=>(ih f' (by omega)).command
   ·exact pCommand_walk T f I.block.does (hturns f (by omega)) I.simple I.choice I.whl I.each I.choose I.function
   ·exact pBlock_walk T f I.list
   ·exact pTest_walk T f I.list
   ·exact pBody_walk T f I.command
   ·exact pChoice_walk T f I.test I.body
   ·exact pWhile_walk T f I.test I.body
   ·exact pEach_walk T f (hwords f (by omega)) I.body
   ·exact pChoose_walk T f (hword f (by omega)) (hturns f (by omega)) (fun f' h=>hwords f' (by omega)) (fun f' h=>(ih f' (by omega)).list)
   ·exact pFunction_walk T f I.block
   ·exact pSimple_walk T f fun f' h=>hword f' (by omega)
   ·exact pOne_walk T f (hbr f (by omega)) I.list
end Go.Proofs.YtbplbehhlbkklaaGreatDoor
namespace Go.Proofs.YtbplbehhlbkklaaGreatDoor
set_option maxHeartbeats 16000000
set_option maxRecDepth 100000
open Go Go.RowKit Go.Extern.Stop Go.Stop Go.Extern Go.Extern.Rtype
theorem isTypeOf (v:Value)(w:World):(Extern.ReflectliteType.typeOf #[.iface 205 v]).run Tryz.prog w = .ok (.iface 129 (.agg #[.pointer (some ⟨18,205,none⟩)])) w:=by kernel_rfl
theorem isComparable (w : World) : ((Extern.ReflectliteType.method fun t => do noPackHeld "Comparable" t; (fun a => Value.bool a.comparable) <$> typeInfo t) #[.agg #[.pointer (some ⟨18, 205, none⟩)]]).run Tryz.prog w = .ok (.bool true) w := by kernel_rfl
theorem isMethodComparable (v : Value) (w : World) : (Go.method 339 129 v "Comparable").run Tryz.prog w = .ok (213, v) w := by kernel_rfl
theorem isMethodUnwrap (v : Value) (w : World) : (Go.method 339 51 v "Unwrap").run Tryz.prog w = .ok (208, v) w := by kernel_rfl
theorem noIsE (v:Value)(xT:TypeId)(w:World):(Instr.typeAssert (.iface 205 v) xT 131 true).run Tryz.prog w = .ok (.tuple #[.nilIface,.bool false]) w:=run_typeAssert_lacksB Tryz.underlying131 (by kernel_rfl) (by kernel_rfl) v xT w
theorem noUnwrapE (v:Value)(xT:TypeId)(w:World):(Instr.typeAssert (.iface 205 v) xT 134 true).run Tryz.prog w = .ok (.tuple #[.nilIface,.bool false]) w:=run_typeAssert_lacksB Tryz.underlying134 (by kernel_rfl) (by kernel_rfl) v xT w
theorem noUnwrapsE (v:Value)(xT:TypeId)(w:World):(Instr.typeAssert (.iface 205 v) xT 135 true).run Tryz.prog w = .ok (.tuple #[.nilIface,.bool false]) w:=run_typeAssert_lacksB Tryz.underlying135 (by kernel_rfl) (by kernel_rfl) v xT w
theorem noIsAt (v:Value)(xT:TypeId)(w:World):(Instr.typeAssert (.iface 51 v) xT 131 true).run Tryz.prog w = .ok (.tuple #[.nilIface,.bool false]) w:=run_typeAssert_lacksB Tryz.underlying131 (by kernel_rfl) (by kernel_rfl) v xT w
theorem hasUnwrapAt (v:Value)(xT:TypeId)(w:World):(Instr.typeAssert (.iface 51 v) xT 134 true).run Tryz.prog w = .ok (.tuple #[.iface 51 v,.bool true]) w:=run_typeAssert_hasB Tryz.underlying134 (by kernel_rfl) v xT w
theorem errIs_nil (b:Addr)(w:World) :
  Calls Tryz.prog 18 #[.nilIface,.iface 205 (.pointer (some b))] w fun e w'=>e = .returned (.bool false)∧w'=w:=by
 have hn:=run_eql_iface_nil_left (P:=Tryz.prog) w 205 (.pointer (some b)) Tryz.underlying25;go_enter Tryz.func18,Tryz.ntmps18
 go_wp2
 go_ret;exact⟨rfl,rfl⟩
theorem errIs_other (a b:Addr)(ca cb:Array Value)(ta tb:TypeId)(w:World)(hne:a≠b)(ha:w.heap[a.block]?=some (.cells ca ta (0,0)))(hb:w.heap[b.block]?=some (.cells cb tb (0,0))) :
  Calls Tryz.prog 18 #[.iface 205 (.pointer (some a)),.iface 205 (.pointer (some b))] w fun e w'=>e = .returned (.bool false)∧w'=w:=by
 obtain⟨i,hi,hcmp⟩:=Option.map_eq_some_iff.1 compErr;obtain⟨j,hj,hjs⟩:=Option.map_eq_some_iff.1 sizeErr;have h8:=@run_callFunc_extern Tryz.prog 41 _ Extern.ReflectliteType.typeOf Tryz.func41 (by kernel_rfl) (by kernel_rfl) (by kernel_rfl) (by kernel_rfl)
 have h32 := @run_callFunc_extern Tryz.prog 213 _ (Extern.ReflectliteType.method fun t => do noPackHeld "Comparable" t; pure (.bool (← typeInfo t).comparable)) Tryz.func213 (by kernel_rfl) (by kernel_rfl) (by kernel_rfl) (by kernel_rfl)
 have tT:=isTypeOf;have cT:=isComparable;have mR:=isMethodComparable;have mU:=isMethodUnwrap;have nE:=noIsE;have uE:=noUnwrapE;have vE:=noUnwrapsE;have nA:=noIsAt;have uA:=hasUnwrapAt;have heq:=run_eql_iface_ptr_other (P:=Tryz.prog) w Tryz.underlying25 Tryz.underlying205 hi hcmp hj (by rw[hjs];decide) hne ha hb
 go_enter Tryz.func18,Tryz.ntmps18
 go_wp2
 refine wp_loop_rounds 1 ?_;rw[rounds_succ];go_wp2
 go_ret;exact⟨rfl,rfl⟩
theorem atUnwrap_any (pb:Nat)(v:Value)(w:World)(h:w.cell? ⟨pb,1,none⟩=some v):Calls Tryz.prog 208 #[.pointer (some ⟨pb,0,none⟩)] w fun e w'=>e = .returned v∧w'=w:=by
 go_enter Tryz.func208,Tryz.ntmps208
 go_wp2
 go_ret;exact⟨rfl,rfl⟩
theorem errIs_at_same (pb:Nat)(b:Addr)(w:World)(h1:w.cell? ⟨pb,1,none⟩=some (.iface 205 (.pointer (some b)))) :
  Calls Tryz.prog 18 #[.iface 51 (.pointer (some ⟨pb,0,none⟩)),.iface 205 (.pointer (some b))] w fun e w'=>e = .returned (.bool true)∧w'=w:=by
 obtain⟨i,hi,hcmp⟩:=Option.map_eq_some_iff.1 compErr;obtain⟨j,hj,hjs⟩:=Option.map_eq_some_iff.1 sizeErr;have h8:=@run_callFunc_extern Tryz.prog 41 _ Extern.ReflectliteType.typeOf Tryz.func41 (by kernel_rfl) (by kernel_rfl) (by kernel_rfl) (by kernel_rfl)
 have h32 := @run_callFunc_extern Tryz.prog 213 _ (Extern.ReflectliteType.method fun t => do noPackHeld "Comparable" t; pure (.bool (← typeInfo t).comparable)) Tryz.func213 (by kernel_rfl) (by kernel_rfl) (by kernel_rfl) (by kernel_rfl)
 have tT:=isTypeOf;have cT:=isComparable;have mR:=isMethodComparable;have mU:=isMethodUnwrap;have nE:=noIsE;have uE:=noUnwrapE;have vE:=noUnwrapsE;have nA:=noIsAt;have uA:=hasUnwrapAt;have heq:=run_eql_iface_ptr_same (P:=Tryz.prog) w b Tryz.underlying25 Tryz.underlying205 hi hcmp hj;have hty:=run_eql_iface_types (P:=Tryz.prog) 51 205 (.pointer (some ⟨pb,0,none⟩)) (.pointer (some b)) Tryz.underlying25 (by decide) w
 go_enter Tryz.func18,Tryz.ntmps18
 go_wp2
 refine wp_loop_rounds 2 ?_;rw[rounds_succ];go_wp2_with (go_at_call 208;refine (atUnwrap_any pb _ w h1).mono ?_;rintro e w' ⟨rfl,rfl⟩)
 rw[rounds_succ];go_wp2
 go_ret;exact⟨rfl,rfl⟩
end Go.Proofs.YtbplbehhlbkklaaGreatDoor
namespace Go.Proofs.YtbplbehhlbkklaaGreatDoor
set_option maxHeartbeats 16000000
set_option maxRecDepth 100000
open Go Go.RowKit
theorem tNew_long9 (s:ByteArray)(w:World)(hs:8192<s.size)(sent:Nat→Addr)(hE:Env w sent) :
  Calls Tryz.prog 32 #[.string s] w fun e w'=>e = .returned (.tuple #[.pointer none,.iface 205 (.pointer (some (sent 101)))])∧Below w.heap.size w w':=by
 have he:=hE 101 4 (by simp [errVars])
 go_enter Tryz.func32,Tryz.ntmps32
 go_wp2_with fail
 go_region
 go_wp2
 go_ret2;exact⟨rfl,(Below.refl _ _).drew⟩
theorem xLex_long (s:ByteArray)(w:World)(hs:8192<s.size)(sent:Nat→Addr)(hE:Env w sent) :
  Calls Tryz.prog 13 #[.string s] w fun e w'=>e = .returned (.tuple #[.slice none 0 0,.iface 205 (.pointer (some (sent 101)))])∧Below w.heap.size w w':=by
 go_enter Tryz.func13,Tryz.ntmps13
 go_wp2_with fail
 refine (tNew_long9 s w hs sent hE).mono ?_;rintro e w1 ⟨rfl,hb1⟩;go_wp2
 go_ret2;exact⟨rfl,hb1⟩
def PaOut (w:World) (sent:Nat→Addr) (r:Except (Nat×Option Nat) Prog) (e:Ending) (w':World):Prop :=
 Below w.heap.size w w'∧match r with
 | .ok l=>∃ v b,e = .returned (.tuple #[v,.nilIface])∧NSl w' b v l
 | .error (c,none)=>e = .returned (.tuple #[.slice none 0 0,.iface 205 (.pointer (some (sent c)))])
 | .error (c,some p)=>∃ eb,e = .returned (.tuple #[.slice none 0 0,.iface 51 (.pointer (some ⟨eb,0,none⟩))])∧ErrAt w' eb sent c p
theorem pParse_long (s:ByteArray)(w:World)(hs:8192<s.size)(sent:Nat→Addr)(hE:Env w sent) :
  Calls Tryz.prog 5 #[.string s] w (PaOut w sent (.error (101,none))):=by
 go_enter Tryz.func5,Tryz.ntmps5
 go_wp2_with fail
 refine (xLex_long s w hs sent hE).mono ?_;rintro e w1 ⟨rfl,hb1⟩;go_wp2
 go_ret2;exact⟨hb1,rfl⟩
theorem Toks.row {w:World}{B:Nat}{v:Value}{ts:List BTok}(h:Toks w B v ts)(hl:0<ts.length):∃ g cap,v = .slice (some ⟨g,0,none⟩) ts.length cap∧ts.length≤cap∧cap≤maxLen∧B≤g∧g<w.heap.size∧TokRow w g ts:=by
 obtain⟨g,cap,h1,h2,h3,h4,h5,h6⟩:=row_cell h hl;refine ⟨g,cap,h1,h2,h3,h4,h5,fun i a ha j u hu=>?_⟩
 have:=h6 _ u (flat_get BTok.cells 5 tok_cells ts i j a u ha hu)
 rwa [Nat.mul_comm] at this
theorem WFP.nums {K:Int→Bool}{M:Nat}{w:Bool}{D:Nat}{l:Prog}(h:WFP K M w D l):∀ x∈l,0≤x.k∧x.k≤l.length∧0≤x.size∧x.size≤l.length:=by
 induction h with
 | node w D kind n s kids hk hf hc hK ih =>
  have hkl:kids.length≤kids.flatten.length:=by
   have:∀ ks:List Prog,(∀ k∈ks,0<k.length)→ks.length≤ks.flatten.length:=by
    intro ks hks
    induction ks with
    | nil=>simp
    | cons k ks ihk =>
     have h1:=hks k (by simp)
     have h2:=ihk (fun k hk=>hks k (by simp [hk]))
     rw[List.flatten_cons,List.length_append,List.length_cons];omega
   exact this kids fun k hk=>by
    obtain⟨j,hj⟩:=List.getElem?_of_mem hk;exact (hK j k hj).pos.1
  intro x hx;rw[len_newP];rw[newP] at hx
  rcases List.mem_cons.1 hx with rfl | hx
  ·dsimp only;omega
  ·obtain⟨kid,h1,h2⟩:=List.mem_flatten.1 hx;obtain⟨j,hj⟩:=List.getElem?_of_mem h1;have h3:=ih j kid hj x h2
   have h4:kid.length≤kids.flatten.length:=by
    obtain⟨a,b,rfl⟩:=List.append_of_mem h1;simp
    omega
   omega
theorem WFP.texts {K:Int→Bool}{M:Nat}{w:Bool}{D:Nat}{l:Prog}(h:WFP K M w D l)(hM:M≤50000):∀ x∈l,x.text.length≤100000:=by
 induction h with
 | node w D kind n s kids hk hf hc hK ih =>
  intro x hx;rw[newP] at hx
  rcases List.mem_cons.1 hx with rfl | hx
  ·exact fieldsM_len (x:=⟨kind,n,kids.length,0,s⟩) hf hM
  ·obtain⟨kid,h1,h2⟩:=List.mem_flatten.1 hx;obtain⟨j,hj⟩:=List.getElem?_of_mem h1;exact ih j kid hj x h2
theorem nfix_of {K:Int→Bool}{M:Nat}{w:Bool}{D:Nat}{l:Prog}(h:WFP K M w D l)(hM:M≤50000)(hl:l.length≤400000):NFix l:=by
 have hd:∀ i,ndAt l i∈l∨ndAt l i=⟨0,0,0,0,[]⟩:=fun i=>by
  unfold ndAt;rw[List.getD_eq_getElem?_getD]
  by_cases hi:i<l.length
  ·rw[List.getElem?_eq_getElem hi];exact .inl (List.getElem_mem hi)
  ·rw[List.getElem?_eq_none (by omega)]
   exact .inr rfl
 refine ⟨hl,fun i=>?_,fun i=>?_,fun i=>?_⟩
 ·rcases hd i with h1 | h1
  ·exact h.texts hM _ h1
  ·rw[h1];simp
 ·rcases hd i with h1 | h1
  ·have:=h.nums _ h1
   omega
  ·rw[h1];simp
 ·rcases hd i with h1 | h1
  ·have:=h.nums _ h1
   omega
  ·rw[h1];simp
theorem pParse_short (s:ByteArray)(w:World)(hs:s.size≤8192)(sent:Nat→Addr)(hSe:Sents w sent)(hmx:∃ m,w.cell? ⟨9,0,none⟩=some (.int .i64 m)) :
  Calls Tryz.prog 5 #[.string s] w (PaOut w sent (parseB s.data.toList)):=by
 have hsz:=size_eq s;have HSe:=Lib.hid hSe;have hE:=hSe.env;obtain⟨R,hR⟩:∃ R,parseB s.data.toList=R:=⟨_,rfl⟩;rw[hR];unfold parseB at hR;rw[hsz] at hR
 cases hl:lexB (s.size+1) true s.data.toList 0 with
 | error e0 =>
  obtain⟨c,p⟩:=e0;rw[hl] at hR;subst hR;go_enter Tryz.func5,Tryz.ntmps5
  go_wp2_with fail
  refine (xLex_bad s w hs sent hE c p hl).mono ?_;rintro e w1 ⟨eb,rfl,h1,hb1⟩;go_wp2
  go_ret2;exact⟨hb1,eb,rfl,h1⟩
 | ok ts =>
  rw[hl] at hR;have HR:=Lib.hid hR;have hT:=lexB_t s.data.toList (by omega) ts (by rw[hsz];exact hl)
  have hnum:=hT.num;have hpos:=hT.good.pos;go_enter Tryz.func5,Tryz.ntmps5
  go_wp2_with fail
  refine (xLex_ok s w hs sent hE ts hl).mono ?_;rintro e w1 ⟨v,rfl,hTk,hb1⟩;obtain⟨g,cap,rfl,hc1,hc2,hg1,hg2,hrow⟩:=hTk.row hpos;have T:PTs cap ts:=⟨⟨hT.good,by omega,hc1,hc2⟩,hT.w⟩
  have hb2:=bNext hb1 ((Below.refl w1.heap.size w1).alloc (Nat.le_refl _) (.cells #[.slice (some ⟨g,0,none⟩) ts.length cap,.int .i64 0,.int .i64 0] 45));have hS2:PSt (w1.alloc (.cells #[.slice (some ⟨g,0,none⟩) ts.length cap,.int .i64 0,.int .i64 0] 45)) w1.heap.size g cap ts 0 0:=⟨Blk.new w1 [.slice (some ⟨g,0,none⟩) ts.length cap,.int .i64 0,.int .i64 0] 45,hrow.below ((Below.refl _ w1).alloc (Nat.le_refl _) _),by omega,by simp;omega⟩
  have hE2:EnvB (w1.alloc (.cells #[.slice (some ⟨g,0,none⟩) ts.length cap,.int .i64 0,.int .i64 0] 45)) w1.heap.size sent:=⟨hE.below hb2,fun c q hq=>by have:=hE.lt hq;have:=hb1.size;omega,hmx.elim fun m hm=>⟨m,bSome hb2 hm⟩,by
   obtain⟨m,hm⟩:=hmx;have h9:9<w.heap.size:=block_lt_of_cell hm;have:=hb1.size
   omega⟩
  have hsz1:=hb1.size;clear hrow hTk;obtain⟨b,hbb⟩:∃ b,w1.heap.size=b:=⟨_,rfl⟩;have hbz:b<(w1.alloc (.cells #[.slice (some ⟨g,0,none⟩) ts.length cap,.int .i64 0,.int .i64 0] 45)).heap.size:=by simp;omega
  obtain⟨w2,hw2⟩:∃ w2,w1.alloc (.cells #[.slice (some ⟨g,0,none⟩) ts.length cap,.int .i64 0,.int .i64 0] 45)=w2:=⟨_,rfl⟩;go_upto_region 5 with fail
  rw[hw2,hbb] at hS2 hE2;rw[hw2] at hb2 hbz;clear hw2;have hn:=(nnAll hT.good (12 * ts.length+11)).list 0 0 hT.good.pos (by omega)
  cases hq:pList ts (12 * ts.length+11) 0 0 with
  | none=>exact absurd hq hn
  | some rc =>
   rw[hq] at HR;have HD:=Lib.hid ((allB T (12 * ts.length+11)).list w2 0 0 rc (by omega) hpos hS2 hE2 (Lib.hid hq))
   clear hS2 hn;go_wp2_with fail
   refine HD.out.mono ?_
   cases rc with
   | error e0 =>
    obtain⟨c0,p0⟩:=e0;have HX:=Lib.hid (show R = .error (c0,some p0) from HR.out.symm)
    clear HR hq HD;rintro e w3 ⟨hK3,v,u,j',l0,rfl,h0,-,⟨eb,rfl,q2,q3⟩,hS3⟩;obtain⟨va,vc,rfl⟩:=h0.form;go_wp2_with fail
    go_ret2;rw[HX.out];exact⟨Kept.fresh hb2 hK3 (fun i hi e=>by unfold At at e;omega),eb,rfl,q2⟩
   | ok q =>
    obtain⟨l,i⟩:=q;have hi:=list_lt T hpos hq;have hll:=list_len T hpos hq;obtain⟨D,hD⟩:=(wAll T.w (12 * ts.length+11)).list 0 0 l i hq
    have HR2:=Lib.hid (show (if isK ts i [0]=false then .error (108,some (tkAt ts i).place) else match checkP l with
     | none=>.ok l
     | some (c,p)=>.error (c,if c=102 then some 0 else p))=R from HR.out)
    clear HR hq HD;rintro e w3 ⟨hK3,v,rfl,hN,hS3⟩;have hb3:=Kept.fresh hb2 hK3 (fun i hi e=>by unfold At at e;omega)
    have hE3:=hE2.kept hK3;obtain⟨ga,gc,rfl,-⟩:=id hN;have HN:=Lib.hid hN;have HD:=Lib.hid hD;have hl0:=hD.pos.1;clear hN hD;generalize hlz:l.length=lz at *;have HLZ:=Lib.hid hlz;clear hlz;go_wp2_with fail
    refine (pIs_any T.fix (hS3.alloc _) hi [0] _ _ (by decide) (show Blk _ _ [Value.int .i64 0] from Blk.new w3 _ _)).mono ?_
    rintro e w4 ⟨rfl,hb4⟩;have hb5:=bNext ((Below.refl _ w3).alloc (Nat.le_refl _) _) hb4;have hS4:=hS3.below hb5;have hE4:=hE3.below hb5;have HN4:=Lib.hid (HN.out.below hb5);have hb6:=bNext hb3 hb5;clear hS3 hE3 hb3 hb4 hb5 HN hK3
    cases x0:isK ts i [0] with
    | false =>
     have HX:=Lib.hid (show R = .error (108,some (tkAt ts i).place) from by
      have h:=HR2.out;rw[if_pos x0] at h;exact h.symm)
     clear HR2;go_wp2_with fail
     refine (pForm_any T.fix hS4 hi sent hE4.env).mono ?_;rw[x0,if_neg (by simp)]
     rintro e w6 ⟨eb,rfl,hE7,hl7,hb7⟩;go_wp2_with fail
     go_ret2;rw[HX.out];exact⟨bNext hb6 hb7,eb,rfl,hE7⟩
    | true =>
     have HR3:=Lib.hid (show (match checkP l with
      | none=>.ok l
      | some (c,p)=>.error (c,if c=102 then some 0 else p))=R from by
       have h:=HR2.out;rw[if_neg (by rw[x0];simp)] at h
       exact h)
     clear HR2 x0;have hck:=check_wf (l:=l) ⟨D,HD.out⟩;have HC:=Lib.hid (cCheck_any l (nfix_of HD.out (by omega) (by have:=HLZ.out;omega)) sent b w4 _ HN4.out (by have:=HLZ.out;omega) hE4.env (fun h=>by rcases hck with h2 | h2 | ⟨p,h2⟩ <;> (rw[h2] at h;cases h)))
     have hSe4:=Lib.hid (HSe.out.below hb6);go_wp2_with fail
     refine HC.out.mono ?_;rintro e w5 ⟨hb5,hco⟩;have hb7:=bNext hb6 hb5;have HN5:=Lib.hid (HN4.out.below hb5);have hS5:=HSe.out.below hb7;have he5:=hS5.env 102 0 (by simp [errVars])
     rcases hck with h2 | h2 | ⟨p,h2⟩
     ·rw[h2] at hco HR3;subst hco;have HX:=Lib.hid (show R = .ok l from HR3.out.symm)
      clear HR3 HC;go_wp2_with fail
      refine (errIs_nil _ _).mono ?_;rintro e w6 ⟨rfl,rfl⟩;go_wp2_with fail
      go_ret2;rw[HX.out];exact⟨hb7,_,b,rfl,HN5.out⟩
     ·rw[h2] at hco HR3;subst hco;have HX:=Lib.hid (show R = .error (111,none) from HR3.out.symm)
      obtain⟨ca,ta,hca⟩:=hS5.blk 111 (by omega) (by omega)
      obtain⟨cb,tbb,hcb⟩:=hS5.blk 102 (by omega) (by omega)
      have hne:=hS5.ne 111 102 (by omega) (by omega) (by omega) (by omega) (by omega)
      clear HR3 HC;go_wp2_with fail
      refine (errIs_other _ _ ca cb ta tbb _ hne hca hcb).mono ?_;rintro e w6 ⟨rfl,rfl⟩;go_wp2_with fail
      go_ret2;rw[HX.out];exact⟨hb7,rfl⟩
     ·rw[h2] at hco HR3;obtain⟨eb,rfl,hE9,hl9⟩:=hco;have HX:=Lib.hid (show R = .error (102,some 0) from HR3.out.symm)
      clear HR3 HC;unfold ErrAt at hE9;have hc1:=hE9.cell 1 rfl;go_wp2_with fail
      refine (errIs_at_same eb _ _ hc1).mono ?_;rintro e w6 ⟨rfl,rfl⟩;go_wp2_with fail
      go_ret2;rw[HX.out];exact⟨bNext hb7 ((Below.refl _ _).alloc (Nat.le_refl _) _),_,rfl,Blk.new w6 [Value.int .i64 0,.iface 205 (.pointer (some (sent 102)))] 53⟩
end Go.Proofs.YtbplbehhlbkklaaGreatDoor
