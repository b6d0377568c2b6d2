/- Dialect A's parser: all of it at once, by induction on the fuel. -/
import Derived.Test.YtbfeoinoepoiaaaGreatDoorGQSimple
import Derived.Test.YtbfeoinoepoiaaaGreatDoorGQChooseG
import Derived.Test.YtbfeoinoepoiaaaGreatDoorGQChainG
import Derived.Test.YtbfeoinoepoiaaaGreatDoorGQFieldG
import Derived.Test.YtbfeoinoepoiaaaGreatDoorGBParseG
import Derived.Test.YtbfeoinoepoiaaaGreatDoorGZF
namespace Go.Proofs.YtbfeoinoepoiaaaGreatDoor
set_option maxHeartbeats 8000000
set_option maxRecDepth 100000
open Go Go.RowKit
theorem subQs (f:Nat):SubQs (fun b d x=>aSub f b d x):=fun base d n x hx hk=>(postAllA f).sub base n d x (hx.sub hk) hx.len hk
structure AllQ (sent:Nat→Addr) (f:Nat):Prop where
 list:QDoesN sent 74 (fun ts b d i=>aList f ts b d i)
 chain:QDoes sent 114 (fun ts b d i=>aChain f ts b d i)
 pipe:QDoesN sent 160 (fun ts b d i=>aPipe f ts b d i)
 command:QDoes sent 193 (fun ts b d i=>aCommand f ts b d i)
 body:QDoesB sent (fun ts b d i s t=>aBody f ts b d i s t)
 choice:QDoes sent 214 (fun ts b d i=>aChoice f ts b d i)
 whl:QDoes sent 215 (fun ts b d i=>aWhile f ts b d i)
 each:QDoes sent 216 (fun ts b d i=>aEach f ts b d i)
 choose:QDoes sent 217 (fun ts b d i=>aChoose f ts b d i)
 function:QDoesF sent (fun ts b d i s=>aFunction f ts b d i s)
 simple:QDoesN sent 212 (fun ts b d i=>aSimple f ts b d i [] [] [])
 sub:DoesP sent 278 kSub (fun b d x=>aSub f b d x)
theorem allQ {sent:Nat→Addr}:∀ f,AllQ sent f:=by
 intro f
 induction f using Nat.strongRecOn with
 | _ f ih =>
  have hItems:∀ f'<f,DoesP sent 261 kItem (fun b d x=>itemsA (fun x=>aSub f' b d x) x):=fun f' h=>qItems_walk (S:=fun b d x=>aSub f' b d x) (ih f' h).sub
  have hPiece:∀ f'<f,DoesP sent 254 kAny (fun b d x=>pieceA (fun x=>aSub f' b d x) x):=fun f' h=>qPiece_walk (S:=fun b d x=>aSub f' b d x) (hItems f' h)
  have hValue:∀ f'<f,DoesV sent 238 (fun b d t=>valueA (fun x=>aSub f' b d x) b t):=fun f' h=>qValue_walk (S:=fun b d x=>aSub f' b d x) (subQs f') (hPiece f' h)
  have hLive:∀ f'<f,DoesV sent 243 (fun b d t=>livesA (fun x=>aSub f' b d x) b t):=fun f' h=>qLive_walk (S:=fun b d x=>aSub f' b d x) (subQs f') (hPiece f' h)
  have hField:∀ f'<f,DoesV sent 239 (fun b d t=>fieldA (fun x=>aSub f' b d x) b t):=fun f' h=>qField_walk (S:=fun b d x=>aSub f' b d x) (subQs f') (hPiece f' h) (hItems f' h) (hValue f' h)
  cases f with
  | zero =>
   refine ⟨?_,?_,?_,?_,?_,?_,?_,?_,?_,?_,?_,?_⟩
   ·exact fun w b g cap n base i d ts r _ _ _ _ _ hr=>by have:=hr.out; simp only [aList] at this; cases this
   ·exact fun w b g cap n base i d ts r _ _ _ _ _ hr=>by have:=hr.out; simp only [aChain] at this; cases this
   ·exact fun w b g cap n base i d ts r _ _ _ _ _ hr=>by have:=hr.out; simp only [aPipe] at this; cases this
   ·exact fun w b g cap n base i d ts r _ _ _ _ _ hr=>by have:=hr.out; simp only [aCommand] at this; cases this
   ·exact fun w b g cap n base i d ts s t r _ _ _ _ _ hr=>by have:=hr.out; simp only [aBody] at this; cases this
   ·exact fun w b g cap n base i d ts r _ _ _ _ _ hr=>by have:=hr.out; simp only [aChoice] at this; cases this
   ·exact fun w b g cap n base i d ts r _ _ _ _ _ hr=>by have:=hr.out; simp only [aWhile] at this; cases this
   ·exact fun w b g cap n base i d ts r _ _ _ _ _ hr=>by have:=hr.out; simp only [aEach] at this; cases this
   ·exact fun w b g cap n base i d ts r _ _ _ _ _ hr=>by have:=hr.out; simp only [aChoose] at this; cases this
   ·exact fun w b g cap n base i d ts s r _ _ _ _ _ hr=>by have:=hr.out; simp only [aFunction] at this; cases this
   ·exact fun w b g cap n base i d ts r _ _ _ _ _ hr=>by have:=hr.out; simp only [aSimple] at this; cases this
   ·exact fun w b g cap n base i d ts x r _ _ _ _ _ _ hr=>by have:=hr.out; simp only [aSub] at this; cases this
  | succ f =>
   have I:=ih f (by omega)
   refine ⟨?_,?_,?_,?_,?_,?_,?_,?_,?_,?_,?_,?_⟩
   ·exact qList_walk f fun f' h=>(ih f' (by omega)).chain
   ·exact qChain_walk f fun f' h=>(ih f' (by omega)).pipe
   ·exact qPipe_walk f fun f' h=>(ih f' (by omega)).command
   ·exact qCommand_walk f I.list (qTurns_walk f fun f' h=>hValue f' (by omega)) I.simple I.choice I.whl I.each I.choose I.function
   ·exact qBody_walk f I.list
   ·exact qChoice_walk f I.body
   ·exact qWhile_walk f I.body
   ·exact qEach_walk f (fun f' h=>hField f' (by omega)) I.body
   ·exact qChoose_walk f (hValue f (by omega)) (fun f' h=>hLive f' (by omega)) (fun f' h=>(ih f' (by omega)).list)
   ·exact qFunction_walk f I.body
   ·exact qSimple_walk f (fun f' h=>hValue f' (by omega)) (fun f' h=>hField f' (by omega))
   ·exact qSub_walk f I.list.does
end Go.Proofs.YtbfeoinoepoiaaaGreatDoor
namespace Go.Proofs.YtbfeoinoepoiaaaGreatDoor
set_option maxHeartbeats 8000000
set_option maxRecDepth 100000
open Go Go.RowKit
theorem envQ_new {w:World} {sent:Nat→Addr} (hE:Env w sent) (hmx:∃ m,w.cell? ⟨9,0,none⟩=some (.int .i64 m)) (het:w.cell? ⟨10,0,none⟩=some (.iface 145 (.agg #[.pointer (some ⟨19,25,none⟩)]))):EnvQ w w.heap.size sent:=by
 refine ⟨⟨hE,fun c g hg e=>?_,hmx,fun e=>?_⟩,het,fun e=>?_⟩
 ·have:=hE.lt hg
  omega
 ·obtain ⟨m,hm⟩:=hmx
  have:=block_lt_of_cell hm
  simp only at this
  omega
 ·have:=block_lt_of_cell het
  simp only at this
  omega
def checkedA (l:Prog):Except (Nat × Option Nat) Prog:=match checkP l with
 | none=>.ok l
 | some (c,p)=>.error (c,if c=102 then some 0 else p)
theorem qChecked_any (l:Prog) (b:Nat) (v:Value) (w:World) (sent:Nat→Addr) (hSe:Sents w sent) (hN:NSl w b v l) (hl0:0<l.length) (hF:NFix l) (hck:checkP l=none∨checkP l=some (111,none)∨∃ p,checkP l=some (102,some p)) :
  Calls Tryz.prog 40 #[v] w (PaOut w sent (checkedA l)):=by
 obtain ⟨R,hR⟩:∃ R,checkedA l=R:=⟨_,rfl⟩
 rw [hR]
 unfold checkedA at hR
 have HR3:=Lib.hid hR
 have HC:=Lib.hid (cCheck_any l hF sent b w _ hN hl0 hSe.env (fun h=>by rcases hck with h2 | h2 | ⟨p,h2⟩ <;> (rw [h2] at h; cases h)))
 have HN4:=Lib.hid hN
 have HLZ:=Lib.hid hl0
 obtain ⟨ga,gc,rfl,-⟩:=hN
 clear hR
 generalize hlz:l.length=lz at *
 clear hlz
 go_enter Tryz.func40,Tryz.ntmps40
 go_wp2_with fail
 refine HC.out.mono ?_
 rintro e w5 ⟨hb5,hco⟩
 have HN5:=Lib.hid (HN4.out.below hb5)
 have hS5:=hSe.below hb5
 have he5:=hS5.env 102 0 (by simp [errVars])
 rcases hck with h2 | h2 | ⟨p,h2⟩
 ·rw [h2] at hco HR3
  subst hco
  have HX:=Lib.hid (show R = .ok l from HR3.out.symm)
  clear HR3 HC
  go_wp2_with fail
  refine (errIs_nil _ _).mono ?_
  rintro e w6 ⟨rfl,rfl⟩
  go_wp2_with fail
  go_ret2
  rw [HX.out]
  exact ⟨hb5,_,b,rfl,HN5.out⟩
 ·rw [h2] at hco HR3
  subst hco
  have HX:=Lib.hid (show R = .error (111,none) from HR3.out.symm)
  obtain ⟨ca,ta,hca⟩:=hS5.blk 111 (by omega) (by omega)
  obtain ⟨cb,tbb,hcb⟩:=hS5.blk 102 (by omega) (by omega)
  have hne:=hS5.ne 111 102 (by omega) (by omega) (by omega) (by omega) (by omega)
  clear HR3 HC
  go_wp2_with fail
  refine (errIs_other _ _ ca cb ta tbb _ hne hca hcb).mono ?_
  rintro e w6 ⟨rfl,rfl⟩
  go_wp2_with fail
  go_ret2
  rw [HX.out]
  exact ⟨hb5,rfl⟩
 ·rw [h2] at hco HR3
  obtain ⟨eb,rfl,hE9,hl9⟩:=hco
  have HX:=Lib.hid (show R = .error (102,some 0) from HR3.out.symm)
  clear HR3 HC
  unfold ErrAt at hE9
  have hc1:=hE9.cell 1 rfl
  go_wp2_with fail
  refine (errIs_at_same eb _ _ hc1).mono ?_
  rintro e w6 ⟨rfl,rfl⟩
  go_wp2_with fail
  go_region_held3 (fun w'=>w'.cell? ⟨0,0,none⟩=some (.iface 289 (.pointer (some (sent 102))))) (go_keep) (fail)
  go_wp2_with fail
  go_ret2
  rw [HX.out]
  exact ⟨bNext hb5 ((Below.refl _ _).alloc (Nat.le_refl _) _).drew,_,rfl,Blk.new w6 [Value.int .i64 0,.iface 289 (.pointer (some (sent 102)))] 60⟩
theorem parseA_src (L:List UInt8) (hL:L.length≤8192):∃ r,srcA (36 * L.length+23) 0 0 L=some r∧match r with
  | .error (c,p)=>parseA L = .error (c,some p)
  | .ok l=>parseA L=checkedA l∧0<l.length∧NFix l∧(checkP l=none∨checkP l=some (111,none)∨∃ p,checkP l=some (102,some p)):=by
 unfold parseA srcA
 cases hl:lexA L (L.length+1) 0 with
 | error e =>
  obtain ⟨c,p⟩:=e
  exact ⟨_,rfl,by simp⟩
 | ok ts =>
  have g:=lexA_good L hL ts hl
  have hwt:=g.wt
  rw [← remA_zero] at hwt
  have hn:=(nnAllA (36 * L.length+23)).list g 0 0 0 g.pos (by omega)
  have hp:=(postAllA (36 * L.length+23)).list g 0 0 0 g.pos
  have hw:=(vAllA (36 * L.length+23)).list g 0 0 0
  dsimp only
  cases hx:aList (36 * L.length+23) ts 0 0 0 with
  | none=>exact absurd hx hn
  | some r =>
   cases r with
   | error e =>
    obtain ⟨c,p⟩:=e
    exact ⟨_,rfl,rfl⟩
   | ok y =>
    obtain ⟨l,i⟩:=y
    have hwf:=hw l i hx
    obtain ⟨h1,h2,h3,h4,-⟩:=hp.1 l i hx
    dsimp only
    by_cases h0:aIs ts i [0]=false
    ·rw [if_pos h0,if_pos h0]
     exact ⟨_,rfl,by simp⟩
    ·rw [if_neg h0,if_neg h0]
     obtain ⟨D,hD⟩:=id hwf
     exact ⟨_,rfl,rfl,h3,nfix_of hD (by omega) (by omega),check_vf hwf⟩
theorem qParse_short (s:ByteArray) (w:World) (hs:s.size≤8192) (sent:Nat→Addr) (hSe:Sents w sent) (hmx:∃ m,w.cell? ⟨9,0,none⟩=some (.int .i64 m)) (het:w.cell? ⟨10,0,none⟩=some (.iface 145 (.agg #[.pointer (some ⟨19,25,none⟩)]))) :
  Calls Tryz.prog 17 #[.string s] w (PaOut w sent (parseA s.data.toList)):=by
 have hsz:=size_eq s
 have HSe:=Lib.hid hSe
 obtain ⟨r,hr,hm⟩:=parseA_src s.data.toList (by omega)
 have HS:=Lib.hid (qSource_walk (36 * s.data.toList.length+23) (allQ (sent:=sent) _).list.does w w.heap.size 0 0 s.data.toList r (by omega) (by omega) (envQ_new hSe.env hmx het) (Lib.hid hr))
 rw [bs_of] at HS
 obtain ⟨R,hR⟩:∃ R,parseA s.data.toList=R:=⟨_,rfl⟩
 rw [hR] at hm ⊢
 clear hr hSe hmx het
 go_enter Tryz.func17,Tryz.ntmps17
 go_wp2_with fail
 refine HS.out.mono ?_
 rintro e w1 ⟨hb1,h1⟩
 cases r with
 | error q =>
  obtain ⟨c,p⟩:=q
  have HX:=Lib.hid (show R = .error (c,some p) from hm)
  obtain ⟨v,u,rfl,⟨eb,rfl,hEb,hle⟩⟩:=h1
  clear HS hm
  go_wp2_with fail
  go_ret2
  rw [HX.out]
  exact ⟨hb1,eb,rfl,hEb⟩
 | ok l =>
  obtain ⟨v,bp,rfl,hbp1,hbp2,hN⟩:=h1
  obtain ⟨m1,m2,m3,m4⟩:=hm
  have HC:=Lib.hid (qChecked_any l bp v w1 sent (HSe.out.below hb1) hN m2 m3 m4)
  rw [← m1] at HC
  obtain ⟨ga,gc,rfl,-⟩:=hN
  clear HS m1 m2 m3 m4
  go_wp2_with fail
  refine HC.out.mono ?_
  rintro e w2 ⟨hb2,h2⟩
  have hb3:=bNext hb1 hb2
  clear HC
  cases R with
  | error q =>
   obtain ⟨c,p⟩:=q
   cases p with
   | none =>
    dsimp only at h2
    subst h2
    go_wp2_with fail
    go_ret2
    exact ⟨hb3,rfl⟩
   | some p =>
    obtain ⟨eb,rfl,hEb⟩:=h2
    go_wp2_with fail
    go_ret2
    exact ⟨hb3,eb,rfl,hEb⟩
  | ok l' =>
   obtain ⟨v,b9,rfl,hN9⟩:=h2
   obtain ⟨gb,gd,rfl,-⟩:=id hN9
   go_wp2_with fail
   go_ret2
   exact ⟨hb3,_,b9,rfl,hN9⟩
end Go.Proofs.YtbfeoinoepoiaaaGreatDoor
namespace Go.Proofs.YtbfeoinoepoiaaaGreatDoor
set_option maxHeartbeats 8000000
set_option maxRecDepth 100000
open Go Go.RowKit
theorem spells11_any (s:ByteArray) (t:List UInt8) (l:Prog) (F:NFix l) (hs:s.size≤8192) (hp:parseA s.data.toList = .ok l) (hc:checkP l=none) (hr:Prints l t) (w:World) (sent:Nat→Addr) (hSe:Sents w sent) (hmx:∃ m,w.cell? ⟨9,0,none⟩=some (.int .i64 m)) (het:w.cell? ⟨10,0,none⟩=some (.iface 145 (.agg #[.pointer (some ⟨19,25,none⟩)]))) :
  Calls Tryz.prog 37 #[.string s,.string (bs t)] w fun e w'=>e = .returned (.bool true)∧Below w.heap.size w w':=by
 have HP:=Lib.hid (qParse_short s w hs sent hSe hmx het)
 rw [hp] at HP
 obtain ⟨h1,h2,h3⟩:=checkP_none hc
 have hE:=hSe.env
 have HC:=Lib.hid (fun (w9:World) (v9:Value) (b9:Nat) (hN:NSl w9 b9 v9 l) (hE9:Env w9 sent)=>cCheck_any l F sent b9 w9 v9 hN h1 hE9 (by rw [hc]; intro h; cases h))
 have HR:=Lib.hid (fun (w9:World) (v9:Value) (b9:Nat) (hN:NSl w9 b9 v9 l)=>r5Check_any l F b9 w9 v9 hN h1 h2 h3)
 have HPr:=Lib.hid hr
 have HCN:=Lib.hid hc
 clear hSe hmx het hp hc hr h1 h2 h3
 go_enter Tryz.func37,Tryz.ntmps37
 go_wp2_with fail
 refine HP.out.mono ?_
 rintro e w1 ⟨hb1,v,b,rfl,hN⟩
 have HN:=Lib.hid hN
 obtain ⟨g,cap,rfl,-⟩:=hN
 have hE1:=hE.below hb1
 clear hE HP
 go_wp2_with fail
 refine (HC.out w1 _ b HN.out hE1).mono ?_
 rw [HCN.out]
 rintro e w2 ⟨hb2,rfl⟩
 have hB2:=bNext hb1 hb2
 have HN2:=Lib.hid (HN.out.below hb2)
 clear HN HC hb1 hb2 hE1
 go_wp2_with fail
 refine (HR.out w2 _ b HN2.out).mono ?_
 rintro e w3 ⟨rfl,hb3⟩
 have hB3:=bNext hB2 hb3
 have HN3:=Lib.hid (HN2.out.below hb3)
 clear HN2 HR hB2 hb3
 have hf:=fault_f0 (.int .i64 0) (.slice none 0 0) w3
 go_wp2_with fail
 refine (r5Print_any HPr.out w3 _ (NSl.lo HN3.out)).mono ?_
 rintro e w4 ⟨rfl,hb4⟩
 have hB4:=bNext hB3 hb4
 clear HN3 hB3 hb4
 go_wp2_with fail
 go_ret
 exact ⟨rfl,hB4⟩
def fa1P:Prog:=newP 1 0 [101,99,104,111] []
def fa1T:List UInt8:=printOf 1 0 [101,99,104,111] []
theorem fa1r:Prints fa1P fa1T:=Prints.node 1 0 [101,99,104,111] _ _ rfl (by decide) (by decide) (by decide) (by decide) rfl KidsP.nil (by decide) (by decide)
def fa2P:Prog:=newP 1 0 [97] []
def fa2T:List UInt8:=printOf 1 0 [97] []
theorem fa2r:Prints fa2P fa2T:=Prints.node 1 0 [97] _ _ rfl (by decide) (by decide) (by decide) (by decide) rfl KidsP.nil (by decide) (by decide)
def fa3P:Prog:=newP 21 0 [] [fa1P,fa2P]
def fa3T:List UInt8:=printOf 21 0 [] [fa1T,fa2T]
theorem fa3r:Prints fa3P fa3T:=Prints.node 21 0 [] _ _ rfl (by decide) (by decide) (by decide) (by decide) rfl (KidsP.cons fa1r (KidsP.cons fa2r KidsP.nil)) (by decide) (by decide)
def t1src:List UInt8:=[101,99,104,111,32,97]
def t1txt:List UInt8:=[40,99,97,108,108,32,40,108,105,116,32,34,101,99,104,111,34,41,32,40,108,105,116,32,34,97,34,41,41]
theorem t1p:parseA t1src = .ok fa3P:=by kernel_rfl
theorem t1t:fa3T=t1txt:=by kernel_rfl
theorem t1pr:Prints fa3P t1txt:=by
 rw [← t1t]
 exact fa3r
def fa4P:Prog:=newP 1 0 [49] []
def fa4T:List UInt8:=printOf 1 0 [49] []
theorem fa4r:Prints fa4P fa4T:=Prints.node 1 0 [49] _ _ rfl (by decide) (by decide) (by decide) (by decide) rfl KidsP.nil (by decide) (by decide)
def fa5P:Prog:=newP 2 0 [120] []
def fa5T:List UInt8:=printOf 2 0 [120] []
theorem fa5r:Prints fa5P fa5T:=Prints.node 2 0 [120] _ _ rfl (by decide) (by decide) (by decide) (by decide) rfl KidsP.nil (by decide) (by decide)
def fa6P:Prog:=newP 5 0 [] [fa5P]
def fa6T:List UInt8:=printOf 5 0 [] [fa5T]
theorem fa6r:Prints fa6P fa6T:=Prints.node 5 0 [] _ _ rfl (by decide) (by decide) (by decide) (by decide) rfl (KidsP.cons fa5r KidsP.nil) (by decide) (by decide)
def fa7P:Prog:=newP 6 0 [] [fa6P]
def fa7T:List UInt8:=printOf 6 0 [] [fa6T]
theorem fa7r:Prints fa7P fa7T:=Prints.node 6 0 [] _ _ rfl (by decide) (by decide) (by decide) (by decide) rfl (KidsP.cons fa6r KidsP.nil) (by decide) (by decide)
def fa8P:Prog:=newP 21 0 [] [fa1P,fa7P]
def fa8T:List UInt8:=printOf 21 0 [] [fa1T,fa7T]
theorem fa8r:Prints fa8P fa8T:=Prints.node 21 0 [] _ _ rfl (by decide) (by decide) (by decide) (by decide) rfl (KidsP.cons fa1r (KidsP.cons fa7r KidsP.nil)) (by decide) (by decide)
def fa9P:Prog:=newP 35 0 [120] [fa4P,fa8P]
def fa9T:List UInt8:=printOf 35 0 [120] [fa4T,fa8T]
theorem fa9r:Prints fa9P fa9T:=Prints.node 35 0 [120] _ _ rfl (by decide) (by decide) (by decide) (by decide) rfl (KidsP.cons fa4r (KidsP.cons fa8r KidsP.nil)) (by decide) (by decide)
def t2src:List UInt8:=[120,61,49,32,101,99,104,111,32,36,120]
def t2txt:List UInt8:=[40,108,111,99,97,108,32,34,120,34,32,40,108,105,116,32,34,49,34,41,32,40,99,97,108,108,32,40,108,105,116,32,34,101,99,104,111,34,41,32,40,103,108,111,98,32,40,115,112,108,105,116,32,40,118,97,114,32,34,120,34,41,41,41,41,41]
theorem t2p:parseA t2src = .ok fa9P:=by kernel_rfl
theorem t2t:fa9T=t2txt:=by kernel_rfl
theorem t2pr:Prints fa9P t2txt:=by
 rw [← t2t]
 exact fa9r
def fa10P:Prog:=newP 21 0 [] [fa2P]
def fa10T:List UInt8:=printOf 21 0 [] [fa2T]
theorem fa10r:Prints fa10P fa10T:=Prints.node 21 0 [] _ _ rfl (by decide) (by decide) (by decide) (by decide) rfl (KidsP.cons fa2r KidsP.nil) (by decide) (by decide)
def fa11P:Prog:=newP 1 0 [98] []
def fa11T:List UInt8:=printOf 1 0 [98] []
theorem fa11r:Prints fa11P fa11T:=Prints.node 1 0 [98] _ _ rfl (by decide) (by decide) (by decide) (by decide) rfl KidsP.nil (by decide) (by decide)
def fa12P:Prog:=newP 21 0 [] [fa11P]
def fa12T:List UInt8:=printOf 21 0 [] [fa11T]
theorem fa12r:Prints fa12P fa12T:=Prints.node 21 0 [] _ _ rfl (by decide) (by decide) (by decide) (by decide) rfl (KidsP.cons fa11r KidsP.nil) (by decide) (by decide)
def fa13P:Prog:=newP 32 0 [] [fa10P,fa12P]
def fa13T:List UInt8:=printOf 32 0 [] [fa10T,fa12T]
theorem fa13r:Prints fa13P fa13T:=Prints.node 32 0 [] _ _ rfl (by decide) (by decide) (by decide) (by decide) rfl (KidsP.cons fa10r (KidsP.cons fa12r KidsP.nil)) (by decide) (by decide)
def fa14P:Prog:=newP 27 0 [] [fa13P]
def fa14T:List UInt8:=printOf 27 0 [] [fa13T]
theorem fa14r:Prints fa14P fa14T:=Prints.node 27 0 [] _ _ rfl (by decide) (by decide) (by decide) (by decide) rfl (KidsP.cons fa13r KidsP.nil) (by decide) (by decide)
def fa15P:Prog:=newP 1 0 [99] []
def fa15T:List UInt8:=printOf 1 0 [99] []
theorem fa15r:Prints fa15P fa15T:=Prints.node 1 0 [99] _ _ rfl (by decide) (by decide) (by decide) (by decide) rfl KidsP.nil (by decide) (by decide)
def fa16P:Prog:=newP 21 0 [] [fa15P]
def fa16T:List UInt8:=printOf 21 0 [] [fa15T]
theorem fa16r:Prints fa16P fa16T:=Prints.node 21 0 [] _ _ rfl (by decide) (by decide) (by decide) (by decide) rfl (KidsP.cons fa15r KidsP.nil) (by decide) (by decide)
def fa17P:Prog:=newP 25 0 [] [fa14P,fa16P]
def fa17T:List UInt8:=printOf 25 0 [] [fa14T,fa16T]
theorem fa17r:Prints fa17P fa17T:=Prints.node 25 0 [] _ _ rfl (by decide) (by decide) (by decide) (by decide) rfl (KidsP.cons fa14r (KidsP.cons fa16r KidsP.nil)) (by decide) (by decide)
def t3src:List UInt8:=[33,32,97,32,124,32,98,32,38,38,32,99]
def t3txt:List UInt8:=[40,97,110,100,32,40,110,111,116,32,40,112,105,112,101,32,40,99,97,108,108,32,40,108,105,116,32,34,97,34,41,41,32,40,99,97,108,108,32,40,108,105,116,32,34,98,34,41,41,41,41,32,40,99,97,108,108,32,40,108,105,116,32,34,99,34,41,41,41]
theorem t3p:parseA t3src = .ok fa17P:=by kernel_rfl
theorem t3t:fa17T=t3txt:=by kernel_rfl
theorem t3pr:Prints fa17P t3txt:=by
 rw [← t3t]
 exact fa17r
theorem may_checkA {L:List UInt8} {l:Prog} (hL:L.length≤8192) (h:parseA L = .ok l):checkP l=none:=by
 have:=parseA_may L hL
 rw [h] at this
 exact this.1
theorem spellA1 (w:World) (sent:Nat→Addr) (hSe:Sents w sent) (hmx:∃ m,w.cell? ⟨9,0,none⟩=some (.int .i64 m)) (het:w.cell? ⟨10,0,none⟩=some (.iface 145 (.agg #[.pointer (some ⟨19,25,none⟩)]))):Calls Tryz.prog 37 #[.string (bs t1src),.string (bs t1txt)] w fun e w'=>e = .returned (.bool true)∧Below w.heap.size w w' :=
 spells11_any (bs t1src) t1txt fa3P (nfix_list (by decide) (by decide)) (by decide) t1p (may_checkA (by decide) t1p) t1pr w sent hSe hmx het
theorem spellA2 (w:World) (sent:Nat→Addr) (hSe:Sents w sent) (hmx:∃ m,w.cell? ⟨9,0,none⟩=some (.int .i64 m)) (het:w.cell? ⟨10,0,none⟩=some (.iface 145 (.agg #[.pointer (some ⟨19,25,none⟩)]))):Calls Tryz.prog 37 #[.string (bs t2src),.string (bs t2txt)] w fun e w'=>e = .returned (.bool true)∧Below w.heap.size w w' :=
 spells11_any (bs t2src) t2txt fa9P (nfix_list (by decide) (by decide)) (by decide) t2p (may_checkA (by decide) t2p) t2pr w sent hSe hmx het
theorem spellA3 (w:World) (sent:Nat→Addr) (hSe:Sents w sent) (hmx:∃ m,w.cell? ⟨9,0,none⟩=some (.int .i64 m)) (het:w.cell? ⟨10,0,none⟩=some (.iface 145 (.agg #[.pointer (some ⟨19,25,none⟩)]))):Calls Tryz.prog 37 #[.string (bs t3src),.string (bs t3txt)] w fun e w'=>e = .returned (.bool true)∧Below w.heap.size w w' :=
 spells11_any (bs t3src) t3txt fa17P (nfix_list (by decide) (by decide)) (by decide) t3p (may_checkA (by decide) t3p) t3pr w sent hSe hmx het
def eA1src:List UInt8:=[105,102,32,97]
def eA2src:List UInt8:=[102,105]
theorem first11_any (w:World) (sent:Nat→Addr) (hS:Sents w sent) (hmx:∃ m,w.cell? ⟨9,0,none⟩=some (.int .i64 m)) (het:w.cell? ⟨10,0,none⟩=some (.iface 145 (.agg #[.pointer (some ⟨19,25,none⟩)]))) :
  Calls Tryz.prog 12 #[] w fun e w'=>e = .returned (.bool true)∧Below w.heap.size w w':=by
 obtain ⟨m,hm⟩:=hmx
 have HP:=Lib.hid (qParse_short (bs eA1src) w (by decide) sent hS ⟨m,hm⟩ het)
 have h1:parseA (bs eA1src).data.toList = .error (109,some 4):=exA1
 rw [h1] at HP
 have HP2:=Lib.hid (fun (w9:World) (h9:Below w.heap.size w w9)=>qParse_short (bs eA2src) w9 (by decide) sent (hS.below h9) ⟨m,bSome h9 hm⟩ (bSome h9 het))
 have h2:parseA (bs eA2src).data.toList = .error (108,some 0):=exA2
 rw [h2] at HP2
 clear h1 h2
 go_enter Tryz.func12,Tryz.ntmps12
 go_wp2_with fail
 refine HP.out.mono ?_
 rintro e w1 ⟨hb1,eb,rfl,hE1⟩
 clear HP
 go_wp2_with fail
 refine (HP2.out _ hb1).mono ?_
 rintro e w1' ⟨hb1',eb2,rfl,hF1⟩
 have hE1':ErrAt w1' eb sent 109 ((4:Nat):Int):=Blk.below hE1 hb1'
 have hB1:=bNext hb1 hb1'
 clear hE1 hb1 hb1' HP2
 go_wp2_with fail
 refine (spellA1 w1' sent (hS.below hB1) ⟨m,bSome hB1 hm⟩ (bSome hB1 het)).mono ?_
 rintro e w2 ⟨rfl,hb2⟩
 have hE2:ErrAt w2 eb sent 109 ((4:Nat):Int):=Blk.below hE1' hb2
 have hF2:ErrAt w2 eb2 sent 108 ((0:Nat):Int):=Blk.below hF1 hb2
 have hB2:=bNext hB1 hb2
 clear hE1' hF1 hB1 hb2
 go_wp2_with fail
 refine (spellA2 w2 sent (hS.below hB2) ⟨m,bSome hB2 hm⟩ (bSome hB2 het)).mono ?_
 rintro e w3 ⟨rfl,hb3⟩
 have hE3:ErrAt w3 eb sent 109 ((4:Nat):Int):=Blk.below hE2 hb3
 have hF3:ErrAt w3 eb2 sent 108 ((0:Nat):Int):=Blk.below hF2 hb3
 have hB3:=bNext hB2 hb3
 clear hE2 hF2 hB2 hb3
 go_wp2_with fail
 refine (spellA3 w3 sent (hS.below hB3) ⟨m,bSome hB3 hm⟩ (bSome hB3 het)).mono ?_
 rintro e w4 ⟨rfl,hb4⟩
 have hE4:ErrAt w4 eb sent 109 ((4:Nat):Int):=Blk.below hE3 hb4
 have hF4:ErrAt w4 eb2 sent 108 ((0:Nat):Int):=Blk.below hF3 hb4
 have hB4:=bNext hB3 hb4
 clear hE3 hF3 hB3 hb4
 go_wp2_with fail
 refine (rPlaced_any 109 4 rfl _).mono ?_
 unfold faultV
 rintro e w5 ⟨k,rfl,hk,hk2,hb5⟩
 have hE5:ErrAt w5 eb sent 109 ((4:Nat):Int):=Blk.below hE4 hb5
 have hF5:ErrAt w5 eb2 sent 108 ((0:Nat):Int):=Blk.below hF4 hb5
 have hB5:=bNext hB4 hb5
 clear hE4 hF4 hB4 hb5
 go_wp2_with fail
 refine (seeSame_at w5 sent (hS.below hB5) 109 (by decide) (by decide) _ eb hE5 109 4 k hk).mono ?_
 rintro e w6 ⟨rfl,hb6⟩
 have hF6:ErrAt w6 eb2 sent 108 ((0:Nat):Int):=Blk.below hF5 hb6
 have hB6:=bNext hB5 hb6
 clear hE5 hF5 hB5 hb6
 go_wp2_with fail
 refine (rPlaced_any 108 0 rfl _).mono ?_
 unfold faultV
 rintro e w7 ⟨k,rfl,hk,hk2,hb7⟩
 have hF7:ErrAt w7 eb2 sent 108 ((0:Nat):Int):=Blk.below hF6 hb7
 have hB7:=bNext hB6 hb7
 clear hF6 hB6 hb7
 go_wp2_with fail
 refine (seeSame_at w7 sent (hS.below hB7) 108 (by decide) (by decide) _ eb2 hF7 108 0 k hk).mono ?_
 rintro e w8 ⟨rfl,hb8⟩
 have hB8:=bNext hB7 hb8
 go_wp2_with fail
 go_ret
 exact ⟨rfl,hB8⟩
end Go.Proofs.YtbfeoinoepoiaaaGreatDoor
