/- The last step of every row of this seat: the law has returned true, and nothing that lay in memory has turned. -/
import Derived.Test.YtbplbehhlbkklaaGreatDoorGZA
import Derived.Test.YtbplbehhlbkklaaGreatDoorRows
import Derived.ProofKit
import Derived.LaidMore
import Derived.OpenShut
import Derived.Stop.Joined
import Derived.ChangeSame
import Derived.ChangeMaps5
import Derived.LaidSub
import Derived.Lay
import Derived.Handed
import Derived.LaidLaws
import Derived.Stop.LaidErr
import Derived.MakeChecks
import Derived.RowKitTokens
import Derived.Stop.ErrReads
import Derived.LaidEql
import Derived.Deep.RegionHeld3
namespace Go.Proofs.YtbplbehhlbkklaaGreatDoor
open Go Go.RowKit Go.WideShapes Go.ChangeShapes Go.ChangeAt
theorem law_post {H:Type}{enc:TypeId×Value→H}{P:Program}{f:Func}{s:ChangeSpec}{apart fresh handsOn again:Bool}{W W':World}{args:Array Value}{ds:List (DataW H)}{before:List MemPlace}{tb:TypeId}
  (hW:DataW.Whole enc P f.params.toList s.vars apart W args.toList ds [] before) (hvars:s.vars=[]) (hrt:f.resultTypes=#[tb]) (htb:P.underlying tb=some .bool)
  (hargs:∀ sp:Nat→Bool,(∀ p∈before,sp p.block=true)→DataW.TrodAll enc P W' 0 sp true f.params.toList args.toList (s.fn H (ds++[])).args before)
  (hr:(s.fn H (ds++[])).results=[.lit (.bool true)]) (hv:(s.fn H (ds++[])).vars=[]) (hb:Below W.heap.size W W') :
  s.post enc P f apart fresh handsOn again W args (.bool true) W':=by
 have low:∀ p∈before,p.block<W.heap.size:=fun p hp=>hW.lt p hp
 have res:∀ (b:Nat) (sp:Nat→Bool) (hd:Bool),DataW.TrodAll enc P W' b sp hd f.resultTypes.toList ((Value.bool true).resultList f.resultTypes.size) (s.fn H (ds++[])).results []:=fun b sp hd=>by
  rw[hrt,hr];exact trodAll_mk1 (shut_bool htb true)
 have nov:∀ sp:Nat→Bool,DataW.TrodVars enc P W' sp s.vars (s.fn H (ds++[])).vars []:=fun sp=>by
  rw[hvars,hv];exact rfl
 refine ⟨ds,[],before,[],before,[],hW,res _ _ _,hargs _ (fun p hp=>by simpa using low p hp),nov _,World.keptBut_mono (fun p hp=>⟨hp,?_⟩) (hb.frame (·∈before)),fun _=>⟨?_,?_⟩⟩
 ·simpa using hp
 ·intro j t r ht hres;rw[hrt] at ht hres
  cases j with
  | zero =>
   simp [Value.resultList] at ht hres
   subst ht hres;exact okWide_bool_mk htb true
  | succ j=>simp at ht
 ·obtain⟨_,_,_,_,_,hz,hn⟩:=hW;refine ⟨_,_,before,⟨before,[],trodAll_append (hargs _ (fun _ _=>rfl)) (res _ _ _),nov _,(List.append_nil _).symm,fun b off hp=>?_,fun ha=>?_⟩,fun p hp _=>hp⟩
  ·rw[hb.frozen (low _ hp)];exact hz b off hp
  ·exact hn ha
end Go.Proofs.YtbplbehhlbkklaaGreatDoor
namespace Go.Proofs.YtbplbehhlbkklaaGreatDoor
open Go Go.ChangeShapes Go.WideShapes Go.ChangeAt Go.RowKit
open Go.ChangeMaps (open_string shut_string)
end Go.Proofs.YtbplbehhlbkklaaGreatDoor

namespace Go.Proofs.YtbplbehhlbkklaaGreatDoor
set_option maxRecDepth 100000
open Go Go.RowKit Go.ChangeShapes Go.WideShapes
def sentRows:List (Nat×Nat×String×List UInt8):=[
 (101, 4, "patois/api.ErrLong", [116, 111, 111, 32, 108, 111, 110, 103]),
 (102, 0, "patois/api.ErrNest", [110, 101, 115, 116, 101, 100, 32, 116, 111, 111, 32, 100, 101, 101, 112]),
 (103, 7, "patois/api.ErrQuote", [97, 32, 113, 117, 111, 116, 101, 32, 116, 104, 97, 116, 32, 100, 111, 101, 115, 32, 110, 111, 116, 32, 101, 110, 100]),
 (104, 10, "patois/api.ErrParen", [97, 32, 98, 114, 97, 99, 107, 101, 116, 32, 116, 104, 97, 116, 32, 100, 111, 101, 115, 32, 110, 111, 116, 32, 101, 110, 100]),
 (105, 11, "patois/api.ErrBrace", [97, 32, 98, 114, 97, 99, 101, 32, 116, 104, 97, 116, 32, 100, 111, 101, 115, 32, 110, 111, 116, 32, 101, 110, 100]),
 (106, 8, "patois/api.ErrName", [110, 111, 32, 110, 97, 109, 101]),
 (107, 5, "patois/api.ErrToken", [110, 111, 32, 116, 111, 107, 101, 110]),
 (108, 2, "patois/api.ErrForm", [105, 116, 32, 100, 111, 101, 115, 32, 110, 111, 116, 32, 115, 116, 97, 110, 100, 32, 104, 101, 114, 101]),
 (109, 1, "patois/api.ErrEnd", [105, 116, 32, 101, 110, 100, 115, 32, 116, 111, 111, 32, 101, 97, 114, 108, 121]),
 (110, 6, "patois/api.ErrNode", [110, 111, 32, 112, 114, 111, 103, 114, 97, 109]),
 (111, 3, "patois/api.ErrMany", [116, 111, 111, 32, 109, 97, 110, 121]),
 (112, 12, "patois/api.ErrFuel", [116, 111, 111, 32, 109, 97, 110, 121, 32, 115, 116, 101, 112, 115]),
 (113, 13, "patois/api.ErrDeep", [99, 97, 108, 108, 101, 100, 32, 116, 111, 111, 32, 100, 101, 101, 112]),
 (114, 14, "patois/api.ErrBig", [116, 111, 111, 32, 98, 105, 103]),
 (115, 15, "patois/api.ErrSay", [105, 116, 32, 99, 97, 110, 110, 111, 116, 32, 98, 101, 32, 115, 97, 105, 100]),
 (116, 16, "patois/api.ErrCode", [110, 111, 32, 99, 111, 100, 101]),
 (117, 17, "patois/api.ErrNumber", [110, 111, 32, 115, 117, 99, 104, 32, 110, 117, 109, 98, 101, 114])]
def toLaid (e : Nat × Nat × String × List UInt8) : String × DataW Unit := (e.2.2.1, .iface "*errors.errorString" (.ptr (.agg [.lit (.string e.2.2.2)])))
def sentText (c:Nat):List UInt8:=((sentRows.find? (fun e=>e.1==c)).map (fun e=>e.2.2.2)).getD []
structure Sents (w:World) (sent:Nat→Addr):Prop where
 env:Env w sent
 blk:∀ c,101≤c→c≤117→∃ s t,w.heap[(sent c).block]?=some (.cells s t (0,0))
 ne:∀ c d,101≤c→c≤117→101≤d→d≤117→c≠d→sent c≠sent d
theorem Sents.below {w w':World}{sent:Nat→Addr}(h:Sents w sent)(hb:Below w.heap.size w w'):Sents w' sent :=
 ⟨h.env.below hb,fun c h1 h2=>by
  obtain⟨s,t,e⟩:=h.blk c h1 h2;exact⟨s,t,(hb.block _ (lt_of_block e)).trans e⟩,h.ne⟩
theorem starErr : "*" ++ "errors.errorString" = "*errors.errorString" := by decide
theorem nameErr (u : TypeId) (h : Tryz.prog.typeName? 3 u = some "*errors.errorString") : u = 205 :=
 typeName_ptr_named (nm := "errors.errorString") (by rw [starErr]; kernel_rfl) (by kernel_rfl) (by decide) u (by rw [starErr]; exact h)
theorem cellsErr:Tryz.prog.cellsOf 228=1:=by kernel_rfl
theorem cellsStr:Tryz.prog.cellsOf 9=1:=by kernel_rfl
def SentAt (W:World) (g:Nat) (text:List UInt8) (a:Addr):Prop :=
 W.cell? ⟨g,0,none⟩=some (.iface 205 (.pointer (some a)))∧W.cell? a=some (.string (bs text))∧∃ c t,W.heap[a.block]?=some (.cells c t (0,0))
theorem sent_laid {n:String}{text:List UInt8}{r:List (String×DataW Unit)}{W:World}{g:Nat}
  (h : laidMet Tryz.prog ((n, .iface "*errors.errorString" (.ptr (.agg [.lit (.string text)]))) :: r) W)
  (hg:Tryz.prog.globalNamed n=some g) (ht:(Tryz.prog.globals[g]?).map (·.type)=some 25):∃ a,SentAt W g text a:=by
 obtain⟨ps,⟨g0,t0,cs0,f0,p0,q0,hg0,ht0,hv0,hd0,_,e0⟩,_,hrows⟩:=h;obtain rfl:=Option.some.inj (hg.symm.trans hg0);obtain rfl:=Option.some.inj (ht.symm.trans ht0);subst e0;obtain⟨l0⟩:=cs0
 have ok0:∀ u v,l0=[.iface u v]→Value.okWide Tryz.prog W .any 0 u v:=fun u v e=>by
  subst e;exact (hrows g 0 (by simp [MemPlace.row])).2 u v (by simpa using World.var?_cell hg0 hv0 0)
 obtain⟨a0,s0,rfl,hc0,hs0,hz0,rfl⟩:=errorString_of_trod Tryz.underlying25 nameErr Tryz.underlying205 Tryz.underlying228 rfl rfl Tryz.underlying9 cellsErr cellsStr hd0 ok0;obtain⟨c0,t0,hb0⟩:=(hrows a0.block a0.off (by simp [MemPlace.row])).1
 refine ⟨a0,by simpa using World.var?_cell hg0 hv0 0,?_,c0,t0,hb0⟩
 rw[hc0,← hs0,bs_of]
theorem sents_laid (W:World):∀ L:List (Nat×Nat×String×List UInt8),(∀ e∈L,Tryz.prog.globalNamed e.2.2.1=some e.2.1∧(Tryz.prog.globals[e.2.1]?).map (·.type)=some 25) →
  laidMet Tryz.prog (L.map toLaid) W→∀ e∈L,∃ a,SentAt W e.2.1 e.2.2.2 a
 | [],_,_,e,he=>by cases he
 | x :: L,hL,h,e,he=>by
  cases he with
  | head=>exact sent_laid h (hL x (.head _)).1 (hL x (.head _)).2
  | tail _ he=>exact sents_laid W L (fun y hy=>hL y (.tail _ hy)) (laidMet.tail h) e he
theorem sentRows_ok:(sentRows.all fun e=>decide (Tryz.prog.globalNamed e.2.2.1=some e.2.1)&&decide ((Tryz.prog.globals[e.2.1]?).map (·.type)=some 25))=true:=by kernel_rfl
theorem sentRows_vars:errVars=sentRows.map fun e=>(e.1,e.2.1):=rfl
theorem sentRows_text:∀ e∈sentRows,e.2.2.2=sentText e.1:=by decide +kernel
theorem sentRows_codes:∀ p∈errVars,∀ q∈errVars,p.1=q.1→p.2=q.2:=by decide +kernel
theorem sentText_ne:∀ i:Fin 17,∀ j:Fin 17,sentText (101+i.val)=sentText (101+j.val)→i=j:=by decide +kernel
theorem errVars_has:∀ i:Fin 17,∃ g,(101+i.val,g)∈errVars:=by
 intro i
 have h:(errVars.map (·.1)).contains (101+i.val)=true:=by
  revert i
  decide +kernel
 rw[List.contains_iff_mem,List.mem_map] at h;obtain⟨p,hp,e⟩:=h;exact⟨p.2,e ▸ hp⟩
theorem sents_of {W:World}(h:laidMet Tryz.prog (sentRows.map toLaid) W):∃ sent,Sents W sent:=by
 have hall:∀ c g,(c,g)∈errVars→∃ a,SentAt W g (sentText c) a:=by
  intro c g hcg;rw[sentRows_vars,List.mem_map] at hcg;obtain⟨e,he,h1⟩:=hcg;have hok:=List.all_eq_true.1 sentRows_ok;obtain⟨a,ha⟩:=sents_laid W sentRows (fun y hy=>by have:=hok y hy;simpa using this) h e he
  have h2:e.1=c:=congrArg Prod.fst h1;have h3:e.2.1=g:=congrArg Prod.snd h1;rw[sentRows_text e he,h2,h3] at ha;exact⟨a,ha⟩
 have hch:∀ c,∃ a,∀ g,(c,g)∈errVars→SentAt W g (sentText c) a:=by
  intro c
  by_cases hc:∃ g,(c,g)∈errVars
  ·obtain⟨g,hg⟩:=hc;obtain⟨a,ha⟩:=hall c g hg;refine ⟨a,fun g' hg'=>?_⟩
   obtain rfl:g=g':=sentRows_codes _ hg _ hg' rfl;exact ha
  ·exact⟨⟨0,0,none⟩,fun g hg=>absurd ⟨g,hg⟩ hc⟩
 refine ⟨fun c=>Classical.choose (hch c),fun c g hg=>(Classical.choose_spec (hch c) g hg).1,fun c h1 h2=>?_,fun c d h1 h2 h3 h4 hne e=>?_⟩
 ·obtain⟨g,hg⟩:=errVars_has ⟨c - 101,by omega⟩
  rw[show 101+(⟨c - 101,by omega⟩:Fin 17).val=c from by simp only[];omega] at hg
  exact (Classical.choose_spec (hch c) g hg).2.2
 ·obtain⟨g,hg⟩:=errVars_has ⟨c - 101,by omega⟩
  rw[show 101+(⟨c - 101,by omega⟩:Fin 17).val=c from by simp only[];omega] at hg
  obtain⟨g',hg'⟩:=errVars_has ⟨d - 101,by omega⟩
  rw[show 101+(⟨d - 101,by omega⟩:Fin 17).val=d from by simp only[];omega] at hg'
  have e1:=(Classical.choose_spec (hch c) g hg).2.1;have e2:=(Classical.choose_spec (hch d) g' hg').2.1;rw[show Classical.choose (hch c)=Classical.choose (hch d) from e] at e1
  have e3:=e1.symm.trans e2;simp only[Option.some.injEq,Value.string.injEq] at e3;have e4:=bs_inj e3
  have e5:=sentText_ne ⟨c - 101,by omega⟩ ⟨d - 101,by omega⟩ (by
   rw[show 101+(⟨c - 101,by omega⟩:Fin 17).val=c from by simp only[];omega,show 101+(⟨d - 101,by omega⟩:Fin 17).val=d from by simp only[];omega]
   exact e4)
  have e6:=congrArg Fin.val e5;simp only[] at e6;omega
theorem sents_row {l:List (String×DataW Unit)}{W:World}(hl:l=sentRows.map toLaid)(h:laidMetH Tryz.prog l W):∃ sent,Sents W sent:=by
 subst hl;rw[MakeChecks.laidMetH_plain _ _ _ (by decide +kernel)] at h
 exact sents_of h
end Go.Proofs.YtbplbehhlbkklaaGreatDoor
namespace Go.Proofs.YtbplbehhlbkklaaGreatDoor
set_option maxRecDepth 100000
open Go Go.RowKit
theorem compErr:(Tryz.prog.info? 205).map (·.comparable)=some true:=by kernel_rfl
theorem sizeErr:(Tryz.prog.info? 228).map (·.size)=some 1:=by kernel_rfl
theorem seeAlike_same (a:Addr)(w:World) :
  Calls Tryz.prog 122 #[.iface 205 (.pointer (some a)),.iface 205 (.pointer (some a))] w fun e w'=>e = .returned (.bool true)∧w=w':=by
 obtain⟨i,hi,hcmp⟩:=Option.map_eq_some_iff.1 compErr;obtain⟨j,hj,_⟩:=Option.map_eq_some_iff.1 sizeErr;go_enter Tryz.func122,Tryz.ntmps122
 go_wp2
 rw[run_eql_iface_ptr_same w a Tryz.underlying25 Tryz.underlying205 hi hcmp hj];go_wp2
 go_ret;exact⟨rfl,rfl⟩
theorem seeAlike_other (a b:Addr)(ca cb:Array Value)(ta tb:TypeId)(w:World)(hne:a≠b)(ha:w.heap[a.block]?=some (.cells ca ta (0,0)))(hb:w.heap[b.block]?=some (.cells cb tb (0,0))) :
  Calls Tryz.prog 122 #[.iface 205 (.pointer (some a)),.iface 205 (.pointer (some b))] w fun e w'=>e = .returned (.bool false)∧w=w':=by
 obtain⟨i,hi,hcmp⟩:=Option.map_eq_some_iff.1 compErr;obtain⟨j,hj,hjs⟩:=Option.map_eq_some_iff.1 sizeErr;go_enter Tryz.func122,Tryz.ntmps122
 go_wp2
 rw[run_eql_iface_ptr_other w Tryz.underlying25 Tryz.underlying205 hi hcmp hj (by rw[hjs];decide) hne ha hb]
 go_wp2
 go_ret;exact⟨rfl,rfl⟩
def sentV (sent:Nat→Addr) (c:Nat):Value:=.iface 205 (.pointer (some (sent c)))
def sentVals (sent:Nat→Addr):List Value:=[sentV sent 101,sentV sent 102,sentV sent 103,sentV sent 104,sentV sent 105,sentV sent 106,sentV sent 107,sentV sent 108,sentV sent 109,sentV sent 110,sentV sent 111,sentV sent 112,sentV sent 113,sentV sent 114,sentV sent 115,sentV sent 116,sentV sent 117]
theorem seeSentinels_any (w:World)(sent:Nat→Addr)(hE:Env w sent) :
  Calls Tryz.prog 121 #[] w fun e w'=>e = .returned (.slice (some ⟨w.heap.size,0,none⟩) 17 17)∧Blk w' w.heap.size (sentVals sent)∧Below w.heap.size w w':=by
 have h1:=hE 101 _ (by decide:(101,4)∈errVars)
 have h2:=hE 102 _ (by decide:(102,0)∈errVars)
 have h3:=hE 103 _ (by decide:(103,7)∈errVars)
 have h4:=hE 104 _ (by decide:(104,10)∈errVars)
 have h5:=hE 105 _ (by decide:(105,11)∈errVars)
 have h6:=hE 106 _ (by decide:(106,8)∈errVars)
 have h7:=hE 107 _ (by decide:(107,5)∈errVars)
 have h8:=hE 108 _ (by decide:(108,2)∈errVars)
 have h9:=hE 109 _ (by decide:(109,1)∈errVars)
 have h10:=hE 110 _ (by decide:(110,6)∈errVars)
 have h11:=hE 111 _ (by decide:(111,3)∈errVars)
 have h12:=hE 112 _ (by decide:(112,12)∈errVars)
 have h13:=hE 113 _ (by decide:(113,13)∈errVars)
 have h14:=hE 114 _ (by decide:(114,14)∈errVars)
 have h15:=hE 115 _ (by decide:(115,15)∈errVars)
 have h16:=hE 116 _ (by decide:(116,16)∈errVars)
 have h17:=hE 117 _ (by decide:(117,17)∈errVars)
 go_enter Tryz.func121,Tryz.ntmps121
 go_wp2
 go_ret;exact⟨rfl,Blk.new w (sentVals sent) _,(Below.refl _ _).alloc (Nat.le_refl _) _⟩
theorem sentVals_get (sent:Nat→Addr)(k:Nat)(h:k<17):(sentVals sent)[k]?=some (.iface 205 (.pointer (some (sent (101+k))))):=by
 have e:sentVals sent=(List.range 17).map (fun k=>sentV sent (101+k)):=rfl
 rw[e,List.getElem?_map,List.getElem?_range h];rfl
theorem seeSentinel_any (w:World)(sent:Nat→Addr)(hS:Sents w sent)(c:Nat)(h1:101≤c)(h2:c≤117) :
  Calls Tryz.prog 90 #[.iface 205 (.pointer (some (sent c)))] w fun e w'=>e = .returned (.int .i64 c)∧Below w.heap.size w w':=by
 go_enter Tryz.func90,Tryz.ntmps90
 go_wp2_with fail
 refine (seeSentinels_any w sent hS.env).mono ?_;rintro e w1 ⟨rfl,hB,hb⟩;have hS1:=hS.below hb;clear hS;obtain⟨q,hq⟩:∃ q,w.heap.size=q:=⟨_,rfl⟩;rw[hq] at hB hb ⊢;go_wp2_with fail
 go_loopg [4] (17) (fun m x wr=>∃ k:Nat,m=17 - k∧k≤c - 101∧x = .int .i64 k∧Blk wr q (sentVals sent)∧Sents wr sent∧Below q w wr)
 case atStart=>exact⟨0,rfl,Nat.zero_le _,rfl,hB,hS1,hb⟩
 case round =>
  clear hB hS1 hb;obtain⟨k,rfl,hk,rfl,hB,hS,hb⟩:=hrel;have hcell:=hB.cell k (sentVals_get sent k (by omega))
  by_cases hlt:k=c - 101
  ·obtain rfl:c=101+k:=by omega
   clear hlt;go_wp2_with fail
   refine (seeAlike_same _ _).mono ?_;rintro e w3 ⟨rfl,rfl⟩;go_wp2_with fail
   go_ret;exact⟨by simp,hq ▸ hb⟩
  ·obtain⟨ca,ta,ea⟩:=hS.blk c h1 h2;obtain⟨cb,tb,eb⟩:=hS.blk (101+k) (by omega) (by omega)
   have hne:=hS.ne c (101+k) h1 h2 (by omega) (by omega) (by omega)
   go_wp2_with fail
   refine (seeAlike_other _ _ ca cb ta tb _ hne ea eb).mono ?_;rintro e w3 ⟨rfl,rfl⟩;go_wp2_with fail
   go_roundg (17 - (k+1))
   case measure=>omega
   case rel=>exact⟨k+1,rfl,by omega,by go_num,hB,hS,hb⟩
def faultV (c:Int) (l:Value):Value:=.agg #[.int .i64 c,l]
theorem results_blk1 {P:Program}{fn:Func}{p:Tmp}{ty:TypeId}(h:fn.results=#[.cell p ty])(tmps:Array Value)(w:World)(g:Nat)(cs:List Value)(d:TypeDesc)
  (hp:tmps.getD p undef = .pointer (some ⟨g,0,none⟩)) (hg:Blk w g cs) (hu:P.underlying ty=some d) (hd:(match d with | .struct _ | .array _ _=>true | _=>false)=true) (hi:(P.info? ty).map (·.size)=some cs.length) :
  (results fn tmps).run P w = .ok (.agg cs.toArray) w:=by
 obtain⟨t,hg⟩:=hg;exact results_cell_row h tmps w g t cs.toArray (0,0) d hp hg hu hd (by simpa using hi)
theorem asAt_no (x:Addr)(w:World):(Instr.typeAssert (.iface 205 (.pointer (some x))) 25 51 true).run Tryz.prog w = .ok (.tuple #[.pointer none,.bool false]) w:=by kernel_rfl
theorem asAt_yes (x:Addr)(w:World):(Instr.typeAssert (.iface 51 (.pointer (some x))) 25 51 true).run Tryz.prog w = .ok (.tuple #[.pointer (some x),.bool true]) w:=by kernel_rfl
theorem rBare_any (c:Int)(w:World) :
  Calls Tryz.prog 43 #[.int .i64 c] w fun e w'=>e = .returned (faultV c (.slice none 0 0))∧Below w.heap.size w w':=by
 go_enter Tryz.func43,Tryz.ntmps43
 go_wp2
 refine bodyPost_ret (results_blk1 (p:=2) (g:=w.heap.size) (cs:=[.int .i64 c,.slice none 0 0]) rfl _ _ _ rfl (Blk.newAt _ _ rfl) Tryz.underlying30 rfl (by kernel_rfl)) rfl ?_
 exact⟨rfl,(Below.refl _ _).alloc (Nat.le_refl _) _⟩
theorem seefault_sent (w:World)(sent:Nat→Addr)(hS:Sents w sent)(c:Nat)(h1:101≤c)(h2:c≤117)(n:Nat)(hn:1≤n)(hn9:n≤9) :
  Calls Tryz.prog 56 #[.iface 205 (.pointer (some (sent c))),.int .i64 n] w fun e w'=>e = .returned (faultV c (.slice none 0 0))∧Below w.heap.size w w':=by
 have hA:=asAt_no (sent c);have hn0:((n:Int)==0)=false:=by rw[beq_eq_false_iff_ne];omega
 have hb0:=(Below.refl w.heap.size w).alloc (Nat.le_refl _) (Obj.cells #[Value.int IntKind.i64 0,Value.slice none 0 0] 30);have hS1:=hS.below hb0;have B0:=Blk.newAt (w:=w) [Value.int IntKind.i64 0,Value.slice none 0 0] 30 rfl;go_enter Tryz.func56,Tryz.ntmps56
 go_wp2_with fail
 refine (seeSentinel_any _ sent hS1 c h1 h2).mono ?_;rintro e w1 ⟨rfl,hb1⟩;have B1:=B0.below hb1;have hB1:=bNext hb0 hb1;clear hS1 B0 hb0 hb1;go_wp2_with fail
 refine (rBare_any _ _).mono ?_;rintro e w2 ⟨rfl,hb2⟩;have B2:=B1.below hb2;have hB2:=bNext hB1 hb2;have c0:=B2.cell 0 rfl;have c1:=B2.cell 1 rfl;have f0:=B2.free 0;have f1:=B2.free 1;have hK:=(Kept.ofBelow hB2:Kept Nowhere w w2);clear B1 hB1 hb2;unfold faultV;go_wp2_with fail
 (try simp only[Exit.inBlock,Exit.then])
 refine bodyPost_ret (results_blk1 (p:=4) (g:=w.heap.size) (cs:=[.int .i64 c,.slice none 0 0]) rfl _ _ _ rfl ?_ Tryz.underlying30 rfl (by kernel_rfl)) rfl ⟨rfl,?_⟩
 ·apply Blk.as
  repeat (first | (with_reducible assumption) | ((with_reducible apply Blk.newAt);(focus (simp;done))) | (with_reducible apply Blk.set) | ((with_reducible apply Blk.other);(case hp=>first | omega | (simp;omega) | simp)) | (with_reducible apply Blk.alloc) | (with_reducible apply Blk.drewN) | (with_reducible apply Blk.drew))
  rfl
 ·apply Kept.toBelow
  repeat (first | (with_reducible assumption) | (with_reducible exact Kept.refl _ _) | ((with_reducible refine Kept.setCell ?_ ?_ _);rotate_left;(focus (first | exact fun _=>rfl | exact fun h=>absurd h (by first | omega | (simp;omega) | simp)))) | (with_reducible refine Kept.alloc ?_ _) | (with_reducible refine Kept.drewN ?_ _) | (with_reducible refine Kept.drew ?_))
end Go.Proofs.YtbplbehhlbkklaaGreatDoor
namespace Go.Proofs.YtbplbehhlbkklaaGreatDoor
set_option maxRecDepth 100000
open Go Go.RowKit
theorem bDrw {B:Nat}{a w:World}(h:Below B a w):Below B a w.drew:=⟨h.os,h.tape,h.output,h.size,h.block⟩
theorem rAround_any (c p:Int)(hc:(c==0)=false)(w:World) :
  Calls Tryz.prog 89 #[faultV c (.slice none 0 0),.int .i64 p] w fun e w'=>∃ b,e = .returned (faultV c (.slice (some ⟨b,0,none⟩) 1 1))∧w'.cell? ⟨b,0,none⟩=some (.int .i64 p)∧w.heap.size≤b∧Below w.heap.size w w':=by
 unfold faultV;go_enter Tryz.func89,Tryz.ntmps89
 go_wp2
 go_region
 go_wp2_with fail
 (try simp only[Exit.inBlock,Exit.then])
 refine bodyPost_ret (results_blk1 (p:=4) (g:=w.heap.size+1) (cs:=[.int .i64 c,.slice (some ⟨w.heap.size+1+1,0,none⟩) 1 1]) rfl _ _ _ rfl ?_ Tryz.underlying30 rfl (by kernel_rfl)) rfl ⟨w.heap.size+1+1,rfl,?_,by omega,?_⟩
 ·apply Blk.as
  repeat (first | (with_reducible assumption) | ((with_reducible apply Blk.newAt);(focus (simp;done))) | (with_reducible apply Blk.set) | ((with_reducible apply Blk.other);(case hp=>first | omega | (simp;omega) | simp)) | (with_reducible apply Blk.alloc) | (with_reducible apply Blk.drewN) | (with_reducible apply Blk.drew))
  rfl
 ·refine Blk.cell (cs:=[.int .i64 p]) ?_ 0 rfl
  repeat (first | (with_reducible assumption) | ((with_reducible apply Blk.newAt);(focus (simp;done))) | (with_reducible apply Blk.set) | ((with_reducible apply Blk.other);(case hp=>first | omega | (simp;omega) | simp)) | (with_reducible apply Blk.alloc) | (with_reducible apply Blk.drewN) | (with_reducible apply Blk.drew))
 ·apply Kept.toBelow
  repeat (first | (with_reducible assumption) | (with_reducible exact Kept.refl _ _) | ((with_reducible refine Kept.setCell ?_ ?_ _);rotate_left;(focus (first | exact fun _=>rfl | exact fun h=>absurd h (by first | omega | (simp;omega) | simp)))) | (with_reducible refine Kept.alloc ?_ _) | (with_reducible refine Kept.drewN ?_ _) | (with_reducible refine Kept.drew ?_))
theorem seefault_at (w:World)(sent:Nat→Addr)(hS:Sents w sent)(c:Nat)(h1:101≤c)(h2:c≤117)(p:Int)(b:Nat)(hE:ErrAt w b sent c p) :
  Calls Tryz.prog 56 #[.iface 51 (.pointer (some ⟨b,0,none⟩)),.int .i64 9] w fun e w'=>∃ g,e = .returned (faultV c (.slice (some ⟨g,0,none⟩) 1 1))∧w'.cell? ⟨g,0,none⟩=some (.int .i64 p)∧w.heap.size≤g∧Below w.heap.size w w':=by
 have hA:=asAt_yes ⟨b,0,none⟩;have hb0:=(Below.refl w.heap.size w).alloc (Nat.le_refl _) (Obj.cells #[Value.int IntKind.i64 0,Value.slice none 0 0] 30);have hS1:=hS.below hb0;unfold ErrAt at hE;have E0:=hE.below hb0;have d0:=E0.cell 0 rfl;have d1:=E0.cell 1 rfl;have B0:=Blk.newAt (w:=w) [Value.int IntKind.i64 0,Value.slice none 0 0] 30 rfl;have hc:((c:Int)==0)=false:=by rw[beq_eq_false_iff_ne];omega
 go_enter Tryz.func56,Tryz.ntmps56
 go_wp2_with fail
 refine (seefault_sent _ sent hS1 c h1 h2 8 (by decide) (by decide)).mono ?_
 rintro e w1 ⟨rfl,hb1⟩;have E1:=E0.below hb1;have B1:=B0.below hb1;have hB1:=bNext hb0 hb1;have d10:=E1.cell 0 rfl;clear hS1 B0 hb0 hb1 E0 d0 d1 E1;unfold faultV;go_wp2_with fail
 refine wp_world (fun w3=>Blk w3 w1.heap.size [.int .i64 c,.slice none 0 0]∧Blk w3 w.heap.size [.int .i64 0,.slice none 0 0]∧w3.cell? ⟨b,0,none⟩=some (.int .i64 p)∧Below w.heap.size w w3)
  ⟨Blk.newAt _ _ rfl,B1.alloc _,bSome ((Below.refl _ _).alloc (Nat.le_refl _) _) d10,bNext hB1 ((Below.refl _ _).alloc (Nat.le_refl _) _)⟩ ?_
 have hq:w.heap.size<w1.heap.size:=B1.lt;generalize w1.heap.size=q at *;intro w3 ⟨F3,B3,d3,hB3⟩;clear B1 hB1 d10;have c0:=F3.cell 0 rfl;have c1:=F3.cell 1 rfl;have e0:=B3.cell 0 rfl;have e1:=B3.cell 1 rfl;have f0:=B3.free 0;have f1:=B3.free 1;have n1:¬ w.heap.size=q:=by omega
 have n2:¬ w.heap.size=b:=by have:b<w.heap.size:=Blk.lt hE;omega
 go_region_held3 (fun w'=>w'.cell? ⟨b,0,none⟩=some (.int .i64 p)∧w'.cell? ⟨q,0,none⟩=some (.int .i64 c)∧w'.cell? ⟨q,1,none⟩=some (.slice none 0 0)) (first | exact⟨bSome hb5 (by simp [*]),bSome hb5 (by simp [*]),bSome hb5 (by simp [*])⟩ | exact⟨(World.cell?_setCell_other _ _ _ _ (by simp [*])).trans ((World.cell?_setCell_other _ _ _ _ (by simp [*])).trans (bSome hb5 (by simp [*]))),(World.cell?_setCell_other _ _ _ _ (by simp [*])).trans ((World.cell?_setCell_other _ _ _ _ (by simp [*])).trans (bSome hb5 (by simp [*]))),(World.cell?_setCell_other _ _ _ _ (by simp [*])).trans ((World.cell?_setCell_other _ _ _ _ (by simp [*])).trans (bSome hb5 (by simp [*])))⟩ | go_keep)
  (first
   | (go_at_call 89;refine (rAround_any _ _ hc _).mono ?_;unfold faultV;rintro e w5 ⟨g,rfl,hg,hg2,hb5⟩;have T0:=bSome hb5 (p:=⟨w.heap.size,0,none⟩) (v:=.int .i64 0) (by simp [*]);have T0f:=bFree hb5 (p:=⟨w.heap.size,0,none⟩) (v:=.int .i64 0) (by simp [*]) (by simp [*]);have T3:=bSome hb5 (p:=⟨w.heap.size,1,none⟩) (v:=.slice none 0 0) (by simp [*]);have T3f:=bFree hb5 (p:=⟨w.heap.size,1,none⟩) (v:=.slice none 0 0) (by simp [*]) (by simp [*])))
 have hB5:Below w.heap.size w w5:=bNext (bDrw hB3) hb5;have B5:=B3.drew.below hb5;have hg2':w3.heap.size≤g:=hg2;have hg3:¬ w.heap.size=g:=by have:=B3.lt;omega
 have hg4:w.heap.size≤g:=Nat.le_trans hB3.size hg2;have hK:=(Kept.ofBelow hB5:Kept Nowhere w w5);clear hB3 hb5 B3 hB5;go_wp2_with fail
 (try simp only[Exit.inBlock,Exit.then])
 refine bodyPost_ret (results_blk1 (p:=4) (g:=w.heap.size) (cs:=[.int .i64 c,.slice (some ⟨g,0,none⟩) 1 1]) rfl _ _ _ rfl ?_ Tryz.underlying30 rfl (by kernel_rfl)) rfl ⟨g,rfl,?_,hg4,?_⟩
 ·apply Blk.as
  repeat (first | (with_reducible assumption) | ((with_reducible apply Blk.newAt);(focus (simp;done))) | (with_reducible apply Blk.set) | ((with_reducible apply Blk.other);(case hp=>first | omega | (simp;omega) | simp)) | (with_reducible apply Blk.alloc) | (with_reducible apply Blk.drewN) | (with_reducible apply Blk.drew))
  rfl
 ·refine (World.cell?_setCell_other _ _ _ _ (by simp)).trans ((World.cell?_setCell_other _ _ _ _ (by simp)).trans hg)
 ·apply Kept.toBelow
  repeat (first | (with_reducible assumption) | (with_reducible exact Kept.refl _ _) | ((with_reducible refine Kept.setCell ?_ ?_ _);rotate_left;(focus (first | exact fun _=>rfl | exact fun h=>absurd h (by first | omega | (simp;omega) | simp)))) | (with_reducible refine Kept.alloc ?_ _) | (with_reducible refine Kept.drewN ?_ _) | (with_reducible refine Kept.drew ?_))
theorem seeFault_at (w:World)(sent:Nat→Addr)(hS:Sents w sent)(c:Nat)(h1:101≤c)(h2:c≤117)(p:Int)(b:Nat)(hE:ErrAt w b sent c p) :
  Calls Tryz.prog 25 #[.iface 51 (.pointer (some ⟨b,0,none⟩))] w fun e w'=>∃ g,e = .returned (faultV c (.slice (some ⟨g,0,none⟩) 1 1))∧w'.cell? ⟨g,0,none⟩=some (.int .i64 p)∧w.heap.size≤g∧Below w.heap.size w w':=by
 have hb0:=(Below.refl w.heap.size w).alloc (Nat.le_refl _) (Obj.cells #[Value.int IntKind.i64 0,Value.slice none 0 0] 30);have hS1:=hS.below hb0;have E0:ErrAt _ b sent c p:=Blk.below hE hb0;go_enter Tryz.func25,Tryz.ntmps25
 go_wp2_with fail
 refine (seefault_at _ sent hS1 c h1 h2 p b E0).mono ?_;rintro e w2 ⟨g,rfl,hg,hg2,hb2⟩;have B2:=(Blk.newAt (w:=w) [Value.int IntKind.i64 0,Value.slice none 0 0] 30 rfl).below hb2;have hB2:=bNext hb0 hb2;have c0:=B2.cell 0 rfl;have c1:=B2.cell 1 rfl;have f0:=B2.free 0;have f1:=B2.free 1;have hK:=(Kept.ofBelow hB2:Kept Nowhere w w2);have hg3:g≠w.heap.size:=by simp at hg2;omega
 have hg4:=Nat.le_trans hb0.size hg2;clear hb2 hS1 E0 hb0;unfold faultV;go_wp2_with fail
 (try simp only[Exit.inBlock,Exit.then])
 refine bodyPost_ret (results_blk1 (p:=2) (g:=w.heap.size) (cs:=[.int .i64 c,.slice (some ⟨g,0,none⟩) 1 1]) rfl _ _ _ rfl ?_ Tryz.underlying30 rfl (by kernel_rfl)) rfl ⟨g,rfl,?_,hg4,?_⟩
 ·apply Blk.as
  repeat (first | (with_reducible assumption) | ((with_reducible apply Blk.newAt);(focus (simp;done))) | (with_reducible apply Blk.set) | ((with_reducible apply Blk.other);(case hp=>first | omega | (simp;omega) | simp)) | (with_reducible apply Blk.alloc) | (with_reducible apply Blk.drewN) | (with_reducible apply Blk.drew))
  rfl
 ·refine (World.cell?_setCell_other _ _ _ _ (by simp)).trans ((World.cell?_setCell_other _ _ _ _ (by simp)).trans hg)
 ·apply Kept.toBelow
  repeat (first | (with_reducible assumption) | (with_reducible exact Kept.refl _ _) | ((with_reducible refine Kept.setCell ?_ ?_ _);rotate_left;(focus (first | exact fun _=>rfl | exact fun h=>absurd h (by first | omega | (simp;omega) | simp)))) | (with_reducible refine Kept.alloc ?_ _) | (with_reducible refine Kept.drewN ?_ _) | (with_reducible refine Kept.drew ?_))
end Go.Proofs.YtbplbehhlbkklaaGreatDoor
namespace Go.Proofs.YtbplbehhlbkklaaGreatDoor
set_option maxRecDepth 100000
open Go Go.RowKit
theorem rPlaced_any (c p:Int)(hc:(c==0)=false)(w:World) :
  Calls Tryz.prog 12 #[.int .i64 c,.int .i64 p] w fun e w'=>∃ b,e = .returned (faultV c (.slice (some ⟨b,0,none⟩) 1 1))∧w'.cell? ⟨b,0,none⟩=some (.int .i64 p)∧w.heap.size≤b∧Below w.heap.size w w':=by
 unfold faultV;go_enter Tryz.func12,Tryz.ntmps12
 go_wp2
 refine bodyPost_ret (results_blk1 (p:=4) (g:=w.heap.size) (cs:=[.int .i64 c,.slice (some ⟨w.heap.size+1,0,none⟩) 1 1]) rfl _ _ _ rfl ?_ Tryz.underlying30 rfl (by kernel_rfl)) rfl ⟨w.heap.size+1,rfl,?_,by omega,?_⟩
 ·apply Blk.as
  repeat (first | (with_reducible assumption) | ((with_reducible apply Blk.newAt);(focus (simp;done))) | (with_reducible apply Blk.set) | ((with_reducible apply Blk.other);(case hp=>first | omega | (simp;omega) | simp)) | (with_reducible apply Blk.alloc) | (with_reducible apply Blk.drewN) | (with_reducible apply Blk.drew))
  rfl
 ·refine Blk.cell (cs:=[.int .i64 p]) ?_ 0 rfl
  repeat (first | (with_reducible assumption) | ((with_reducible apply Blk.newAt);(focus (simp;done))) | (with_reducible apply Blk.set) | ((with_reducible apply Blk.other);(case hp=>first | omega | (simp;omega) | simp)) | (with_reducible apply Blk.alloc) | (with_reducible apply Blk.drewN) | (with_reducible apply Blk.drew))
 ·apply Kept.toBelow
  repeat (first | (with_reducible assumption) | (with_reducible exact Kept.refl _ _) | ((with_reducible refine Kept.setCell ?_ ?_ _);rotate_left;(focus (first | exact fun _=>rfl | exact fun h=>absurd h (by first | omega | (simp;omega) | simp)))) | (with_reducible refine Kept.alloc ?_ _) | (with_reducible refine Kept.drewN ?_ _) | (with_reducible refine Kept.drew ?_))
theorem rSameInts_one (a b:Nat)(p q:Int)(w:World)(ha:w.cell? ⟨a,0,none⟩=some (.int .i64 p))(hb:w.cell? ⟨b,0,none⟩=some (.int .i64 q)) :
  Calls Tryz.prog 57 #[.slice (some ⟨a,0,none⟩) 1 1,.slice (some ⟨b,0,none⟩) 1 1] w fun e w'=>e = .returned (.bool (p==q))∧Below w.heap.size w w':=by
 go_enter Tryz.func57,Tryz.ntmps57
 go_wp2_with fail
 go_loopg [5] (2) (fun m x wr=>∃ k:Nat,m=2 - k∧k≤1∧x = .int .i64 k∧Hid (k=1→p=q)∧wr.cell? ⟨a,0,none⟩=some (.int .i64 p)∧wr.cell? ⟨b,0,none⟩=some (.int .i64 q)∧Below w.heap.size w wr)
 case atStart=>exact⟨0,rfl,by omega,rfl,Lib.hid (fun h=>by omega),ha,hb,Below.refl _ _⟩
 case round =>
  clear ha hb;obtain⟨k,rfl,hk,rfl,hpq,ha,hb,hB⟩:=hrel
  by_cases h0:k=0
  ·subst h0
   by_cases he:p=q
   ·have he':(p==q)=true:=by rw[beq_iff_eq];exact he
    have HE:=Lib.hid he;clear he hpq;go_wp2_with fail
    go_quiet (fail)
    go_wp2_with fail
    go_roundg (2 - 1)
    case measure=>omega
    case rel=>exact⟨1,rfl,by omega,rfl,Lib.hid (fun _=>HE.out),ha,hb,bDrewN hB _⟩
   ·have he':(p==q)=false:=by rw[beq_eq_false_iff_ne];exact he
    clear he hpq;go_wp2_with fail
    go_quiet (fail)
    go_wp2_with fail
    go_ret;exact⟨by first | rfl | (rw[he'];rfl),bDrewN hB _⟩
  ·obtain rfl:k=1:=by omega
   have he':(p==q)=true:=by rw[beq_iff_eq];exact hpq.out rfl
   go_wp2_with fail
   go_ret;exact⟨by first | rfl | (rw[he'];rfl),hB⟩
theorem rSameFault_one (c d:Int)(a b:Nat)(p q:Int)(w:World)(ha:w.cell? ⟨a,0,none⟩=some (.int .i64 p))(hb:w.cell? ⟨b,0,none⟩=some (.int .i64 q)) :
  Calls Tryz.prog 26 #[faultV c (.slice (some ⟨a,0,none⟩) 1 1),faultV d (.slice (some ⟨b,0,none⟩) 1 1)] w fun e w'=>e = .returned (.bool ((c==d)&&(p==q)))∧Below w.heap.size w w':=by
 unfold faultV;go_enter Tryz.func26,Tryz.ntmps26
 go_wp2_with fail
 have hw0:=((Below.refl w.heap.size w).alloc (Nat.le_refl _) (Obj.cells #[Value.int IntKind.i64 c,Value.slice (some ⟨a,0,none⟩) 1 1] 30));have hw1:=bNext hw0 ((Below.refl _ _).alloc (Nat.le_refl _) (Obj.cells #[Value.int IntKind.i64 d,Value.slice (some ⟨b,0,none⟩) 1 1] 30));refine (rSameInts_one a b p q _ (bSome hw1 ha) (bSome hw1 hb)).mono ?_;rintro e w2 ⟨rfl,hb2⟩;have B0:=((Blk.newAt (w:=w) [Value.int IntKind.i64 c,Value.slice (some ⟨a,0,none⟩) 1 1] 30 rfl).alloc (Obj.cells #[Value.int IntKind.i64 d,Value.slice (some ⟨b,0,none⟩) 1 1] 30)).below hb2;have B1:=(Blk.newAt (w:=w.alloc (Obj.cells #[Value.int IntKind.i64 c,Value.slice (some ⟨a,0,none⟩) 1 1] 30)) (b:=w.heap.size+1) [Value.int IntKind.i64 d,Value.slice (some ⟨b,0,none⟩) 1 1] 30 (by simp)).below hb2
 have c0:=B0.cell 0 rfl;have c1:=B1.cell 0 rfl;have hB:=bNext hw1 hb2;clear hw0 hw1 hb2 B0 B1 ha hb
 cases hcd:(c==d) with
 | false =>
  go_wp2_with fail
  go_ret;exact⟨by cases hpq:(p==q) <;> simp [hcd],hB⟩
 | true =>
  go_wp2_with fail
  go_ret;exact⟨by cases hpq:(p==q) <;> simp [hcd],hB⟩
theorem seeSame_at (w:World)(sent:Nat→Addr)(hS:Sents w sent)(c:Nat)(h1:101≤c)(h2:c≤117)(p:Int)(b:Nat)(hE:ErrAt w b sent c p)(d q:Int)(g:Nat)(hg:w.cell? ⟨g,0,none⟩=some (.int .i64 q)) :
  Calls Tryz.prog 7 #[.iface 51 (.pointer (some ⟨b,0,none⟩)),faultV d (.slice (some ⟨g,0,none⟩) 1 1)] w fun e w'=>e = .returned (.bool (((c:Int)==d)&&(p==q)))∧Below w.heap.size w w':=by
 unfold faultV;go_enter Tryz.func7,Tryz.ntmps7
 have hw0:=((Below.refl w.heap.size w).alloc (Nat.le_refl _) (Obj.cells #[Value.int IntKind.i64 d,Value.slice (some ⟨g,0,none⟩) 1 1] 30));go_wp2_with fail
 refine (seeFault_at _ sent (hS.below hw0) c h1 h2 p b (Blk.below hE hw0)).mono ?_;unfold faultV;rintro e w2 ⟨k,rfl,hk,hk2,hb2⟩;have B0:=(Blk.newAt (w:=w) [Value.int IntKind.i64 d,Value.slice (some ⟨g,0,none⟩) 1 1] 30 rfl).below hb2;have hg2:=bSome hb2 (bSome hw0 hg);have l1:=B0.lt;have n1:¬ w.heap.size=w2.heap.size:=by omega
 have hB:=bNext hw0 hb2;clear hw0 hb2 hE;have c0:=B0.cell 0 rfl;have c1:=B0.cell 1 rfl;go_wp2_with fail
 have hw1:=((Below.refl w2.heap.size w2).alloc (Nat.le_refl _) (Obj.cells #[Value.int IntKind.i64 c,Value.slice (some ⟨k,0,none⟩) 1 1] 30));refine (rSameFault_one c d k g p q _ (bSome hw1 hk) (bSome hw1 hg2)).mono ?_;rintro e w3 ⟨rfl,hb3⟩;have hB3:=bNext (bNext hB hw1) hb3;clear hB hw1 hb3;go_wp2_with fail
 go_ret;exact⟨rfl,hB3⟩
end Go.Proofs.YtbplbehhlbkklaaGreatDoor
