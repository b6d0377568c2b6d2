/- The last step of every row of this seat: the law has returned true, and nothing that lay in memory has turned. -/
import Derived.Test.YtbpjobmpacjgcaaGreatDoorGZA
import Derived.Test.YtbpjobmpacjgcaaGreatDoorRows
import Derived.ProofKit
import Derived.LaidMore
import Derived.OpenShut
import Derived.Stop.Joined
import Derived.ChangeSame
import Derived.ChangeMaps5
import Derived.LaidSub
import Derived.Lay
import Derived.Handed
import Derived.LaidLaws
import Derived.Stop.LaidErr
import Derived.MakeChecks
import Derived.RowKitTokens
import Derived.Stop.ErrReads
import Derived.LaidEql
import Derived.Deep.RegionHeld3
import Derived.LaidHandle
namespace Go.Proofs.YtbpjobmpacjgcaaGreatDoor
open Go Go.RowKit Go.WideShapes Go.ChangeShapes Go.ChangeAt
theorem Ls {H:Type}{enc:TypeId×Value→H}{P:Program}{f:Func}{s:ChangeSpec}{apart fresh handsOn again:Bool}{W W':World}{args:Array Value}{ds:List (DataW H)}{before:List MemPlace}{tb:TypeId}
  (hW:DataW.Whole enc P f.params.toList s.vars apart W args.toList ds [] before) (hvars:s.vars=[]) (hrt:f.resultTypes=#[tb]) (htb:P.underlying tb=some .bool)
  (hargs:∀ sp:Nat→Bool,(∀ p∈before,sp p.block=true)→DataW.TrodAll enc P W' 0 sp true f.params.toList args.toList (s.fn H (ds++[])).args before)
  (hr:(s.fn H (ds++[])).results=[.lit (.bool true)]) (hv:(s.fn H (ds++[])).vars=[]) (hb:Below W.heap.size W W') :
  s.post enc P f apart fresh handsOn again W args (.bool true) W':=by
 have low:∀ p∈before,p.block<W.heap.size:=fun p hp=>hW.lt p hp
 have res:∀ (b:Nat) (sp:Nat→Bool) (hd:Bool),DataW.TrodAll enc P W' b sp hd f.resultTypes.toList ((Value.bool true).resultList f.resultTypes.size) (s.fn H (ds++[])).results []:=fun b sp hd=>by
  rw[hrt,hr];exact trodAll_mk1 (shut_bool htb true)
 have nov:∀ sp:Nat→Bool,DataW.TrodVars enc P W' sp s.vars (s.fn H (ds++[])).vars []:=fun sp=>by
  rw[hvars,hv];exact rfl
 refine ⟨ds,[],before,[],before,[],hW,res _ _ _,hargs _ (fun p hp=>by simpa using low p hp),nov _,World.keptBut_mono (fun p hp=>⟨hp,?_⟩) (hb.frame (·∈before)),fun _=>⟨?_,?_⟩⟩
 ·simpa using hp
 ·intro j t r ht hres;rw[hrt] at ht hres
  cases j with
  | zero =>
   simp [Value.resultList] at ht hres
   subst ht hres;exact okWide_bool_mk htb true
  | succ j=>simp at ht
 ·obtain⟨_,_,_,_,_,hz,hn⟩:=hW;refine ⟨_,_,before,⟨before,[],trodAll_append (hargs _ (fun _ _=>rfl)) (res _ _ _),nov _,(List.append_nil _).symm,fun b off hp=>?_,fun ha=>?_⟩,fun p hp _=>hp⟩
  ·rw[hb.frozen (low _ hp)];exact hz b off hp
  ·exact hn ha
open Go.ChangeMaps (open_string shut_string)
theorem KE:Tryz.prog.cellsOf 3=1:=by kernel_rfl
theorem DD:laidOutB Tryz.prog=true:=by kernel_rfl
theorem Fc {H:Type}{enc:TypeId×Value→H}{C:Checked}{os:Os}{f:FuncId}{fn:Func}{s:ChangeSpec}{apart fresh handsOn again:Bool}{X:World→Array Value→Prop}
  (hX:∀ (w w':World) (args:Array Value),w.heap=w'.heap→X w args→X w' args)
  (own:ownKnob C.prog.godebug=none) (started:os.Started) (noInit:C.prog.inits.idxOf? f=none) (hfn:C.prog.funcs[f]?=some fn)
  (witness:∃ (w:World) (tape:Tape) (i:Input),w.os=os∧(w.forCall tape i).Shaped C.prog∧i.vars=[]∧Input.okWide C.prog (w.forCall tape i) .any w.heap.size f i ∧
   ((s.pre enc C.prog fn [] apart (w.forCall tape i).memory i.args∧X (w.forCall tape i).memory i.args)∧sizedMet enc C.prog fn (OpenSpec.ofChange s) apart (w.forCall tape i).memory i.args)∧({}:Assume).holds C.prog (lone (Frame.enter C.prog f i.args .normal) [] (w.forCall tape i)))
  (contract:∀ (W:World) (base:Nat) (args:Array Value) (ds gs:List (DataW H)) (before:List MemPlace),W.ShapedOpen C.prog →
   (∀ (j:Nat) t v,fn.params[j]?=some t→args[j]?=some v→Value.okWide C.prog W .any base t v) →
   DataW.Whole enc C.prog fn.params.toList s.vars apart W args.toList ds gs before→X W args →
   Calls C.prog f args W fun e W'=>∃ v,e = .returned v∧s.post enc C.prog fn apart fresh handsOn again W args v W') :
  ReturnsInHanded {} C os f .any (fun w args=>(s.pre enc C.prog fn [] apart w args∧X w args)∧sizedMet enc C.prog fn (OpenSpec.ofChange s) apart w args) (s.post enc C.prog fn apart fresh handsOn again):=by
 refine returnsInHanded_of_calls own started noInit witness ?_;intro w tape i _ hsh _ hok hpre _;obtain⟨_,_,_,fn',hfn',_,_,_,_,hval⟩:=hok;obtain rfl:fn'=fn:=Option.some.inj (hfn'.symm.trans hfn);obtain⟨⟨⟨ds,gs,before,hw,_⟩,hx⟩,_⟩:=hpre;refine (contract (w.forCall tape i) w.heap.size i.args ds gs before hsh hval (DataW.Whole.of_heap (w':=w.forCall tape i) (by rfl) hw) (hX _ _ _ (by rfl) hx)).mono fun e W' ⟨v,he,hp⟩=>?_
 subst he;exact ChangeSpec.post_blind hp
end Go.Proofs.YtbpjobmpacjgcaaGreatDoor

namespace Go.Proofs.YtbpjobmpacjgcaaGreatDoor
set_option maxRecDepth 100000
open Go Go.RowKit Go.ChangeShapes Go.WideShapes
def pM:List (Nat×Nat×String×List UInt8):=[
 (101, 3, "patois/api.ErrLong", [116, 111, 111, 32, 108, 111, 110, 103])
 , (102, 1, "patois/api.ErrNest", [110, 101, 115, 116, 101, 100, 32, 116, 111, 111, 32, 100, 101, 101, 112])
 , (103, 9, "patois/api.ErrQuote", [97, 32, 113, 117, 111, 116, 101, 32, 116, 104, 97, 116, 32, 100, 111, 101, 115, 32, 110, 111, 116, 32, 101, 110, 100])
 , (104, 11, "patois/api.ErrParen", [97, 32, 98, 114, 97, 99, 107, 101, 116, 32, 116, 104, 97, 116, 32, 100, 111, 101, 115, 32, 110, 111, 116, 32, 101, 110, 100])
 , (106, 10, "patois/api.ErrName", [110, 111, 32, 110, 97, 109, 101])
 , (107, 7, "patois/api.ErrToken", [110, 111, 32, 116, 111, 107, 101, 110])
 , (108, 5, "patois/api.ErrForm", [105, 116, 32, 100, 111, 101, 115, 32, 110, 111, 116, 32, 115, 116, 97, 110, 100, 32, 104, 101, 114, 101])
 , (109, 4, "patois/api.ErrEnd", [105, 116, 32, 101, 110, 100, 115, 32, 116, 111, 111, 32, 101, 97, 114, 108, 121])
 , (110, 6, "patois/api.ErrNode", [110, 111, 32, 112, 114, 111, 103, 114, 97, 109])
 , (111, 2, "patois/api.ErrMany", [116, 111, 111, 32, 109, 97, 110, 121])
 , (115, 0, "patois/api.ErrSay", [105, 116, 32, 99, 97, 110, 110, 111, 116, 32, 98, 101, 32, 115, 97, 105, 100])
 ]
def zY (e : Nat × Nat × String × List UInt8) : String × DataW Unit := (e.2.2.1, .iface "*errors.errorString" (.ptr (.agg [.lit (.string e.2.2.2)])))
def sS (c:Nat):List UInt8:=((pM.find? (fun e=>e.1==c)).map (fun e=>e.2.2.2)).getD []
def rJ:List Nat:=cH.map (·.1)
structure kA (w:World) (sent:Nat→Addr):Prop where
 env:Env w sent
 blk:∀ c,c∈rJ→∃ s t,w.heap[(sent c).block]?=some (.cells s t (0,0))
 ne:∀ c d,c∈rJ→d∈rJ→c≠d→sent c≠sent d
theorem kA.below {w w':World}{sent:Nat→Addr}(h:kA w sent)(hb:Below w.heap.size w w'):kA w' sent :=
 ⟨h.env.below hb,fun c h1=>by
  obtain⟨s,t,e⟩:=h.blk c h1;exact⟨s,t,(hb.block _ (lt_of_block e)).trans e⟩,h.ne⟩
theorem DF : "*" ++ "errors.errorString" = "*errors.errorString" := by decide
theorem Mj (u : TypeId) (h : Tryz.prog.typeName? 3 u = some "*errors.errorString") : u = 286 :=
 typeName_ptr_named (nm := "errors.errorString") (by rw [DF]; kernel_rfl) (by kernel_rfl) (by decide) u (by rw [DF]; exact h)
theorem LP:Tryz.prog.cellsOf 304=1:=by kernel_rfl
theorem Di:Tryz.prog.cellsOf 9=1:=by kernel_rfl
def vS (W:World) (g:Nat) (text:List UInt8) (a:Addr):Prop :=
 W.cell? ⟨g,0,none⟩=some (.iface 286 (.pointer (some a)))∧W.cell? a=some (.string (bs text))∧∃ c t,W.heap[a.block]?=some (.cells c t (0,0))
theorem Kp {n:String}{text:List UInt8}{r:List (String×DataW Unit)}{W:World}{g:Nat}
  (h : laidMet Tryz.prog ((n, .iface "*errors.errorString" (.ptr (.agg [.lit (.string text)]))) :: r) W)
  (hg:Tryz.prog.globalNamed n=some g) (ht:(Tryz.prog.globals[g]?).map (·.type)=some 31):∃ a,vS W g text a:=by
 obtain⟨ps,⟨g0,t0,cs0,f0,p0,q0,hg0,ht0,hv0,hd0,_,e0⟩,_,hrows⟩:=h;obtain rfl:=Option.some.inj (hg.symm.trans hg0);obtain rfl:=Option.some.inj (ht.symm.trans ht0);subst e0;obtain⟨l0⟩:=cs0
 have ok0:∀ u v,l0=[.iface u v]→Value.okWide Tryz.prog W .any 0 u v:=fun u v e=>by
  subst e;exact (hrows g 0 (by simp [MemPlace.row])).2 u v (by simpa using World.var?_cell hg0 hv0 0)
 obtain⟨a0,s0,rfl,hc0,hs0,hz0,rfl⟩:=errorString_of_trod Tryz.underlying31 Mj Tryz.underlying286 Tryz.underlying304 rfl rfl Tryz.underlying9 LP Di hd0 ok0;obtain⟨c0,t0,hb0⟩:=(hrows a0.block a0.off (by simp [MemPlace.row])).1
 refine ⟨a0,by simpa using World.var?_cell hg0 hv0 0,?_,c0,t0,hb0⟩
 rw[hc0,← hs0,tI]
theorem Bt (W:World):∀ L:List (Nat×Nat×String×List UInt8),(∀ e∈L,Tryz.prog.globalNamed e.2.2.1=some e.2.1∧(Tryz.prog.globals[e.2.1]?).map (·.type)=some 31) →
  laidMet Tryz.prog (L.map zY) W→∀ e∈L,∃ a,vS W e.2.1 e.2.2.2 a
 | [],_,_,e,he=>by cases he
 | x :: L,hL,h,e,he=>by
  cases he with
  | head=>exact Kp h (hL x (.head _)).1 (hL x (.head _)).2
  | tail _ he=>exact Bt W L (fun y hy=>hL y (.tail _ hy)) (laidMet.tail h) e he
theorem GL:(pM.all fun e=>decide (Tryz.prog.globalNamed e.2.2.1=some e.2.1)&&decide ((Tryz.prog.globals[e.2.1]?).map (·.type)=some 31))=true:=by kernel_rfl
theorem Fe:cH=pM.map fun e=>(e.1,e.2.1):=rfl
theorem Fl:∀ e∈pM,e.2.2.2=sS e.1:=by decide +kernel
theorem E0:∀ p∈cH,∀ q∈cH,p.1=q.1→p.2=q.2:=by decide +kernel
theorem H7:∀ c∈rJ,∀ d∈rJ,sS c=sS d→c=d:=by decide +kernel
theorem wT {c:Nat}(h:c∈rJ):∃ g,(c,g)∈cH:=by
 obtain⟨p,hp,e⟩:=List.mem_map.1 h;exact⟨p.2,e ▸ hp⟩
theorem LR {W:World}(h:laidMet Tryz.prog (pM.map zY) W):∃ sent,kA W sent:=by
 have hall:∀ c g,(c,g)∈cH→∃ a,vS W g (sS c) a:=by
  intro c g hcg;rw[Fe,List.mem_map] at hcg;obtain⟨e,he,h1⟩:=hcg;have hok:=List.all_eq_true.1 GL;obtain⟨a,ha⟩:=Bt W pM (fun y hy=>by have:=hok y hy;simpa using this) h e he
  have h2:e.1=c:=congrArg Prod.fst h1;have h3:e.2.1=g:=congrArg Prod.snd h1;rw[Fl e he,h2,h3] at ha;exact⟨a,ha⟩
 have hch:∀ c,∃ a,∀ g,(c,g)∈cH→vS W g (sS c) a:=by
  intro c
  by_cases hc:∃ g,(c,g)∈cH
  ·obtain⟨g,hg⟩:=hc;obtain⟨a,ha⟩:=hall c g hg;refine ⟨a,fun g' hg'=>?_⟩
   obtain rfl:g=g':=E0 _ hg _ hg' rfl;exact ha
  ·exact⟨⟨0,0,none⟩,fun g hg=>absurd ⟨g,hg⟩ hc⟩
 refine ⟨fun c=>Classical.choose (hch c),fun c g hg=>(Classical.choose_spec (hch c) g hg).1,fun c h=>?_,fun c d h h' hne e=>?_⟩
 ·obtain⟨g,hg⟩:=wT h;exact (Classical.choose_spec (hch c) g hg).2.2
 ·obtain⟨g,hg⟩:=wT h;obtain⟨g',hg'⟩:=wT h';have e1:=(Classical.choose_spec (hch c) g hg).2.1;have e2:=(Classical.choose_spec (hch d) g' hg').2.1;rw[show Classical.choose (hch c)=Classical.choose (hch d) from e] at e1
  have e3:=e1.symm.trans e2;simp only[Option.some.injEq,Value.string.injEq] at e3;exact hne (H7 c h d h' (MT e3))
theorem JA {l:List (String×DataW Unit)}{W:World}(hl:l=pM.map zY)(h:laidMetH Tryz.prog l W):∃ sent,kA W sent:=by
 subst hl;rw[MakeChecks.laidMetH_plain _ _ _ (by decide +kernel)] at h
 exact LR h
end Go.Proofs.YtbpjobmpacjgcaaGreatDoor
namespace Go.Proofs.YtbpjobmpacjgcaaGreatDoor
set_option maxRecDepth 100000
open Go Go.RowKit
theorem zH:(Tryz.prog.info? 286).map (·.comparable)=some true:=by kernel_rfl
theorem y6:(Tryz.prog.info? 304).map (·.size)=some 1:=by kernel_rfl
theorem qJ {P:Program}{fn:Func}{p:Tmp}{ty:TypeId}(h:fn.results=#[.cell p ty])(tmps:Array Value)(w:World)(g:Nat)(cs:List Value)(d:TypeDesc)
  (hp:tmps.getD p undef = .pointer (some ⟨g,0,none⟩)) (hg:Blk w g cs) (hu:P.underlying ty=some d) (hd:(match d with | .struct _ | .array _ _=>true | _=>false)=true) (hi:(P.info? ty).map (·.size)=some cs.length) :
  (results fn tmps).run P w = .ok (.agg cs.toArray) w:=by
 obtain⟨t,hg⟩:=hg;exact results_cell_row h tmps w g t cs.toArray (0,0) d hp hg hu hd (by simpa using hi)
end Go.Proofs.YtbpjobmpacjgcaaGreatDoor

namespace Go.Proofs.YtbpjobmpacjgcaaGreatDoor
open Go
theorem KJ : Tryz.prog.globalNamed "errors.errorType" = some 8 := by kernel_rfl
theorem KH : (Tryz.prog.cutTypes.find? (·.1 == "internal/reflectlite.rtype")).map (·.2) = some 134 := by kernel_rfl
theorem MG:((List.range Tryz.prog.types.size).filter fun t=>Tryz.prog.rowNamed t [101,114,114,111,114])=[31]:=by kernel_rfl
theorem JM:typeHandle Tryz.prog 31 = .pointer (some ⟨18,31,none⟩):=by kernel_rfl
theorem Mg {l : List (String × DataW Unit)} {W : World} (hl : ("errors.errorType", (.iface "internal/reflectlite.rtype" (.agg [.ptr (.lit (.string [101, 114, 114, 111, 114]))]) : DataW Unit)) ∈ l) (h : laidMetH Tryz.prog l W) :
  W.cell? ⟨8,0,none⟩=some (.iface 134 (.agg #[.pointer (some ⟨18,31,none⟩)])):=by
 obtain⟨-,h2⟩:=laidMetH_iff.1 h;obtain⟨name,u,ty,e1,e2,e3,e4,e5⟩:=h2 _ (List.mem_filter.2 ⟨hl,rfl⟩);have en:name=[101,114,114,111,114]:=(Option.some.inj e1).symm;subst en;obtain rfl:=Option.some.inj (KH.symm.trans e2);have hm:ty∈(List.range Tryz.prog.types.size).filter fun t=>Tryz.prog.rowNamed t [101,114,114,111,114]:=List.mem_filter.2 ⟨List.mem_range.2 e3,e4⟩
 rw[MG] at hm;obtain rfl:=List.mem_singleton.1 hm;rw[JM] at e5;simpa using World.var?_cell KJ e5 0
noncomputable def pY (os:Os):World :=
 let w0:=World.holding Tryz.prog os ⟨#[],#[],[]⟩
 { w0 with heap:=w0.heap.modify 8 fun
   | .cells _ t frozen=>.cells #[.iface 134 (.agg #[.pointer (some ⟨18,31,none⟩)])] t frozen
   | o=>o }
noncomputable def y7 (os:Os) (laid:List (String×DataW Unit)):World:=(pY os).layVars Tryz.prog (laid.filter fun x=>x.2.handleName?.isNone)
theorem Jj (os:Os)(laid:List (String×DataW Unit)):(y7 os laid).os=os:=World.layVars_os _ _ _
theorem Mf {os:Os}{laid:List (String×DataW Unit)}(args:Array Value)(hf:(pY os).layFits Tryz.prog laid []=true)(hi:(pY os).layIfaces Tryz.prog laid ((pY os).layVars Tryz.prog laid)=true) :
  laidMet Tryz.prog laid (((pY os).layVars Tryz.prog laid).forCall (fun _ _=>0) ⟨#[],args,[]⟩).memory:=by
 have e1:(laid.filter fun x=>(laid.map (·.1)).contains x.1)=laid:=List.filter_eq_self.2 fun x hx=>List.contains_iff_mem.2 (List.mem_map.2 ⟨x,hx,rfl⟩)
 have e2:(laid.filter fun x=>!(laid.map (·.1)).contains x.1)=[]:=List.filter_eq_nil_iff.2 fun x hx=>by rw[List.contains_iff_mem.2 (List.mem_map.2 ⟨x,hx,rfl⟩)];simp
 have h:laidMet Tryz.prog laid ((pY os).layVars Tryz.prog laid):=laidMet_layVars (w0:=pY os) (laid.map (·.1)) [] (by rw[e1]) (by rw[e1];exact hf) (by rw[e1];exact hi) (by rw[e2];exact LaidIn.none)
 exact h.of_heap (by simp [World.memory,World.forCall,Input.heap])
end Go.Proofs.YtbpjobmpacjgcaaGreatDoor
