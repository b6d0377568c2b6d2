/- show: texts between quotes; a part of a program taken out; the children of a node. -/
import Derived.Test.YtbpjobmpacjgcaaGreatDoorGZD
import Derived.Test.YtbpjobmpacjgcaaGreatDoorGZF
import Derived.Test.YtbpjobmpacjgcaaGreatDoorGZU
import Derived.Test.YtbpjobmpacjgcaaGreatDoorGQuoteB
import Derived.Lib.Join
import Derived.Test.YtbpjobmpacjgcaaGreatDoorGZK
import Derived.Laws.EntriesVeiled
namespace Go.Proofs.YtbpjobmpacjgcaaGreatDoor
set_option maxHeartbeats 4000000
set_option maxRecDepth 100000
open Go Go.RowKit
theorem Cn (s:List UInt8):(⟨#[39]⟩:ByteArray)++bs s++⟨#[39]⟩=bs (39 :: (s++[39])):=by
 rw[show (⟨#[39]⟩:ByteArray)=bs [39] from rfl,nH,nH]
 rfl
theorem C4 (new s:List UInt8)(hn:new.length≤4)(w:World)(mx:Int)(hm:w.cell? ⟨12,0,none⟩=some (.int .i64 mx))(hs:s.length≤5000) :
  Calls Tryz.prog 165 #[.string (bs s),.string ⟨#[39]⟩,.string (bs new)] w fun e w'=>e = .returned (.string (bs (Lib.replaceAll s [39] new)))∧Below w.heap.size w w':=by
 have hcb:=Lib.countB_le ⟨#[39]⟩ (by decide) (bs s).size (bs s) (Nat.le_refl _)
 rw[aY] at hcb
 have hh:=Tryz.strings_ReplaceAll (bs s) ⟨#[39]⟩ (bs new) mx w (by rw[aY];omega) hm (by decide) (by
  rw[aY,aY];have:Lib.countB (bs s) ⟨#[39]⟩ * new.length≤5000 * 4:=Nat.mul_le_mul (by omega) hn
  omega)
 rw[bK,bK,show (⟨#[39]⟩:ByteArray).data.toList=[39] from rfl] at hh
 exact hh
theorem A4 (s:List UInt8)(w:World)(hmx:∃ m,w.cell? ⟨12,0,none⟩=some (.int .i64 m))(hs:s.length≤5000) :
  Calls Tryz.prog 123 #[.string (bs s)] w fun e w'=>e = .returned (.string (bs (cS s)))∧Below w.heap.size w w':=by
 obtain⟨mx,hm⟩:=hmx;have hsl:=Bi s;have HR:=Ng (C4 [39,92,39,39] s (by decide) w mx hm hs)
 rw[E6] at HR;have HX:=Ng (Cn (fC s));have hds:(bs (fC s)).size≤40000:=by rw[aY];omega
 obtain⟨y,hy⟩:∃ y,(⟨#[39]⟩:ByteArray)++bs (fC s)=y:=⟨_,rfl⟩
 have hys:y.size≤40001:=by
  rw[← hy,zJ,aY,List.length_cons];rw[aY] at hds;omega
 rw[hy] at HX;unfold cS;rw[← HX.out];clear HX hm;generalize bs (fC s)=dd at *;go_enter Tryz.func123,Tryz.ntmps123
 go_wp2_with (go_at_call 165;refine HR.out.mono ?_;rintro e w5 ⟨rfl,hb5⟩)
 go_ret;exact⟨rfl,hb5⟩
theorem GT (s:List UInt8)(w:World)(hmx:∃ m,w.cell? ⟨12,0,none⟩=some (.int .i64 m))(hs:s.length≤5000) :
  Calls Tryz.prog 129 #[.string (bs s)] w fun e w'=>e = .returned (.string (bs (cE s)))∧Below w.heap.size w w':=by
 obtain⟨mx,hm⟩:=hmx;have hsl:=Br s;have HR:=Ng (C4 [39,39] s (by decide) w mx hm hs)
 rw[E8] at HR;have HX:=Ng (Cn (d8 s));have hds:(bs (d8 s)).size≤40000:=by rw[aY];omega
 obtain⟨y,hy⟩:∃ y,(⟨#[39]⟩:ByteArray)++bs (d8 s)=y:=⟨_,rfl⟩
 have hys:y.size≤40001:=by
  rw[← hy,zJ,aY,List.length_cons];rw[aY] at hds;omega
 rw[hy] at HX;rw[show cE s=39 :: (d8 s++[39]) from by unfold cE;simp,← HX.out]
 clear HX hm;generalize bs (d8 s)=dd at *;go_enter Tryz.func129,Tryz.ntmps129
 go_wp2_with (go_at_call 165;refine HR.out.mono ?_;rintro e w5 ⟨rfl,hb5⟩)
 go_ret;exact⟨rfl,hb5⟩
def NAt (w:World) (b:Nat) (v:Value) (l:aA):Prop:=∃ g o cap,v = .slice (some ⟨g,o,none⟩) l.length cap∧l.length≤cap∧cap≤maxLen∧(∃ cur fz,w.heap[g]?=some (.cells cur 40 fz))∧g≠b∧∀ (k:Nat) (u:Value),(l.flatMap bE.cells)[k]?=some u→w.cell? ⟨g,o+k,none⟩=some u
theorem NSl.at {w:World}{b:Nat}{v:Value}{l:aA}(h:NSl w b v l):NAt w b v l:=by
 obtain⟨g,cap,h1,h2,h3,h4,h5,h6⟩:=h;exact⟨g,0,cap,h1,h2,h3,h4,h5,fun k u hk=>by rw[Nat.zero_add];exact h6 k u hk⟩
theorem NAt.below {w w':World}{b:Nat}{v:Value}{l:aA}(h:NAt w b v l)(hb:Below w.heap.size w w'):NAt w' b v l:=by
 obtain⟨g,o,cap,h1,h2,h3,⟨cur,fz,h4⟩,h5,h6⟩:=h;exact⟨g,o,cap,h1,h2,h3,⟨cur,fz,(hb.block g (lt_of_block h4)).trans h4⟩,h5,fun k u hk=>aF hb (h6 k u hk)⟩
theorem Ck:∀ (l:aA)(k:Nat),(l.drop k).flatMap bE.cells=(l.flatMap bE.cells).drop (k * 5)
 | l,0=>by simp
 | [],k+1=>by simp
 | x :: l,k+1=>by
  rw[List.drop_succ_cons,Ck l k,List.flatMap_cons,show (k+1) * 5=x.cells.length+k * 5 from by rw[qM];omega,List.drop_append]
  simp
theorem NAt.tail {w:World}{b g o n cap:Nat}{l:aA}(h:NAt w b (.slice (some ⟨g,o,none⟩) n cap) l)(k:Nat)(hk:k≤l.length):NAt w b (.slice (some ⟨g,o+k * 5,none⟩) (n - k) (cap - k)) (l.drop k):=by
 obtain⟨g',o',cap',hv,h2,h3,h4,h5,h6⟩:=h
 cases hv
 refine ⟨g,_,_,by rw[List.length_drop],by rw[List.length_drop];omega,by omega,h4,h5,fun j u hj=>?_⟩
 rw[Ck,List.getElem?_drop] at hj;rw[Nat.add_assoc];exact h6 _ u hj
theorem NAt.facts {w:World}{b g o n cap:Nat}{l:aA}(h:NAt w b (.slice (some ⟨g,o,none⟩) n cap) l){k:Nat}{x:bE}(hx:l[k]?=some x) :
  w.cell? ⟨g,o+k * 5,none⟩=some (.int .i64 x.kind)∧w.cell? ⟨g,o+k * 5+1,none⟩=some (.int .i64 x.n)∧w.cell? ⟨g,o+k * 5+2,none⟩=some (.int .i64 x.k)∧w.cell? ⟨g,o+k * 5+3,none⟩=some (.int .i64 x.size)∧w.cell? ⟨g,o+k * 5+4,none⟩=some (.string (bs x.text)):=by
 obtain⟨g',o',cap',hv,h2,h3,h4,h5,h6⟩:=h
 cases hv
 have hf:∀ j u,x.cells[j]?=some u→w.cell? ⟨g,o+k * 5+j,none⟩=some u:=fun j u hu=>by
  have:=h6 _ _ (mZ bE.cells 5 qM l k j x u hx hu)
  rwa [Nat.mul_comm,← Nat.add_assoc] at this
 exact⟨hf 0 _ rfl,hf 1 _ rfl,hf 2 _ rfl,hf 3 _ rfl,hf 4 _ rfl⟩
theorem FB (l:aA)(b g o cap:Nat)(w:World)(hb:b<w.heap.size)(hl:0<l.length)(hsz:l.length≤100000000)(_h1:l.length≤cap)(h5:∀ (k:Nat)(u:Value),(l.flatMap bE.cells)[k]?=some u→w.cell? ⟨g,o+k,none⟩=some u) :
  Calls Tryz.prog 80 #[.slice (some ⟨g,o,none⟩) l.length cap] w fun e w'=>∃ v',e = .returned v'∧NSl w' b v' l∧Below w.heap.size w w':=by
 obtain⟨i0,hi0,hz0,hz1,hz2⟩:=info_parts yI;have qT:∀ (w:World) (a:Option Addr) (n c n' c':Nat),(binOp .eql 26 (.slice a n c) (.slice none n' c')).run Tryz.prog w = .ok (.bool a.isNone) w:=fun w a n c n' c'=>Lib.run_eql_slice_nil w _ _ a n c n' c' Tryz.underlying26
 have hO:dM (w.alloc (.cells #[] 40)) w.heap.size (.slice (some ⟨w.heap.size,0,none⟩) 0 0) []:=by
  refine ⟨rfl,.inr ⟨w.heap.size,0,#[],rfl,Nat.le_refl _,?_,Nat.le_refl _,Nat.zero_le _,rfl,rfl⟩⟩;show (w.heap.push _)[w.heap.size]?=_
  rw[Array.getElem?_push,if_pos rfl]
 have hr:∀ j u,(l.flatMap bE.cells)[j]?=some u→(w.alloc (.cells #[] 40)).cell? ((⟨g,o,none⟩:Addr).add j)=some u:=fun j u hu=>by
  have:=aF ((Below.refl w.heap.size w).alloc (Nat.le_refl _) (.cells #[] 40)) (h5 j u hu)
  cases j <;> simpa [Addr.add] using this
 have hB1:=(Below.refl w.heap.size w).alloc (Nat.le_refl _) (.cells #[] 40);have HL:=Ng hl;obtain⟨n,hn⟩:∃ n,l.length=n:=⟨_,rfl⟩;have HN:=Ng hn;rw[hn] at hsz _h1 ⊢;clear hn hl;go_enter Tryz.func80,Tryz.ntmps80
 go_wp2_with (at_builtin;refine wpList_append_own _ rfl _ _ 26 rfl w.heap.size 40 i0 _ 5 48 Tryz.underlying26 hi0 hz0 hz1 hz2 rfl (by decide) _ 0 _ rfl hO ⟨g,o,none⟩ n cap (l.flatMap bE.cells) rfl (by rw[uO,HN.out]) hr (xV l) ?c3 ?c4 ?c5 ?_)
 case c3=>unfold maxLen;omega
 case c4=>omega
 case c5=>simp
 intro v' w5 hown' hgrow _
 have hO5:dM w5 w.heap.size v' l:=by
  unfold dM;rw[HN.out];exact hown'
 have hb5:Below w.heap.size w w5:=hB1.trans ((aB.grown (S:=fun k=>k=w.heap.size) (aB.refl _ _) hgrow (fun k h _=>by cases h;rfl)).below (by simp) (fun i hi e=>by omega))
 go_wp2_with fail
 go_ret;exact⟨_,rfl,hO5.nsl HL.out hb,hb5⟩
theorem bl3 {w:World}{g:Nat}{a b c:Value}(h:Blk w g [a,b,c]):w.cell? ⟨g,0,none⟩=some a∧w.cell? ⟨g,1,none⟩=some b∧w.cell? ⟨g,2,none⟩=some c:=⟨h.cell 0 rfl,h.cell 1 rfl,h.cell 2 rfl⟩
theorem bl7 {w:World}{g:Nat}{a b c d e f i:Value}(h:Blk w g [a,b,c,d,e,f,i]):w.cell? ⟨g,0,none⟩=some a∧w.cell? ⟨g,1,none⟩=some b∧w.cell? ⟨g,2,none⟩=some c∧w.cell? ⟨g,3,none⟩=some d∧w.cell? ⟨g,4,none⟩=some e∧w.cell? ⟨g,5,none⟩=some f∧w.cell? ⟨g,6,none⟩=some i:=⟨h.cell 0 rfl,h.cell 1 rfl,h.cell 2 rfl,h.cell 3 rfl,h.cell 4 rfl,h.cell 5 rfl,h.cell 6 rfl⟩
theorem wrS (f fv fo:Nat)(oa:Array Value)(w:World):∃ u,u=w.alloc (.cells #[Value.func (.func f) #[] #[],.func (.func fv) #[] #[],.func (.func fo) oa #[]] 45)∧Blk u w.heap.size [Value.func (.func f) #[] #[],.func (.func fv) #[] #[],.func (.func fo) oa #[]]∧Below w.heap.size w u∧u.cell? ⟨w.heap.size,0,none⟩=some (.func (.func f) #[] #[])∧u.cell? ⟨w.heap.size,1,none⟩=some (.func (.func fv) #[] #[])∧u.cell? ⟨w.heap.size,2,none⟩=some (.func (.func fo) oa #[]):=by
 have h:=Blk.new w [Value.func (.func f) #[] #[],.func (.func fv) #[] #[],.func (.func fo) oa #[]] 45;exact⟨_,rfl,h,(Below.refl _ w).alloc (Nat.le_refl _) _,bl3 h⟩
theorem saS (f f1 f2 f3 f4 f5:Nat)(nm:Bool)(w:World):∃ u,u=w.alloc (.cells #[Value.func (.func f) #[] #[],.func (.func f1) #[] #[],.func (.func f2) #[] #[],.func (.func f3) #[] #[],.func (.func f4) #[] #[],.func (.func f5) #[] #[],.bool nm] 66)∧Blk u w.heap.size [Value.func (.func f) #[] #[],.func (.func f1) #[] #[],.func (.func f2) #[] #[],.func (.func f3) #[] #[],.func (.func f4) #[] #[],.func (.func f5) #[] #[],.bool nm]∧Below w.heap.size w u:=⟨_,rfl,Blk.new w [_,_,_,_,_,_,_] _,(Below.refl _ w).alloc (Nat.le_refl _) _⟩
def dV (fn f fv fo:Nat) (oa:Array Value) (v:Value) (z:List UInt8) (w:World):Prop:=∀ w1:World,Below w.heap.size w w1→Calls Tryz.prog fn #[.agg #[.func (.func f) #[] #[],.func (.func fv) #[] #[],.func (.func fo) oa #[]],v] w1 fun e w'=>e = .returned (.string (bs z))∧Below w1.heap.size w1 w'
def jQ (f f1 f2 f3 f4 f5:Nat) (nm:Bool) (v:Value) (t:Bool) (w:World):Prop:=∀ w1:World,Below w.heap.size w w1→Calls Tryz.prog 29 #[.agg #[.func (.func f) #[] #[],.func (.func f1) #[] #[],.func (.func f2) #[] #[],.func (.func f3) #[] #[],.func (.func f4) #[] #[],.func (.func f5) #[] #[],.bool nm],v] w1 fun e w'=>e = .returned (.bool t)∧Below w1.heap.size w1 w'
def ndP (kd:Int) (s:List UInt8):aA:=aC kd 0 s []
def shB:aA→List UInt8 | x :: _=>if x.kind=1 then cE x.text else 36 :: x.text | []=>[]
def MY:aA→Bool | x :: _=>x.kind==1 | []=>false
theorem Cm (s:List UInt8):(cE s).length≤2 * s.length+2:=by
 unfold cE;have:=Br s
 simp only[List.length_cons,List.length_append,List.length_nil];omega
theorem Cx (s:List UInt8):(cS s).length≤4 * s.length+2:=by
 unfold cS;have:=Bi s
 simp only[List.length_cons,List.length_append,List.length_nil];omega
theorem BO (q:List UInt8→List UInt8):∀ l:List (List UInt8),Lib.join (l.map q) [32]=iI q l
 | []=>rfl
 | [s]=>by rw[List.map_cons,List.map_nil,Lib.join_one,iI]
 | s :: s2 :: l=>by
  have h:=BO q (s2 :: l);rw[List.map_cons,Lib.join_cons] at h ⊢;rw[iI,← h]
  ·simp [Lib.joinTail]
  ·simp
def kW (l:aA):Prop:=∃ x r,l=x :: r∧x.size=l.length
theorem k8 (kd n:Int)(s:List UInt8)(L:List aA):kW (aC kd n s L):=⟨_,_,rfl,by rw[aC];simp⟩
def iB (L:List aA) (k:Nat):Nat:=1+(L.take k).flatten.length
theorem Li (L:List aA)(k:Nat)(l:aA)(h:L[k]?=some l):iB L (k+1)=iB L k+l.length:=by
 unfold iB;rw[List.take_add_one,h];simp
 omega
theorem Mi (L:List aA):iB L L.length=L.flatten.length+1:=by
 unfold iB;rw[List.take_length];omega
theorem C6 (kd n:Int)(s:List UInt8)(L:List aA)(k:Nat)(l:aA)(h:L[k]?=some l):∃ m,(aC kd n s L).drop (iB L k)=l++m:=by
 obtain⟨hk,rfl⟩:=List.getElem?_eq_some_iff.1 h;refine ⟨(L.drop (k+1)).flatten,?_⟩;unfold iB;rw[aC,Nat.add_comm,List.drop_succ_cons]
 have e:L.flatten=(L.take k).flatten++(L[k]++(L.drop (k+1)).flatten):=by
  rw[← List.flatten_cons,← List.drop_eq_getElem_cons hk,← List.flatten_append,List.take_append_drop]
 rw[e,List.drop_left]
theorem LV (kd n:Int)(s:List UInt8)(L:List aA)(k:Nat)(l:aA)(h:L[k]?=some l):iB L k+l.length≤(aC kd n s L).length:=by
 obtain⟨m,hm⟩:=C6 kd n s L k l h;have h1:=congrArg List.length hm;rw[List.length_drop,List.length_append] at h1
 by_cases h2:l.length=0
 ·unfold iB;rw[bN];have h3:L.flatten.length=(L.take k).flatten.length+(L.drop k).flatten.length:=by rw[← List.length_append,← List.flatten_append,List.take_append_drop]
  omega
 ·omega
theorem CY:dB (aC 21 0 [] [aC 2 0 [120] []])=none:=by kernel_rfl
theorem kL (x:bE)(r:aA)(k:Int)(b:Nat)(v:Value)(w:World)(h:NAt w b v (x :: r)) :
  Calls Tryz.prog 62 #[v,.int .i64 k] w fun e w'=>e = .returned (.bool (x.kind==k))∧w'=w:=by
 obtain⟨g,o,cap,rfl,h1,-⟩:=id h;obtain⟨n0,-⟩:=h.facts (k:=0) rfl;rw[Nat.zero_mul,Nat.add_zero] at n0;simp only[List.length_cons] at h1 ⊢;clear h;go_enter Tryz.func62,Tryz.ntmps62
 go_wp2_with fail
 go_ret;exact⟨rfl,rfl⟩
theorem sE {kd:Int}{s:List UInt8}{b:Nat}{v:Value}{w:World}(h:NAt w b v (ndP kd s)):∃ g o cap,v = .slice (some ⟨g,o,none⟩) 1 cap∧1≤cap∧w.cell? ⟨g,o,none⟩=some (.int .i64 kd)∧w.cell? ⟨g,o+1,none⟩=some (.int .i64 0)∧w.cell? ⟨g,o+4,none⟩=some (.string (bs s)):=by
 obtain⟨g,o,cap,rfl,h1,-⟩:=id h;obtain⟨n0,n1,-,-,n4⟩:=h.facts (k:=0) rfl;rw[Nat.zero_mul,Nat.add_zero] at n0 n1 n4;exact⟨g,o,cap,rfl,h1,n0,n1,n4⟩
theorem Gn (kd:Int)(hk:kd=1∨kd=2)(s:List UInt8)(b:Nat)(v:Value)(w:World)(h:NAt w b v (ndP kd s)) :
  Calls Tryz.prog 112 #[v] w fun e w'=>e = .returned (.bool (kd==1))∧Below w.heap.size w w':=by
 obtain⟨g,o,cap,rfl,h1,n0,n1,n4⟩:=sE h;clear h
 rcases hk with rfl | rfl
 all_goals
  go_enter Tryz.func112,Tryz.ntmps112
  go_wp2_with fail
  go_ret;exact⟨rfl,Below.refl _ _⟩
theorem G4 (kd:Int)(hk:kd=1∨kd=2)(s:List UInt8)(b:Nat)(v:Value)(w:World)(h:NAt w b v (ndP kd s)) :
  Calls Tryz.prog 117 #[v] w fun e w'=>e = .returned (.bool true)∧Below w.heap.size w w':=by
 obtain⟨g,o,cap,rfl,h1,n0,n1,n4⟩:=sE h;clear h
 rcases hk with rfl | rfl
 all_goals
  go_enter Tryz.func117,Tryz.ntmps117
  go_wp2_with fail
  go_ret;exact⟨rfl,Below.refl _ _⟩
theorem Bb (x:bE)(r:aA)(e:Bool)(b:Nat)(v:Value)(w:World)(h:NAt w b v (x :: r))(hx:x.kind≠4) :
  Calls Tryz.prog 108 #[v,.bool e] w fun e w'=>e = .returned (.slice (some ⟨w.heap.size,0,none⟩) 1 1)∧w'=w.alloc (.cells #[v] 26):=by
 have HI:=Ng (kL x r 4 b v w h);rw[beq_eq_false_iff_ne.2 hx] at HI;obtain⟨g,o,cap,rfl,-⟩:=id h;clear h hx;go_enter Tryz.func108,Tryz.ntmps108
 go_wp2_with fail
 refine HI.out.mono ?_;rintro e w1 ⟨rfl,rfl⟩;go_wp2_with fail
 go_ret;exact⟨rfl,rfl⟩
theorem u6 (f:Nat)(B:Array Value)(ef:∀ args w,(callFunc f args).run Tryz.prog w = .ok (.enter f args) w)(q:aA→Bool)(L:List aA)(b:Nat)(v:Value)(w:World)(hK:KSl w b v L)(hp:∀ l∈L,0<l.length)(hn:L.length≤100000)
  (H:∀ l∈L,∀ (w1:World) (u:Value),Below w.heap.size w w1→NSl w1 b u l→Calls Tryz.prog f (B++#[u]) w1 fun e w'=>e = .returned (.bool (q l))∧Below w1.heap.size w1 w') :
  Calls Tryz.prog 60 #[v,.func (.func f) B #[]] w fun e w'=>e = .returned (.bool (L.all q))∧Below w.heap.size w w':=by
 obtain⟨ao,cap,rfl,-⟩:=id hK;obtain⟨-,-,F⟩:=hK.facts hp;obtain⟨n,hln⟩:∃ n,L.length=n:=⟨_,rfl⟩;have HF:=Ng F;have HN:=Ng hln;have HH:=Ng H;rw[hln] at HF hn ⊢;clear hK hp F hln H;go_enter Tryz.func60,Tryz.ntmps60
 go_wp2_with fail
 go_loopg [9] n (fun m x wr=>∃ k:Nat,m=n - k∧k≤n∧x = .int .i64 k∧Below w.heap.size w wr∧(L.take k).all q=true)
 case atStart=>exact⟨0,rfl,Nat.zero_le _,rfl,Below.refl _ _,rfl⟩
 case round =>
  obtain⟨k,rfl,hk,rfl,hb,hall⟩:=hrel
  by_cases hlt:k<n
  ·obtain⟨g,u,rfl,q1,q2⟩:=HF.out k hlt;have hkL:k<L.length:=by have:=HN.out;omega
   rw[List.getD_eq_getElem?_getD,List.getElem?_eq_getElem hkL,Option.getD_some] at q2;have q1:=aF hb q1;have HC:=Ng (HH.out L[k] (List.getElem_mem hkL) wr u hb (q2.below hb));have HT:=Ng (show (L.take (k+1)).all q=((L.take k).all q&&q L[k]) from by rw[List.take_succ_eq_append_getElem hkL,List.all_append,List.all_cons,List.all_nil,Bool.and_true])
   have HA:=Ng hall;obtain⟨gu,cu,rfl,-⟩:=id q2;generalize hz:L[k].length=z at *;obtain⟨r,hr⟩:∃ r,q L[k]=r:=⟨_,rfl⟩;have HR:=Ng hr;rw[hr] at HC;clear q2 hall hr hz;go_wp2_with fail
   refine HC.out.mono ?_;rintro e w5 ⟨rfl,hb5⟩
   cases r with
   | false =>
    go_wp2_with fail
    go_ret;refine ⟨?_,aE hb hb5⟩
    have h1:L.all q=false:=by
     rw[Bool.eq_false_iff];intro h2;rw[List.all_eq_true] at h2;have:=h2 _ (List.getElem_mem (by have:=HN.out;omega:k<L.length))
     rw[HR.out] at this
     cases this
    rw[h1];rfl
   | true =>
    go_wp2_with fail
    go_roundg (n - (k+1))
    case measure=>omega
    case rel=>exact⟨k+1,rfl,by omega,by go_num,aE hb hb5,by rw[HT.out,HA.out,HR.out];rfl⟩
  ·obtain rfl:k=n:=by omega
   have HA:=Ng (show L.all q=true from by rw[List.take_of_length_le (by have:=HN.out;omega)] at hall;exact hall)
   clear hall;go_wp2_with fail
   go_ret;exact⟨by rw[HA.out];rfl,hb⟩
theorem Eo (w:World)(a:Addr)(n c n' c':Nat):(binOp .neq 25 (.slice (some a) n c) (.slice none n' c')).run Tryz.prog w = .ok (.bool true) w:=run_neq_slice_nil_any w _ _ (some a) n c n' c' Tryz.underlying25
theorem AL (kd:Int)(hk:kd=1∨kd=2)(s:List UInt8)(b:Nat)(v:Value)(w:World)(hb:b<w.heap.size)(h:NSl w b v (ndP kd s)) :
  Calls Tryz.prog 56 #[v] w fun e w'=>e = .returned (.bool (kd==1))∧Below w.heap.size w w':=by
 have HJ:=Ng (Bb _ _ false b v w h.at (show kd≠4 from by omega))
 have hb1:=(Below.refl _ w).alloc (Nat.le_refl _) (.cells #[v] 26)
 have HA:=Ng (u6 112 #[] (fun _ _=>by kernel_rfl) (fun _=>kd==1) [ndP kd s] b _ _ (KSl.new1 hb (.inl h)) (by intro l hl;rw[List.mem_singleton] at hl;subst hl;simp [ndP,aC]) (by simp) (fun l hl w1 u _ hu=>by
  rw[List.mem_singleton] at hl;subst hl;exact Gn kd hk s b u w1 hu.at))
 simp only[List.all_cons,List.all_nil,Bool.and_true] at HA;have qN:=Eo;obtain⟨g,cap,rfl,-⟩:=id h;generalize hz:(ndP kd s).length=z at *;clear h hk hz;go_enter Tryz.func56,Tryz.ntmps56
 go_wp2_with fail
 refine HJ.out.mono ?_;rintro e w1 ⟨rfl,rfl⟩;go_wp2_with fail
 refine HA.out.mono ?_;rintro e w1 ⟨rfl,hb2⟩;go_wp2_with fail
 go_ret;exact⟨rfl,aE hb1 hb2⟩
theorem AU (kd:Int)(hk:kd=1∨kd=2)(s:List UInt8)(b:Nat)(v:Value)(w:World)(hb:b<w.heap.size)(h:NSl w b v (ndP kd s)) :
  Calls Tryz.prog 55 #[v] w fun e w'=>e = .returned (.bool (kd==1))∧Below w.heap.size w w':=by
 have HV:=Ng (AL kd hk s b v w hb h);have HI:=Ng (fun (w1:World) (h1:Below w.heap.size w w1)=>kL _ _ 6 b v w1 (h.below h1).at)
 obtain⟨g,cap,rfl,-⟩:=id h;generalize (ndP kd s).length=z at *;clear h
 rcases hk with rfl | rfl
 ·go_enter Tryz.func55,Tryz.ntmps55
  go_wp2_with fail
  refine HV.out.mono ?_;rintro e w1 ⟨rfl,hb1⟩;go_wp2_with fail
  go_ret;exact⟨rfl,hb1⟩
 ·go_enter Tryz.func55,Tryz.ntmps55
  go_wp2_with fail
  refine HV.out.mono ?_;rintro e w1 ⟨rfl,hb1⟩;go_wp2_with fail
  refine (HI.out w1 hb1).mono ?_;rintro e w2 ⟨rfl,rfl⟩;go_wp2_with fail
  go_ret;exact⟨rfl,hb1⟩
theorem wR (kd:Int)(hk:kd=1∨kd=2)(s:List UInt8)(b:Nat)(v:Value)(w:World)(hb:b<w.heap.size)(h:NSl w b v (ndP kd s)) :
  Calls Tryz.prog 64 #[v] w fun e w'=>e = .returned (.bool true)∧Below w.heap.size w w':=by
 have HI:=Ng (kL _ _ 6 b v w h.at);rw[beq_eq_false_iff_ne.2 (show kd≠6 from by omega)] at HI
 have HJ:=Ng (Bb _ _ true b v w h.at (show kd≠4 from by omega))
 have hb1:=(Below.refl _ w).alloc (Nat.le_refl _) (.cells #[v] 26)
 have HA:=Ng (u6 117 #[] (fun _ _=>by kernel_rfl) (fun _=>true) [ndP kd s] b _ _ (KSl.new1 hb (.inl h)) (by intro l hl;rw[List.mem_singleton] at hl;subst hl;simp [ndP,aC]) (by simp) (fun l hl w1 u _ hu=>by
  rw[List.mem_singleton] at hl;subst hl;exact G4 kd hk s b u w1 hu.at))
 simp only[List.all_cons,List.all_nil,Bool.and_true] at HA;have qN:=Eo;obtain⟨g,cap,rfl,-⟩:=id h;generalize hz:(ndP kd s).length=z at *;clear h hk hz;go_enter Tryz.func64,Tryz.ntmps64
 go_wp2_with fail
 refine HI.out.mono ?_;rintro e w1 ⟨rfl,rfl⟩;go_wp2_with fail
 refine HJ.out.mono ?_;rintro e w1 ⟨rfl,rfl⟩;go_wp2_with fail
 refine HA.out.mono ?_;rintro e w1 ⟨rfl,hb2⟩;go_wp2_with fail
 go_ret;exact⟨rfl,aE hb1 hb2⟩
theorem Gb (s:List UInt8)(b:Nat)(v:Value)(w:World)(hmx:∃ m,w.cell? ⟨12,0,none⟩=some (.int .i64 m))(hs:s.length≤5000)(h:NSl w b v (aR s)) :
  Calls Tryz.prog 32 #[v] w fun e w'=>e = .returned (.string (bs (cS s)))∧Below w.heap.size w w':=by
 have H1:=Ng (kL _ _ 1 b v w h.at);have H4:=Ng (kL _ _ 4 b v w h.at);have H6:=Ng (kL _ _ 6 b v w h.at);obtain⟨g,o,cap,rfl,h1,n0,n1,n4⟩:=sE (kd:=1) (s:=s) h.at;have HQ:=Ng (A4 s w hmx hs);clear h hmx hs
 have HP:Hid (Calls Tryz.prog 76 #[.slice (some ⟨g,o,none⟩) 1 cap] w fun e w'=>e = .returned (.string (bs (cS s)))∧Below w.heap.size w w'):=Ng (by
  go_enter Tryz.func76,Tryz.ntmps76
  go_wp2_with fail
  refine H1.out.mono ?_;rintro e w1 ⟨rfl,rfl⟩;go_wp2_with fail
  refine HQ.out.mono ?_;rintro e w1 ⟨rfl,hb1⟩;go_wp2_with fail
  go_ret;exact⟨rfl,hb1⟩)
 have HR:Hid (Calls Tryz.prog 75 #[.slice (some ⟨g,o,none⟩) 1 cap,.func (.func 76) #[] #[]] w fun e w'=>e = .returned (.string (bs (cS s)))∧Below w.heap.size w w'):=Ng (by
  go_enter Tryz.func75,Tryz.ntmps75
  go_wp2_with fail
  refine H4.out.mono ?_;rintro e w1 ⟨rfl,rfl⟩;go_wp2_with fail
  refine HP.out.mono ?_;rintro e w1 ⟨rfl,hb1⟩;go_wp2_with fail
  go_ret;exact⟨rfl,hb1⟩)
 have HV:Hid (Calls Tryz.prog 33 #[.slice (some ⟨g,o,none⟩) 1 cap] w fun e w'=>e = .returned (.string (bs (cS s)))∧Below w.heap.size w w'):=Ng (by
  go_enter Tryz.func33,Tryz.ntmps33
  go_wp2_with fail
  refine HR.out.mono ?_;rintro e w1 ⟨rfl,hb1⟩;go_wp2_with fail
  go_ret;exact⟨rfl,hb1⟩)
 go_enter Tryz.func32,Tryz.ntmps32
 go_wp2_with fail
 refine H6.out.mono ?_;rintro e w1 ⟨rfl,rfl⟩;go_wp2_with fail
 refine HV.out.mono ?_;rintro e w1 ⟨rfl,hb1⟩;go_wp2_with fail
 go_ret;exact⟨rfl,hb1⟩
theorem wJ (kd:Int)(hk:kd=1∨kd=2)(s:List UInt8)(b:Nat)(v:Value)(w:World)(hmx:∃ m,w.cell? ⟨12,0,none⟩=some (.int .i64 m))(hs:s.length≤5000)(h:NSl w b v (ndP kd s)) :
  Calls Tryz.prog 38 #[v] w fun e w'=>e = .returned (.string (bs (shB (ndP kd s))))∧Below w.heap.size w w':=by
 have H4:=Ng (kL _ _ 4 b v w h.at);rw[beq_eq_false_iff_ne.2 (show kd≠4 from by omega)] at H4
 have H6:=Ng (kL _ _ 6 b v w h.at);rw[beq_eq_false_iff_ne.2 (show kd≠6 from by omega)] at H6
 obtain⟨g,o,cap,rfl,h1,n0,n1,n4⟩:=sE (kd:=kd) (s:=s) h.at;have HQ:=Ng (GT s w hmx hs);have hz:(bs s).size≤5000:=by rw[aY];exact hs
 have HD:=Ng (show ({ data:=#[36] }:ByteArray)++bs s=bs (36 :: s) from zJ 36 s)
 clear h hmx hs
 have HP:Hid (Calls Tryz.prog 82 #[.slice (some ⟨g,o,none⟩) 1 cap] w fun e w'=>e = .returned (.string (bs (shB (ndP kd s))))∧Below w.heap.size w w'):=Ng (by
  rcases hk with rfl | rfl
  ·go_enter Tryz.func82,Tryz.ntmps82
   go_wp2_with fail
   refine HQ.out.mono ?_;rintro e w1 ⟨rfl,hb1⟩;go_wp2_with fail
   go_ret;exact⟨rfl,hb1⟩
  ·go_enter Tryz.func82,Tryz.ntmps82
   go_wp2_with fail
   go_ret;exact⟨by rw[HD.out];rfl,Below.refl _ _⟩)
 obtain⟨z,hz2⟩:∃ z,bs (shB (ndP kd s))=z:=⟨_,rfl⟩;rw[hz2] at HP ⊢;clear hz2 hk HQ HD n0 n1 n4
 have HR:Hid (Calls Tryz.prog 81 #[.slice (some ⟨g,o,none⟩) 1 cap,.func (.func 82) #[] #[]] w fun e w'=>e = .returned (.string z)∧Below w.heap.size w w'):=Ng (by
  go_enter Tryz.func81,Tryz.ntmps81
  go_wp2_with fail
  refine H4.out.mono ?_;rintro e w1 ⟨rfl,rfl⟩;go_wp2_with fail
  refine HP.out.mono ?_;rintro e w1 ⟨rfl,hb1⟩;go_wp2_with fail
  go_ret;exact⟨rfl,hb1⟩)
 go_enter Tryz.func38,Tryz.ntmps38
 go_wp2_with fail
 refine H6.out.mono ?_;rintro e w1 ⟨rfl,rfl⟩;go_wp2_with fail
 refine HR.out.mono ?_;rintro e w1 ⟨rfl,hb1⟩;go_wp2_with fail
 go_ret;exact⟨rfl,hb1⟩
set_option maxHeartbeats 8000000
theorem mB (kd n:Int)(s:List UInt8)(L:List aA)(b:Nat)(v:Value)(w:World)(hb:b<w.heap.size)(hS:∀ l∈L,kW l)(hn:L.flatten.length≤100000)(h:NAt w b v (aC kd n s L)) :
  Calls Tryz.prog 37 #[v] w fun e w'=>∃ v',e = .returned v'∧KSl w' b v' L∧Below w.heap.size w w':=by
 obtain⟨k0,hk0,hk1,hk2,hk3⟩:=info_parts jB;obtain⟨g,o,cap,rfl,h1,h2,-⟩:=id h;obtain⟨-,-,q2,q3,-⟩:=h.facts (k:=0) rfl;rw[Nat.zero_mul,Nat.add_zero] at q2 q3;have hlen:=bN kd n s L
 have hL:L.length≤100000:=by
  have:∀ M:List aA,(∀ l∈M,kW l)→M.length≤M.flatten.length:=fun M=>by
   induction M with
   | nil=>intro _;simp
   | cons l M ih =>
    intro hM;have h3:=ih fun x hx=>hM x (by simp [hx])
    obtain⟨x,r,rfl,-⟩:=hM l (by simp)
    simp only[List.length_cons,List.flatten_cons,List.length_append];omega
  have:=this L hS
  omega
 have HH:=Ng h;have HS:=Ng hS;obtain⟨z,hz⟩:∃ z,(aC kd n s L).length=z:=⟨_,rfl⟩;obtain⟨N,hN⟩:∃ N,L.length=N:=⟨_,rfl⟩;have HZ:=Ng hz;have HN:=Ng hN;have hKE:=Mi L;rw[hN] at hKE hL;have hzE:iB L N=z:=by rw[hKE,← hlen,hz]
 have hz1:1≤z∧z≤100001:=by omega
 have n2:w.cell? ⟨g,o+2,none⟩=some (.int .i64 N):=by rw[q2,hN]
 have n3:w.cell? ⟨g,o+3,none⟩=some (.int .i64 z):=by rw[q3];show some (Value.int .i64 ((L.flatten.length:Int)+1))=_;congr 2;omega
 rw[hz] at h1 HH ⊢;have hne:((z:Int)==0)=false:=by rw[beq_eq_false_iff_ne];omega
 clear h hS hz hN q2 q3 hlen hKE hn;go_enter Tryz.func37,Tryz.ntmps37
 go_wp2_with fail
 go_loopg [4,5,6] N (fun m a c i wr=>∃ k:Nat,m=N - k∧k≤N∧aO wr w.heap.size b a (L.take k)∧c = .int .i64 (iB L k)∧i = .int .i64 k∧Below w.heap.size w wr)
 case atStart=>exact⟨0,rfl,Nat.zero_le _,aO.nil _ _ _,rfl,rfl,Below.refl _ _⟩
 case round =>
  obtain⟨k,rfl,hk,hO,rfl,rfl,hb1⟩:=hrel;have m2:=aF hb1 n2;have m3:=aF hb1 n3;have HO:=Ng hO;obtain⟨ao,ac,rfl⟩:=hO.form;have hlk:(L.take k).length=k:=by rw[List.length_take];have:=HN.out;omega
  rw[hlk] at HO ⊢;clear hO
  by_cases hlt:k<N
  ·have hkL:k<L.length:=by have:=HN.out;omega
   obtain⟨l,hl⟩:∃ l,L[k]?=some l:=⟨_,List.getElem?_eq_getElem hkL⟩;obtain⟨x,r,hx,hxs⟩:=HS.out l (List.mem_of_getElem? hl);obtain⟨M,hM⟩:=C6 kd n s L k l hl;have hf:=LV kd n s L k l hl;rw[HZ.out] at hf;have hs:=Li L k l hl;have hc1:1≤iB L k:=by unfold iB;omega
   have hll:0<l.length:=by rw[hx];simp
   have hat:(aC kd n s L)[iB L k]?=some x:=by
    have:((aC kd n s L).drop (iB L k))[0]?=some x:=by rw[hM,hx];rfl
    rw[List.getElem?_drop,Nat.add_zero] at this;exact this
   obtain⟨-,-,-,q3,-⟩:=(HH.out.below hb1).facts hat
   have hcells:∀ (j:Nat) (u:Value),(l.flatMap bE.cells)[j]?=some u→wr.cell? ⟨g,o+iB L k * 5+j,none⟩=some u:=fun j u hu=>by
    have h3:=(HH.out.below hb1).tail (iB L k) (by rw[HZ.out];omega)
    rw[hM] at h3;obtain⟨g',o',cap',hv,-,-,-,-,h6⟩:=h3;simp only[Value.slice.injEq,Option.some.injEq,Addr.mk.injEq] at hv;obtain⟨⟨rfl,rfl,-⟩,-,-⟩:=hv;refine h6 j u ?_;rw[List.flatMap_append,List.getElem?_append_left]
    ·exact hu
    ·exact (List.getElem?_eq_some_iff.1 hu).1
   have HT:=Ng (show L.take (k+1)=L.take k++[l] from by rw[List.take_add_one,hl];rfl)
   rw[hxs] at q3;have hsz1:=hb1.size;have HC:=Ng (FB l b g (o+iB L k * 5) (cap - iB L k) wr (by omega) hll (by omega) (by omega) hcells)
   have HSS:=Ng hs;clear hx hxs hM hat hcells hl hs x r;obtain⟨c,hc⟩:∃ c,iB L k=c:=⟨_,rfl⟩;obtain⟨y,hy⟩:∃ y,l.length=y:=⟨_,rfl⟩;rw[hc,hy] at HC HSS;rw[hc] at q3 hf hc1 ⊢;rw[hy] at q3 hf hll;have w1:IntKind.i64.wrap ((z:Int) - c)=(z:Int) - c:=by rw[IntKind.wrap_i64];omega
   have w2:IntKind.i64.wrap ((c:Int)+y)=((c+y:Nat):Int):=by rw[IntKind.wrap_i64];omega
   clear hc hy;go_wp2_with fail
   refine HC.out.mono ?_;rintro e w5 ⟨v5,rfl,hN5,hb5⟩;have hb6:=aE hb1 hb5;have hsz5:=hb6.size;obtain⟨us,u1,u2,u3⟩:=HO.out.below hb hb5;rw[hlk] at u2;have hOA:∀ ob,(w5.alloc ob).ownsRow w.heap.size 26 1 _ k us:=fun ob=>bM u2 (aB.ofBelow (S:=bW) ((Below.refl _ w5).alloc (Nat.le_refl _) ob)) (fun _ _ _ e=>e)
   have HN5:=Ng hN5;obtain⟨g5,c5,rfl,-⟩:=id hN5;generalize hz5:List.length l=z5 at hN5 ⊢;clear hN5;go_wp2_with (at_builtin;refine wpList_append_own _ rfl _ _ 25 rfl w.heap.size 26 k0 _ 1 24 Tryz.underlying25 hk0 hk1 hk2 hk3 rfl (by decide) _ _ _ rfl (hOA _) ⟨w5.heap.size,0,none⟩ 1 1 [.slice (some ⟨g5,0,none⟩) z5 c5] rfl rfl ?c1 ?c2 ?c3 ?c4 ?c5 ?_)
   case c1=>exact cL (by simp)
   case c2 =>
    intro u hu;simp at hu
    subst hu;rfl
   case c3=>unfold maxLen;omega
   case c4=>omega
   case c5=>simp;omega
   intro v6 w6 hown' hgrow _;obtain⟨hO7,hb7⟩:=aO.grown (w0:=w) (w:=w5) (L:=L.take k) (l:=l) (by omega) u1 (by rw[hlk];exact u2) u3 HN5.out (by rw[hlk,hz5];exact hown') hgrow
   rw[← HT.out] at hO7;clear u1 u2 u3 hOA;go_wp2_with fail
   go_roundg (N - (k+1))
   case measure=>omega
   case rel=>exact⟨k+1,rfl,by omega,hO7,by rw[HSS.out];go_num,by go_num,hb6.trans hb7⟩
  ·obtain rfl:k=N:=by omega
   rw[hzE];go_wp2_with fail
   go_ret;exact⟨_,rfl,by have h9:=HO.out.ksl hb;rwa [List.take_of_length_le (by have:=HN.out;omega)] at h9,hb1⟩
theorem Mo (M:Nat)(sep:List UInt8)(hs:sep.length≤10):∀ (xs:List (List UInt8)),(∀ x∈xs,x.length≤M)→(Lib.join xs sep).length≤(M+10) * xs.length
 | [],_=>by rw[Lib.join_nil];simp
 | x :: r,h=>by
  rw[Lib.join_length]
  have h1:Lib.lens (x :: r)≤M * (x :: r).length:=by
   unfold Lib.lens;generalize x :: r=l at h ⊢
   induction l with
   | nil=>simp
   | cons y l ih =>
    have:=ih fun z hz=>h z (by simp [hz])
    have:=h y (by simp)
    simp only[List.map_cons,List.sum_cons,List.length_cons,Nat.mul_succ];omega
  have h2:sep.length * r.length≤10 * (x :: r).length:=Nat.mul_le_mul hs (by simp)
  rw[Nat.add_mul];omega
theorem B6 (f:Nat)(B:Array Value)(ef:∀ args w,(callFunc f args).run Tryz.prog w = .ok (.enter f args) w)(sh:aA→List UInt8)(L:List aA)(h0:L≠[])(sep:List UInt8)(hsep:sep.length≤10)(b:Nat)(v:Value)(w:World)(hK:KSl w b v L)(hp:∀ l∈L,0<l.length)(hn:L.length≤1000)(hsh:∀ l∈L,(sh l).length≤100000)
  (H:∀ l∈L,∀ (w1:World) (u:Value),Below w.heap.size w w1→NSl w1 b u l→Calls Tryz.prog f (B++#[u]) w1 fun e w'=>e = .returned (.string (bs (sh l)))∧Below w1.heap.size w1 w') :
  Calls Tryz.prog 35 #[.string (bs sep),.func (.func f) B #[],v] w fun e w'=>e = .returned (.string (bs (Lib.join (L.map sh) sep)))∧Below w.heap.size w w':=by
 obtain⟨s0,hs0,hs1,hs2,hs3⟩:=info_parts xI;obtain⟨ao,cap,rfl,-⟩:=id hK;obtain⟨-,-,F⟩:=hK.facts hp;have hlp:=List.length_pos_iff.2 h0;obtain⟨n,hln⟩:∃ n,L.length=n:=⟨_,rfl⟩;have HF:=Ng F;have HN:=Ng hln;have HH:=Ng H;have HL:=Ng hsh;rw[hln] at HF hn hlp ⊢;clear hK hp F hln H hsh h0;go_enter Tryz.func35,Tryz.ntmps35
 go_wp2_with fail
 go_loopg [7,12] n (fun m a x wr=>∃ k:Nat,m=n - k∧k≤n∧x = .int .i64 k∧Below w.heap.size w wr∧dY wr w.heap.size a ((L.take k).map sh))
 case atStart=>exact⟨0,rfl,Nat.zero_le _,rfl,Below.refl _ _,dY.nil _ _⟩
 case round =>
  obtain⟨k,rfl,hk,rfl,hb,hO⟩:=hrel;have HO:=Ng hO;obtain⟨bo,bc,rfl⟩:=hO.form;have hlk:((L.take k).map sh).length=k:=by rw[List.length_map,List.length_take];have:=HN.out;omega
  rw[hlk] at HO ⊢;clear hO
  by_cases hlt:k<n
  ·obtain⟨g,u,rfl,q1,q2⟩:=HF.out k hlt;have hkL:k<L.length:=by have:=HN.out;omega
   rw[List.getD_eq_getElem?_getD,List.getElem?_eq_getElem hkL,Option.getD_some] at q2;have q1:=aF hb q1;have HC:=Ng (HH.out L[k] (List.getElem_mem hkL) wr u hb (q2.below hb));have HT:=Ng (show (L.take (k+1)).map sh=(L.take k).map sh++[sh L[k]] from by rw[List.take_succ_eq_append_getElem hkL,List.map_append];rfl)
   have hz9:(bs (sh L[k])).size≤100000:=by rw[aY];exact HL.out _ (List.getElem_mem hkL)
   obtain⟨gu,cu,rfl,-⟩:=id q2;generalize hz:L[k].length=z at *;obtain⟨r,hr⟩:∃ r,sh L[k]=r:=⟨_,rfl⟩;rw[hr] at HC HT hz9;clear q2 hr hz;go_wp2_with fail
   refine HC.out.mono ?_;rintro e w5 ⟨rfl,hb5⟩;have hsz1:=hb.size;have hsz5:=hb5.size
   have hO5:w5.ownsRow w.heap.size 9 1 (.slice bo k bc) k (((L.take k).map sh).map fun s=>Value.string (bs s)):=by
    have:=HO.out
    unfold dY at this;rw[hlk] at this;exact bM this (aB.ofBelow (S:=bW) hb5) (fun _ _ _ e=>e)
   have hOA:∀ ob,(w5.alloc ob).ownsRow w.heap.size 9 1 (.slice bo k bc) k (((L.take k).map sh).map fun s=>Value.string (bs s)):=fun ob=>bM hO5 (aB.ofBelow (S:=bW) ((Below.refl _ w5).alloc (Nat.le_refl _) ob)) (fun _ _ _ e=>e)
   go_wp2_with (at_builtin;refine wpList_append_own _ rfl _ _ 22 rfl w.heap.size 9 s0 _ 1 16 Tryz.underlying22 hs0 hs1 hs2 hs3 rfl (by decide) _ _ _ rfl (hOA _) ⟨w5.heap.size,0,none⟩ 1 1 [.string (bs r)] rfl rfl (cL (by simp)) (by intro u hu;simp at hu;subst hu;rfl) (by unfold maxLen;omega) (by omega) (by simp;omega) ?_;intro v6 w6 hown' hgrow _)
   obtain⟨hO6,hb6⟩:=dY.grown (w0:=w) (s:=r) (L:=(L.take k).map sh) (by omega) (by unfold dY;rw[hlk];exact hO5) (by rw[hlk];exact hown') hgrow
   rw[← HT.out] at hO6;clear hO5 hOA hown' hgrow;go_wp2_with fail
   go_roundg (n - (k+1))
   case measure=>omega
   case rel=>exact⟨k+1,rfl,by omega,by go_num,(aE hb hb5).trans hb6,hO6⟩
  ·obtain rfl:k=n:=by omega
   have h9:=HO.out.ssl;rw[List.take_of_length_le (by have:=HN.out;omega)] at h9
   obtain⟨ao9,cap9,hv,c1,c2,c3⟩:=h9;obtain⟨g,rfl,g1,g2⟩:=c3 (by rw[List.length_map];have:=HN.out;omega)
   have hll:(L.map sh).length=k:=by rw[List.length_map];exact HN.out
   have hxl:((L.map sh).map bs).length=k:=by rw[List.length_map,hll]
   have hxs:((L.map sh).map bs).map (·.data.toList)=L.map sh:=by
    rw[List.map_map];conv=>rhs;rw[← List.map_id (L.map sh)]
    exact List.map_congr_left fun x _=>bK x
   have hJl:=Mo 100000 sep hsep (L.map sh) (by intro x hx;obtain⟨l,hl,rfl⟩:=List.mem_map.1 hx;exact HL.out l hl)
   rw[hll] at hJl c1 hv
   have hJ2:(Lib.join (L.map sh) sep).length≤140737488355328:=by
    have:(100000+10) * k≤(100000+10) * 1000:=Nat.mul_le_mul_left _ hn
    omega
   cases hv
   have hJ:=Tryz.strings_Join g 0 bc ((L.map sh).map bs) (bs sep) wr (fun j x hx=>by
    rw[Nat.zero_add];rw[List.getElem?_map] at hx
    cases hq:(L.map sh)[j]? with
    | none=>rw[hq] at hx;cases hx
    | some s =>
     rw[hq] at hx
     cases hx
     exact g2 j s hq) g1 (by rw[hxl];omega) (by rw[hxl];exact c1) (by rw[hxs,bK];exact hJ2)
   rw[hxl,hxs,bK] at hJ;have HJ:=Ng hJ;clear hJ hJl hxs hxl hll g2 c3;go_wp2_with fail
   refine HJ.out.mono ?_;rintro e w5 ⟨rfl,hb5⟩;go_wp2_with fail
   go_ret;exact⟨rfl,aE hb hb5⟩
theorem Aq (f fv fo:Nat)(oa:Array Value)(ef:∀ args w,(callFunc f args).run Tryz.prog w = .ok (.enter f args) w)(sh:aA→List UInt8)(L:List aA)(h0:L≠[])(b:Nat)(v:Value)(w:World)(hb:b<w.heap.size)(hN:NAt w b v (aC 21 0 [] L))(hS:∀ l∈L,kW l)(hn:L.length≤1000)(hfl:L.flatten.length≤100000)(hsh:∀ l∈L,(sh l).length≤100000)
  (H:∀ l∈L,∀ (w1:World) (u:Value),Below w.heap.size w w1→NSl w1 b u l→Calls Tryz.prog f #[u] w1 fun e w'=>e = .returned (.string (bs (sh l)))∧Below w1.heap.size w1 w') :
  dV 131 f fv fo oa v (Lib.join (L.map sh) [32]) w:=by
 have HK:=Ng fun (w1:World) (h:Below w.heap.size w w1)=>mB 21 0 [] L b v w1 (Nat.lt_of_lt_of_le hb h.size) hS hfl (hN.below h)
 have HW:=Ng fun (w2:World) (v2:Value) (h:Below w.heap.size w w2) (hv:KSl w2 b v2 L)=>B6 f #[] ef sh L h0 [32] (by simp) b v2 w2 hv (fun l hl=>by obtain⟨x,r,rfl,-⟩:=hS l hl;simp) hn hsh (fun l hl w3 u h3 hu=>H l hl w3 u (aE h h3) hu)
 obtain⟨g,o,cap,rfl,h1,-⟩:=id hN;obtain⟨n0,-⟩:=hN.facts (k:=0) rfl;rw[Nat.zero_mul,Nat.add_zero] at n0;have N0:=Ng (show w.cell? ⟨g,o,none⟩=some (.int .i64 21) from n0)
 generalize hz:(aC 21 0 [] L).length=n at *;have hn1:1≤n:=by rw[← hz,bN];omega
 clear hN hS H n0 hz hsh;intro w1 h2;obtain⟨_,rfl,hB,hb1,-⟩:=wrS f fv fo oa w1;have hb2:=aE h2 hb1;go_enter Tryz.func131,Tryz.ntmps131
 go_wp2_with fail
 refine (HK.out _ hb2).mono ?_;rintro e w2 ⟨v2,rfl,hv2,hb3⟩;obtain⟨c0,c1,c2⟩:=bl3 (hB.below hb3);have hb4:=aE hb2 hb3;have n0:=aF hb4 N0.out;have HV:=Ng (HW.out w2 v2 hb4 hv2);obtain⟨ao2,cap2,rfl,-⟩:=hv2;generalize L.length=m at *;clear hB;go_wp2_with fail
 refine HV.out.mono ?_;rintro e w4 ⟨rfl,hb5⟩;go_wp2_with fail
 go_ret;exact⟨rfl,aE hb1 (aE hb3 hb5)⟩
theorem yH {l:aA}(hl:l.length≤400000)(h:∀ x∈l,x.text.length≤100000∧0≤x.k∧x.k≤400000∧0≤x.size∧x.size≤400001):lJ l:=by
 have h1:∀ i,(cK l i).text.length≤100000∧0≤(cK l i).k∧(cK l i).k≤400000∧0≤(cK l i).size∧(cK l i).size≤400001:=fun i=>by
  by_cases hi:i<l.length
  ·have h2:=List.mem_of_getElem? (vF hi);exact h _ h2
  ·unfold cK;rw[List.getD_eq_getElem?_getD,List.getElem?_eq_none (by omega)]
   exact⟨Nat.zero_le _,Int.le_refl _,by decide,Int.le_refl _,by decide⟩
 refine ⟨hl,fun i=>(h1 i).1,fun i=>?_,fun i=>?_⟩
 ·have:=h1 i
  omega
 ·have:=h1 i
  omega
theorem xC (f f1 f2 f3 f4 f5:Nat)(nm:Bool)(ef:∀ args w,(callFunc f args).run Tryz.prog w = .ok (.enter f args) w)(q:aA→Bool)(L:List aA)(b:Nat)(v:Value)(w:World)(hb:b<w.heap.size)(hN:NAt w b v (aC 21 0 [] L))(hS:∀ l∈L,kW l)(hn:L.length≤1000)(hfl:L.flatten.length≤100000)
  (H:∀ l∈L,∀ (w1:World) (u:Value),Below w.heap.size w w1→NSl w1 b u l→Calls Tryz.prog f #[u] w1 fun e w'=>e = .returned (.bool (q l))∧Below w1.heap.size w1 w') :
  jQ f f1 f2 f3 f4 f5 nm v (L.all q) w:=by
 have HK:=Ng fun (w1:World) (h:Below w.heap.size w w1)=>mB 21 0 [] L b v w1 (Nat.lt_of_lt_of_le hb h.size) hS hfl (hN.below h)
 have HW:=Ng fun (w2:World) (v2:Value) (h:Below w.heap.size w w2) (hv:KSl w2 b v2 L)=>u6 f #[] ef q L b v2 w2 hv (fun l hl=>by obtain⟨x,r,rfl,-⟩:=hS l hl;simp) (by omega) (fun l hl w3 u h3 hu=>H l hl w3 u (aE h h3) hu)
 obtain⟨g,o,cap,rfl,h1,-⟩:=id hN;obtain⟨n0,-⟩:=hN.facts (k:=0) rfl;rw[Nat.zero_mul,Nat.add_zero] at n0;have N0:=Ng (show w.cell? ⟨g,o,none⟩=some (.int .i64 21) from n0)
 generalize hz:(aC 21 0 [] L).length=n at *;have hn1:1≤n:=by rw[← hz,bN];omega
 clear hN hS H n0 hz;intro w1 h2;obtain⟨_,rfl,hB,hb1⟩:=saS f f1 f2 f3 f4 f5 nm w1;have hb2:=aE h2 hb1;go_enter Tryz.func29,Tryz.ntmps29
 go_wp2_with fail
 refine (HK.out _ hb2).mono ?_;rintro e w2 ⟨v2,rfl,hv2,hb3⟩;have c0:=(hB.below hb3).cell 0 rfl;have hb4:=aE hb2 hb3;have n0:=aF hb4 N0.out;have HV:=Ng (HW.out w2 v2 hb4 hv2);obtain⟨ao2,cap2,rfl,-⟩:=hv2;generalize L.length=m at *;clear hB;go_wp2_with fail
 refine HV.out.mono ?_;rintro e w4 ⟨rfl,hb5⟩;go_wp2_with fail
 go_ret;exact⟨rfl,aE hb1 (aE hb3 hb5)⟩
theorem Kd (w:World):Calls Tryz.prog 28 #[] w fun e w'=>e = .returned (.agg #[.func (.func 55) #[] #[],.func (.func 56) #[] #[],.func (.func 56) #[] #[],.func (.func 57) #[] #[],.func (.func 58) #[] #[],.func (.func 59) #[] #[],.bool false])∧Below w.heap.size w w':=by
 have hB:=Blk.new w [Value.nilFunc,.nilFunc,.nilFunc,.nilFunc,.nilFunc,.nilFunc,.bool false] 66;have hb1:=(Below.refl _ w).alloc (Nat.le_refl _) (.cells #[Value.nilFunc,.nilFunc,.nilFunc,.nilFunc,.nilFunc,.nilFunc,.bool false] 66);go_enter Tryz.func28,Tryz.ntmps28
 go_upto_region 1 with fail
 refine eJ (fun w9=>Blk w9 w.heap.size [Value.nilFunc,.nilFunc,.nilFunc,.nilFunc,.nilFunc,.nilFunc,.bool false]∧Below w.heap.size w w9) ⟨hB,hb1⟩ ?_
 clear hB hb1;intro w1 ⟨hB,hb1⟩;obtain⟨c0,c1,c2,c3,c4,c5,c6⟩:=bl7 hB;have f0:=hB.free 0;have f1:=hB.free 1;have f2:=hB.free 2;have f3:=hB.free 3;have f4:=hB.free 4;have f5:=hB.free 5;have f6:=hB.free 6;go_wp2_with fail
 (try simp only[Exit.inBlock,Exit.then])
 refine bodyPost_ret (qJ (p:=0) (g:=w.heap.size) (cs:=[.func (.func 55) #[] #[],.func (.func 56) #[] #[],.func (.func 56) #[] #[],.func (.func 57) #[] #[],.func (.func 58) #[] #[],.func (.func 59) #[] #[],.bool false]) rfl _ _ _ rfl ?_ Tryz.underlying66 rfl (by kernel_rfl)) rfl ?_
 ·exact ((((((hB.set 0 _).set 1 _).set 2 _).set 3 _).set 4 _).set 5 _).set 6 _
 ·exact⟨rfl,((((((hb1.setCell (Nat.le_refl _) _).setCell (Nat.le_refl _) _).setCell (Nat.le_refl _) _).setCell (Nat.le_refl _) _).setCell (Nat.le_refl _) _).setCell (Nat.le_refl _) _).setCell (Nat.le_refl _) _⟩
theorem J0 (w:World):Calls Tryz.prog 30 #[] w fun e w'=>e = .returned (.agg #[.func (.func 64) #[] #[],.func (.func 64) #[] #[],.func (.func 63) #[] #[],.func (.func 66) #[] #[],.func (.func 64) #[] #[],.func (.func 67) #[] #[],.bool true])∧Below w.heap.size w w':=by
 have hB:=Blk.new w [Value.nilFunc,.nilFunc,.nilFunc,.nilFunc,.nilFunc,.nilFunc,.bool false] 66;have hb1:=(Below.refl _ w).alloc (Nat.le_refl _) (.cells #[Value.nilFunc,.nilFunc,.nilFunc,.nilFunc,.nilFunc,.nilFunc,.bool false] 66);go_enter Tryz.func30,Tryz.ntmps30
 go_upto_region 1 with fail
 refine eJ (fun w9=>Blk w9 w.heap.size [Value.nilFunc,.nilFunc,.nilFunc,.nilFunc,.nilFunc,.nilFunc,.bool false]∧Below w.heap.size w w9) ⟨hB,hb1⟩ ?_
 clear hB hb1;intro w1 ⟨hB,hb1⟩;obtain⟨c0,c1,c2,c3,c4,c5,c6⟩:=bl7 hB;have f0:=hB.free 0;have f1:=hB.free 1;have f2:=hB.free 2;have f3:=hB.free 3;have f4:=hB.free 4;have f5:=hB.free 5;have f6:=hB.free 6;go_wp2_with fail
 (try simp only[Exit.inBlock,Exit.then])
 refine bodyPost_ret (qJ (p:=0) (g:=w.heap.size) (cs:=[.func (.func 64) #[] #[],.func (.func 64) #[] #[],.func (.func 63) #[] #[],.func (.func 66) #[] #[],.func (.func 64) #[] #[],.func (.func 67) #[] #[],.bool true]) rfl _ _ _ rfl ?_ Tryz.underlying66 rfl (by kernel_rfl)) rfl ?_
 ·exact ((((((hB.set 0 _).set 1 _).set 2 _).set 3 _).set 4 _).set 5 _).set 6 _
 ·exact⟨rfl,((((((hb1.setCell (Nat.le_refl _) _).setCell (Nat.le_refl _) _).setCell (Nat.le_refl _) _).setCell (Nat.le_refl _) _).setCell (Nat.le_refl _) _).setCell (Nat.le_refl _) _).setCell (Nat.le_refl _) _⟩
theorem LB (w:World):Calls Tryz.prog 17 #[] w fun e w'=>e = .returned (.agg #[.func (.func 32) #[] #[],.func (.func 33) #[] #[],.func (.func 34) #[.agg #[.func (.func 32) #[] #[],.func (.func 33) #[] #[],.nilFunc]] #[]])∧Below w.heap.size w w':=by
 have hmf:∀ (fn:Fn) (first cap:Array Value) (w:World),(Instr.makeFunc fn first cap).run Tryz.prog w = .ok (.func fn first cap) w:=fun _ _ _ _=>rfl
 have hB:=Blk.new w [Value.nilFunc,.nilFunc,.nilFunc] 45;have hb1:=(Below.refl _ w).alloc (Nat.le_refl _) (.cells #[Value.nilFunc,.nilFunc,.nilFunc] 45);go_enter Tryz.func17,Tryz.ntmps17
 go_upto_region 1 with fail
 refine eJ (fun w9=>Blk w9 w.heap.size [Value.nilFunc,.nilFunc,.nilFunc]∧Below w.heap.size w w9) ⟨hB,hb1⟩ ?_
 clear hB hb1;intro w1 ⟨hB,hb1⟩;have hB2:=hB.alloc (.cells #[Value.func (.func 32) #[] #[],.func (.func 33) #[] #[],.func (.func 34) #[.agg #[.func (.func 32) #[] #[],.func (.func 33) #[] #[],.nilFunc]] #[]] 45);have hb2:=hb1.alloc hb1.size (.cells #[Value.func (.func 32) #[] #[],.func (.func 33) #[] #[],.func (.func 34) #[.agg #[.func (.func 32) #[] #[],.func (.func 33) #[] #[],.nilFunc]] #[]] 45);obtain⟨c0,c1,c2⟩:=bl3 hB2;have f0:=hB2.free 0;have f1:=hB2.free 1;have f2:=hB2.free 2;go_wp2_with fail
 (try simp only[Exit.inBlock,Exit.then])
 refine bodyPost_ret (qJ (p:=0) (g:=w.heap.size) (cs:=[.func (.func 32) #[] #[],.func (.func 33) #[] #[],.func (.func 34) #[.agg #[.func (.func 32) #[] #[],.func (.func 33) #[] #[],.nilFunc]] #[]]) rfl _ _ _ rfl ?_ Tryz.underlying45 rfl (by kernel_rfl)) rfl ?_
 ·exact ((hB2.set 0 _).set 1 _).set 2 _
 ·exact⟨rfl,((hb2.setCell (Nat.le_refl _) _).setCell (Nat.le_refl _) _).setCell (Nat.le_refl _) _⟩
theorem KO (w:World):Calls Tryz.prog 19 #[] w fun e w'=>e = .returned (.agg #[.func (.func 38) #[] #[],.func (.func 38) #[] #[],.func (.func 39) #[.agg #[.func (.func 38) #[] #[],.func (.func 38) #[] #[],.nilFunc]] #[]])∧Below w.heap.size w w':=by
 have hmf:∀ (fn:Fn) (first cap:Array Value) (w:World),(Instr.makeFunc fn first cap).run Tryz.prog w = .ok (.func fn first cap) w:=fun _ _ _ _=>rfl
 have hB:=Blk.new w [Value.nilFunc,.nilFunc,.nilFunc] 45;have hb1:=(Below.refl _ w).alloc (Nat.le_refl _) (.cells #[Value.nilFunc,.nilFunc,.nilFunc] 45);go_enter Tryz.func19,Tryz.ntmps19
 go_upto_region 1 with fail
 refine eJ (fun w9=>Blk w9 w.heap.size [Value.nilFunc,.nilFunc,.nilFunc]∧Below w.heap.size w w9) ⟨hB,hb1⟩ ?_
 clear hB hb1;intro w1 ⟨hB,hb1⟩;have hB2:=hB.alloc (.cells #[Value.func (.func 38) #[] #[],.func (.func 38) #[] #[],.func (.func 39) #[.agg #[.func (.func 38) #[] #[],.func (.func 38) #[] #[],.nilFunc]] #[]] 45);have hb2:=hb1.alloc hb1.size (.cells #[Value.func (.func 38) #[] #[],.func (.func 38) #[] #[],.func (.func 39) #[.agg #[.func (.func 38) #[] #[],.func (.func 38) #[] #[],.nilFunc]] #[]] 45);obtain⟨c0,c1,c2⟩:=bl3 hB2;have f0:=hB2.free 0;have f1:=hB2.free 1;have f2:=hB2.free 2;go_wp2_with fail
 (try simp only[Exit.inBlock,Exit.then])
 refine bodyPost_ret (qJ (p:=0) (g:=w.heap.size) (cs:=[.func (.func 38) #[] #[],.func (.func 38) #[] #[],.func (.func 39) #[.agg #[.func (.func 38) #[] #[],.func (.func 38) #[] #[],.nilFunc]] #[]]) rfl _ _ _ rfl ?_ Tryz.underlying45 rfl (by kernel_rfl)) rfl ?_
 ·exact ((hB2.set 0 _).set 1 _).set 2 _
 ·exact⟨rfl,((hb2.setCell (Nat.le_refl _) _).setCell (Nat.le_refl _) _).setCell (Nat.le_refl _) _⟩
end Go.Proofs.YtbpjobmpacjgcaaGreatDoor
