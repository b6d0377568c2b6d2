/- The document's tokens of dialect B beside the plain ones. No program stands in it. -/
import Derived.Test.YtbplbehhlbkklaaGreatDoorGZA
import Derived.Test.YtbplbehhlbkklaaGreatDoorGRef5G
namespace Go.Proofs.YtbplbehhlbkklaaGreatDoor
open Go Go.RowKit
def opsZ:List (List UInt8×Nat):=[([60,60,60],14),([38,38],3),([124,124],4),([62,62],13),([96,123],10),([10],1),([59],2),([124],5),([40],6),([41],7),([123],8),([125],9),([60],11),([62],12),([94],15),([61],16),([33],17)]
def opFind:List (List UInt8×Nat)→List UInt8→List UInt8×Nat
 | [],_=>([],0)
 | x :: os,l=>if Lib.hasPrefix l x.1=true then x else opFind os l
theorem opFind_best (l:List UInt8):opFind opsZ l=bestOp l opsB 0 [] 0:=by
 rcases l with _ | ⟨c,m⟩
 ·rfl
 ·by_cases h60:c=60
  ·subst h60
   rcases m with _ | ⟨d,m⟩
   ·rfl
   ·by_cases hd:d=60
    ·subst hd
     rcases m with _ | ⟨e,m⟩
     ·rfl
     ·by_cases he:e=60
      ·subst he;simp [opFind,opsZ,bestOp,opsB,Lib.hasPrefix,List.isPrefixOf]
      ·have he2:¬ 60=e:=fun x=>he x.symm
       simp [opFind,opsZ,bestOp,opsB,Lib.hasPrefix,List.isPrefixOf,he2]
    ·have hd2:¬ 60=d:=fun x=>hd x.symm
     simp [opFind,opsZ,bestOp,opsB,Lib.hasPrefix,List.isPrefixOf,hd2]
  ·have n60:¬ 60=c:=fun x=>h60 x.symm
   by_cases h38:c=38
   ·subst h38
    rcases m with _ | ⟨d,m⟩
    ·rfl
    ·by_cases hd:38=d
     ·subst hd;simp [opFind,opsZ,bestOp,opsB,Lib.hasPrefix,List.isPrefixOf]
     ·simp [opFind,opsZ,bestOp,opsB,Lib.hasPrefix,List.isPrefixOf,hd]
   ·have n38:¬ 38=c:=fun x=>h38 x.symm
    by_cases h124:c=124
    ·subst h124
     rcases m with _ | ⟨d,m⟩
     ·rfl
     ·by_cases hd:124=d
      ·subst hd;simp [opFind,opsZ,bestOp,opsB,Lib.hasPrefix,List.isPrefixOf]
      ·simp [opFind,opsZ,bestOp,opsB,Lib.hasPrefix,List.isPrefixOf,hd]
    ·have n124:¬ 124=c:=fun x=>h124 x.symm
     by_cases h62:c=62
     ·subst h62
      rcases m with _ | ⟨d,m⟩
      ·rfl
      ·by_cases hd:62=d
       ·subst hd;simp [opFind,opsZ,bestOp,opsB,Lib.hasPrefix,List.isPrefixOf]
       ·simp [opFind,opsZ,bestOp,opsB,Lib.hasPrefix,List.isPrefixOf,hd]
     ·have n62:¬ 62=c:=fun x=>h62 x.symm
      by_cases h96:c=96
      ·subst h96
       rcases m with _ | ⟨d,m⟩
       ·rfl
       ·by_cases hd:123=d
        ·subst hd;simp [opFind,opsZ,bestOp,opsB,Lib.hasPrefix,List.isPrefixOf]
        ·simp [opFind,opsZ,bestOp,opsB,Lib.hasPrefix,List.isPrefixOf,hd]
      ·have n96:¬ 96=c:=fun x=>h96 x.symm
       simp only[opFind,opsZ,bestOp,opsB,Lib.hasPrefix,List.isPrefixOf,List.length_nil,List.length_cons,Nat.lt_irrefl,false_and,if_false,beq_iff_eq,Bool.and_eq_true,Bool.and_true,n60,n38,n124,n62,n96,Nat.zero_add,Nat.lt_add_one,true_and,and_false]
theorem pre_at (l:List UInt8)(j:Nat)(o:List UInt8)(hj:j≤l.length):Lib.hasPrefix (l.drop j) o=(decide (j+o.length≤l.length)&&decide ((l.take (j+o.length)).drop j=o)):=by
 rw[show Lib.hasPrefix (l.drop j) o=List.isPrefixOf o (l.drop j) from rfl,Bool.eq_iff_iff,List.isPrefixOf_iff_prefix,List.prefix_iff_eq_take,Bool.and_eq_true,decide_eq_true_eq,decide_eq_true_eq]
 have h1:(l.take (j+o.length)).drop j=(l.drop j).take o.length:=by rw[List.drop_take,Nat.add_sub_cancel_left]
 rw[h1];constructor
 ·intro h;refine ⟨?_,h.symm⟩;have h2:=congrArg List.length h;rw[List.length_take,List.length_drop] at h2;omega
 ·exact fun h=>h.2.symm
theorem opFind_drop {k:Nat}{o:List UInt8}{kd:Nat}(h:opsZ[k]?=some (o,kd))(l:List UInt8):opFind (opsZ.drop k) l=if Lib.hasPrefix l o=true then (o,kd) else opFind (opsZ.drop (k+1)) l:=by
 obtain⟨hk,e⟩:=List.getElem?_eq_some_iff.1 h;rw[List.drop_eq_getElem_cons hk,e];rfl
theorem opsZ_get {k:Nat}(h:k<17):∃ o kd,opsZ[k]?=some (o,kd)∧o.length≤3∧1≤o.length∧1≤kd∧kd≤17:=by
 have:k=0∨k=1∨k=2∨k=3∨k=4∨k=5∨k=6∨k=7∨k=8∨k=9∨k=10∨k=11∨k=12∨k=13∨k=14∨k=15∨k=16:=by omega
 rcases this with rfl | rfl | rfl | rfl | rfl | rfl | rfl | rfl | rfl | rfl | rfl | rfl | rfl | rfl | rfl | rfl | rfl <;> exact⟨_,_,rfl,by decide,by decide,by decide,by decide⟩
theorem zskip_blank {l:List UInt8}{p:Nat}{c:UInt8}{m:List UInt8}(h:l.drop p=c :: m)(hc:c.toNat=32∨c.toNat=9):p+skipN false (l.drop p)=(p+1)+skipN false (l.drop (p+1)):=by
 have h2:l.drop (p+1)=m:=by rw[← List.drop_drop,h];rfl
 rw[h,h2,skipN,if_pos hc];omega
theorem zskip_hash {l:List UInt8}{p:Nat}{c:UInt8}{m:List UInt8}(h:l.drop p=c :: m)(hc:c.toNat=35):p+skipN false (l.drop p)=p+skipN true (l.drop p):=by
 rw[h,skipN,skipN,if_neg (by omega),if_pos hc,if_neg (by omega)]
theorem zskip_in {l:List UInt8}{p:Nat}{c:UInt8}{m:List UInt8}(h:l.drop p=c :: m)(hc:¬ c.toNat=10):p+skipN true (l.drop p)=(p+1)+skipN true (l.drop (p+1)):=by
 have h2:l.drop (p+1)=m:=by rw[← List.drop_drop,h];rfl
 rw[h,h2,skipN,if_neg hc];omega
theorem zskip_line {l:List UInt8}{p:Nat}{c:UInt8}{m:List UInt8}(h:l.drop p=c :: m)(hc:c.toNat=10):skipN true (l.drop p)=0∧skipN false (l.drop p)=0:=by
 rw[h,skipN,skipN,if_pos hc,if_neg (by omega),if_neg (by omega)]
 exact⟨rfl,rfl⟩
theorem zskip_not {l:List UInt8}{p:Nat}{c:UInt8}{m:List UInt8}(h:l.drop p=c :: m)(h1:¬ (c.toNat=32∨c.toNat=9))(h2:¬ c.toNat=35):skipN false (l.drop p)=0:=by
 rw[h,skipN,if_neg h1,if_neg h2]
theorem zdrop_at {l:List UInt8}{p:Nat}(h:p<l.length):l.drop p=l[p] :: l.drop (p+1):=List.drop_eq_getElem_cons h
def deadRest (l:List UInt8) (p i:Nat) (acc:List UInt8):Option (List UInt8×Nat):=(deadB (l.drop i)).map fun x=>(acc++x.1,(i - p)+x.2)
theorem dead_start (l:List UInt8)(p:Nat):deadRest l p p []=deadB (l.drop p):=by
 unfold deadRest
 cases deadB (l.drop p) <;> simp
theorem dead_end (l:List UInt8)(p:Nat)(acc:List UInt8)(i:Nat)(h:l.length≤i):deadRest l p i acc=none:=by
 unfold deadRest;rw[List.drop_of_length_le h];rfl
theorem dead_two {l:List UInt8}{p i:Nat}{acc:List UInt8}(hp:p≤i)(hi:i+1<l.length)(h1:l[i].toNat=39)(h2:l[i+1].toNat=39):deadRest l p i acc=deadRest l p (i+2) (acc++[39]):=by
 unfold deadRest;rw[zdrop_at (show i<l.length by omega),zdrop_at hi,deadB,if_pos h1,if_pos h2,Option.map_map]
 cases deadB (l.drop (i+1+1)) with
 | none=>rfl
 | some x =>
  simp only[Option.map_some,Function.comp,List.append_assoc,List.singleton_append,Option.some.injEq,Prod.mk.injEq,true_and];omega
theorem dead_one {l:List UInt8}{p i:Nat}{acc:List UInt8}(hi:i<l.length)(h1:l[i].toNat=39)(h2:∀ h:i+1<l.length,¬ l[i+1].toNat=39):deadRest l p i acc=some (acc,i - p+1):=by
 unfold deadRest;rw[zdrop_at hi]
 by_cases hi2:i+1<l.length
 ·rw[zdrop_at hi2,deadB,if_pos h1,if_neg (h2 hi2)];simp
 ·rw[List.drop_of_length_le (by omega),deadB,if_pos h1]
  simp
theorem dead_go {l:List UInt8}{p i:Nat}{acc:List UInt8}(hp:p≤i)(hi:i<l.length)(h1:¬ l[i].toNat=39):deadRest l p i acc=deadRest l p (i+1) (acc++[l[i]]):=by
 unfold deadRest;rw[zdrop_at hi]
 by_cases hi2:i+1<l.length
 ·rw[zdrop_at hi2,deadB,if_neg h1,Option.map_map]
  cases deadB (l[i+1] :: l.drop (i+1+1)) with
  | none=>rfl
  | some x =>
   simp only[Option.map_some,Function.comp,List.append_assoc,List.singleton_append,Option.some.injEq,Prod.mk.injEq,true_and];omega
 ·rw[List.drop_of_length_le (show l.length≤i+1 by omega)]
  simp [deadB,h1]
theorem run_first {x:List UInt8}(h:0<(runName x).length):∃ c m,x=c :: m∧isBegin c=true∧runName x=c :: m.takeWhile isGo:=by
 cases x with
 | nil=>simp [runName] at h
 | cons c m =>
  rw[runName] at h ⊢
  cases hb:isBegin c with
  | false=>rw[hb] at h;simp at h
  | true =>
   refine ⟨c,m,rfl,hb,?_⟩;rw[if_pos rfl,List.takeWhile_cons_of_pos (by rw[isGo,hb];rfl)]
theorem run_name {x:List UInt8}(h:0<(runName x).length):nameB (runName x)=decide ((runName x).length≤20):=by
 obtain⟨c,m,rfl,hb,e⟩:=run_first h;rw[e,nameB,hb,Bool.and_true,List.length_cons]
 have h1:(c :: m.takeWhile isGo).all isGo=true:=by
  rw[List.all_cons,isGo,hb,Bool.true_or,Bool.true_and];exact List.all_takeWhile
 rw[h1,Bool.and_true,Bool.eq_iff_iff,decide_eq_true_eq,decide_eq_true_eq];omega
theorem star_run {x:List UInt8}(h:0<(runName x).length):starName x=runName x:=by
 obtain⟨c,m,rfl,hb,e⟩:=run_first h;have hc:¬ (42:UInt8)=c:=fun e=>by subst e;cases hb
 unfold starName;rw[if_neg (by simp [Lib.hasPrefix,List.isPrefixOf,hc])]
theorem star_star {x:List UInt8}{m:List UInt8}(h:x=42 :: m):starName x=[42]∧runName x=[]:=by
 subst h;refine ⟨?_,rfl⟩;unfold starName;rw[if_pos (by simp [Lib.hasPrefix,List.isPrefixOf])]
theorem star_none {x:List UInt8}(h:(runName x).length=0)(h2:∀ m,x≠42 :: m):starName x=[]:=by
 unfold starName;rw[if_neg,List.length_eq_zero_iff.1 h]
 cases x with
 | nil=>simp [Lib.hasPrefix,List.isPrefixOf]
 | cons c m =>
  have hc:¬ (42:UInt8)=c:=fun e=>h2 m (by rw[e])
  simp [Lib.hasPrefix,List.isPrefixOf,hc]
theorem not_digit_begin {c:UInt8}(h:49≤c.toNat∧c.toNat≤57):isBegin c=false:=by
 rw[Bool.eq_false_iff];intro h2;unfold isBegin isLetter at h2;simp only[Bool.or_eq_true,Bool.and_eq_true,decide_eq_true_eq,beq_iff_eq] at h2;omega
theorem zdollar_run {m:List UInt8}(h:0<(runName (m.drop (dPre (m.headD 0).toNat))).length):dollarB m=if (runName (m.drop (dPre (m.headD 0).toNat))).length≤20 then some (dKind (m.headD 0).toNat,0,runName (m.drop (dPre (m.headD 0).toNat)),dPre (m.headD 0).toNat+(runName (m.drop (dPre (m.headD 0).toNat))).length) else none:=by
 have hn:¬ (49≤(m.headD 0).toNat∧(m.headD 0).toNat≤57):=fun hd=>by
  have hp:dPre (m.headD 0).toNat=0:=by unfold dPre;rw[if_neg (by omega)]
  rw[hp,List.drop_zero] at h;obtain⟨c,m',rfl,hb,-⟩:=run_first h;exact absurd (hb.symm.trans (not_digit_begin (c:=c) hd)) (by simp)
 unfold dollarB;rw[if_neg hn,star_run h,run_name h]
 have h42:runName (m.drop (dPre (m.headD 0).toNat))≠[42]:=fun e=>by
  obtain⟨c,m',h1,hb,e2⟩:=run_first h;rw[e2] at e;injection e with e3 _
  subst e3
  cases hb
 by_cases hl:(runName (m.drop (dPre (m.headD 0).toNat))).length≤20
 ·rw[if_pos hl,if_pos (.inr (by simpa using hl))]
 ·rw[if_neg hl,if_neg];rintro (h1 | h1)
  ·exact h42 h1
  ·rw[decide_eq_true_eq] at h1;exact hl h1
theorem zdollar_star {m x:List UInt8}(h:m.drop (dPre (m.headD 0).toNat)=42 :: x):dollarB m=some (dKind (m.headD 0).toNat,0,[42],dPre (m.headD 0).toNat+1):=by
 have hn:¬ (49≤(m.headD 0).toNat∧(m.headD 0).toNat≤57):=fun hd=>by
  have hp:dPre (m.headD 0).toNat=0:=by unfold dPre;rw[if_neg (by omega)]
  rw[hp,List.drop_zero] at h;subst h;simp at hd
 unfold dollarB;rw[if_neg hn,(star_star h).1,if_pos (.inl rfl)];rfl
theorem zdollar_num {m:List UInt8}(h:49≤(m.headD 0).toNat∧(m.headD 0).toNat≤57):dollarB m=some (23,(m.headD 0).toNat - 48,[],1):=by
 unfold dollarB;rw[if_pos h]
theorem zdollar_none {m:List UInt8}(h:(runName (m.drop (dPre (m.headD 0).toNat))).length=0)(h1:∀ x,m.drop (dPre (m.headD 0).toNat)≠42 :: x)(h2:¬ (49≤(m.headD 0).toNat∧(m.headD 0).toNat≤57)):dollarB m=none:=by
 unfold dollarB;rw[if_neg h2,star_none h h1,if_neg];rintro (h | h)
 ·cases h
 ·cases h
theorem tok_op {c:UInt8}{m l:List UInt8}{p kd:Nat}{o:List UInt8}(hl:l=c :: m)(hf:opFind opsZ l=(o,kd))(ho:0<o.length):tokenB l p = .ok (⟨kd,p,0,[],false⟩,o.length):=by
 rw[opFind_best] at hf;subst hl;simp only[tokenB,hf];rw[if_pos (by intro e;rw[e] at ho;simp at ho)]
theorem tok_bad {c:UInt8}{m l:List UInt8}{p:Nat}(hl:l=c :: m)(hf:opFind opsZ l=([],0))(hc:c.toNat=38∨c.toNat=96):tokenB l p = .error (107,p):=by
 rw[opFind_best] at hf;subst hl;simp only[tokenB,hf];rw[if_neg (by simp),if_pos hc]
theorem tok_dead {c:UInt8}{m l:List UInt8}{p:Nat}(hl:l=c :: m)(hf:opFind opsZ l=([],0))(hc:c.toNat=39):tokenB l p=match deadB m with | some (x,n)=>.ok (⟨19,p,0,x,false⟩,n+1) | none=>.error (103,p):=by
 rw[opFind_best] at hf;subst hl;simp only[tokenB,hf];rw[if_neg (by simp),if_neg (by omega)];exact if_pos hc
theorem tok_dollar {c:UInt8}{m l:List UInt8}{p:Nat}(hl:l=c :: m)(hf:opFind opsZ l=([],0))(hc:c.toNat=36):tokenB l p=match dollarB m with | some (k,n,x,z)=>.ok (⟨k,p,n,x,false⟩,z+1) | none=>.error (106,p):=by
 rw[opFind_best] at hf;subst hl;simp only[tokenB,hf];rw[if_neg (by simp),if_neg (by omega),if_neg (by omega)];exact if_pos hc
theorem tok_word {c:UInt8}{m l:List UInt8}{p:Nat}(hl:l=c :: m)(hf:opFind opsZ l=([],0))(h1:¬ (c.toNat=38∨c.toNat=96))(h2:¬ c.toNat=39)(h3:¬ c.toNat=36):tokenB l p = .ok (⟨18,p,0,l.takeWhile (fun c=>!endsB c),false⟩,(l.takeWhile (fun c=>!endsB c)).length):=by
 rw[opFind_best] at hf;subst hl;simp only[tokenB,hf];rw[if_neg (by simp),if_neg h1,if_neg h2,if_neg h3]
theorem op_is (l:List UInt8){o:List UInt8}{kd:Nat}(hf:opFind opsZ l=(o,kd)):(o=[]∧kd=0)∨(0<o.length∧kd≠0∧o.length≤l.length):=by
 rw[opFind_best] at hf
 rcases best_is l with e | ⟨h1,h2,h3⟩
 ·rw[hf] at e
  cases e
  exact .inl ⟨rfl,rfl⟩
 ·rw[hf] at h1 h2 h3;refine .inr ⟨h3,fun e=>?_,hasPrefix_le h2⟩
  subst e
  cases h1
  simp at h3
theorem zword_go {l:List UInt8}{p q:Nat}(hpq:p≤q)(h:((l.drop p).take (q - p)).all (fun c=>!endsB c)=true)(hq:q<l.length)(hc:(!endsB l[q])=true):((l.drop p).take (q+1 - p)).all (fun c=>!endsB c)=true:=by
 have e:(l.drop p).take (q+1 - p)=(l.drop p).take (q - p)++[l[q]]:=by
  rw[show q+1 - p=(q - p)+1 by omega,List.take_succ_eq_append_getElem (by rw[List.length_drop];omega)]
  congr 2
  rw[List.getElem_drop];congr 1
  omega
 rw[e,List.all_append,h,Bool.true_and,List.all_cons,hc,List.all_nil];rfl
theorem zword_end {l:List UInt8}{p q:Nat}(hpq:p≤q)(hql:q≤l.length)(h:((l.drop p).take (q - p)).all (fun c=>!endsB c)=true)(hc:∀ h:q<l.length,(!endsB l[q])=false):(l.drop p).takeWhile (fun c=>!endsB c)=(l.take q).drop p:=by
 have e:l.drop p=(l.drop p).take (q - p)++l.drop q:=by
  conv=>lhs;rw[← List.take_append_drop (q - p) (l.drop p)]
  rw[List.drop_drop,show p+(q - p)=q by omega]
 have e2:(l.drop p).take (q - p)=(l.take q).drop p:=by rw[List.drop_take]
 rw[e,List.takeWhile_append_of_pos (fun a ha=>List.all_eq_true.1 h a ha),e2]
 by_cases hq:q<l.length
 ·rw[zdrop_at hq,List.takeWhile_cons_of_neg (by rw[hc hq];simp),List.append_nil]
 ·rw[List.drop_of_length_le (show l.length≤q by omega)]
  simp
end Go.Proofs.YtbplbehhlbkklaaGreatDoor

namespace Go.Proofs.YtbplbehhlbkklaaGreatDoor
open Go Go.RowKit
theorem results_tc {P:Program}{fn:Func}{t p:Tmp}{ty:TypeId}(h:fn.results=#[.tmp t,.cell p ty])(tmps:Array Value)(w:World)(g:Nat)(cs:List Value)(d:TypeDesc)
  (hp:tmps.getD p undef = .pointer (some ⟨g,0,none⟩)) (hg:Blk w g cs) (hu:P.underlying ty=some d) (hd:(match d with | .struct _ | .array _ _=>true | _=>false)=true) (hi:(P.info? ty).map (·.size)=some cs.length) :
  (results fn tmps).run P w = .ok (.tuple #[tmps.getD t undef,.agg cs.toArray]) w:=by
 obtain⟨tt,hg⟩:=hg
 have h1:(results fn tmps).run P w=((asAddr (tmps.getD p undef)).run P w).andThen fun a w₁=>((loadVar ty a).run P w₁).andThen fun v w₂=>.ok (.tuple #[tmps.getD t undef,v]) w₂:=by
  simp only[results,h];simp [Sem.run_bind,Result.andThen]
 rw[h1,hp];simp only[asAddr,Sem.run_pure,Result.andThen_ok];rw[run_loadVar_row w g tt ty cs.toArray (0,0) d hg hu hd (by simpa using hi)]
 rfl
theorem zrRun_not (s:ByteArray)(i:Nat)(w:World)(_hs:s.size≤1000000)(hi:i<s.size)(hb:Hid (isGo s[i]=false)) :
  Calls Tryz.prog 45 #[.string s,.int .i64 i] w fun e w'=>e = .returned (.int .i64 i)∧w=w':=by
 go_enter Tryz.func45,Tryz.ntmps45
 go_wp2_with (go_at_call 84;refine (rLetter_any _ _).mono ?_;rintro e w' ⟨rfl,rfl⟩;rw[hb.out])
 go_ret;exact⟨rfl,rfl⟩
theorem zrRun_digit (s:ByteArray)(i:Nat)(w:World)(_hs:s.size≤1000000)(hi:i<s.size)(hb:Hid (isGo s[i]=true))(h1:decide ((48:Int)≤s[i].toNat)=true)(h2:decide ((s[i].toNat:Int)≤57)=true) :
  Calls Tryz.prog 45 #[.string s,.int .i64 i] w fun e w'=>e = .returned (.int .i64 i)∧w=w':=by
 go_enter Tryz.func45,Tryz.ntmps45
 go_wp2_with (go_at_call 84;refine (rLetter_any _ _).mono ?_;rintro e w' ⟨rfl,rfl⟩;rw[hb.out])
 go_ret;exact⟨rfl,rfl⟩
theorem zrRun_loop (s:ByteArray)(i:Nat)(w:World)(hs:s.size≤1000000)(hi:i<s.size)(hb:Hid (isGo s[i]=true))(hd:decide ((48:Int)≤s[i].toNat)=false∨(decide ((48:Int)≤s[i].toNat)=true∧decide ((s[i].toNat:Int)≤57)=false))(r:Nat)
  (hr:Hid (∀ k:Nat,i≤k→k≤s.size→((s.data.toList.drop i).take (k - i)).all isGo=true→(k<s.size→isGo (bat s k)=false)→k=r)) :
  Calls Tryz.prog 45 #[.string s,.int .i64 i] w fun e w'=>e = .returned (.int .i64 r)∧w=w':=by
 have hnle:¬ s.size≤i:=by omega
 go_enter Tryz.func45,Tryz.ntmps45
 rcases hd with hd | ⟨hd,he⟩
 all_goals
  go_wp2_with (go_at_call 84;refine (rLetter_any _ _).mono ?_;rintro e w' ⟨rfl,rfl⟩;rw[hb.out])
  go_loopg [5] (s.size - i) (fun m c wr=>∃ k:Nat,m=s.size - k∧i≤k∧k≤s.size∧c = .int .i64 k∧wr=w∧Hid (((s.data.toList.drop i).take (k - i)).all isGo=true))
  case atStart=>exact⟨i,rfl,Nat.le_refl _,by omega,rfl,rfl,Lib.hid (by rw[Nat.sub_self];rfl)⟩
  case round =>
   obtain⟨k,rfl,hik,hk,rfl,rfl,hall⟩:=hrel
   by_cases hlt:k<s.size
   ·by_cases hg:isGo s[k]=true
    ·have HG:=Lib.hid hg;have HN:=Lib.hid (run_step s i k hik hlt hall.out (by rw[← getElem_bat s k hlt];exact hg))
     clear hg;go_wp2_with (go_at_call 84;refine (rLetter_any _ _).mono ?_;rintro e w' ⟨rfl,rfl⟩;rw[HG.out])
     go_roundg (s.size - (k+1))
     case measure=>omega
     case rel=>exact⟨k+1,rfl,by omega,by omega,by go_num,rfl,HN⟩
    ·have HG:=Lib.hid (show isGo s[k]=false by simpa using hg)
     have HR:=Lib.hid (hr.out k hik hk hall.out (fun _=>by rw[← getElem_bat s k hlt];exact HG.out))
     clear hg;go_wp2_with (go_at_call 84;refine (rLetter_any _ _).mono ?_;rintro e w' ⟨rfl,rfl⟩;rw[HG.out])
     go_ret;exact⟨by rw[← HR.out];rfl,rfl⟩
   ·have HR:=Lib.hid (hr.out k hik hk hall.out (fun h=>absurd h hlt))
    go_wp2
    go_ret;exact⟨by rw[← HR.out];rfl,rfl⟩
theorem zrRun_in (s:ByteArray)(i:Nat)(w:World)(hs:s.size≤1000000)(hi:i<s.size) :
  Calls Tryz.prog 45 #[.string s,.int .i64 i] w fun e w'=>e = .returned (.int .i64 ((i+(runName (s.data.toList.drop i)).length:Nat):Int))∧w=w':=by
 have hb0:=getElem_bat s i hi
 by_cases hbeg:isBegin s[i]=true
 ·have hgo:isGo s[i]=true:=by rw[isGo,hbeg];rfl
  have hdig:isDigit s[i]=false:=by
   have:=digit_begin s[i]
   rw[hbeg] at this
   cases h:isDigit s[i] with
   | false=>rfl
   | true=>rw[h] at this;simp at this
  refine zrRun_loop s i w hs hi (Lib.hid hgo) ?_ _ (Lib.hid fun k h1 h2 h3 h4=>?_)
  ·by_cases h1:(48:Int)≤s[i].toNat
   ·by_cases h2:(s[i].toNat:Int)≤57
    ·have e:isDigit s[i]=true:=by unfold isDigit;rw[Bool.and_eq_true,decide_eq_true_eq,decide_eq_true_eq];omega
     rw[e] at hdig
     cases hdig
    ·exact .inr ⟨decide_eq_true h1,decide_eq_false h2⟩
   ·exact .inl (decide_eq_false h1)
  ·rw[run_end s i k hi h1 h2 (by rw[← hb0];exact hbeg) h3 h4]
   unfold subs;rw[show ((i:Nat):Int).toNat=i from rfl,show ((k:Nat):Int).toNat=k from rfl,List.length_drop,List.length_take,size_eq]
   omega
 ·have hbeg':isBegin s[i]=false:=by simpa using hbeg
  rw[run_not s i hi (by rw[← hb0];exact hbeg')]
  by_cases hgo:isGo s[i]=true
  ·have hdig:isDigit s[i]=true:=by rw[isGo,hbeg',Bool.false_or] at hgo;exact hgo
   have hd2:=hdig;unfold isDigit at hd2;rw[Bool.and_eq_true,decide_eq_true_eq,decide_eq_true_eq] at hd2;exact zrRun_digit s i w hs hi (Lib.hid hgo) (decide_eq_true (by omega)) (decide_eq_true (by omega))
  ·exact zrRun_not s i w hs hi (Lib.hid (by simpa using hgo))
section
set_option maxHeartbeats 8000000
set_option maxRecDepth 100000
theorem zrRun_end (s:ByteArray)(i:Nat)(w:World)(_hs:s.size≤1000000)(hi:s.size≤i)(_hi2:i≤1000000) :
  Calls Tryz.prog 45 #[.string s,.int .i64 i] w fun e w'=>e = .returned (.int .i64 i)∧w=w':=by
 go_enter Tryz.func45,Tryz.ntmps45
 go_wp2_with fail
 go_ret;exact⟨rfl,rfl⟩
theorem zrRun_any (s:ByteArray)(i:Nat)(w:World)(hs:s.size≤1000000)(hi:i≤s.size) :
  Calls Tryz.prog 45 #[.string s,.int .i64 i] w fun e w'=>e = .returned (.int .i64 ((i+(runName (s.data.toList.drop i)).length:Nat):Int))∧w=w':=by
 by_cases h:i<s.size
 ·exact zrRun_in s i w hs h
 ·have e:runName (s.data.toList.drop i)=[]:=by
   rw[List.drop_of_length_le (by rw[size_eq];omega)]
   rfl
  rw[e];exact zrRun_end s i w hs (by omega) (by omega)
theorem z12operators_any (w:World):Calls Tryz.prog 44 #[] w fun e w'=>∃ g1 g2,e = .returned (.tuple #[.slice (some ⟨g1,0,none⟩) 17 17,.slice (some ⟨g2,0,none⟩) 17 17])∧Blk w' g1 (opsZ.map fun x=>Value.string (bs x.1))∧Blk w' g2 (opsZ.map fun x=>Value.int .i64 x.2)∧w.heap.size≤g1∧w.heap.size≤g2∧Below w.heap.size w w':=by
 go_enter Tryz.func44,Tryz.ntmps44
 go_wp2_with fail
 go_ret2;refine ⟨w.heap.size,w.heap.size+1,rfl,(Blk.new w _ _).alloc _,?_,by omega,by omega,((Below.refl _ _).alloc (Nat.le_refl _) _).alloc (by simp) _⟩
 have h:=Blk.new (w.alloc (.cells (opsZ.map fun x=>Value.string (bs x.1)).toArray 9)) (opsZ.map fun x=>Value.int .i64 x.2) 3
 rw[World.size_alloc] at h;exact h
theorem endsB_or (c:UInt8):endsB c=((c.toNat==32 || c.toNat==9 || c.toNat==10) || [59,38,124,40,41,123,125,60,62,94,61,33,36,96,39,35].contains c.toNat):=by
 unfold endsB;rw[Bool.eq_iff_iff];simp only[Bool.or_eq_true,List.contains_iff_mem,List.mem_cons,List.not_mem_nil,or_false,beq_iff_eq];omega
def L16:List UInt8:=[59,38,124,40,41,123,125,60,62,94,61,33,36,96,39,35]
theorem L16_or (c:UInt8):endsB c=((c.toNat==32 || c.toNat==9 || c.toNat==10) || L16.contains c):=by
 rw[endsB_or];congr 1
 rw[Bool.eq_iff_iff,List.contains_iff_mem,List.contains_iff_mem];simp only[L16,List.mem_cons,List.not_mem_nil,or_false,← UInt8.toNat_inj];exact Iff.rfl
theorem L16_not {c:UInt8}(h:∀ q,q<16→bat (bs L16) q≠c):L16.contains c=false:=by
 rw[Bool.eq_false_iff];intro h2;rw[List.contains_iff_mem] at h2;obtain⟨q,hq,e⟩:=List.getElem_of_mem h2;refine h q hq ?_;unfold bat;rw[bs_list,List.getD_eq_getElem?_getD,List.getElem?_eq_getElem hq,e];rfl
theorem L16_yes {c:UInt8}{q:Nat}(hq:q<16)(h:bat (bs L16) q=c):L16.contains c=true:=by
 rw[List.contains_iff_mem,← h];unfold bat;rw[bs_list,List.getD_eq_getElem?_getD,List.getElem?_eq_getElem (show q<L16.length from hq)]
 exact List.getElem_mem _
theorem z12InWord_any (c:UInt8)(w:World):Calls Tryz.prog 46 #[.int .u8 c.toNat] w fun e w'=>e = .returned (.bool (!endsB c))∧w'=w:=by
 cases hb:(c.toNat==32 || c.toNat==9 || c.toNat==10) with
 | true =>
  have HE:=Lib.hid (show endsB c=true from by rw[L16_or,hb];rfl)
  have HB:=Lib.hid hb;clear hb;go_enter Tryz.func46,Tryz.ntmps46
  go_wp2_with fail
  refine (rBlank_any c w).mono ?_;rintro e w1 ⟨rfl,rfl⟩;rw[HB.out];go_wp2_with fail
  go_ret;exact⟨by rw[HE.out];rfl,rfl⟩
 | false =>
  have HE:=Lib.hid (show endsB c=L16.contains c from by rw[L16_or,hb];rfl)
  have HB:=Lib.hid hb;obtain⟨S,hS⟩:∃ S:ByteArray,S=bs L16:=⟨_,rfl⟩;have hSs:S.size=16:=by rw[hS];rfl
  have HS:=Lib.hid hS;clear hb;go_enter Tryz.func46,Tryz.ntmps46
  go_wp2_with fail
  refine (rBlank_any c w).mono ?_;rintro e w1 ⟨rfl,rfl⟩;rw[HB.out];go_upto_block 0 with fail
  rw[show (⟨#[59,38,124,40,41,123,125,60,62,94,61,33,36,96,39,35]⟩:ByteArray)=S from by rw[hS];rfl]
  clear hS;go_wp2_with fail
  go_loopg [4] 16 (fun m s4 wr=>∃ k:Nat,m=16 - k∧k≤16∧s4 = .int .i64 k∧wr=w∧Hid (∀ q,q<k→bat S q≠c))
  case atStart=>exact⟨0,rfl,Nat.zero_le _,rfl,rfl,Lib.hid fun q h=>absurd h (by omega)⟩
  case round =>
   obtain⟨k,rfl,hk,rfl,rfl,hq⟩:=hrel
   by_cases hlt:k<16
   ·have hkS:k<S.size:=by omega
    have hgb:=getElem_bat S k hkS
    by_cases hc:S[k]=c
    ·have HY:=Lib.hid (show L16.contains c=true from L16_yes hlt (by rw[← HS.out,← hgb];exact hc))
     have hcn:((S[k].toNat:Int)==(c.toNat:Int))=true:=by rw[beq_iff_eq,hc]
     clear hgb hc;go_wp2_with fail
     go_ret;exact⟨by rw[HE.out,HY.out];rfl,rfl⟩
    ·have hcn:((S[k].toNat:Int)==(c.toNat:Int))=false:=by
      rw[beq_eq_false_iff_ne];intro e;exact hc (UInt8.toNat_inj.1 (by omega))
     have HQ:=Lib.hid (show ∀ q,q<k+1→bat S q≠c from fun q h=>by
      by_cases e:q=k
      ·rw[e,← hgb];exact hc
      ·exact hq.out q (by omega))
     clear hgb hc;go_wp2_with fail
     go_roundg (16 - (k+1))
     case measure=>omega
     case rel=>exact⟨k+1,rfl,by omega,by go_num,rfl,HQ⟩
   ·obtain rfl:k=16:=by omega
    have HY:=Lib.hid (show L16.contains c=false from L16_not (by rw[← HS.out];exact hq.out))
    go_wp2_with fail
    go_ret;exact⟨by rw[HE.out,HY.out];rfl,rfl⟩
end
end Go.Proofs.YtbplbehhlbkklaaGreatDoor
