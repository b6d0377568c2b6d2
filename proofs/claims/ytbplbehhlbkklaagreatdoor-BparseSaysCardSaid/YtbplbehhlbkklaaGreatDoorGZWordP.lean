/- The document's parser of dialect B: words, plain. -/
import Derived.Test.YtbplbehhlbkklaaGreatDoorGZOne
import Derived.Test.YtbplbehhlbkklaaGreatDoorGZJoin
import Derived.Test.YtbplbehhlbkklaaGreatDoorGZLong
namespace Go.Proofs.YtbplbehhlbkklaaGreatDoor
open Go Go.RowKit
theorem WFP.lits {K:Int→Bool}{M:Nat}{w:Bool}{D:Nat}{l:Prog}(h:WFP K M w D l):∀ x∈l,x.kind=1→x.text.length≤M:=by
 induction h with
 | node w D kind n s kids hk hf hc hK ih =>
  intro x hx hx1;rw[newP] at hx
  rcases List.mem_cons.1 hx with rfl | hx
  ·have e:kind=1:=hx1;subst e;simp [fieldsM] at hf
   exact hf.2
  ·obtain⟨kid,h1,h2⟩:=List.mem_flatten.1 hx;obtain⟨j,hj⟩:=List.getElem?_of_mem h1;exact ih j kid hj x h2 hx1
theorem WF.short_no {w:Bool}{l:Prog}(h:WF w l):tooLong l=false:=by
 obtain⟨D,h⟩:=h;unfold tooLong;rw[List.any_eq_false];intro x hx;rw[Bool.and_eq_true,decide_eq_true_eq,decide_eq_true_eq];rintro ⟨h1,h2⟩;have:=h.lits x hx h1
 omega
theorem long_new (kind n:Int)(s:List UInt8)(kids:List Prog)(h:kind≠1):tooLong (newP kind n s kids)=kids.any tooLong:=by
 unfold tooLong;rw[newP,List.any_cons,List.any_flatten];simp [h]
def ItemGood (how:Nat) (x:Prog):Prop:=(∃ s:List UInt8,x=newP 1 how s []∧s.length≤20000)∨((ndAt x 0).kind≠1∧tooLong x=false)
theorem ItemGood.new {how:Nat}{kind n:Int}{s:List UInt8}{kids:List Prog}(h:kind≠1)(hk:∀ k∈kids,tooLong k=false):ItemGood how (newP kind n s kids) :=
 .inr ⟨by simp [newP,ndAt,h],by rw[long_new _ _ _ _ h,List.any_eq_false];exact fun k hk'=>by rw[hk k hk'];simp⟩
theorem one_good {cap:Nat}{ts:List BTok}(F:ZFix cap ts){f d i j how:Nat}{x:Prog}(hhow:how≤1)(_hi:i<ts.length)(h:pOne ts f d i=some (.ok (x,j))):ItemGood how (wrapO how (tkAt ts i) x):=by
 cases f with
 | zero=>rw[pOne] at h;cases h
 | succ f =>
  have htx:=F.T.fix.good.text i;rw[pOne] at h
  have hlit:∀ s:List UInt8,s.length≤20000→how=0→ItemGood how (newP 1 0 s []):=fun s hs e=>by
   subst e;exact .inl ⟨s,rfl,hs⟩
  by_cases h1:(tkAt ts i).kind=18∨(tkAt ts i).kind=19
  ·rw[if_pos h1] at h
   cases h
   unfold wrapO aliveP;obtain rfl | rfl:how=0∨how=1:=by omega
   ·rw[if_neg (by omega)]
    exact hlit _ (by omega) rfl
   ·rw[if_pos rfl]
    rcases h1 with h1 | h1
    ·rw[if_pos h1];refine .inl ⟨_,rfl,?_⟩;unfold closedP;split
     ·omega
     ·simp
      omega
    ·rw[if_neg (by omega),if_pos h1]
     exact .inl ⟨_,rfl,by have:=zescape_len (tkAt ts i).text;omega⟩
  ·have hbase:(ndAt x 0).kind≠1∧tooLong x=false:=by
    rw[if_neg h1] at h;have hv:∀ s:List UInt8,tooLong (newP 2 0 s [])=false:=fun s=>by rw[long_new _ _ _ _ (by decide)];rfl
    have hg:∀ {kind n:Int} {kids:List Prog},kind≠1→(∀ k∈kids,tooLong k=false)→(ndAt (newP kind n [] kids) 0).kind≠1∧tooLong (newP kind n [] kids)=false:=fun {kind n kids} hk hq=>by
     rcases ItemGood.new (how:=0) (n:=n) (s:=[]) hk hq with ⟨s,e,_⟩ | h
     ·rw[newP,newP] at e;injection e with e _
      injection e with e
      exact absurd e hk
     ·exact h
    split at h
    ·cases h
     exact hg (by decide) (by simp [hv])
    ·split at h
     ·cases h
      exact hg (by decide) (by simp [hv])
     ·split at h
      ·cases h
       exact hg (by decide) (by simp [hv])
      ·split at h
       ·split at h
        ·cases h
        ·rcases PRes.go_some h with ⟨e,_,h2⟩ | ⟨l,e,h2,h3⟩
         ·cases h2
         ·unfold takeP at h3;split at h3
          ·cases h3
           have hw:=(wAll F.T.w f).words (d+1) (skP ts i) 0 [] (by omega) (by simp) l e h2
           exact hg (by decide) fun k hk=>(hw k hk).short_no
          ·cases h3
       ·split at h
        ·rcases PRes.go_some h with ⟨e,_,h2⟩ | ⟨l,e,h2,h3⟩
         ·cases h2
         ·unfold takeP at h3;split at h3
          ·cases h3
           have hw:=(wAll F.T.w f).list d (skP ts i) l e h2;exact hg (by decide) (by simpa using hw.short_no)
          ·cases h3
        ·cases h
         refine ⟨by simp [newP,ndAt],hv _⟩
   unfold wrapO aliveP;split
   ·rw[if_neg (fun e=>h1 (.inl e)),if_neg (fun e=>h1 (.inr e))]
    exact ItemGood.new (by decide) (by simpa using hbase.2)
   ·exact .inr hbase
def JoinGood (how:Nat) (y:Prog):Prop:=Tree y∧((∃ s:List UInt8,y=newP 1 how s [])∨((ndAt y 0).kind≠1∧tooLong y=false))
theorem good_step {how:Nat}{O:List Prog}{x:Prog}(hO:∀ y∈O,JoinGood how y)(hx:JoinGood how x):∀ y∈joinStep O x,JoinGood how y:=by
 have happ:∀ y∈O++[x],JoinGood how y:=snoc_all hO hx
 have hno:∀ y:Prog,(ndAt y 0).kind≠1→isLit y=false:=fun y h=>by
  cases hl:isLit y with
  | false=>rfl
  | true =>
   obtain⟨z,rfl,hz⟩:=isLit_one hl;exact absurd hz h
 rcases hx.2 with ⟨s,rfl⟩ | ⟨h1,h2⟩
 ·rcases List.eq_nil_or_concat O with rfl | ⟨Q,y,rfl⟩
  ·exact happ
  ·rw[List.concat_eq_append] at *
   rcases (hO y (by simp)).2 with ⟨t,rfl⟩ | ⟨h1,h2⟩
   ·rw[show joinStep (Q++[newP 1 how t []]) (newP 1 how s [])=Q++[newP 1 how (t++s) []] from joinStep_both Q _ _ rfl rfl]
    exact snoc_all (fun y hy=>hO y (by simp [hy])) ⟨Tree.leaf _ _ _,.inl ⟨_,rfl⟩⟩
   ·rw[joinStep_last Q y _ (hno y h1)];exact happ
 ·rw[joinStep_no O x (hno x h1)];exact happ
theorem good_fold {how:Nat}:∀ (L O:List Prog),(∀ y∈O,JoinGood how y)→(∀ y∈L,JoinGood how y)→∀ y∈L.foldl joinStep O,JoinGood how y
 | [],O,hO,_=>hO
 | x :: L,O,hO,hL=>by
  rw[List.foldl_cons];exact good_fold L _ (good_step hO (hL x (by simp))) fun y hy=>hL y (by simp [hy])
theorem ItemGood.join {how:Nat}{x:Prog}(h:ItemGood how x)(hT:Tree x):JoinGood how x:=⟨hT,h.imp (fun ⟨s,h1,_⟩=>⟨s,h1⟩) id⟩
theorem item_long {how:Nat}{y:Prog}(h:JoinGood how y):LongZ y (tooLong y):=by
 rcases h.2 with ⟨s,rfl⟩ | ⟨h1,h2⟩
 ·refine .lit _ _ _ _ ?_;unfold tooLong;rw[newP];simp
 ·obtain⟨r,hr⟩:=LongZ.tree h.1;rw[h2,← hr.short h2];exact hr
theorem word_long {how:Nat}{t:BTok}{L:List Prog}(hL:∀ y∈L,JoinGood how y):LongZ (wordOut t how L) (tooLong (wordOut t how L)):=by
 unfold wordOut;split
 ·refine .node _ _ _ _ [tooLong (newP 1 1 (closedP t.text) [])] _ (by decide) (by decide) rfl (fun j kid q h1 h2=>?_) (by rw[long_new _ _ _ _ (by decide)];simp)
  cases j with
  | zero =>
   simp only[List.getElem?_cons_zero,Option.some.injEq] at h1 h2;subst h1 h2;exact item_long (how:=1) ⟨Tree.leaf _ _ _,.inl ⟨_,rfl⟩⟩
  | succ j=>simp at h1
 ·have hO:=good_fold (how:=how) L [] (by simp) hL
  obtain⟨O,hOO⟩:∃ O,L.foldl joinStep []=O:=⟨_,rfl⟩;rw[hOO] at hO
  by_cases h1:O.length=1
  ·obtain⟨y,rfl⟩:∃ y,O=[y]:=List.length_eq_one_iff.1 h1;rw[joinP_one hOO];exact item_long (hO y (by simp))
  ·rw[joinP_many hOO h1];refine .node _ _ _ _ (O.map tooLong) _ (by decide) (by decide) (by simp) (fun j kid q h1 h2=>?_) (by rw[long_new _ _ _ _ (by decide),List.any_map];rfl)
   rw[List.getElem?_map,h1] at h2
   cases h2
   exact item_long (hO kid (List.mem_of_getElem? h1))
structure WordAt (ts:List BTok) (f0 d i0 how:Nat) (X:PRes (List Prog)) (k:Nat) (L:List Prog):Prop where
 le:i0≤k
 lt:k<ts.length
 item:itemP ts k=true
 size:L.flatten.length+2 * L.length≤6 * (k - i0)
 num:L.length≤k - i0
 good:∀ y∈L,ItemGood how y
 trees:∀ y∈L,Tree y
 res:∃ fk,fk≤f0∧pWordR ts fk d k how L=X
structure WordEnd (ts:List BTok) (d i0 how:Nat) (X:PRes (List Prog)) (sl:Nat) (k:Nat) (f:Option (Nat×Nat)) (L:List Prog):Prop where
 le:i0≤k
 lt:k<ts.length
 pos:0<L.length
 size:L.flatten.length+L.length≤6 * (k - i0)+(if f=none then 0 else sl+1)
 num:L.length≤k - i0+(if f=none then 0 else 1)
 lits:LitsZ how 30000000 L
 good:f=none→∀ y∈L,ItemGood how y
 trees:∀ y∈L,Tree y
 last:f≠none→∃ Q x,L=Q++[x]∧(ndAt x 0).kind≠1
 res:WRes X f L k
theorem ItemGood.lits {how:Nat}{L:List Prog}(h:∀ y∈L,ItemGood how y)(hT:∀ y∈L,Tree y):LitsZ how 30000000 L:=fun x hx=>⟨(hT x hx).pos,fun e=>by
 rcases h x hx with ⟨s,h1,h2⟩ | ⟨h1,_⟩
 ·exact⟨s,h1,by omega⟩
 ·exact absurd e h1⟩
theorem WordAt.step {cap:Nat}{ts:List BTok}(F:ZFix cap ts){f0 d i0 how k:Nat}{X:PRes (List Prog)}{L:List Prog}(hhow:how≤1)(h:WordAt ts f0 d i0 how X k L)(hX:X≠none):∃ fk,fk<f0∧pOne ts fk d k≠none ∧
  ∀ k' f' l,Tree l→k≤k'→k'<ts.length→ZRel k none (zS d - 12) ((pOne ts fk d k).go fun x j=>pOk (wrapO how (tkAt ts k) x) j) k' f' l →
   (∀ e,f'=some e→WordEnd ts d i0 how X (zS d - 12) k' f' (L++[l]))∧(f'=none→k<k' ∧
    (isK ts k' [15]=true→(itemP ts (skP ts k')=false→X=some (.error (formF ts (skP ts k'))))∧(itemP ts (skP ts k')=true→WordAt ts f0 d i0 how X (skP ts k') (L++[l]))) ∧
    (isK ts k' [15]=false→((itemP ts k'=false∨(tkAt ts k').glue=false)→WordEnd ts d i0 how X (zS d - 12) k' none (L++[l]))∧(itemP ts k'=true→(tkAt ts k').glue=true→WordAt ts f0 d i0 how X k' (L++[l])))):=by
 obtain⟨fk,h1,h2⟩:=h.res
 cases fk with
 | zero =>
  rw[pWordR] at h2;exact absurd h2.symm hX
 | succ fk =>
  rw[pWordR,if_neg (by rw[h.item];simp)] at h2
  have hne:pOne ts fk d k≠none:=fun e=>hX (by rw[← h2,e];rfl)
  refine ⟨fk,by omega,hne,fun k' f' l hT hle hlt hR=>?_⟩
  have hs:=h.size;have hle0:=h.le;have hnum:=h.num
  have hsize:∀ x:Prog,(L++[x]).flatten.length=L.flatten.length+x.length:=fun x=>by
   rw[List.flatten_append,List.length_append];simp only[List.flatten_cons,List.flatten_nil,List.append_nil]
  have htr:∀ y∈L++[l],Tree y:=snoc_all h.trees hT
  cases hq:pOne ts fk d k with
  | none=>exact absurd hq hne
  | some r =>
   rw[hq] at hR h2
   cases r with
   | error x =>
    obtain⟨rfl,hl,hk⟩:=hR;refine ⟨fun e he=>WordEnd.mk (by omega) hlt (by simp) ?_ ?_ ?_ (fun e9=>(nomatch e9)) htr (fun _=>⟨L,l,rfl,hk⟩) h2.symm,(fun e9=>(nomatch e9))⟩
    ·rw[hsize,List.length_append,if_neg (by simp)]
     simp only[List.length_cons,List.length_nil];omega
    ·rw[List.length_append,if_neg (by simp)]
     simp only[List.length_cons,List.length_nil];omega
    ·intro y hy
     rcases List.mem_append.1 hy with hy | hy
     ·exact ItemGood.lits h.good h.trees y hy
     ·rw[List.mem_singleton] at hy;subst hy;exact⟨hT.pos,fun e=>absurd e hk⟩
   | ok q =>
    obtain⟨a,j⟩:=q;obtain⟨rfl,rfl,rfl⟩:=hR;have hp:=((postAll F.T.fix.good fk).one d k h.lt h.item).1 a k' hq;have hgd:=one_good F hhow h.lt hq;have hgood:∀ y∈L++[wrapO how (tkAt ts k) a],ItemGood how y:=snoc_all h.good hgd
    have hwl:(wrapO how (tkAt ts k) a).length≤a.length+1:=by
     unfold wrapO aliveP;have:=hp.1
     split
     ·split
      ·simp [newP]
      ·split
       ·simp [newP]
       ·simp [newP]
     ·omega
    have hsz2:(L++[wrapO how (tkAt ts k) a]).flatten.length+2 * (L++[wrapO how (tkAt ts k) a]).length≤6 * (k' - i0):=by
     rw[hsize,List.length_append];simp only[List.length_cons,List.length_nil];omega
    have hn2:(L++[wrapO how (tkAt ts k) a]).length≤k' - i0:=by
     rw[List.length_append];simp only[List.length_cons,List.length_nil];omega
    refine ⟨(fun e he=>(nomatch he)),fun _=>⟨hp.1,fun hc=>?_,fun hc=>?_⟩⟩
    ·have h3:pWordR ts fk d (skP ts k') how (L++[wrapO how (tkAt ts k) a])=X:=by
      rw[← h2];show _=if isK ts k' [15]=true then _ else _
      rw[if_pos hc];rfl
     obtain⟨e1,e2⟩:=skip_of F.T.fix.good hlt (by decide) hc
     rw[e1] at h3 ⊢;refine ⟨fun hi=>?_,fun hi=>⟨by omega,e2,hi,by omega,by omega,hgood,htr,fk,by omega,h3⟩⟩
     cases fk with
     | zero=>rw[pOne] at hq;cases hq
     | succ fk =>
      rw[pWordR,if_pos hi] at h3;rw[← h3];rfl
    ·refine ⟨fun hc2=>⟨by omega,hlt,by simp,by rw[if_pos rfl];omega,by rw[if_pos rfl];omega,ItemGood.lits hgood htr,fun _=>hgood,htr,fun e=>absurd rfl e,?_⟩,fun hi hg=>⟨by omega,hlt,hi,hsz2,hn2,hgood,htr,fk,by omega,?_⟩⟩
     ·show X=some (.ok (_,k'))
      rw[← h2];show (if isK ts k' [15]=true then _ else if itemP ts k'=false∨(tkAt ts k').glue=false then _ else _)=_
      rw[if_neg (by rw[hc];simp),if_pos hc2]
      rfl
     ·rw[← h2];show _=(if isK ts k' [15]=true then _ else if itemP ts k'=false∨(tkAt ts k').glue=false then _ else _)
      rw[if_neg (by rw[hc];simp),if_neg (by rw[hi,hg];simp)]
      rfl
end Go.Proofs.YtbplbehhlbkklaaGreatDoor
