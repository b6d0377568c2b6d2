/- Programs that may be but for their depth: what a look at them meets. No program stands in it. -/
import Derived.Test.YtbplbehhlbkklaaGreatDoorGParseG
namespace Go.Proofs.YtbplbehhlbkklaaGreatDoor
open Go Go.RowKit
def TreeAt (K:Int→Bool) (l:Prog) (i e:Nat) (word last:Bool):Prop:=∃ (t post:Prog) (D:Nat),l.drop i=t++post∧WFP K 2000 word D t∧i+t.length≤e∧(last=true→e=i+t.length)
def KidsAt (K:Int→Bool) (l:Prog) (kind:Int) (n E kk c:Nat):Prop:=∃ (rest post:List PNode) (ks:List Prog),ks.flatten=rest∧n=kk+ks.length∧(∀ (j:Nat) (a:Prog),ks[j]?=some a→∃ D,WFP K 2000 (takesB kind n ((kk+j:Nat):Int)) D a)∧l.drop c=rest++post∧c+rest.length=E
theorem KidsAt.next {K:Int→Bool}{l:Prog}{kind:Int}{n E kk c:Nat}(h:KidsAt K l kind n E kk c)(hk:kk<n) :
  TreeAt K l c E (takesB kind n kk) (decide ((kk:Int)=(n:Int) - 1))∧1≤(ndAt l c).size∧(c:Int)+(ndAt l c).size≤E∧KidsAt K l kind n E (kk+1) (c+(ndAt l c).size.toNat):=by
 obtain⟨rest,post,ks,rfl,hn,hw,hd,he⟩:=h
 cases ks with
 | nil=>simp at hn;omega
 | cons a ks =>
  obtain⟨D,hD⟩:=hw 0 a rfl;obtain⟨a1,a2⟩:=hD.pos;rw[List.flatten_cons,List.append_assoc] at hd;rw[List.flatten_cons,List.length_append] at he;obtain⟨n1,n2⟩:=ndAt_drop l c a _ hd a1;rw[n1,a2,Int.toNat_natCast];rw[List.length_cons] at hn;refine ⟨⟨a,_,D,hd,hD,by omega,fun hl=>?_⟩,by omega,by omega,⟨_,post,ks,rfl,by omega,fun j b hb=>?_,by rw[← List.drop_drop,hd,List.drop_left],by omega⟩⟩
  ·have hl':(kk:Int)=(n:Int) - 1:=by simpa using hl
   have:ks=[]:=List.length_eq_zero_iff.1 (by omega)
   subst this;simp only[List.flatten_nil,List.length_nil] at he;omega
  ·have:=hw (j+1) b (by simpa using hb)
   rwa [show kk+(j+1)=kk+1+j by omega] at this
theorem KidsAt.le {K:Int→Bool}{l:Prog}{kind:Int}{n E kk c:Nat}(h:KidsAt K l kind n E kk c):c≤E∧kk≤n:=by
 obtain⟨rest,post,ks,rfl,hn,hw,hd,he⟩:=h;omega
theorem kids_len {K:Int→Bool}{kind:Int}{n:Nat}:∀ (ks:List Prog)(k:Nat),(∀ (j:Nat)(a:Prog),ks[j]?=some a→∃ D,WFP K 2000 (takesB kind n ((k+j:Nat):Int)) D a)→ks.length≤ks.flatten.length:=by
 intro ks
 induction ks with
 | nil=>intro k _;exact Nat.le_refl _
 | cons a ks ih =>
  intro k h;obtain⟨D,hD⟩:=h 0 a rfl;have h1:=hD.pos.1;have h2:=ih (k+1) (fun j b hb=>by have:=h (j+1) b (by simpa using hb);rwa [show k+(j+1)=k+1+j by omega] at this)
  rw[List.flatten_cons,List.length_append,List.length_cons];omega
theorem tree_parts {K:Int→Bool}{l:Prog}{f i e d:Nat}{word last:Bool}{r:Option (Nat×Nat)}(h:TreeAt K l i e word last)(hr:lookP l f i e d word last=some r) :
  ∃ (g n sz:Nat),f=g+1∧kindB (ndAt l i) word=true∧fieldsB (ndAt l i)=true∧childrenB (ndAt l i)=true∧(ndAt l i).size=(sz:Int)∧(ndAt l i).k=(n:Int)∧1≤sz∧i+sz≤e∧i+sz≤l.length∧(last=true→i+sz=e)∧(n=0→sz=1)∧n≤sz ∧
   KidsAt K l (ndAt l i).kind n (i+sz) 0 (i+1)∧(if 30<d then r=some (102,i) else lookK l g 0 (i+1) (i+sz) (d+1) (ndAt l i)=some r):=by
 obtain⟨t,post,D,hd,hW,he,hl⟩:=h;obtain⟨t1,t2⟩:=hW.pos;obtain⟨n1,n2⟩:=ndAt_drop l i t post hd t1
 cases hW with
 | node w D kind n s kids hk hf hc hK =>
  rw[Bool.and_eq_true] at hk;have hk1:=hk.1;have hlen:(newP kind n s kids).length=kids.flatten.length+1:=rfl;have hx:ndAt (newP kind n s kids) 0=⟨kind,n,kids.length,kids.flatten.length+1,s⟩:=rfl;rw[hlen] at he hl n2;rw[n1,hx];have hkw:∀ (j:Nat) (a:Prog),kids[j]?=some a→∃ D,WFP K 2000 (takesB kind kids.length ((0+j:Nat):Int)) D a:=fun j a ha=>⟨D,by rw[Nat.zero_add];exact hK j a ha⟩
  have hkl:=kids_len kids 0 hkw
  have hd1:l.drop (i+1)=kids.flatten++post:=by
   rw[← List.drop_drop,hd,newP];rfl
  have hfit:=fit_wf l (i+(kids.flatten.length+1)) kids (i+1) kids.flatten.length post (fun kid hkid=>by
   obtain⟨j,hj⟩:=List.getElem?_of_mem hkid;exact⟨_,_,hK j kid hj⟩) hd1 (by omega) (Nat.le_refl _)
  cases f with
  | zero=>rw[lookP] at hr;cases hr
  | succ g =>
   refine ⟨g,kids.length,kids.flatten.length+1,rfl,hk1,hf,hc,by simp,rfl,by omega,he,n2,fun h=>by have:=hl h;omega,fun h0=>?_,by omega,⟨_,post,kids,rfl,by omega,hkw,hd1,by omega⟩,?_⟩
   ·rw[List.length_eq_zero_iff.1 h0];rfl
   ·rw[lookP,n1,hx] at hr;dsimp only at hr
    rw[if_neg (by
     intro hh
     rcases hh with h1 | h1 | h1 | h1 | h1 | h1
     ·exact absurd (hk1.symm.trans h1) (by simp)
     ·exact absurd (hf.symm.trans h1) (by simp)
     ·exact absurd (hc.symm.trans h1) (by simp)
     ·omega
     ·omega
     ·have:=hl h1.1
      exact h1.2 (by omega)),if_neg (by
     intro hh;have h0:kids=[]:=List.length_eq_zero_iff.1 (by omega)
     subst h0;exact hh.2 (by simp)),show ((kids.flatten.length:Int)+1).toNat=kids.flatten.length+1 by omega,Nat.add_sub_cancel,if_neg (by rw[hfit];simp)] at hr
    split
    ·rename_i h30
     rw[if_pos h30] at hr
     cases hr
     rfl
    ·rename_i h30
     rw[if_neg h30] at hr;exact hr
theorem lookK_step {l:Prog}{f kk c E d:Nat}{x:PNode}{r:Option (Nat×Nat)}(h:lookK l f kk c E d x=some r)(hk:(kk:Int)<x.k) :
  ∃ g r1,f=g+1∧lookP l g c E d (takesB x.kind x.k kk) (decide ((kk:Int)=x.k - 1))=some r1∧(∀ q,r1=some q→r=some q)∧(r1=none→lookK l g (kk+1) (c+(ndAt l c).size.toNat) E d x=some r):=by
 cases f with
 | zero=>rw[lookK] at h;cases h
 | succ g =>
  rw[lookK,if_neg (by omega)] at h
  cases hq:lookP l g c E d (takesB x.kind x.k kk) (decide ((kk:Int)=x.k - 1)) with
  | none=>rw[hq] at h;cases h
  | some rc =>
   rw[hq] at h;refine ⟨g,rc,rfl,hq,fun q e=>?_,fun e=>?_⟩
   ·subst e
    cases h
    rfl
   ·subst e;exact h
theorem lookK_end {l:Prog}{f kk c E d:Nat}{x:PNode}{r:Option (Nat×Nat)}(h:lookK l f kk c E d x=some r)(hk:¬ (kk:Int)<x.k):r=none:=by
 cases f with
 | zero=>rw[lookK] at h;cases h
 | succ g =>
  rw[lookK,if_pos (by omega)] at h
  cases h
  rfl
theorem lookK_step2 {l:Prog}{f kk c E d:Nat}{x:PNode}{r:Option Nat}(h:lookK l f kk c E d x=some (r.map fun p=>(102,p)))(hk:(kk:Int)<x.k) :
  ∃ (g:Nat) (q:Option Nat),f=g+1∧lookP l g c E d (takesB x.kind x.k kk) (decide ((kk:Int)=x.k - 1))=some (q.map fun p=>(102,p))∧(q=none→lookK l g (kk+1) (c+(ndAt l c).size.toNat) E d x=some (r.map fun p=>(102,p)))∧(∀ p,q=some p→r=some p):=by
 obtain⟨g,r1,rfl,h1,h2,h3⟩:=lookK_step h hk
 cases r1 with
 | none=>exact⟨g,none,rfl,h1,fun _=>h3 rfl,fun p e=>by cases e⟩
 | some z =>
  have h4:=h2 z rfl
  cases r with
  | none=>cases h4
  | some p =>
   cases h4
   exact⟨g,some p,rfl,h1,(fun e=>by cases e),fun _ e=>e⟩
theorem tree_look {K:Int→Bool}{l:Prog}{D:Nat}(h:WFP K 2000 false D l):TreeAt K l 0 l.length false true∧∃ r:Option Nat,lookP l (3 * l.length) 0 l.length 1 false true=some (r.map fun p=>(102,p)):=by
 refine ⟨⟨l,[],D,by simp,h,by omega,fun _=>by omega⟩,?_⟩
 obtain⟨r,h1,h2,-⟩:=look_wf h l 0 l.length 1 true [] (3 * l.length) (by simp) (by omega) (fun _=>by omega) (Nat.le_refl _)
 rw[h1]
 rcases h2 with rfl | ⟨p,rfl⟩
 ·exact⟨none,rfl⟩
 ·exact⟨some p,rfl⟩
end Go.Proofs.YtbplbehhlbkklaaGreatDoor
