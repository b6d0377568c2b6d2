/- ShowNot: what stands in a Here within a Not, so many times: its source, what the parsers make of it. No program stands in it. -/
import Derived.Test.YtnombfbpmmmoeaaGreatDoorGZS
import Derived.Test.YtnombfbpmmmoeaaGreatDoorGZT
namespace Go.Proofs.YtnombfbpmmmoeaaGreatDoor
open Go Go.RowKit
def tow (q:aA):Nat→aA
 | 0=>q
 | n+1=>aE 27 0 [] [aE 34 0 [] [a8 [116],tow q n]]
def EA (q:List UInt8):Nat→List UInt8
 | 0=>q
 | n+1=>[33,32]++([123,32]++EA q n++[59,32,125]++[32,60,60,60,32]++[39,116,39])
def LP:aA:=aE 36 0 [] [a8 [97]]
def LN:aA:=aE 37 0 [] [aE 20 0 [] []]
def LI:aA:=aE 21 0 [] [aE 6 0 [] [aE 5 0 [] [aE 2 0 [120] []]]]
def LJ:aA:=aE 21 0 [] [aE 3 0 [] [a8 [97],a8 [98]]]
def LE:List UInt8:=[36,123,120,125]
def LH:List UInt8:=[40,39,97,39,32,39,98,39,41]
def LO (x:bH):Bool:=decide (x.text.length≤100000∧0≤x.k∧x.k≤400000∧0≤x.size∧x.size≤400001)
theorem MU:∀ n,n<8→dA (tow LP n)=none∧dA (tow LN n)=none∧dA (tow LI n)=none∧dA (tow LJ n)=none:=by decide +kernel
def LU {ε:Type} (r:Except ε aA) (p:aA):Bool:=match r with | .ok l=>decide (l=p) | .error _=>false
theorem Md {ε:Type}{r:Except ε aA}{p:aA}(h:LU r p=true):r = .ok p:=by
 unfold LU at h
 cases r with
 | error e=>cases h
 | ok l=>rw[of_decide_eq_true h]
theorem ME (n:Nat)(h:n<8):mV (EA LE n) = .ok (tow LI n):=Md ((by decide +kernel:∀ n,n<8→LU (mV (EA LE n)) (tow LI n)=true) n h)
theorem MN (n:Nat)(h:n<8):nM (EA LH n) = .ok (tow LJ n):=Md ((by decide +kernel:∀ n,n<8→LU (nM (EA LH n)) (tow LJ n)=true) n h)
theorem MZ (n:Nat)(h:n<8):∀ ts,dD ((EA LH n).length+1) true (EA LH n) 0 = .ok ts→o0 ts:=KH ((by decide +kernel:∀ n,n<8→(match dD ((EA LH n).length+1) true (EA LH n) 0 with | .ok ts=>KJ ts | .error _=>true)=true) n h)
def L5 (t:aF):Bool:=t.kind != 7&&t.parts.all (fun x=>decide (x.kind≤3))&&(match dT t with | some s=>[[123],[125],[33]].contains s | none=>true)
theorem M2 {S:List UInt8}(h:(match cN S (S.length+1) 0 with | .ok ts=>ts.all L5 | .error _=>true)=true):∀ ts,cN S (S.length+1) 0 = .ok ts→oZ ts:=fun ts hts t ht=>by
 rw[hts] at h;have:=List.all_eq_true.1 h t ht
 unfold L5 at this;simp only[Bool.and_eq_true,bne_iff_ne,ne_eq,List.all_eq_true,decide_eq_true_eq] at this;refine ⟨this.1.1,this.1.2,fun s hs=>?_⟩
 have h3:=this.2;rw[hs] at h3;simpa using h3
theorem M0 (n:Nat)(h:n<8):∀ ts,cN (EA LE n) ((EA LE n).length+1) 0 = .ok ts→oZ ts:=M2 ((by decide +kernel:∀ n,n<8→(match cN (EA LE n) ((EA LE n).length+1) 0 with | .ok ts=>ts.all L5 | .error _=>true)=true) n h)
theorem MT:∀ n,n<8→(tow LP n).all LO=true∧(tow LN n).all LO=true∧(tow LI n).all LO=true∧(tow LJ n).all LO=true:=by decide +kernel
theorem LL:∀ n,n<8→(EA LE n).length≤8192∧(EA LH n).length≤8192∧(tow LP n).length≤1000∧(tow LN n).length≤1000∧(tow LI n).length≤1000∧(tow LJ n).length≤1000:=by decide +kernel
end Go.Proofs.YtnombfbpmmmoeaaGreatDoor
