/- What patoislaw13.spells answers. -/
import Derived.Test.YtbfeoinoepoiaaaGreatDoorGBParseG
import Derived.Test.YtbfeoinoepoiaaaGreatDoorGRef5H
import Derived.Test.YtbfeoinoepoiaaaGreatDoorGZE
import Derived.Test.YtbfeoinoepoiaaaGreatDoorGZB
import Derived.Test.YtbfeoinoepoiaaaGreatDoorGZK
import Derived.Laws.StructEq
import Derived.Test.YtbfeoinoepoiaaaGreatDoorGParseG
namespace Go.Proofs.YtbfeoinoepoiaaaGreatDoor
open Go Go.RowKit
theorem checkP_none {l:Prog} (h:checkP l=none):0<l.length∧l.length≤3000∧lookP l (3 * l.length) 0 l.length 1 false true=some none:=by
 unfold checkP at h
 by_cases h0:l.length=0∨3000<l.length
 ·rw [if_pos h0] at h
  cases h
 ·rw [if_neg h0] at h
  refine ⟨by omega,by omega,?_⟩
  cases hq:lookP l (3 * l.length) 0 l.length 1 false true with
  | none=>rw [hq] at h; cases h
  | some r =>
   cases r with
   | none=>rfl
   | some q =>
    rw [hq] at h
    cases h
theorem fault_f0 (a b:Value) (w:World):(Instr.field 30 (.agg #[a,b]) 0).run Tryz.prog w = .ok a w:=by kernel_rfl
end Go.Proofs.YtbfeoinoepoiaaaGreatDoor
namespace Go.Proofs.YtbfeoinoepoiaaaGreatDoor
open Go Go.RowKit
theorem nfix_list {l:Prog} (hl:l.length≤400000) (h:∀ x∈l,x.text.length≤100000∧(-9223372036854775808≤x.k∧x.k<9223372036854775808)∧-9223372036854775808≤x.size∧x.size<9223372036854775808):NFix l:=by
 have hd:∀ i,ndAt l i∈l∨ndAt l i=⟨0,0,0,0,[]⟩:=fun i=>by
  unfold ndAt
  rw [List.getD_eq_getElem?_getD]
  by_cases hi:i<l.length
  ·rw [List.getElem?_eq_getElem hi]
   exact .inl (List.getElem_mem hi)
  ·rw [List.getElem?_eq_none (by omega)]
   exact .inr rfl
 have hf:∀ i,(ndAt l i).text.length≤100000∧(-9223372036854775808≤(ndAt l i).k∧(ndAt l i).k<9223372036854775808)∧-9223372036854775808≤(ndAt l i).size∧(ndAt l i).size<9223372036854775808:=fun i=>by
  rcases hd i with h1 | h1
  ·exact h _ h1
  ·rw [h1]; simp
 exact ⟨hl,fun i=>(hf i).1,fun i=>(hf i).2.1,fun i=>(hf i).2.2⟩
def KidsP (kids:List Prog) (ts:List (List UInt8)):Prop:=∀ (j:Nat) (kid:Prog) (t:List UInt8),kids[j]?=some kid→ts[j]?=some t→Prints kid t
theorem KidsP.nil:KidsP [] []:=fun j kid t h=>by simp at h
theorem KidsP.cons {p:Prog} {t:List UInt8} {ps:List Prog} {ts:List (List UInt8)} (h:Prints p t) (hr:KidsP ps ts):KidsP (p :: ps) (t :: ts):=fun j kid u h1 h2=>by
 cases j with
 | zero =>
  simp only [List.getElem?_cons_zero,Option.some.injEq] at h1 h2
  subst h1
  subst h2
  exact h
 | succ j=>exact hr j kid u (by simpa using h1) (by simpa using h2)
end Go.Proofs.YtbfeoinoepoiaaaGreatDoor

namespace Go.Proofs.YtbfeoinoepoiaaaGreatDoor
set_option maxHeartbeats 4000000
set_option maxRecDepth 100000
open Go Go.RowKit
theorem run_neq_node (w:World) (a b c d:Int) (s:ByteArray):(binOp .neq 74 (.agg #[.int .i64 a,.int .i64 b,.int .i64 c,.int .i64 d,.string s]) (.agg #[.int .i64 a,.int .i64 b,.int .i64 c,.int .i64 d,.string s])).run Tryz.prog w = .ok (.bool false) w:=by
 have hS:Tryz.prog.underlying 74=some (.struct (Tryz.prog.fieldsOf 74)):=by kernel_rfl
 have hp:Tryz.prog.stoodInHeld 74=false:=by kernel_rfl
 have u3:=Tryz.underlying3
 have a3:=Tryz.isAgg3
 have z3:=Tryz.sizeOf3
 have u4:=Tryz.underlying9
 have a4:=Tryz.isAgg9
 have z4:=Tryz.sizeOf9
 rw [run_neq_struct,show (10000:Nat)=9999+1 from rfl,run_equalIn_agg w 9999 74 _ _ hS hp]
 simp only [Program.fieldsOf,Tryz.underlying74]
 go_simp
theorem slEqualN_eq (l:Prog) (b b2:Nat) (v u:Value) (w:World) (hN:NSl w b v l) (hM:NSl w b2 u l) (hl:l.length≤100000000) :
  Calls Tryz.prog 41 #[v,u] w fun e w'=>e = .returned (.bool true)∧Below w.heap.size w w':=by
 obtain ⟨g,cap,rfl,h1,h2,h3,h4,h5⟩:=hN
 obtain ⟨g2,cap2,rfl,k1,k2,k3,k4,k5⟩:=hM
 have HR:=Lib.hid h5
 have HR2:=Lib.hid k5
 obtain ⟨n,hn⟩:∃ n,l.length=n:=⟨_,rfl⟩
 have HN:=Lib.hid hn
 rw [hn] at hl h1 k1 ⊢
 have qN:=run_neq_node
 clear h5 k5 hn h3 k3
 go_enter Tryz.func41,Tryz.ntmps41
 go_wp2_with fail
 go_loopg [13] n (fun m x wr=>∃ k:Nat,m=n - k∧k≤n∧x = .int .i64 k∧Below w.heap.size w wr)
 case atStart=>exact ⟨0,rfl,Nat.zero_le _,rfl,Below.refl _ _⟩
 case round =>
  obtain ⟨k,rfl,hkn,rfl,hb⟩:=hrel
  by_cases hlt:k<n
  ·obtain ⟨x,hx⟩:∃ x,l[k]?=some x:=⟨_,List.getElem?_eq_getElem (by have:=HN.out; omega)⟩
   obtain ⟨n0,n1,n2,n3,n4⟩:=NRow.facts2 HR.out hx
   obtain ⟨q0,q1,q2,q3,q4⟩:=NRow.facts2 HR2.out hx
   have m0:=bSome hb n0
   have m1:=bSome hb n1
   have m2:=bSome hb n2
   have m3:=bSome hb n3
   have m4:=bSome hb n4
   have r0:=bSome hb q0
   have r1:=bSome hb q1
   have r2:=bSome hb q2
   have r3:=bSome hb q3
   have r4:=bSome hb q4
   clear n0 n1 n2 n3 n4 q0 q1 q2 q3 q4 hx
   go_wp2_with fail
   go_region
   go_wp2_with fail
   go_roundg (n - (k+1))
   case measure=>omega
   case rel=>exact ⟨k+1,rfl,by omega,by go_num,bDrew1 hb⟩
  ·obtain rfl:k=n:=by omega
   go_wp2_with fail
   go_ret
   exact ⟨rfl,hb⟩
theorem cSame_eq (l:Prog) (b b2:Nat) (v u:Value) (w:World) (hN:NSl w b v l) (hM:NSl w b2 u l) (hl:l.length≤100000000) :
  Calls Tryz.prog 18 #[v,u] w fun e w'=>e = .returned (.bool true)∧Below w.heap.size w w':=by
 have HX:=Lib.hid (slEqualN_eq l b b2 v u w hN hM hl)
 obtain ⟨g,cap,rfl,-⟩:=hN
 obtain ⟨g2,cap2,rfl,-⟩:=hM
 generalize l.length=n at *
 go_enter Tryz.func18,Tryz.ntmps18
 go_wp2_with fail
 refine HX.out.mono ?_
 rintro e w2 ⟨rfl,hb2⟩
 go_wp2_with fail
 go_ret
 exact ⟨rfl,hb2⟩
end Go.Proofs.YtbfeoinoepoiaaaGreatDoor

namespace Go.Proofs.YtbfeoinoepoiaaaGreatDoor
open Go Go.RowKit
def BoolsAt (w:World) (ao:Option Addr) (n:Nat):Prop:=∀ i,i<n→∃ a z,ao=some a∧w.cell? (a.add i)=some (.bool z)
theorem BoolsAt.below {w w':World} {ao:Option Addr} {n:Nat} (h:BoolsAt w ao n) (hb:Below w.heap.size w w'):BoolsAt w' ao n:=fun i hi=>by
 obtain ⟨a,z,h1,h2⟩:=h i hi
 exact ⟨a,z,h1,bSome hb h2⟩
end Go.Proofs.YtbfeoinoepoiaaaGreatDoor

namespace Go.Proofs.YtbfeoinoepoiaaaGreatDoor
open Go Go.RowKit
theorem pick_lt {α β:Type} {n:Nat} (d:β) {P:Nat→α→β→Prop} (h:∀ i,i<n→∃ a z,P i a z):∃ Z:Nat→β,∀ i,i<n→∃ a,P i a (Z i):=by
 have h2:∀ i,∃ z,i<n→∃ a,P i a z:=fun i=>by
  by_cases hi:i<n
  ·obtain ⟨a,z,hz⟩:=h i hi
   exact ⟨z,fun _=>⟨a,hz⟩⟩
  ·exact ⟨d,fun hh=>absurd hh hi⟩
 exact ⟨fun i=>Classical.choose (h2 i),fun i hi=>Classical.choose_spec (h2 i) hi⟩
def IntsOf (w:World) (ao:Option Addr) (n:Nat) (Z:Nat→Int):Prop:=∀ i,i<n→∃ a,ao=some a∧w.cell? (a.add i)=some (.int .i64 (Z i))∧-9223372036854775808≤Z i∧Z i<9223372036854775808
def IntsAt (w:World) (ao:Option Addr) (n:Nat):Prop:=∀ i,i<n→∃ a z,ao=some a∧w.cell? (a.add i)=some (.int .i64 z)∧-9223372036854775808≤z∧z<9223372036854775808
theorem IntsOf.below {w w':World} {ao:Option Addr} {n:Nat} {Z:Nat→Int} (h:IntsOf w ao n Z) (hb:Below w.heap.size w w'):IntsOf w' ao n Z:=fun i hi=>by
 obtain ⟨a,h1,h2,h3⟩:=h i hi
 exact ⟨a,h1,bSome hb h2,h3⟩
theorem IntsAt.of {w:World} {ao:Option Addr} {n:Nat} (h:IntsAt w ao n):∃ Z,IntsOf w ao n Z:=pick_lt (0:Int) h
def StrsOf (w:World) (ao:Option Addr) (n:Nat) (Z:Nat→ByteArray):Prop:=∀ i,i<n→∃ a,ao=some a∧w.cell? (a.add i)=some (.string (Z i))∧(Z i).size≤maxLen
def StrsAt (w:World) (ao:Option Addr) (n:Nat):Prop:=∀ i,i<n→∃ a z,ao=some a∧w.cell? (a.add i)=some (.string z)∧z.size≤maxLen
theorem StrsOf.below {w w':World} {ao:Option Addr} {n:Nat} {Z:Nat→ByteArray} (h:StrsOf w ao n Z) (hb:Below w.heap.size w w'):StrsOf w' ao n Z:=fun i hi=>by
 obtain ⟨a,h1,h2,h3⟩:=h i hi
 exact ⟨a,h1,bSome hb h2,h3⟩
theorem StrsAt.of {w:World} {ao:Option Addr} {n:Nat} (h:StrsAt w ao n):∃ Z,StrsOf w ao n Z:=pick_lt ByteArray.empty h
end Go.Proofs.YtbfeoinoepoiaaaGreatDoor
