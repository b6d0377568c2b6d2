/- core.Has, core.Same: what they answer. -/
import Derived.Test.YtbpjobmpacjgcaaGreatDoorGZK
import Derived.Laws.StructEq
import Derived.Test.YtbpjobmpacjgcaaGreatDoorGBParseG
import Derived.Test.YtbpjobmpacjgcaaGreatDoorGRef5G
import Derived.Deep.CutBlock
import Derived.Deep.RegionHeld3
import Derived.Test.YtbpjobmpacjgcaaGreatDoorGZE
import Derived.Test.YtbpjobmpacjgcaaGreatDoorGZB
import Derived.Test.YtbpjobmpacjgcaaGreatDoorGParseG
namespace Go.Proofs.YtbpjobmpacjgcaaGreatDoor
set_option maxHeartbeats 4000000
set_option maxRecDepth 100000
open Go Go.RowKit
theorem Gp (w:World)(a b c d:Int)(s:ByteArray):(binOp .neq 40 (.agg #[.int .i64 a,.int .i64 b,.int .i64 c,.int .i64 d,.string s]) (.agg #[.int .i64 a,.int .i64 b,.int .i64 c,.int .i64 d,.string s])).run Tryz.prog w = .ok (.bool false) w:=by
 have hS:Tryz.prog.underlying 40=some (.struct (Tryz.prog.fieldsOf 40)):=by kernel_rfl
 have hp:Tryz.prog.stoodInHeld 40=false:=by kernel_rfl
 have u3:=Tryz.underlying3;have a3:=Tryz.isAgg3;have z3:=Tryz.sizeOf3;have u4:=Tryz.underlying9;have a4:=Tryz.isAgg9;have z4:=Tryz.sizeOf9;rw[run_neq_struct,show (10000:Nat)=9999+1 from rfl,run_equalIn_agg w 9999 40 _ _ hS hp]
 simp only[Program.fieldsOf,Tryz.underlying40];go_simp
theorem Hs (l:aA)(b b2:Nat)(v u:Value)(w:World)(hN:NSl w b v l)(hM:NSl w b2 u l)(hl:l.length≤100000000) :
  Calls Tryz.prog 27 #[v,u] w fun e w'=>e = .returned (.bool true)∧Below w.heap.size w w':=by
 obtain⟨g,cap,rfl,h1,h2,h3,h4,h5⟩:=hN;obtain⟨g2,cap2,rfl,k1,k2,k3,k4,k5⟩:=hM;have HR:=Ng h5;have HR2:=Ng k5;obtain⟨n,hn⟩:∃ n,l.length=n:=⟨_,rfl⟩;have HN:=Ng hn;rw[hn] at hl h1 k1 ⊢;have qN:=Gp;clear h5 k5 hn h3 k3;go_enter Tryz.func27,Tryz.ntmps27
 go_wp2_with fail
 go_loopg [13] n (fun m x wr=>∃ k:Nat,m=n - k∧k≤n∧x = .int .i64 k∧Below w.heap.size w wr)
 case atStart=>exact⟨0,rfl,Nat.zero_le _,rfl,Below.refl _ _⟩
 case round =>
  obtain⟨k,rfl,hkn,rfl,hb⟩:=hrel
  by_cases hlt:k<n
  ·obtain⟨x,hx⟩:∃ x,l[k]?=some x:=⟨_,List.getElem?_eq_getElem (by have:=HN.out;omega)⟩
   obtain⟨n0,n1,n2,n3,n4⟩:=mS.facts2 HR.out hx;obtain⟨q0,q1,q2,q3,q4⟩:=mS.facts2 HR2.out hx;have m0:=aF hb n0;have m1:=aF hb n1;have m2:=aF hb n2;have m3:=aF hb n3;have m4:=aF hb n4;have r0:=aF hb q0;have r1:=aF hb q1;have r2:=aF hb q2;have r3:=aF hb q3;have r4:=aF hb q4;clear n0 n1 n2 n3 n4 q0 q1 q2 q3 q4 hx;go_wp2_with fail
   go_region
   go_wp2_with fail
   go_roundg (n - (k+1))
   case measure=>omega
   case rel=>exact⟨k+1,rfl,by omega,by go_num,lH hb⟩
  ·obtain rfl:k=n:=by omega
   go_wp2_with fail
   go_ret;exact⟨rfl,hb⟩
theorem sR (l:aA)(b b2:Nat)(v u:Value)(w:World)(hN:NSl w b v l)(hM:NSl w b2 u l)(hl:l.length≤100000000) :
  Calls Tryz.prog 12 #[v,u] w fun e w'=>e = .returned (.bool true)∧Below w.heap.size w w':=by
 have HX:=Ng (Hs l b b2 v u w hN hM hl);obtain⟨g,cap,rfl,-⟩:=hN;obtain⟨g2,cap2,rfl,-⟩:=hM;generalize l.length=n at *;go_enter Tryz.func12,Tryz.ntmps12
 go_wp2_with fail
 refine HX.out.mono ?_;rintro e w2 ⟨rfl,hb2⟩;go_wp2_with fail
 go_ret;exact⟨rfl,hb2⟩
def tF (kids:List aA) (ts:List (List UInt8)):Prop:=∀ (j:Nat) (kid:aA) (t:List UInt8),kids[j]?=some kid→ts[j]?=some t→rM kid t
theorem tF.nil:tF [] []:=fun j kid t h=>by simp at h
theorem tF.cons {p:aA}{t:List UInt8}{ps:List aA}{ts:List (List UInt8)}(h:rM p t)(hr:tF ps ts):tF (p :: ps) (t :: ts):=fun j kid u h1 h2=>by
 cases j with
 | zero =>
  simp only[List.getElem?_cons_zero,Option.some.injEq] at h1 h2;subst h1;subst h2;exact h
 | succ j=>exact hr j kid u (by simpa using h1) (by simpa using h2)
def Nl (w:World) (ao:Option Addr) (n:Nat):Prop:=∀ i,i<n→∃ a z,ao=some a∧w.cell? (a.add i)=some (.bool z)
theorem Nl.below {w w':World}{ao:Option Addr}{n:Nat}(h:Nl w ao n)(hb:Below w.heap.size w w'):Nl w' ao n:=fun i hi=>by
 obtain⟨a,z,h1,h2⟩:=h i hi;exact⟨a,z,h1,aF hb h2⟩
theorem KSl.one9 {w:World}{b:Nat}{u:Value}{l:aA}(hb:b<w.heap.size)(h:NSl w b u l):KSl (w.alloc (.cells #[u] 26)) b (.slice (some ⟨w.heap.size,0,none⟩) 1 1) [l]:=KSl.new1 hb (.inl h)
theorem Nm {α β:Type}{n:Nat}(d:β){P:Nat→α→β→Prop}(h:∀ i,i<n→∃ a z,P i a z):∃ Z:Nat→β,∀ i,i<n→∃ a,P i a (Z i):=by
 have h2:∀ i,∃ z,i<n→∃ a,P i a z:=fun i=>by
  by_cases hi:i<n
  ·obtain⟨a,z,hz⟩:=h i hi;exact⟨z,fun _=>⟨a,hz⟩⟩
  ·exact⟨d,fun hh=>absurd hh hi⟩
 exact⟨fun i=>Classical.choose (h2 i),fun i hi=>Classical.choose_spec (h2 i) hi⟩
def Nh (w:World) (ao:Option Addr) (n:Nat) (Z:Nat→Int):Prop:=∀ i,i<n→∃ a,ao=some a∧w.cell? (a.add i)=some (.int .i64 (Z i))∧-9223372036854775808≤Z i∧Z i<9223372036854775808
def Nk (w:World) (ao:Option Addr) (n:Nat):Prop:=∀ i,i<n→∃ a z,ao=some a∧w.cell? (a.add i)=some (.int .i64 z)∧-9223372036854775808≤z∧z<9223372036854775808
theorem Nh.below {w w':World}{ao:Option Addr}{n:Nat}{Z:Nat→Int}(h:Nh w ao n Z)(hb:Below w.heap.size w w'):Nh w' ao n Z:=fun i hi=>by
 obtain⟨a,h1,h2,h3⟩:=h i hi;exact⟨a,h1,aF hb h2,h3⟩
theorem Nk.of {w:World}{ao:Option Addr}{n:Nat}(h:Nk w ao n):∃ Z,Nh w ao n Z:=Nm (0:Int) h
def Ni (w:World) (ao:Option Addr) (n:Nat) (Z:Nat→ByteArray):Prop:=∀ i,i<n→∃ a,ao=some a∧w.cell? (a.add i)=some (.string (Z i))∧(Z i).size≤maxLen
def Nj (w:World) (ao:Option Addr) (n:Nat):Prop:=∀ i,i<n→∃ a z,ao=some a∧w.cell? (a.add i)=some (.string z)∧z.size≤maxLen
theorem Ni.below {w w':World}{ao:Option Addr}{n:Nat}{Z:Nat→ByteArray}(h:Ni w ao n Z)(hb:Below w.heap.size w w'):Ni w' ao n Z:=fun i hi=>by
 obtain⟨a,h1,h2,h3⟩:=h i hi;exact⟨a,h1,aF hb h2,h3⟩
theorem Nj.of {w:World}{ao:Option Addr}{n:Nat}(h:Nj w ao n):∃ Z,Ni w ao n Z:=Nm ByteArray.empty h
theorem Nn (kind n:Int)(s:List UInt8)(p:aA)(b:Nat)(x:Value)(w:World)(hb:b<w.heap.size)(h1:NSl w b x p)(hl:p.length≤100000) :
  Calls Tryz.prog 7 #[.int .i64 kind,.int .i64 n,.string (bs s),.slice (some ⟨w.heap.size,0,none⟩) 1 1] (w.alloc (.cells #[x] 26)) fun e w'=>∃ v',e = .returned v'∧NSl w' b v' (aC kind n s [p])∧Below w.heap.size w w':=by
 have hb0:=(Below.refl w.heap.size w).alloc (Nat.le_refl _) (.cells #[x] 26);refine (bT kind n s [p] b _ _ (by have:=hb0.size;omega) (KSl.one9 hb h1) (by simp;omega) (by simp)).mono ?_
 rintro e w' ⟨v',rfl,h4,h5⟩;exact⟨v',rfl,h4,aE hb0 h5⟩
end Go.Proofs.YtbpjobmpacjgcaaGreatDoor
