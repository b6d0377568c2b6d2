/- core.Has, core.Same: what they answer. -/
import Derived.Test.YtnombfbpmmmoeaaGreatDoorGZK
import Derived.Laws.StructEq
import Derived.Test.YtnombfbpmmmoeaaGreatDoorGBParseG
import Derived.Test.YtnombfbpmmmoeaaGreatDoorGRef5G
import Derived.Deep.CutBlock
import Derived.Deep.RegionHeld3
import Derived.Test.YtnombfbpmmmoeaaGreatDoorGZE
import Derived.Test.YtnombfbpmmmoeaaGreatDoorGZB
import Derived.Test.YtnombfbpmmmoeaaGreatDoorGParseG
namespace Go.Proofs.YtnombfbpmmmoeaaGreatDoor
set_option maxHeartbeats 4000000
set_option maxRecDepth 100000
open Go Go.RowKit
theorem EG (w:World)(a b c d:Int)(s:ByteArray):(binOp .neq 62 (.agg #[.int .i64 a,.int .i64 b,.int .i64 c,.int .i64 d,.string s]) (.agg #[.int .i64 a,.int .i64 b,.int .i64 c,.int .i64 d,.string s])).run Tryz.prog w = .ok (.bool false) w:=by
 have hS:Tryz.prog.underlying 62=some (.struct (Tryz.prog.fieldsOf 62)):=by kernel_rfl
 have hp:Tryz.prog.stoodInHeld 62=false:=by kernel_rfl
 have u3:=Tryz.underlying3;have a3:=Tryz.isAgg3;have z3:=Tryz.sizeOf3;have u4:=Tryz.underlying9;have a4:=Tryz.isAgg9;have z4:=Tryz.sizeOf9;rw[run_neq_struct,show (10000:Nat)=9999+1 from rfl,run_equalIn_agg w 9999 62 _ _ hS hp]
 simp only[Program.fieldsOf,Tryz.underlying62];go_simp
theorem FK (l:aA)(b b2:Nat)(v u:Value)(w:World)(hN:NSl w b v l)(hM:NSl w b2 u l)(hl:l.length≤100000000) :
  Calls Tryz.prog 28 #[v,u] w fun e w'=>e = .returned (.bool true)∧Below w.heap.size w w':=by
 obtain⟨g,cap,rfl,h1,h2,h3,h4,h5⟩:=hN;obtain⟨g2,cap2,rfl,k1,k2,k3,k4,k5⟩:=hM;have HR:=LB h5;have HR2:=LB k5;obtain⟨n,hn⟩:∃ n,l.length=n:=⟨_,rfl⟩;have HN:=LB hn;rw[hn] at hl h1 k1 ⊢;have qN:=EG;clear h5 k5 hn h3 k3;go_enter Tryz.func28,Tryz.ntmps28
 go_wp2_with fail
 go_loopg [13] n (fun m x wr=>∃ k:Nat,m=n - k∧k≤n∧x = .int .i64 k∧Below w.heap.size w wr)
 case atStart=>exact⟨0,rfl,Nat.zero_le _,rfl,Below.refl _ _⟩
 case round =>
  obtain⟨k,rfl,hkn,rfl,hb⟩:=hrel
  by_cases hlt:k<n
  ·obtain⟨x,hx⟩:∃ x,l[k]?=some x:=⟨_,List.getElem?_eq_getElem (by have:=HN.out;omega)⟩
   obtain⟨n0,n1,n2,n3,n4⟩:=lU.facts2 HR.out hx;obtain⟨q0,q1,q2,q3,q4⟩:=lU.facts2 HR2.out hx;have m0:=aG hb n0;have m1:=aG hb n1;have m2:=aG hb n2;have m3:=aG hb n3;have m4:=aG hb n4;have r0:=aG hb q0;have r1:=aG hb q1;have r2:=aG hb q2;have r3:=aG hb q3;have r4:=aG hb q4;clear n0 n1 n2 n3 n4 q0 q1 q2 q3 q4 hx;go_wp2_with fail
   go_region
   go_wp2_with fail
   go_roundg (n - (k+1))
   case measure=>omega
   case rel=>exact⟨k+1,rfl,by omega,by go_num,kP hb⟩
  ·obtain rfl:k=n:=by omega
   go_wp2_with fail
   go_ret;exact⟨rfl,hb⟩
theorem rC (l:aA)(b b2:Nat)(v u:Value)(w:World)(hN:NSl w b v l)(hM:NSl w b2 u l)(hl:l.length≤100000000) :
  Calls Tryz.prog 13 #[v,u] w fun e w'=>e = .returned (.bool true)∧Below w.heap.size w w':=by
 have HX:=LB (FK l b b2 v u w hN hM hl);obtain⟨g,cap,rfl,-⟩:=hN;obtain⟨g2,cap2,rfl,-⟩:=hM;generalize l.length=n at *;go_enter Tryz.func13,Tryz.ntmps13
 go_wp2_with fail
 refine HX.out.mono ?_;rintro e w2 ⟨rfl,hb2⟩;go_wp2_with fail
 go_ret;exact⟨rfl,hb2⟩
def Dl (kids:List aA) (ts:List (List UInt8)):Prop:=∀ (j:Nat) (kid:aA) (t:List UInt8),kids[j]?=some kid→ts[j]?=some t→rU kid t
theorem Dl.nil:Dl [] []:=fun j kid t h=>by simp at h
def L0 (w:World) (ao:Option Addr) (n:Nat):Prop:=∀ i,i<n→∃ a z,ao=some a∧w.cell? (a.add i)=some (.bool z)
theorem L0.below {w w':World}{ao:Option Addr}{n:Nat}(h:L0 w ao n)(hb:Below w.heap.size w w'):L0 w' ao n:=fun i hi=>by
 obtain⟨a,z,h1,h2⟩:=h i hi;exact⟨a,z,h1,aG hb h2⟩
theorem KSl.one9 {w:World}{b:Nat}{u:Value}{l:aA}(hb:b<w.heap.size)(h:NSl w b u l):KSl (w.alloc (.cells #[u] 23)) b (.slice (some ⟨w.heap.size,0,none⟩) 1 1) [l]:=KSl.new1 hb (.inl h)
def L3 (w:World) (ao:Option Addr) (n:Nat) (Z:Nat→Int):Prop:=∀ i,i<n→∃ a,ao=some a∧w.cell? (a.add i)=some (.int .i64 (Z i))∧-9223372036854775808≤Z i∧Z i<9223372036854775808
theorem L3.below {w w':World}{ao:Option Addr}{n:Nat}{Z:Nat→Int}(h:L3 w ao n Z)(hb:Below w.heap.size w w'):L3 w' ao n Z:=fun i hi=>by
 obtain⟨a,h1,h2,h3⟩:=h i hi;exact⟨a,h1,aG hb h2,h3⟩
def L2 (w:World) (ao:Option Addr) (n:Nat) (Z:Nat→ByteArray):Prop:=∀ i,i<n→∃ a,ao=some a∧w.cell? (a.add i)=some (.string (Z i))∧(Z i).size≤maxLen
theorem L2.below {w w':World}{ao:Option Addr}{n:Nat}{Z:Nat→ByteArray}(h:L2 w ao n Z)(hb:Below w.heap.size w w'):L2 w' ao n Z:=fun i hi=>by
 obtain⟨a,h1,h2,h3⟩:=h i hi;exact⟨a,h1,aG hb h2,h3⟩
theorem Mb (kind n:Int)(p q:aA)(b:Nat)(x y:Value)(w:World)(hb:b<w.heap.size)(h1:NSl w b x p)(h2:NSl w b y q)(hl:p.length+q.length≤100000) :
  Calls Tryz.prog 14 #[.int .i64 kind,.int .i64 n,.string (bs []),.slice (some ⟨w.heap.size,0,none⟩) 2 2] (w.alloc (.cells #[x,y] 23)) fun e w'=>∃ v',e = .returned v'∧NSl w' b v' (aE kind n [] [p,q])∧Below w.heap.size w w':=by
 have hb0:=(Below.refl w.heap.size w).alloc (Nat.le_refl _) (.cells #[x,y] 23);refine (bZ kind n [] [p,q] b _ _ (by have:=hb0.size;omega) (KSl.new2 hb (.inl h1) (.inl h2)) (by simp;omega) (by simp)).mono ?_
 rintro e w' ⟨v',rfl,h4,h5⟩;exact⟨v',rfl,h4,aD hb0 h5⟩
theorem LM (kind n:Int)(s:List UInt8)(p:aA)(b:Nat)(x:Value)(w:World)(hb:b<w.heap.size)(h1:NSl w b x p)(hl:p.length≤100000) :
  Calls Tryz.prog 14 #[.int .i64 kind,.int .i64 n,.string (bs s),.slice (some ⟨w.heap.size,0,none⟩) 1 1] (w.alloc (.cells #[x] 23)) fun e w'=>∃ v',e = .returned v'∧NSl w' b v' (aE kind n s [p])∧Below w.heap.size w w':=by
 have hb0:=(Below.refl w.heap.size w).alloc (Nat.le_refl _) (.cells #[x] 23);refine (bZ kind n s [p] b _ _ (by have:=hb0.size;omega) (KSl.one9 hb h1) (by simp;omega) (by simp)).mono ?_
 rintro e w' ⟨v',rfl,h4,h5⟩;exact⟨v',rfl,h4,aD hb0 h5⟩
end Go.Proofs.YtnombfbpmmmoeaaGreatDoor
