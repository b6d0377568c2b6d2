/- Dialect A's parser, of what is shown here: by induction on the fuel. -/
import Derived.Test.YtnombfbpmmmoeaaGreatDoorGQSimple
import Derived.Test.YtnombfbpmmmoeaaGreatDoorGQChainG
import Derived.Test.YtnombfbpmmmoeaaGreatDoorGQChooseG
import Derived.Test.YtnombfbpmmmoeaaGreatDoorGQFieldG
import Derived.Test.YtnombfbpmmmoeaaGreatDoorGBParseG
import Derived.Test.YtnombfbpmmmoeaaGreatDoorGZF
namespace Go.Proofs.YtnombfbpmmmoeaaGreatDoor
set_option maxHeartbeats 8000000
set_option maxRecDepth 100000
open Go Go.RowKit
theorem Dd (f:Nat):nU (fun b d x=>bA f b d x):=fun base d n x hx hk=>(jU f).sub base n d x (hx.sub hk) hx.len hk
structure Lz (sent:Nat→Addr) (f:Nat):Prop where
 list:lP sent 38 (fun ts b d i=>cD f ts b d i)
 chain:nT sent 81 (fun ts b d i=>eX f ts b d i)
 pipe:lP sent 142 (fun ts b d i=>eB f ts b d i)
 command:nT sent 185 (fun ts b d i=>eT f ts b d i)
 simple:lP sent 204 (fun ts b d i=>cA f ts b d i [] [] [])
theorem Lt {sent:Nat→Addr}:∀ f,Lz sent f:=by
 have hItems:∀ f,k6 sent 257 qF (fun b d x=>dB (fun x=>bA f b d x) x):=fun f=>F4 (S:=fun b d x=>bA f b d x)
 have hPiece:∀ f,k6 sent 250 qI (fun b d x=>d9 (fun x=>bA f b d x) x):=fun f=>F5 (S:=fun b d x=>bA f b d x) (hItems f)
 have hValue:∀ f,k9 sent 227 (fun b d t=>cS (fun x=>bA f b d x) b t):=fun f=>FQ (S:=fun b d x=>bA f b d x) (Dd f) (hPiece f)
 have hField:∀ f,k9 sent 228 (fun b d t=>fE (fun x=>bA f b d x) b t):=fun f=>Gf (S:=fun b d x=>bA f b d x) (Dd f) (hPiece f) (hItems f) (hValue f)
 intro f
 induction f using Nat.strongRecOn with
 | _ f ih =>
  cases f with
  | zero =>
   refine ⟨?_,?_,?_,?_,?_⟩
   ·exact fun w b g cap n base i d ts r _ _ _ _ _ hr=>by have:=hr.out;simp only[cD] at this;cases this
   ·exact fun w b g cap n base i d ts r _ _ _ _ _ hr=>by have:=hr.out;simp only[eX] at this;cases this
   ·exact fun w b g cap n base i d ts r _ _ _ _ _ hr=>by have:=hr.out;simp only[eB] at this;cases this
   ·exact fun w b g cap n base i d ts r _ _ _ _ _ hr=>by have:=hr.out;simp only[eT] at this;cases this
   ·exact fun w b g cap n base i d ts r _ _ _ _ _ hr=>by have:=hr.out;simp only[cA] at this;cases this
  | succ f =>
   have I:=ih f (by omega)
   refine ⟨?_,?_,?_,?_,?_⟩
   ·exact GV f fun f' h=>(ih f' (by omega)).chain
   ·exact Fs f fun f' h=>(ih f' (by omega)).pipe
   ·exact GK f fun f' h=>(ih f' (by omega)).command
   ·exact Ep f I.list (FE f fun f' _=>hValue f') I.simple
   ·exact Ev f (fun f' _=>hValue f') (fun f' _=>hField f')
theorem Kp {w:World}{sent:Nat→Addr}(hE:Env w sent)(hmx:∃ m,w.cell? ⟨11,0,none⟩=some (.int .i64 m))(het:w.cell? ⟨8,0,none⟩=some (.iface 148 (.agg #[.pointer (some ⟨18,27,none⟩)]))):fM w w.heap.size sent:=by
 refine ⟨⟨hE,fun c g hg e=>?_,hmx,fun e=>?_⟩,het,fun e=>?_⟩
 ·have:=hE.lt hg
  omega
 ·obtain⟨m,hm⟩:=hmx;have:=block_lt_of_cell hm
  simp only at this;omega
 ·have:=block_lt_of_cell het
  simp only at this;omega
def tN (l:aA):Except (Nat×Option Nat) aA:=match dA l with
 | none=>.ok l
 | some (c,p)=>.error (c,if c=102 then some 0 else p)
theorem Eu (l:aA)(b:Nat)(v:Value)(w:World)(sent:Nat→Addr)(hSe:jN w sent)(hN:NSl w b v l)(hl0:0<l.length)(hF:o8 l)(hck:dA l=none∨dA l=some (111,none)∨∃ p,dA l=some (102,some p)) :
  Calls Tryz.prog 20 #[v] w (yK w sent (tN l)):=by
 obtain⟨R,hR⟩:∃ R,tN l=R:=⟨_,rfl⟩;rw[hR];unfold tN at hR;have HR3:=LB hR;have HC:=LB (nX l hF sent b w _ hN hl0 hSe.env (fun h=>by rcases hck with h2 | h2 | ⟨p,h2⟩ <;> (rw[h2] at h;cases h)))
 have HN4:=LB hN;have HLZ:=LB hl0;obtain⟨ga,gc,rfl,-⟩:=hN;clear hR;generalize hlz:l.length=lz at *;clear hlz;go_enter Tryz.func20,Tryz.ntmps20
 go_wp2_with fail
 refine HC.out.mono ?_;rintro e w5 ⟨hb5,hco⟩;have HN5:=LB (HN4.out.below hb5);have hS5:=hSe.below hb5;have he5:=hS5.env 102 1 (by simp [cC])
 rcases hck with h2 | h2 | ⟨p,h2⟩
 ·rw[h2] at hco HR3;subst hco;have HX:=LB (show R = .ok l from HR3.out.symm)
  clear HR3 HC;go_wp2_with fail
  refine (sZ _ _).mono ?_;rintro e w6 ⟨rfl,rfl⟩;go_wp2_with fail
  go_ret2;rw[HX.out];exact⟨hb5,_,b,rfl,HN5.out⟩
 ·rw[h2] at hco HR3;subst hco;have HX:=LB (show R = .error (111,none) from HR3.out.symm)
  obtain⟨ca,ta,hca⟩:=hS5.blk 111 (by decide)
  obtain⟨cb,tbb,hcb⟩:=hS5.blk 102 (by decide)
  have hne:=hS5.ne 111 102 (by decide) (by decide) (by decide)
  clear HR3 HC;go_wp2_with fail
  refine (Au _ _ ca cb ta tbb _ hne hca hcb).mono ?_;rintro e w6 ⟨rfl,rfl⟩;go_wp2_with fail
  go_ret2;rw[HX.out];exact⟨hb5,rfl⟩
 ·rw[h2] at hco HR3;obtain⟨eb,rfl,hE9,hl9⟩:=hco;have HX:=LB (show R = .error (102,some 0) from HR3.out.symm)
  clear HR3 HC;unfold bG at hE9;have hc1:=hE9.cell 1 rfl;go_wp2_with fail
  refine (zC eb _ _ hc1).mono ?_;rintro e w6 ⟨rfl,rfl⟩;go_wp2_with fail
  go_region_held3 (fun w'=>w'.cell? ⟨1,0,none⟩=some (.iface 287 (.pointer (some (sent 102))))) (go_keep) (fail)
  go_wp2_with fail
  go_ret2;rw[HX.out];exact⟨aD hb5 ((Below.refl _ _).alloc (Nat.le_refl _) _).drew,_,rfl,Blk.new w6 [Value.int .i64 0,.iface 287 (.pointer (some (sent 102)))] 60⟩
theorem G7 (L:List UInt8)(hL:L.length≤8192):∃ r,uN (36 * L.length+23) 0 0 L=some r∧match r with
  | .error (c,p)=>mV L = .error (c,some p)
  | .ok l=>mV L=tN l∧0<l.length∧o8 l∧(dA l=none∨dA l=some (111,none)∨∃ p,dA l=some (102,some p)):=by
 unfold mV uN
 cases hl:cN L (L.length+1) 0 with
 | error e =>
  obtain⟨c,p⟩:=e;exact⟨_,rfl,by simp⟩
 | ok ts =>
  have g:=pL L hL ts hl;have hwt:=g.wt;rw[← nY] at hwt;have hn:=(yF (36 * L.length+23)).list g 0 0 0 g.pos (by omega)
  have hp:=(jU (36 * L.length+23)).list g 0 0 0 g.pos;have hw:=(Di (36 * L.length+23)).list g 0 0 0;dsimp only
  cases hx:cD (36 * L.length+23) ts 0 0 0 with
  | none=>exact absurd hx hn
  | some r =>
   cases r with
   | error e =>
    obtain⟨c,p⟩:=e;exact⟨_,rfl,rfl⟩
   | ok y =>
    obtain⟨l,i⟩:=y;have hwf:=hw l i hx;obtain⟨h1,h2,h3,h4,-⟩:=hp.1 l i hx;dsimp only
    by_cases h0:aIs ts i [0]=false
    ·rw[if_pos h0,if_pos h0];exact⟨_,rfl,by simp⟩
    ·rw[if_neg h0,if_neg h0];obtain⟨D,hD⟩:=id hwf;exact⟨_,rfl,rfl,h3,CR hD (by omega) (by omega),Kl hwf⟩
theorem Es (s:ByteArray)(w:World)(hs:s.size≤8192)(sent:Nat→Addr)(hSe:jN w sent)(hmx:∃ m,w.cell? ⟨11,0,none⟩=some (.int .i64 m))(het:w.cell? ⟨8,0,none⟩=some (.iface 148 (.agg #[.pointer (some ⟨18,27,none⟩)])))(hcls:∀ ts,cN s.data.toList (s.data.toList.length+1) 0 = .ok ts→oZ ts) :
  Calls Tryz.prog 9 #[.string s] w (yK w sent (mV s.data.toList)):=by
 have hsz:=size_eq s;have HSe:=LB hSe;obtain⟨r,hr,hm⟩:=G7 s.data.toList (by omega)
 have HS:=LB (EW (36 * s.data.toList.length+23) (Lt (sent:=sent) _).list.does w w.heap.size 0 0 s.data.toList r (by omega) (by omega) (Kp hSe.env hmx het) hcls (LB hr))
 rw[qA] at HS;obtain⟨R,hR⟩:∃ R,mV s.data.toList=R:=⟨_,rfl⟩;rw[hR] at hm ⊢;clear hr hSe hmx het hcls;go_enter Tryz.func9,Tryz.ntmps9
 go_wp2_with fail
 refine HS.out.mono ?_;rintro e w1 ⟨hb1,h1⟩
 cases r with
 | error q =>
  obtain⟨c,p⟩:=q;have HX:=LB (show R = .error (c,some p) from hm)
  obtain⟨v,u,rfl,⟨eb,rfl,hEb,hle⟩⟩:=h1;clear HS hm;go_wp2_with fail
  go_ret2;rw[HX.out];exact⟨hb1,eb,rfl,hEb⟩
 | ok l =>
  obtain⟨v,bp,rfl,hbp1,hbp2,hN⟩:=h1;obtain⟨m1,m2,m3,m4⟩:=hm;have HC:=LB (Eu l bp v w1 sent (HSe.out.below hb1) hN m2 m3 m4);rw[← m1] at HC;obtain⟨ga,gc,rfl,-⟩:=hN;clear HS m1 m2 m3 m4;go_wp2_with fail
  refine HC.out.mono ?_;rintro e w2 ⟨hb2,h2⟩;have hb3:=aD hb1 hb2;clear HC
  cases R with
  | error q =>
   obtain⟨c,p⟩:=q
   cases p with
   | none =>
    dsimp only at h2;subst h2;go_wp2_with fail
    go_ret2;exact⟨hb3,rfl⟩
   | some p =>
    obtain⟨eb,rfl,hEb⟩:=h2;go_wp2_with fail
    go_ret2;exact⟨hb3,eb,rfl,hEb⟩
  | ok l' =>
   obtain⟨v,b9,rfl,hN9⟩:=h2;obtain⟨gb,gd,rfl,-⟩:=id hN9;go_wp2_with fail
   go_ret2;exact⟨hb3,_,b9,rfl,hN9⟩
end Go.Proofs.YtnombfbpmmmoeaaGreatDoor
