/- Dialect A's parser, of what is shown here: by induction on the fuel. -/
import Derived.Test.YtbpjobmpacjgcaaGreatDoorGQSimple
import Derived.Test.YtbpjobmpacjgcaaGreatDoorGQChainG
import Derived.Test.YtbpjobmpacjgcaaGreatDoorGQChooseG
import Derived.Test.YtbpjobmpacjgcaaGreatDoorGQFieldG
import Derived.Test.YtbpjobmpacjgcaaGreatDoorGBParseG
import Derived.Test.YtbpjobmpacjgcaaGreatDoorGZF
namespace Go.Proofs.YtbpjobmpacjgcaaGreatDoor
set_option maxHeartbeats 8000000
set_option maxRecDepth 100000
open Go Go.RowKit
theorem EI (f:Nat):o7 (fun b d x=>bD f b d x):=fun base d n x hx hk=>(kG f).sub base n d x (hx.sub hk) hx.len hk
structure M7 (sent:Nat→Addr) (f:Nat):Prop where
 list:mM sent 42 (fun ts b d i=>cG f ts b d i)
 chain:o9 sent 92 (fun ts b d i=>fJ f ts b d i)
 pipe:mM sent 144 (fun ts b d i=>eD f ts b d i)
 command:o9 sent 181 (fun ts b d i=>eI f ts b d i)
 simple:mM sent 195 (fun ts b d i=>cD f ts b d i [] [] [])
theorem Nb {sent:Nat→Addr}:∀ f,M7 sent f:=by
 have hItems:∀ f,lS sent 259 rQ (fun b d x=>dP (fun x=>bD f b d x) x):=fun f=>Hd (S:=fun b d x=>bD f b d x)
 have hPiece:∀ f,lS sent 252 rX (fun b d x=>eM (fun x=>bD f b d x) x):=fun f=>GW (S:=fun b d x=>bD f b d x) (hItems f)
 have hValue:∀ f,lT sent 222 (fun b d t=>cZ (fun x=>bD f b d x) b t):=fun f=>Hi (S:=fun b d x=>bD f b d x) (EI f) (hPiece f)
 have hField:∀ f,lT sent 223 (fun b d t=>fS (fun x=>bD f b d x) b t):=fun f=>G2 (S:=fun b d x=>bD f b d x) (EI f) (hPiece f) (hItems f) (hValue f)
 intro f
 induction f using Nat.strongRecOn with
 | _ f ih =>
  cases f with
  | zero =>
   refine ⟨?_,?_,?_,?_,?_⟩
   ·exact fun w b g cap n base i d ts r _ _ _ _ _ hr=>by have:=hr.out;simp only[cG] at this;cases this
   ·exact fun w b g cap n base i d ts r _ _ _ _ _ hr=>by have:=hr.out;simp only[fJ] at this;cases this
   ·exact fun w b g cap n base i d ts r _ _ _ _ _ hr=>by have:=hr.out;simp only[eD] at this;cases this
   ·exact fun w b g cap n base i d ts r _ _ _ _ _ hr=>by have:=hr.out;simp only[eI] at this;cases this
   ·exact fun w b g cap n base i d ts r _ _ _ _ _ hr=>by have:=hr.out;simp only[cD] at this;cases this
  | succ f =>
   have I:=ih f (by omega)
   refine ⟨?_,?_,?_,?_,?_⟩
   ·exact Il f fun f' h=>(ih f' (by omega)).chain
   ·exact Hm f fun f' h=>(ih f' (by omega)).pipe
   ·exact I3 f fun f' h=>(ih f' (by omega)).command
   ·exact Fx f I.list (Hl f fun f' _=>hValue f') I.simple
   ·exact FU f (fun f' _=>hValue f') (fun f' _=>hField f')
theorem LG {w:World}{sent:Nat→Addr}(hE:Env w sent)(hmx:∃ m,w.cell? ⟨12,0,none⟩=some (.int .i64 m))(het:w.cell? ⟨8,0,none⟩=some (.iface 134 (.agg #[.pointer (some ⟨18,31,none⟩)]))):f8 w w.heap.size sent:=by
 refine ⟨⟨hE,fun c g hg e=>?_,hmx,fun e=>?_⟩,het,fun e=>?_⟩
 ·have:=hE.lt hg
  omega
 ·obtain⟨m,hm⟩:=hmx;have:=block_lt_of_cell hm
  simp only at this;omega
 ·have:=block_lt_of_cell het
  simp only at this;omega
def uX (l:aA):Except (Nat×Option Nat) aA:=match dB l with
 | none=>.ok l
 | some (c,p)=>.error (c,if c=102 then some 0 else p)
theorem FZ (l:aA)(b:Nat)(v:Value)(w:World)(sent:Nat→Addr)(hSe:kA w sent)(hN:NSl w b v l)(hl0:0<l.length)(hF:lJ l)(hck:dB l=none∨dB l=some (111,none)∨∃ p,dB l=some (102,some p)) :
  Calls Tryz.prog 21 #[v] w (Ad w sent (uX l)):=by
 obtain⟨R,hR⟩:∃ R,uX l=R:=⟨_,rfl⟩;rw[hR];unfold uX at hR;have HR3:=Ng hR;have HC:=Ng (pH l hF sent b w _ hN hl0 hSe.env (fun h=>by rcases hck with h2 | h2 | ⟨p,h2⟩ <;> (rw[h2] at h;cases h)))
 have HN4:=Ng hN;have HLZ:=Ng hl0;obtain⟨ga,gc,rfl,-⟩:=hN;clear hR;generalize hlz:l.length=lz at *;clear hlz;go_enter Tryz.func21,Tryz.ntmps21
 go_wp2_with fail
 refine HC.out.mono ?_;rintro e w5 ⟨hb5,hco⟩;have HN5:=Ng (HN4.out.below hb5);have hS5:=hSe.below hb5;have he5:=hS5.env 102 1 (by simp [cH])
 rcases hck with h2 | h2 | ⟨p,h2⟩
 ·rw[h2] at hco HR3;subst hco;have HX:=Ng (show R = .ok l from HR3.out.symm)
  clear HR3 HC;go_wp2_with fail
  refine (uS _ _).mono ?_;rintro e w6 ⟨rfl,rfl⟩;go_wp2_with fail
  go_ret2;rw[HX.out];exact⟨hb5,_,b,rfl,HN5.out⟩
 ·rw[h2] at hco HR3;subst hco;have HX:=Ng (show R = .error (111,none) from HR3.out.symm)
  obtain⟨ca,ta,hca⟩:=hS5.blk 111 (by decide)
  obtain⟨cb,tbb,hcb⟩:=hS5.blk 102 (by decide)
  have hne:=hS5.ne 111 102 (by decide) (by decide) (by decide)
  clear HR3 HC;go_wp2_with fail
  refine (A7 _ _ ca cb ta tbb _ hne hca hcb).mono ?_;rintro e w6 ⟨rfl,rfl⟩;go_wp2_with fail
  go_ret2;rw[HX.out];exact⟨hb5,rfl⟩
 ·rw[h2] at hco HR3;obtain⟨eb,rfl,hE9,hl9⟩:=hco;have HX:=Ng (show R = .error (102,some 0) from HR3.out.symm)
  clear HR3 HC;unfold bJ at hE9;have hc1:=hE9.cell 1 rfl;go_wp2_with fail
  refine (Ax eb _ _ hc1).mono ?_;rintro e w6 ⟨rfl,rfl⟩;go_wp2_with fail
  go_region_held3 (fun w'=>w'.cell? ⟨1,0,none⟩=some (.iface 286 (.pointer (some (sent 102))))) (go_keep) (fail)
  go_wp2_with fail
  go_ret2;rw[HX.out];exact⟨aE hb5 ((Below.refl _ _).alloc (Nat.le_refl _) _).drew,_,rfl,Blk.new w6 [Value.int .i64 0,.iface 286 (.pointer (some (sent 102)))] 63⟩
theorem Jr (L:List UInt8)(hL:L.length≤8192):∃ r,wH (36 * L.length+23) 0 0 L=some r∧match r with
  | .error (c,p)=>nG L = .error (c,some p)
  | .ok l=>nG L=uX l∧0<l.length∧lJ l∧(dB l=none∨dB l=some (111,none)∨∃ p,dB l=some (102,some p)):=by
 unfold nG wH
 cases hl:dA L (L.length+1) 0 with
 | error e =>
  obtain⟨c,p⟩:=e;exact⟨_,rfl,by simp⟩
 | ok ts =>
  have g:=qQ L hL ts hl;have hwt:=g.wt;rw[← pI] at hwt;have hn:=(zV (36 * L.length+23)).list g 0 0 0 g.pos (by omega)
  have hp:=(kG (36 * L.length+23)).list g 0 0 0 g.pos;have hw:=(EA (36 * L.length+23)).list g 0 0 0;dsimp only
  cases hx:cG (36 * L.length+23) ts 0 0 0 with
  | none=>exact absurd hx hn
  | some r =>
   cases r with
   | error e =>
    obtain⟨c,p⟩:=e;exact⟨_,rfl,rfl⟩
   | ok y =>
    obtain⟨l,i⟩:=y;have hwf:=hw l i hx;obtain⟨h1,h2,h3,h4,-⟩:=hp.1 l i hx;dsimp only
    by_cases h0:aIs ts i [0]=false
    ·rw[if_pos h0,if_pos h0];exact⟨_,rfl,by simp⟩
    ·rw[if_neg h0,if_neg h0];obtain⟨D,hD⟩:=id hwf;exact⟨_,rfl,rfl,h3,DQ hD (by omega) (by omega),KV hwf⟩
theorem FL (s:ByteArray)(w:World)(hs:s.size≤8192)(sent:Nat→Addr)(hSe:kA w sent)(hmx:∃ m,w.cell? ⟨12,0,none⟩=some (.int .i64 m))(het:w.cell? ⟨8,0,none⟩=some (.iface 134 (.agg #[.pointer (some ⟨18,31,none⟩)])))(hcls:∀ ts,dA s.data.toList (s.data.toList.length+1) 0 = .ok ts→jO ts) :
  Calls Tryz.prog 10 #[.string s] w (Ad w sent (nG s.data.toList)):=by
 have hsz:=size_eq s;have HSe:=Ng hSe;obtain⟨r,hr,hm⟩:=Jr s.data.toList (by omega)
 have HS:=Ng (F3 (36 * s.data.toList.length+23) (Nb (sent:=sent) _).list.does w w.heap.size 0 0 s.data.toList r (by omega) (by omega) (LG hSe.env hmx het) hcls (Ng hr))
 rw[tI] at HS;obtain⟨R,hR⟩:∃ R,nG s.data.toList=R:=⟨_,rfl⟩;rw[hR] at hm ⊢;clear hr hSe hmx het hcls;go_enter Tryz.func10,Tryz.ntmps10
 go_wp2_with fail
 refine HS.out.mono ?_;rintro e w1 ⟨hb1,h1⟩
 cases r with
 | error q =>
  obtain⟨c,p⟩:=q;have HX:=Ng (show R = .error (c,some p) from hm)
  obtain⟨v,u,rfl,⟨eb,rfl,hEb,hle⟩⟩:=h1;clear HS hm;go_wp2_with fail
  go_ret2;rw[HX.out];exact⟨hb1,eb,rfl,hEb⟩
 | ok l =>
  obtain⟨v,bp,rfl,hbp1,hbp2,hN⟩:=h1;obtain⟨m1,m2,m3,m4⟩:=hm;have HC:=Ng (FZ l bp v w1 sent (HSe.out.below hb1) hN m2 m3 m4);rw[← m1] at HC;obtain⟨ga,gc,rfl,-⟩:=hN;clear HS m1 m2 m3 m4;go_wp2_with fail
  refine HC.out.mono ?_;rintro e w2 ⟨hb2,h2⟩;have hb3:=aE hb1 hb2;clear HC
  cases R with
  | error q =>
   obtain⟨c,p⟩:=q
   cases p with
   | none =>
    dsimp only at h2;subst h2;go_wp2_with fail
    go_ret2;exact⟨hb3,rfl⟩
   | some p =>
    obtain⟨eb,rfl,hEb⟩:=h2;go_wp2_with fail
    go_ret2;exact⟨hb3,eb,rfl,hEb⟩
  | ok l' =>
   obtain⟨v,b9,rfl,hN9⟩:=h2;obtain⟨gb,gd,rfl,-⟩:=id hN9;go_wp2_with fail
   go_ret2;exact⟨hb3,_,b9,rfl,hN9⟩
end Go.Proofs.YtbpjobmpacjgcaaGreatDoor
