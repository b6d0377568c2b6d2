/- What patoislaw13.spells answers. -/
import Derived.Test.YtbplbehhlbkklaaGreatDoorGBParseG
import Derived.Test.YtbplbehhlbkklaaGreatDoorGRef5H
import Derived.Test.YtbplbehhlbkklaaGreatDoorGZE
import Derived.Test.YtbplbehhlbkklaaGreatDoorGZB
import Derived.Test.YtbplbehhlbkklaaGreatDoorGZK
import Derived.Laws.StructEq
namespace Go.Proofs.YtbplbehhlbkklaaGreatDoor
set_option maxHeartbeats 4000000
set_option maxRecDepth 100000
open Go Go.RowKit
theorem checkP_none {l:Prog}(h:checkP l=none):0<l.length∧l.length≤3000∧lookP l (3 * l.length) 0 l.length 1 false true=some none:=by
 unfold checkP at h
 by_cases h0:l.length=0∨3000<l.length
 ·rw[if_pos h0] at h
  cases h
 ·rw[if_neg h0] at h;refine ⟨by omega,by omega,?_⟩
  cases hq:lookP l (3 * l.length) 0 l.length 1 false true with
  | none=>rw[hq] at h;cases h
  | some r =>
   cases r with
   | none=>rfl
   | some q =>
    rw[hq] at h
    cases h
theorem fault_f0 (a b:Value)(w:World):(Instr.field 30 (.agg #[a,b]) 0).run Tryz.prog w = .ok a w:=by kernel_rfl
theorem spells_any (s:ByteArray)(t:List UInt8)(l:Prog)(F:NFix l)(hs:s.size≤8192)(hp:parseB s.data.toList = .ok l)(hc:checkP l=none)(hr:Prints l t)(w:World)(sent:Nat→Addr)(hSe:Sents w sent)(hmx:∃ m,w.cell? ⟨9,0,none⟩=some (.int .i64 m)) :
  Calls Tryz.prog 11 #[.string s,.string (bs t)] w fun e w'=>e = .returned (.bool true)∧Below w.heap.size w w':=by
 have HP:=Lib.hid (pParse_short s w hs sent hSe hmx);rw[hp] at HP;obtain⟨h1,h2,h3⟩:=checkP_none hc;have hE:=hSe.env;have HC:=Lib.hid (fun (w9:World) (v9:Value) (b9:Nat) (hN:NSl w9 b9 v9 l) (hE9:Env w9 sent)=>cCheck_any l F sent b9 w9 v9 hN h1 hE9 (by rw[hc];intro h;cases h))
 have HR:=Lib.hid (fun (w9:World) (v9:Value) (b9:Nat) (hN:NSl w9 b9 v9 l)=>r5Check_any l F b9 w9 v9 hN h1 h2 h3)
 have HPr:=Lib.hid hr;have HCN:=Lib.hid hc;clear hSe hmx hp hc hr h1 h2 h3;go_enter Tryz.func11,Tryz.ntmps11
 go_wp2_with fail
 refine HP.out.mono ?_;rintro e w1 ⟨hb1,v,b,rfl,hN⟩;have HN:=Lib.hid hN;obtain⟨g,cap,rfl,-⟩:=hN;have hE1:=hE.below hb1;clear hE HP;go_wp2_with fail
 refine (HC.out w1 _ b HN.out hE1).mono ?_;rw[HCN.out];rintro e w2 ⟨hb2,rfl⟩;have hB2:=bNext hb1 hb2;have HN2:=Lib.hid (HN.out.below hb2);clear HN HC hb1 hb2 hE1;go_wp2_with fail
 refine (HR.out w2 _ b HN2.out).mono ?_;rintro e w3 ⟨rfl,hb3⟩;have hB3:=bNext hB2 hb3;have HN3:=Lib.hid (HN2.out.below hb3);clear HN2 HR hB2 hb3;have hf:=fault_f0 (.int .i64 0) (.slice none 0 0) w3;go_wp2_with fail
 refine (r5Print_any HPr.out w3 _ (NSl.lo HN3.out)).mono ?_;rintro e w4 ⟨rfl,hb4⟩;have hB4:=bNext hB3 hb4;clear HN3 hB3 hb4;go_wp2_with fail
 go_ret;exact⟨rfl,hB4⟩
end Go.Proofs.YtbplbehhlbkklaaGreatDoor
namespace Go.Proofs.YtbplbehhlbkklaaGreatDoor
set_option maxHeartbeats 4000000
set_option maxRecDepth 100000
open Go Go.RowKit
theorem nfix_list {l:Prog}(hl:l.length≤400000)(h:∀ x∈l,x.text.length≤100000∧(-9223372036854775808≤x.k∧x.k<9223372036854775808)∧-9223372036854775808≤x.size∧x.size<9223372036854775808):NFix l:=by
 have hd:∀ i,ndAt l i∈l∨ndAt l i=⟨0,0,0,0,[]⟩:=fun i=>by
  unfold ndAt;rw[List.getD_eq_getElem?_getD]
  by_cases hi:i<l.length
  ·rw[List.getElem?_eq_getElem hi];exact .inl (List.getElem_mem hi)
  ·rw[List.getElem?_eq_none (by omega)]
   exact .inr rfl
 have hf:∀ i,(ndAt l i).text.length≤100000∧(-9223372036854775808≤(ndAt l i).k∧(ndAt l i).k<9223372036854775808)∧-9223372036854775808≤(ndAt l i).size∧(ndAt l i).size<9223372036854775808:=fun i=>by
  rcases hd i with h1 | h1
  ·exact h _ h1
  ·rw[h1];simp
 exact⟨hl,fun i=>(hf i).1,fun i=>(hf i).2.1,fun i=>(hf i).2.2⟩
def KidsP (kids:List Prog) (ts:List (List UInt8)):Prop:=∀ (j:Nat) (kid:Prog) (t:List UInt8),kids[j]?=some kid→ts[j]?=some t→Prints kid t
theorem KidsP.nil:KidsP [] []:=fun j kid t h=>by simp at h
theorem KidsP.cons {p:Prog}{t:List UInt8}{ps:List Prog}{ts:List (List UInt8)}(h:Prints p t)(hr:KidsP ps ts):KidsP (p :: ps) (t :: ts):=fun j kid u h1 h2=>by
 cases j with
 | zero =>
  simp only[List.getElem?_cons_zero,Option.some.injEq] at h1 h2;subst h1;subst h2;exact h
 | succ j=>exact hr j kid u (by simpa using h1) (by simpa using h2)
def e1src:List UInt8:=[105,102,40,97,41,32,98,32,101,108,115,101]
theorem e1p:parseB e1src = .error (109,some 12):=by kernel_rfl
def echoP:Prog:=newP 1 0 [101,99,104,111] []
def echoT:List UInt8:=[40,108,105,116,32,34,101,99,104,111,34,41]
theorem echo_prints:Prints echoP echoT:=Prints.node 1 0 [101,99,104,111] [] [] rfl (by decide) (by decide) (by decide) (by decide) rfl KidsP.nil (by decide) (by decide)
def s1src:List UInt8:=[101,99,104,111,32,36,120,94,46,99]
def s1txt:List UInt8:=[40,99,97,108,108,32,40,108,105,116,32,34,101,99,104,111,34,41,32,40,106,111,105,110,32,40,118,97,114,32,34,120,34,41,32,40,108,105,116,32,34,46,99,34,41,41,41]
def xP:Prog:=newP 2 0 [120] []
def dcP:Prog:=newP 1 0 [46,99] []
def s1P:Prog:=newP 21 0 [] [echoP,newP 4 0 [] [xP,dcP]]
theorem s1p:parseB s1src = .ok s1P:=by kernel_rfl
theorem dc_prints:Prints dcP (printOf 1 0 [46,99] []):=Prints.node 1 0 [46,99] [] [] rfl (by decide) (by decide) (by decide) (by decide) rfl KidsP.nil (by decide) (by decide)
theorem x_prints:Prints xP (printOf 2 0 [120] []):=Prints.node 2 0 [120] [] [] rfl (by decide) (by decide) (by decide) (by decide) rfl KidsP.nil (by decide) (by decide)
theorem j_prints:Prints (newP 4 0 [] [xP,dcP]) (printOf 4 0 [] [printOf 2 0 [120] [],printOf 1 0 [46,99] []]) :=
 Prints.node 4 0 [] _ _ rfl (by decide) (by decide) (by decide) (by decide) rfl (KidsP.cons x_prints (KidsP.cons dc_prints KidsP.nil)) (by decide) (by decide)
theorem s1t:printOf 21 0 [] [echoT,printOf 4 0 [] [printOf 2 0 [120] [],printOf 1 0 [46,99] []]]=s1txt:=by kernel_rfl
theorem s1pr:Prints s1P s1txt:=by
 rw[← s1t];exact Prints.node 21 0 [] _ _ rfl (by decide) (by decide) (by decide) (by decide) rfl (KidsP.cons echo_prints (KidsP.cons j_prints KidsP.nil)) (by decide) (by decide)
def s2src:List UInt8:=[120,61,40,97,32,98,41,32,101,99,104,111,32,36,35,120]
def s2txt:List UInt8:=[40,108,111,99,97,108,32,34,120,34,32,40,99,97,116,32,40,108,105,116,32,34,97,34,41,32,40,108,105,116,32,34,98,34,41,41,32,40,99,97,108,108,32,40,108,105,116,32,34,101,99,104,111,34,41,32,40,99,111,117,110,116,32,40,118,97,114,32,34,120,34,41,41,41,41]
def laP:Prog:=newP 1 0 [97] []
def lbP:Prog:=newP 1 0 [98] []
def s2P:Prog:=newP 35 0 [120] [newP 3 0 [] [laP,lbP],newP 21 0 [] [echoP,newP 10 0 [] [xP]]]
theorem s2p:parseB s2src = .ok s2P:=by kernel_rfl
theorem la_prints:Prints laP (printOf 1 0 [97] []):=Prints.node 1 0 [97] [] [] rfl (by decide) (by decide) (by decide) (by decide) rfl KidsP.nil (by decide) (by decide)
theorem lb_prints:Prints lbP (printOf 1 0 [98] []):=Prints.node 1 0 [98] [] [] rfl (by decide) (by decide) (by decide) (by decide) rfl KidsP.nil (by decide) (by decide)
theorem cat_prints:Prints (newP 3 0 [] [laP,lbP]) (printOf 3 0 [] [printOf 1 0 [97] [],printOf 1 0 [98] []]) :=
 Prints.node 3 0 [] _ _ rfl (by decide) (by decide) (by decide) (by decide) rfl (KidsP.cons la_prints (KidsP.cons lb_prints KidsP.nil)) (by decide) (by decide)
theorem cnt_prints:Prints (newP 10 0 [] [xP]) (printOf 10 0 [] [printOf 2 0 [120] []]) :=
 Prints.node 10 0 [] _ _ rfl (by decide) (by decide) (by decide) (by decide) rfl (KidsP.cons x_prints KidsP.nil) (by decide) (by decide)
theorem c2_prints:Prints (newP 21 0 [] [echoP,newP 10 0 [] [xP]]) (printOf 21 0 [] [echoT,printOf 10 0 [] [printOf 2 0 [120] []]]) :=
 Prints.node 21 0 [] _ _ rfl (by decide) (by decide) (by decide) (by decide) rfl (KidsP.cons echo_prints (KidsP.cons cnt_prints KidsP.nil)) (by decide) (by decide)
theorem s2t:printOf 35 0 [120] [printOf 3 0 [] [printOf 1 0 [97] [],printOf 1 0 [98] []],printOf 21 0 [] [echoT,printOf 10 0 [] [printOf 2 0 [120] []]]]=s2txt:=by kernel_rfl
theorem s2pr:Prints s2P s2txt:=by
 rw[← s2t];exact Prints.node 35 0 [120] _ _ rfl (by decide) (by decide) (by decide) (by decide) rfl (KidsP.cons cat_prints (KidsP.cons c2_prints KidsP.nil)) (by decide) (by decide)
def s3src:List UInt8:=[102,111,114,40,105,32,105,110,32,42,46,99,41,32,123,101,99,104,111,32,36,105,125]
def s3txt:List UInt8:=[40,102,111,114,32,34,105,34,32,40,103,108,111,98,32,40,108,105,116,32,49,32,34,42,46,99,34,41,41,32,40,99,97,108,108,32,40,108,105,116,32,34,101,99,104,111,34,41,32,40,118,97,114,32,34,105,34,41,41,41]
def gP:Prog:=newP 1 1 [42,46,99] []
def iP:Prog:=newP 2 0 [105] []
def s3P:Prog:=newP 29 0 [105] [newP 6 0 [] [gP],newP 21 0 [] [echoP,iP]]
theorem s3p:parseB s3src = .ok s3P:=by kernel_rfl
theorem g_prints:Prints gP (printOf 1 1 [42,46,99] []):=Prints.node 1 1 [42,46,99] [] [] rfl (by decide) (by decide) (by decide) (by decide) rfl KidsP.nil (by decide) (by decide)
theorem i_prints:Prints iP (printOf 2 0 [105] []):=Prints.node 2 0 [105] [] [] rfl (by decide) (by decide) (by decide) (by decide) rfl KidsP.nil (by decide) (by decide)
theorem gl_prints:Prints (newP 6 0 [] [gP]) (printOf 6 0 [] [printOf 1 1 [42,46,99] []]) :=
 Prints.node 6 0 [] _ _ rfl (by decide) (by decide) (by decide) (by decide) rfl (KidsP.cons g_prints KidsP.nil) (by decide) (by decide)
theorem c3_prints:Prints (newP 21 0 [] [echoP,iP]) (printOf 21 0 [] [echoT,printOf 2 0 [105] []]) :=
 Prints.node 21 0 [] _ _ rfl (by decide) (by decide) (by decide) (by decide) rfl (KidsP.cons echo_prints (KidsP.cons i_prints KidsP.nil)) (by decide) (by decide)
theorem s3t:printOf 29 0 [105] [printOf 6 0 [] [printOf 1 1 [42,46,99] []],printOf 21 0 [] [echoT,printOf 2 0 [105] []]]=s3txt:=by kernel_rfl
theorem s3pr:Prints s3P s3txt:=by
 rw[← s3t];exact Prints.node 29 0 [105] _ _ rfl (by decide) (by decide) (by decide) (by decide) rfl (KidsP.cons gl_prints (KidsP.cons c3_prints KidsP.nil)) (by decide) (by decide)
theorem may_check {L:List UInt8}{l:Prog}(hL:L.length≤8192)(h:parseB L = .ok l):checkP l=none:=by
 have:=parseB_may L hL
 rw[h] at this;exact this.1
theorem spell1 (w:World)(sent:Nat→Addr)(hSe:Sents w sent)(hmx:∃ m,w.cell? ⟨9,0,none⟩=some (.int .i64 m)):Calls Tryz.prog 11 #[.string (bs s1src),.string (bs s1txt)] w fun e w'=>e = .returned (.bool true)∧Below w.heap.size w w' :=
 spells_any (bs s1src) s1txt s1P (nfix_list (by decide) (by decide)) (by decide) s1p (may_check (by decide) s1p) s1pr w sent hSe hmx
theorem spell2 (w:World)(sent:Nat→Addr)(hSe:Sents w sent)(hmx:∃ m,w.cell? ⟨9,0,none⟩=some (.int .i64 m)):Calls Tryz.prog 11 #[.string (bs s2src),.string (bs s2txt)] w fun e w'=>e = .returned (.bool true)∧Below w.heap.size w w' :=
 spells_any (bs s2src) s2txt s2P (nfix_list (by decide) (by decide)) (by decide) s2p (may_check (by decide) s2p) s2pr w sent hSe hmx
theorem spell3 (w:World)(sent:Nat→Addr)(hSe:Sents w sent)(hmx:∃ m,w.cell? ⟨9,0,none⟩=some (.int .i64 m)):Calls Tryz.prog 11 #[.string (bs s3src),.string (bs s3txt)] w fun e w'=>e = .returned (.bool true)∧Below w.heap.size w w' :=
 spells_any (bs s3src) s3txt s3P (nfix_list (by decide) (by decide)) (by decide) s3p (may_check (by decide) s3p) s3pr w sent hSe hmx
theorem first13_any (w:World)(sent:Nat→Addr)(hS:Sents w sent)(hmx:∃ m,w.cell? ⟨9,0,none⟩=some (.int .i64 m)) :
  Calls Tryz.prog 4 #[] w fun e w'=>e = .returned (.bool true)∧Below w.heap.size w w':=by
 obtain⟨m,hm⟩:=hmx;have HP:=Lib.hid (pParse_short (bs e1src) w (by decide) sent hS ⟨m,hm⟩)
 have h1:parseB (bs e1src).data.toList = .error (109,some 12):=e1p;rw[h1] at HP;clear h1;go_enter Tryz.func4,Tryz.ntmps4
 go_wp2_with fail
 refine HP.out.mono ?_;rintro e w1 ⟨hb1,eb,rfl,hE1⟩;have hS1:=hS.below hb1;have hm1:=bSome hb1 hm;clear HP hS hm;go_wp2_with fail
 refine (spell1 w1 sent hS1 ⟨m,hm1⟩).mono ?_;rintro e w2 ⟨rfl,hb2⟩;have hS2:=hS1.below hb2;have hm2:=bSome hb2 hm1;have hE2:ErrAt w2 eb sent 109 ((12:Nat):Int):=Blk.below hE1 hb2;have hB2:=bNext hb1 hb2;clear hS1 hm1 hE1 hb1 hb2;go_wp2_with fail
 refine (spell2 w2 sent hS2 ⟨m,hm2⟩).mono ?_;rintro e w3 ⟨rfl,hb3⟩;have hS3:=hS2.below hb3;have hm3:=bSome hb3 hm2;have hE3:ErrAt w3 eb sent 109 ((12:Nat):Int):=Blk.below hE2 hb3;have hB3:=bNext hB2 hb3;clear hS2 hm2 hE2 hB2 hb3;go_wp2_with fail
 refine (spell3 w3 sent hS3 ⟨m,hm3⟩).mono ?_;rintro e w4 ⟨rfl,hb4⟩;have hS4:=hS3.below hb4;have hE4:ErrAt w4 eb sent 109 ((12:Nat):Int):=Blk.below hE3 hb4;have hB4:=bNext hB3 hb4;clear hS3 hm3 hE3 hB3 hb4;go_wp2_with fail
 refine (rPlaced_any 109 12 rfl _).mono ?_;unfold faultV;rintro e w5 ⟨k,rfl,hk,hk2,hb5⟩;have hS5:=hS4.below hb5;have hE5:ErrAt w5 eb sent 109 ((12:Nat):Int):=Blk.below hE4 hb5;have hB5:=bNext hB4 hb5;clear hS4 hE4 hB4 hb5;go_wp2_with fail
 refine (seeSame_at w5 sent hS5 109 (by decide) (by decide) _ eb hE5 109 12 k hk).mono ?_
 rintro e w6 ⟨rfl,hb6⟩;have hB6:=bNext hB5 hb6;clear hS5 hE5 hB5 hb6;go_wp2_with fail
 go_ret;exact⟨rfl,hB6⟩
end Go.Proofs.YtbplbehhlbkklaaGreatDoor

namespace Go.Proofs.YtbplbehhlbkklaaGreatDoor
set_option maxRecDepth 100000
open Go Go.RowKit
theorem parseB_ok {L:List UInt8}{l:Prog}(hL:L.length≤8192)(h:parseB L = .ok l):checkP l=none∧NFix l∧∀ x∈l,okB x.kind=true:=by
 have hm:=parseB_may L hL;rw[h] at hm;refine ⟨hm.1,?_,hm.2⟩;obtain⟨h1,h2,_⟩:=checkP_none hm.1;unfold parseB at h
 cases hl:lexB (L.length+1) true L 0 with
 | error e=>obtain⟨c,p⟩:=e;rw[hl] at h;cases h
 | ok ts =>
  have hT:=lexB_t L hL ts hl;rw[hl] at h;dsimp only at h
  cases hx:pList ts (12 * ts.length+11) 0 0 with
  | none=>rw[hx] at h;cases h
  | some r =>
   rw[hx] at h
   cases r with
   | error e=>obtain⟨c,p⟩:=e;cases h
   | ok y =>
    obtain⟨m,i⟩:=y;obtain⟨D,hD⟩:=(wAll hT.w (12 * ts.length+11)).list 0 0 m i hx;dsimp only at h;split at h
    ·cases h
    ·cases hc:checkP m with
     | none =>
      rw[hc] at h
      cases h
      exact nfix_of hD (by omega) (by omega)
     | some q=>rw[hc] at h;cases h
theorem parseB_codes {L:List UInt8}{c:Nat}{p:Option Nat}(hL:L.length≤8192)(h:parseB L = .error (c,p)):(101≤c∧c≤117)∧(p=none→c=111):=by
 have hm:=parseB_may L hL;rw[h] at hm
 have hp:p=none→c=111:=fun e=>by
  subst e
  rcases hm with h | ⟨q,h,_⟩
  ·exact h.1
  ·cases h
 refine ⟨?_,hp⟩;unfold parseB at h
 cases hl:lexB (L.length+1) true L 0 with
 | error e =>
  obtain⟨c',p'⟩:=e;rw[hl] at h
  cases h
  have:=lexB_err L (L.length+1) true 0 c p' (Nat.zero_le _) (by rw[List.drop_zero];exact hl)
  omega
 | ok ts =>
  have hT:=lexB_t L hL ts hl;have hn:=(nnAll hT.good (12 * ts.length+11)).list 0 0 hT.good.pos (by omega)
  rw[hl] at h;dsimp only at h
  cases hx:pList ts (12 * ts.length+11) 0 0 with
  | none=>exact absurd hx hn
  | some r =>
   rw[hx] at h
   cases r with
   | error e =>
    obtain⟨c',p'⟩:=e
    cases h
    have:=((postAll hT.good (12 * ts.length+11)).list 0 0 hT.good.pos).2 _ _ hx
    omega
   | ok y =>
    obtain⟨m,i⟩:=y;have hwf:=(wAll hT.w (12 * ts.length+11)).list 0 0 m i hx;dsimp only at h;split at h
    ·cases h;omega
    ·rcases check_wf hwf with hc | hc | ⟨q,hc⟩
     ·rw[hc] at h;cases h
     ·rw[hc] at h;cases h;omega
     ·rw[hc] at h;cases h;omega
theorem seeFault_sent (w:World)(sent:Nat→Addr)(hS:Sents w sent)(c:Nat)(h1:101≤c)(h2:c≤117) :
  Calls Tryz.prog 25 #[.iface 205 (.pointer (some (sent c)))] w fun e w'=>e = .returned (faultV c (.slice none 0 0))∧Below w.heap.size w w':=by
 have hb0:=(Below.refl w.heap.size w).alloc (Nat.le_refl _) (Obj.cells #[Value.int IntKind.i64 0,Value.slice none 0 0] 30);have hS1:=hS.below hb0;go_enter Tryz.func25,Tryz.ntmps25
 go_wp2_with fail
 refine (seefault_sent _ sent hS1 c h1 h2 9 (by omega) (by omega)).mono ?_
 rintro e w2 ⟨rfl,hb2⟩;have B2:=(Blk.newAt (w:=w) [Value.int IntKind.i64 0,Value.slice none 0 0] 30 rfl).below hb2;have hB2:=bNext hb0 hb2;have c0:=B2.cell 0 rfl;have c1:=B2.cell 1 rfl;have f0:=B2.free 0;have f1:=B2.free 1;have hK:=(Kept.ofBelow hB2:Kept Nowhere w w2);clear hb2 hS1 hb0;unfold faultV;go_wp2_with fail
 (try simp only[Exit.inBlock,Exit.then])
 refine bodyPost_ret (results_blk1 (p:=2) (g:=w.heap.size) (cs:=[.int .i64 c,.slice none 0 0]) rfl _ _ _ rfl ?_ Tryz.underlying30 rfl (by kernel_rfl)) rfl ⟨rfl,?_⟩
 ·apply Blk.as
  repeat (first | (with_reducible assumption) | ((with_reducible apply Blk.newAt);(focus (simp;done))) | (with_reducible apply Blk.set) | ((with_reducible apply Blk.other);(case hp=>first | omega | (simp;omega) | simp)) | (with_reducible apply Blk.alloc) | (with_reducible apply Blk.drewN) | (with_reducible apply Blk.drew))
  rfl
 ·apply Kept.toBelow
  repeat (first | (with_reducible assumption) | (with_reducible exact Kept.refl _ _) | ((with_reducible refine Kept.setCell ?_ ?_ _);rotate_left;(focus (first | exact fun _=>rfl | exact fun h=>absurd h (by first | omega | (simp;omega) | simp)))) | (with_reducible refine Kept.alloc ?_ _) | (with_reducible refine Kept.drewN ?_ _) | (with_reducible refine Kept.drew ?_))
end Go.Proofs.YtbplbehhlbkklaaGreatDoor
