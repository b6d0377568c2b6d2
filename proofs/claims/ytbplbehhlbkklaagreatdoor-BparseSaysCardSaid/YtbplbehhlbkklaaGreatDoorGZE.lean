/- The document's text of a program: its parts (patoisref5): quoted texts, names of kinds. -/
import Derived.Test.YtbplbehhlbkklaaGreatDoorGRef5G
import Derived.Test.YtbplbehhlbkklaaGreatDoorGBKitG
import Derived.Lib.ItoaNum
import Derived.Test.YtbplbehhlbkklaaGreatDoorGZC
namespace Go.Proofs.YtbplbehhlbkklaaGreatDoor
set_option maxHeartbeats 8000000
set_option maxRecDepth 100000
open Go Go.RowKit
theorem infoU8:(Tryz.prog.info? 5).map (fun i=>(i.zero,i.size,i.bytes))=some (some (.int .u8 0),1,1):=by kernel_rfl
def BOwn (w:World) (B:Nat) (v:Value) (l:List UInt8):Prop:=w.ownsRow B 5 1 v l.length (l.map fun c=>Value.int .u8 (c.toNat:Int))
theorem BOwn.form {w:World}{B:Nat}{v:Value}{L:List UInt8}(h:BOwn w B v L):∃ ao cap,v = .slice ao L.length cap:=by
 rcases h.2 with ⟨hv,h0⟩ | ⟨g,cap,cur,hv,_⟩
 ·exact⟨none,0,by rw[hv,h0]⟩
 ·exact⟨_,_,hv⟩
theorem BOwn.one {w:World}(c:Int)(d:UInt8)(hd:(d.toNat:Int)=c):BOwn (w.alloc (.cells #[.int .u8 c] 5)) w.heap.size (.slice (some ⟨w.heap.size,0,none⟩) 1 1) [d]:=by
 refine ⟨rfl,.inr ⟨w.heap.size,1,#[.int .u8 c],rfl,Nat.le_refl _,?_,Nat.le_refl _,by unfold maxLen;omega,rfl,by rw[← hd];rfl⟩⟩
 show (w.heap.push _)[w.heap.size]?=_
 rw[Array.getElem?_push,if_pos rfl]
theorem BOwn.grown {w0 w w':World}{v v':Value}{L:List UInt8}{d:UInt8}{o:Obj}(hs:w0.heap.size≤w.heap.size)(h2:BOwn w w0.heap.size v L)
  (hown:w'.ownsRow w0.heap.size 5 1 v' (L.length+1) (L.map (fun c=>Value.int .u8 (c.toNat:Int))++[.int .u8 (d.toNat:Int)])) (hg:(w.alloc o).grownBy w' v.ownBlock):BOwn w' w0.heap.size v' (L++[d])∧Below w0.heap.size w w':=by
 have hb1:=(Below.refl w.heap.size w).alloc (Nat.le_refl _) o;have hlt:=World.ownsRow.lt h2;refine ⟨?_,?_⟩
 ·unfold BOwn;rw[List.length_append,List.map_append];exact hown
 ·exact (hb1.mono hs).trans ((Kept.grown (S:=fun k=>some k=v.ownBlock) (Kept.refl _ _) hg (fun k h _=>h.symm)).below (by simp;omega) (fun i hi e=>by have:=hlt _ e.symm;omega))
theorem BOwn.conv {w:World}{B:Nat}{v:Value}{L:List UInt8}(h:BOwn w B v L)(hl:0<L.length):(convert 142 9 v).run Tryz.prog w = .ok (.string (bs L)) w:=by
 obtain⟨g,cap,rfl,_,_,_,_,hc⟩:=row_cell h hl;refine run_convert_bytes_back _ _ _ 5 ⟨g,0,none⟩ cap L Tryz.underlying142 Tryz.underlying5 Tryz.underlying9 ?_;intro j hj;have:=hc j (.int .u8 (L[j].toNat:Int)) (by rw[List.getElem?_map,List.getElem?_eq_getElem hj];rfl)
 cases j <;> simpa [Addr.add] using this
def plainC (c:UInt8):Bool:=decide (c.toNat≠34)&&decide (c.toNat≠92)&&decide (32≤c.toNat)&&decide (c.toNat≤126)
theorem r5Quote_plain (s:ByteArray)(w:World)(hs:s.size≤1000000)(hp:∀ i,i<s.size→plainC (bat s i)=true):Calls Tryz.prog 63 #[.string s] w fun e w'=>e = .returned (.string (bs (34 :: (s.data.toList++[34]))))∧Below w.heap.size w w':=by
 obtain⟨i0,hi0,hz0,hz1,hz2⟩:=info_parts infoU8;have HP:=Lib.hid hp;have HS:=Lib.hid (size_eq s);clear hp;go_enter Tryz.func63,Tryz.ntmps63
 go_wp2_with fail
 go_loopg [3,4,5] s.size (fun m s3 s4 s5 wr=>∃ k:Nat,m=s.size - k∧k≤s.size∧s4 = .int .i64 k∧BOwn wr w.heap.size s3 (34 :: s.data.toList.take k)∧Below w.heap.size w wr)
 case atStart=>exact⟨0,rfl,Nat.zero_le _,rfl,BOwn.one 34 34 rfl,(Below.refl _ _).alloc (Nat.le_refl _) _⟩
 case round =>
  obtain⟨k,rfl,hk,rfl,hO,hb⟩:=hrel;obtain⟨ao,acap,rfl⟩:=hO.form;have hlen:(34 :: s.data.toList.take k).length=k+1:=by rw[List.length_cons,List.length_take,HS.out];omega
  have HO:=Lib.hid hO;rw[hlen] at HO ⊢;clear hO
  by_cases hlt:k<s.size
  ·have hg:=getElem_bat s k hlt;have hpl:=HP.out k hlt;simp only[plainC,Bool.and_eq_true,decide_eq_true_eq] at hpl;obtain⟨⟨⟨p1,p2⟩,p3⟩,p4⟩:=hpl;have k1:(((bat s k).toNat:Int)==34)=false:=by rw[beq_eq_false_iff_ne];omega
   have k2:(((bat s k).toNat:Int)==92)=false:=by rw[beq_eq_false_iff_ne];omega
   have HT:=Lib.hid (show 34 :: s.data.toList.take (k+1)=(34 :: s.data.toList.take k)++[bat s k] from by
    rw[List.take_succ_eq_append_getElem (by rw[HS.out];exact hlt),List.cons_append]
    have h9:k<s.data.size:=hlt;simp [bat,List.getD,Array.getElem?_eq_getElem h9])
   have hsz:=hb.size;have hOA:∀ o,(wr.alloc o).ownsRow w.heap.size 5 1 _ (k+1) ((34 :: s.data.toList.take k).map fun c=>Value.int .u8 (c.toNat:Int)):=fun o=>World.ownsRow.alloc (by have h:=HO.out;unfold BOwn at h;rw[hlen] at h;exact h) o
   have hwk:IntKind.i64.wrap ((k:Int)+1)=(k:Int)+1:=by rw[IntKind.wrap_i64];omega
   go_wp2_with (at_builtin;refine wpList_append_own _ rfl _ _ 142 rfl w.heap.size 5 i0 _ 1 1 Tryz.underlying142 hi0 hz0 hz1 hz2 rfl (by decide) _ _ _ rfl (hOA _) ⟨wr.heap.size,0,none⟩ 1 1 [.int .u8 ((bat s k).toNat:Int)] rfl rfl (cells_new (by simp)) (by intro u hu;simp at hu;subst hu;rfl) (by unfold maxLen;omega) (by omega) (by simp;omega) ?_;intro v6 w6 hown' hgrow _)
   obtain⟨hO6,hb6⟩:=BOwn.grown (w0:=w) hsz HO.out (by rw[hlen];exact hown') hgrow
   rw[← HT.out] at hO6;have hb7:=hb.trans hb6;clear hOA hown' hgrow;go_wp2_with fail
   go_roundg (s.size - (k+1))
   case measure=>omega
   case rel=>exact⟨k+1,rfl,by omega,by simp,hO6,hb7⟩
  ·obtain rfl:k=s.size:=by omega
   have HT:=Lib.hid (show 34 :: (s.data.toList++[34])=(34 :: s.data.toList.take s.size)++[34] from by
    rw[List.take_of_length_le (by rw[HS.out];omega),List.cons_append])
   have hsz:=hb.size;have hOA:∀ o,(wr.alloc o).ownsRow w.heap.size 5 1 _ (s.size+1) ((34 :: s.data.toList.take s.size).map fun c=>Value.int .u8 (c.toNat:Int)):=fun o=>World.ownsRow.alloc (by have h:=HO.out;unfold BOwn at h;rw[hlen] at h;exact h) o
   go_wp2_with (at_builtin;refine wpList_append_own _ rfl _ _ 142 rfl w.heap.size 5 i0 _ 1 1 Tryz.underlying142 hi0 hz0 hz1 hz2 rfl (by decide) _ _ _ rfl (hOA _) ⟨wr.heap.size,0,none⟩ 1 1 [.int .u8 34] rfl rfl (cells_new (by simp)) (by intro u hu;simp at hu;subst hu;rfl) (by unfold maxLen;omega) (by omega) (by simp;omega) ?_;intro v6 w6 hown' hgrow _)
   obtain⟨hO6,hb6⟩:=BOwn.grown (w0:=w) (d:=34) hsz HO.out (by rw[hlen];exact hown') hgrow
   rw[← HT.out] at hO6;obtain⟨bo,bc,rfl⟩:=hO6.form;have hcv:=hO6.conv (by simp)
   generalize (34 :: (s.data.toList++[34]):List UInt8).length=bn at hcv ⊢;have hb7:=hb.trans hb6;clear hOA hown' hgrow HT;go_wp2_with fail
   rw[hcv];go_wp2_with fail
   go_ret;exact⟨rfl,hb7⟩
end Go.Proofs.YtbplbehhlbkklaaGreatDoor
namespace Go.Proofs.YtbplbehhlbkklaaGreatDoor
set_option maxHeartbeats 8000000
set_option maxRecDepth 100000
open Go Go.RowKit
def kindNames:List (List UInt8):=[[108,105,116],[118,97,114],[99,97,116],[106,111,105,110],[115,112,108,105,116],[103,108,111,98],[112,108,97,105,110],[101,115,99],[102,108,97,116],[99,111,117,110,116],[112,105,99,107],[115,117,98],[],[],[],[],[],[],[],[110,111,112],[99,97,108,108],[115,101,116],[115,101,113],[105,102],[97,110,100],[111,114],[110,111,116],[119,104,105,108,101],[102,111,114],[99,97,115,101],[102,117,110],[112,105,112,101],[114,101,100,105,114],[104,101,114,101],[108,111,99,97,108],[101,118,97,108],[102,114,97,109,101]]
def kindName (k:Int):List UInt8:=kindNames.getD (k.toNat - 1) []
theorem r5names_any (w:World):Calls Tryz.prog 97 #[] w fun e w'=>e = .returned (.slice (some ⟨w.heap.size,0,none⟩) 37 37)∧w'=w.alloc (.cells (kindNames.map fun s=>Value.string (bs s)).toArray 9):=by
 go_enter Tryz.func97,Tryz.ntmps97
 go_wp2
 go_ret;exact⟨rfl,rfl⟩
theorem r5Kind_any (k:Nat)(w:World)(hk:kindOk k=true):Calls Tryz.prog 60 #[.int .i64 k] w fun e w'=>e = .returned (.string (bs (kindName k)))∧Below w.heap.size w w':=by
 have hkr:(1≤k∧k≤12)∨(20≤k∧k≤37):=by
  simp only[kindOk,isWord,isCommand,Bool.or_eq_true,Bool.and_eq_true,decide_eq_true_eq] at hk;omega
 have hB:=Blk.new w (kindNames.map fun s=>Value.string (bs s)) 9
 have hb:=(Below.refl w.heap.size w).alloc (Nat.le_refl _) (.cells (kindNames.map fun s=>Value.string (bs s)).toArray 9)
 have hcell:(w.alloc (.cells (kindNames.map fun s=>Value.string (bs s)).toArray 9)).cell? ⟨w.heap.size,k - 1,none⟩=some (.string (bs (kindName k))):=by
  refine hB.cell (k - 1) ?_;have hl:k - 1<kindNames.length:=by simp [kindNames];omega
  rw[List.getElem?_map,List.getElem?_eq_getElem hl];simp [kindName,List.getD_eq_getElem?_getD,List.getElem?_eq_getElem hl]
 have hkc:isWord k=true∨(isWord k=false∧isCommand k=true):=by
  unfold kindOk at hk
  cases h1:isWord k <;> cases h2:isCommand k <;> simp_all
 obtain⟨j,hj⟩:∃ j:Nat,k=j+1:=⟨k - 1,by omega⟩
 subst hj;rw[Nat.add_sub_cancel] at hcell;obtain⟨kk,hkk⟩:∃ kk:Int,((j+1:Nat):Int)=kk:=⟨_,rfl⟩;rw[hkk] at hcell hkc hk ⊢;have hj1:kk - 1=(j:Int):=by omega
 have hw1:IntKind.i64.wrap (kk - 1)=kk - 1:=by rw[IntKind.wrap_i64];omega
 have hj37:j<37:=by omega
 clear hkk;generalize kindName kk=nm at hcell ⊢;generalize hww:w.alloc (.cells (kindNames.map fun s=>Value.string (bs s)).toArray 9)=w1 at hcell hb
 have HN:=Lib.hid (r5names_any w);rw[hww] at HN;clear hB hww hk
 rcases hkc with h1 | ⟨h1,h2⟩
 ·go_enter Tryz.func60,Tryz.ntmps60
  go_wp2_with fail
  refine (r5Word_any _ _).mono ?_;rintro e w2 ⟨rfl,rfl⟩;rw[h1];go_wp2_with fail
  refine HN.out.mono ?_;rintro e w3 ⟨rfl,rfl⟩;go_wp2_with fail
  go_ret;exact⟨rfl,hb⟩
 ·go_enter Tryz.func60,Tryz.ntmps60
  go_wp2_with fail
  refine (r5Word_any _ _).mono ?_;rintro e w2 ⟨rfl,rfl⟩;rw[h1];go_wp2_with fail
  refine (r5Command_any _ _).mono ?_;rintro e w2 ⟨rfl,rfl⟩;rw[h2];go_wp2_with fail
  refine HN.out.mono ?_;rintro e w3 ⟨rfl,rfl⟩;go_wp2_with fail
  go_ret;exact⟨rfl,hb⟩
def namedR (k:Int):Bool:=decide (k=1) || namedB k
theorem r5named_any (k:Int)(w:World):Calls Tryz.prog 62 #[.int .i64 k] w fun e w'=>e = .returned (.bool (namedR k))∧w'=w:=by
 by_cases h1:k=1
 ·subst h1;go_enter Tryz.func62,Tryz.ntmps62
  go_wp2
  go_ret;exact⟨by first | rfl | simp [namedR,namedB],rfl⟩
 have b1:(k==1)=false:=by rw[beq_eq_false_iff_ne];exact h1
 by_cases h2:k=2
 ·subst h2;go_enter Tryz.func62,Tryz.ntmps62
  go_wp2
  go_ret;exact⟨by first | rfl | simp [namedR,namedB],rfl⟩
 have b2:(k==2)=false:=by rw[beq_eq_false_iff_ne];exact h2
 by_cases h22:k=22
 ·subst h22;go_enter Tryz.func62,Tryz.ntmps62
  go_wp2
  go_ret;exact⟨by first | rfl | simp [namedR,namedB],rfl⟩
 have b22:(k==22)=false:=by rw[beq_eq_false_iff_ne];exact h22
 by_cases h29:k=29
 ·subst h29;go_enter Tryz.func62,Tryz.ntmps62
  go_wp2
  go_ret;exact⟨by first | rfl | simp [namedR,namedB],rfl⟩
 have b29:(k==29)=false:=by rw[beq_eq_false_iff_ne];exact h29
 by_cases h31:k=31
 ·subst h31;go_enter Tryz.func62,Tryz.ntmps62
  go_wp2
  go_ret;exact⟨by first | rfl | simp [namedR,namedB],rfl⟩
 have b31:(k==31)=false:=by rw[beq_eq_false_iff_ne];exact h31
 by_cases h35:k=35
 ·subst h35;go_enter Tryz.func62,Tryz.ntmps62
  go_wp2
  go_ret;exact⟨by first | rfl | simp [namedR,namedB],rfl⟩
 have b35:(k==35)=false:=by rw[beq_eq_false_iff_ne];exact h35
 have HX:Hid (namedR k=false):=Lib.hid (by simp [namedR,namedB,h1,h2,h22,h29,h31,h35])
 clear h1 h2 h22 h29 h31 h35;go_enter Tryz.func62,Tryz.ntmps62
 go_wp2
 go_ret;exact⟨by rw[HX.out];rfl,rfl⟩
end Go.Proofs.YtbplbehhlbkklaaGreatDoor
namespace Go.Proofs.YtbplbehhlbkklaaGreatDoor
set_option maxHeartbeats 8000000
set_option maxRecDepth 100000
open Go Go.RowKit
def NSlo (w:World) (v:Value) (l:Prog):Prop:=∃ g o cap,v = .slice (some ⟨g,o,none⟩) l.length cap∧l.length≤cap∧cap≤maxLen∧(∃ cur fz,w.heap[g]?=some (.cells cur 67 fz))∧∀ (k:Nat) (u:Value),(l.flatMap PNode.cells)[k]?=some u→w.cell? ⟨g,o+k,none⟩=some u
theorem NSl.lo {w:World}{b:Nat}{v:Value}{l:Prog}(h:NSl w b v l):NSlo w v l:=by
 obtain⟨g,cap,h1,h2,h3,h4,_,h6⟩:=h;exact⟨g,0,cap,h1,h2,h3,h4,fun k u hk=>by rw[Nat.zero_add];exact h6 k u hk⟩
theorem NSlo.of_block {w w':World}{v:Value}{l:Prog}(h:NSlo w v l)(hb:∀ (g:Nat) cur fz,w.heap[g]?=some (.cells cur 67 fz)→w'.heap[g]?=w.heap[g]?):NSlo w' v l:=by
 obtain⟨g,o,cap,h1,h2,h3,⟨cur,fz,h4⟩,h6⟩:=h;have he:=hb g cur fz h4;exact⟨g,o,cap,h1,h2,h3,⟨cur,fz,he.trans h4⟩,fun k u hk=>(World.cell?_of_block (w:=w) he).trans (h6 k u hk)⟩
theorem NSlo.below {w w':World}{v:Value}{l:Prog}(h:NSlo w v l)(hb:Below w.heap.size w w'):NSlo w' v l:=h.of_block fun g _ _ h4=>hb.block g (lt_of_block h4)
theorem NSlo.grown {w w':World}{v:Value}{l:Prog}{row:Option Nat}(h:NSlo w v l)(hg:w.grownBy w' row)(hr:∀ k,row=some k→∃ cur fz t,w.heap[k]?=some (.cells cur t fz)∧t≠67):NSlo w' v l:=h.of_block fun g cur fz h4=>hg.block g (lt_of_block h4) (fun e=>by
 obtain⟨c2,f2,t2,h7,h8⟩:=hr g e.symm;rw[h4] at h7;injection h7 with h7
 injection h7 with _ h9 _
 exact h8 h9.symm)
theorem NSlo.facts {w:World}{g o n cap:Nat}{l:Prog}(h:NSlo w (.slice (some ⟨g,o,none⟩) n cap) l){k:Nat}{x:PNode}(hx:l[k]?=some x) :
  w.cell? ⟨g,o+k * 5,none⟩=some (.int .i64 x.kind)∧w.cell? ⟨g,o+k * 5+1,none⟩=some (.int .i64 x.n)∧w.cell? ⟨g,o+k * 5+2,none⟩=some (.int .i64 x.k)∧w.cell? ⟨g,o+k * 5+3,none⟩=some (.int .i64 x.size)∧w.cell? ⟨g,o+k * 5+4,none⟩=some (.string (bs x.text)):=by
 obtain⟨g',o',cap',hv,_,_,_,h⟩:=h
 cases hv
 have hf:∀ j u,x.cells[j]?=some u→w.cell? ⟨g,o+k * 5+j,none⟩=some u:=fun j u hu=>by
  have:=h _ _ (flat_get PNode.cells 5 node_cells l k j x u hx hu)
  rwa [Nat.mul_comm,← Nat.add_assoc] at this
 exact⟨hf 0 _ rfl,hf 1 _ rfl,hf 2 _ rfl,hf 3 _ rfl,hf 4 _ rfl⟩
theorem NSlo.part {w:World}{g o n cap:Nat}{l a m p:Prog}{c:Nat}(h:NSlo w (.slice (some ⟨g,o,none⟩) n cap) l)(hl:l=a++m++p)(hc:c=a.length):NSlo w (.slice (some ⟨g,o+c * 5,none⟩) m.length (cap - c)) m:=by
 obtain⟨g',o',cap',hv,h1,h2,h3,h⟩:=h
 cases hv
 have hll:l.length=a.length+m.length+p.length:=by rw[hl];simp;omega
 refine ⟨g,_,_,rfl,by omega,by omega,h3,fun k u hk=>?_⟩
 have hkl:=(List.getElem?_eq_some_iff.1 hk).1
 have:(l.flatMap PNode.cells)[c * 5+k]?=some u:=by
  rw[hl,List.flatMap_append,List.flatMap_append,List.append_assoc,List.getElem?_append_right (by rw[nodes_len,hc];omega),nodes_len,List.getElem?_append_left (by rw[hc];omega)]
  rw[show c * 5+k - a.length * 5=k by omega]
  exact hk
 have h9:=h _ _ this;rwa [← Nat.add_assoc] at h9
def KOwo (w:World) (B:Nat) (v:Value) (L:List Prog):Prop:=∃ us:List Value,us.length=L.length∧w.ownsRow B 23 1 v L.length us∧∀ (i:Nat) (u:Value) (l:Prog),us[i]?=some u→L[i]?=some l→NSlo w u l
theorem KOwo.nil (w:World)(B:Nat):KOwo w B (.slice none 0 0) []:=⟨[],rfl,World.ownsRow_nil _ _ _ _,fun i u l h=>by simp at h⟩
theorem KOwo.form {w:World}{B:Nat}{v:Value}{L:List Prog}(h:KOwo w B v L):∃ ao cap,v = .slice ao L.length cap:=by
 obtain⟨us,h1,h2,_⟩:=h
 rcases h2.2 with ⟨hv,h0⟩ | ⟨g,cap,cur,hv,_⟩
 ·exact⟨none,0,by rw[hv,h0]⟩
 ·exact⟨_,_,hv⟩
theorem KOwo.grown {w0 w w':World}{v v':Value}{L:List Prog}{l:Prog}{u:Value}{us:List Value}{o:Obj}(hs:w0.heap.size≤w.heap.size)(h1:us.length=L.length)(h2:w.ownsRow w0.heap.size 23 1 v L.length us)(h3:∀ (i:Nat)(u:Value)(l:Prog),us[i]?=some u→L[i]?=some l→NSlo w u l)(hu:NSlo w u l)
  (hown:w'.ownsRow w0.heap.size 23 1 v' (L.length+1) (us++[u])) (hg:(w.alloc o).grownBy w' v.ownBlock):KOwo w' w0.heap.size v' (L++[l])∧Below w0.heap.size w w':=by
 have hb1:=(Below.refl w.heap.size w).alloc (Nat.le_refl _) o
 have hrow:∀ k,v.ownBlock=some k→∃ cur fz t,(w.alloc o).heap[k]?=some (.cells cur t fz)∧t≠67:=fun k hk=>by
  obtain⟨cur,fz,e⟩:=ownsRow_tag h2 k hk;exact⟨cur,fz,23,(hb1.block k (lt_of_block e)).trans e,by decide⟩
 have hlt:=World.ownsRow.lt h2;have hsame:∀ x l,NSlo w x l→NSlo w' x l:=fun x l hx=>(hx.below hb1).grown hg hrow
 refine ⟨⟨us++[u],by simp [h1],by rw[List.length_append];exact hown,fun i x y hx hy=>?_⟩,?_⟩
 ·by_cases hi:i<us.length
  ·rw[List.getElem?_append_left hi] at hx;rw[List.getElem?_append_left (by omega)] at hy
   exact hsame _ _ (h3 i x y hx hy)
  ·rw[List.getElem?_append_right (by omega)] at hx hy
   obtain⟨k,hk⟩:∃ k,i - us.length=k:=⟨_,rfl⟩;have hk2:i - L.length=k:=by omega
   rw[hk] at hx;rw[hk2] at hy
   cases k with
   | zero =>
    cases hx
    cases hy
    exact hsame _ _ hu
   | succ k=>simp at hx
 ·exact (hb1.mono hs).trans ((Kept.grown (S:=fun k=>some k=v.ownBlock) (Kept.refl _ _) hg (fun k h _=>h.symm)).below (by simp;omega) (fun i hi e=>by have:=hlt _ e.symm;omega))
theorem ndAt_get9 {l:Prog}(hl:0<l.length):l[0]?=some (ndAt l 0):=by
 cases l with
 | nil=>simp at hl
 | cons a l=>rfl
def KidsOk (kids:List Prog):Prop:=∀ kid∈kids,0<kid.length∧(ndAt kid 0).size=kid.length
theorem kids_le {ks:List Prog}(hks:KidsOk ks):ks.length≤ks.flatten.length:=by
 induction ks with
 | nil=>simp
 | cons k ks ihk =>
  have h1:=(hks k (by simp)).1
  have h2:=ihk (fun k hk=>hks k (by simp [hk]))
  rw[List.flatten_cons,List.length_append,List.length_cons];omega
theorem r5Kids_any (kind n:Int)(s:List UInt8)(kids:List Prog)(v:Value)(w:World)(hN:NSlo w v (newP kind n s kids))(hk:KidsOk kids)(hlen:(newP kind n s kids).length≤100000) :
  Calls Tryz.prog 64 #[v] w fun e w'=>∃ v',e = .returned v'∧KOwo w' w.heap.size v' kids∧Below w.heap.size w w':=by
 obtain⟨k0,hk0,hk1,hk2,hk3⟩:=info_parts infoNodes;have HN:=Lib.hid hN;obtain⟨g,o,cap,rfl,hc1,hc2,-,-⟩:=hN;obtain⟨N,hNN⟩:∃ N,(newP kind n s kids).length=N:=⟨_,rfl⟩;have hl2:N=kids.flatten.length+1:=by rw[← hNN,len_newP]
 have HNN:=Lib.hid hNN;rw[hNN] at HN hc1 hlen ⊢;have HK:=Lib.hid hk;obtain⟨c0,c1,c2,c3,c4⟩:=HN.out.facts (k:=0) (x:=⟨kind,n,kids.length,kids.flatten.length+1,s⟩) rfl;dsimp only at c0 c1 c2 c3 c4;rw[show ((kids.flatten.length:Int)+1)=(N:Int) by omega] at c3
 simp only[Nat.zero_mul,Nat.add_zero] at c0 c1 c2 c3 c4;obtain⟨K,hKK⟩:∃ K,kids.length=K:=⟨_,rfl⟩;rw[hKK] at c2;have HKK:=Lib.hid hKK;have HL2:=Lib.hid hl2;have hN1:1≤N:=by omega
 clear hNN hk hKK hl2;have hN0:((N:Int)==0)=false:=by rw[beq_eq_false_iff_ne];omega
 go_enter Tryz.func64,Tryz.ntmps64
 go_wp2_with fail
 go_loopg [3,4,6,7] K (fun m s3 s4 s6 s7 wr=>∃ (k p:Nat),m=K - k∧k≤K∧s4 = .int .i64 p∧s6 = .int .i64 k∧KOwo wr w.heap.size s3 (kids.take k)∧Below w.heap.size w wr∧Hid (p=1+(kids.take k).flatten.length))
 case atStart=>exact⟨0,1,rfl,Nat.zero_le _,rfl,rfl,KOwo.nil _ _,Below.refl _ _,Lib.hid (by simp)⟩
 case round =>
  obtain⟨k,p,rfl,hk,rfl,rfl,hO,hb,hp⟩:=hrel;obtain⟨ao,acap,rfl⟩:=hO.form;have hlk:(kids.take k).length=k:=by rw[List.length_take];have:=HKK.out;omega
  have HO:=Lib.hid hO;rw[hlk] at HO ⊢;clear hO;have c0:=bSome hb c0;have c1:=bSome hb c1;have c2:=bSome hb c2;have c3:=bSome hb c3;have c4:=bSome hb c4
  by_cases hlt:k<K
  ·have hkl:k<kids.length:=by have:=HKK.out;omega
   have hkid:=HK.out kids[k] (List.getElem_mem hkl);have HT:=Lib.hid (show kids.take (k+1)=kids.take k++[kids[k]] from List.take_succ_eq_append_getElem hkl)
   have hsplit:newP kind n s kids=(⟨kind,n,kids.length,kids.flatten.length+1,s⟩ :: (kids.take k).flatten)++kids[k]++(kids.drop (k+1)).flatten:=by
    rw[newP,List.cons_append,List.cons_append];congr 1
    have h9:kids=kids.take k++(kids[k] :: kids.drop (k+1)):=by
     rw[← List.drop_eq_getElem_cons hkl,List.take_append_drop]
    conv=>lhs;rw[h9]
    rw[List.flatten_append,List.flatten_cons,List.append_assoc]
   have hp2:p=(⟨kind,n,kids.length,kids.flatten.length+1,s⟩ :: (kids.take k).flatten:Prog).length:=by rw[hp.out,List.length_cons];omega
   have hpart:=HN.out.part hsplit hp2
   have hpN:p+kids[k].length≤N:=by
    have h9:=congrArg List.length hsplit;rw[HNN.out,List.length_append,List.length_append,← hp2] at h9;omega
   have hget:(newP kind n s kids)[p]?=some (ndAt kids[k] 0):=by
    rw[hsplit,List.append_assoc,List.getElem?_append_right (by omega),← hp2,Nat.sub_self,List.getElem?_append_left hkid.1]
    exact ndAt_get9 hkid.1
   obtain⟨-,-,-,d3,-⟩:=HN.out.facts hget;rw[hkid.2] at d3;have d3:=bSome hb d3;have hpos:=hkid.1;have HPT:=Lib.hid (hpart.below hb);clear hsplit hp2 hget hpart hkid
   have HP2:=Lib.hid (show p+kids[k].length=1+(kids.take (k+1)).flatten.length from by
    rw[HT.out,List.flatten_append,List.length_append,hp.out];simp
    omega)
   generalize kids[k]=kid at *;generalize hkn:kid.length=kn at *;obtain⟨us,u1,u2,u3⟩:=HO.out;have hsz:=hb.size;rw[hlk] at u2;have hOA:∀ ob,(wr.alloc ob).ownsRow w.heap.size 23 1 _ k us:=fun ob=>ownsRow_kept u2 (Kept.ofBelow (S:=Nowhere) ((Below.refl _ wr).alloc (Nat.le_refl _) ob)) (fun _ _ _ e=>e)
   have hk5:k≤200000:=by have:=HKK.out;have:=HL2.out;have h8:kids.length≤kids.flatten.length:=kids_le HK.out;omega
   have hw1:IntKind.i64.wrap ((N:Int) - p)=(N:Int) - p:=by rw[IntKind.wrap_i64];omega
   have hw2:IntKind.i64.wrap ((p:Int)+kn)=(p:Int)+kn:=by rw[IntKind.wrap_i64];omega
   have hw3:IntKind.i64.wrap ((k:Int)+1)=(k:Int)+1:=by rw[IntKind.wrap_i64];omega
   go_wp2_with (at_builtin;refine wpList_append_own _ rfl _ _ 99 rfl w.heap.size 23 k0 _ 1 24 Tryz.underlying99 hk0 hk1 hk2 hk3 rfl (by decide) _ _ _ rfl (hOA _) ⟨wr.heap.size,0,none⟩ 1 1 [.slice (some ⟨g,o+p * 5,none⟩) kn (cap - p)] rfl rfl (cells_new (by simp)) (by intro u hu;simp at hu;subst hu;rfl) (by unfold maxLen;omega) (by omega) (by simp;omega) ?_;intro v6 w6 hown' hgrow _)
   obtain⟨hO6,hb6⟩:=KOwo.grown (w0:=w) hsz u1 (by rw[hlk];exact u2) u3 HPT.out (by rw[hlk];exact hown') hgrow
   rw[← HT.out] at hO6;clear u1 u2 u3 hOA hown' hgrow;go_wp2_with fail
   go_roundg (K - (k+1))
   case measure=>omega
   case rel=>exact⟨k+1,p+kn,rfl,by omega,by simp,by simp,hO6,hb.trans hb6,Lib.hid (by have h7:=HP2.out;exact h7)⟩
  ·obtain rfl:k=K:=by omega
   have hall:kids.take k=kids:=List.take_of_length_le (by have:=HKK.out;omega)
   rw[hall] at HO;go_wp2_with fail
   go_ret;exact⟨_,rfl,HO.out,hb⟩
end Go.Proofs.YtbplbehhlbkklaaGreatDoor

namespace Go.Proofs.YtbplbehhlbkklaaGreatDoor
set_option maxHeartbeats 16000000
set_option maxRecDepth 100000
open Go Go.RowKit
theorem bs_app9 (l m:List UInt8):bs l++bs m=bs (l++m):=by
 unfold bs;apply ByteArray.ext
 apply Array.ext'
 simp
theorem kindName_len (k:Int):(kindName k).length≤6:=by
 unfold kindName;rw[List.getD_eq_getElem?_getD]
 by_cases h:k.toNat - 1<kindNames.length
 ·rw[List.getElem?_eq_getElem h];have h2:∀ s∈kindNames,s.length≤6:=by decide
  exact h2 _ (List.getElem_mem h)
 ·rw[List.getElem?_eq_none (by omega)]
  simp
def headOf (kind n:Nat) (s:List UInt8):List UInt8:=40 :: (kindName kind++((if n=0 then [] else [32,UInt8.ofNat (48+n)])++(if namedR kind=true then 32 :: 34 :: (s++[34]) else [])))
def kidsOf (ts:List (List UInt8)):List UInt8:=ts.flatMap fun t=>32 :: t
def printOf (kind n:Nat) (s:List UInt8) (ts:List (List UInt8)):List UInt8:=headOf kind n s++kidsOf ts++[41]
inductive Prints:Prog→List UInt8→Prop
 | node (kind n:Nat) (s:List UInt8) (kids:List Prog) (ts:List (List UInt8)) (hk:kindOk kind=true) (hn:n<10) (hs:∀ c∈s,plainC c=true) (hs2:s.length≤1000) (hkn:kids.length≤100) (hlen:ts.length=kids.length)
  (hK:∀ (j:Nat) (kid:Prog) (t:List UInt8),kids[j]?=some kid→ts[j]?=some t→Prints kid t) (hl:(printOf kind n s ts).length≤10000) (hz:(newP kind n s kids).length≤10000):Prints (newP kind n s kids) (printOf kind n s ts)
theorem Prints.size {l:Prog}{t:List UInt8}(h:Prints l t):0<l.length∧(ndAt l 0).size=l.length∧t.length≤10000:=by
 cases h with
 | node kind n s kids ts hk hn hs hs2 hkn hlen hK hl hz=>exact⟨by rw[newP];simp,by rw[newP];simp [ndAt],hl⟩
theorem rNumber_small9 (n:Nat)(w:World)(hn:n<10) :
  Calls Tryz.prog 61 #[.int .i64 n] w fun e w'=>e = .returned (.string (bs [UInt8.ofNat (48+n)]))∧Below w.heap.size w w':=by
 obtain⟨c,hc⟩:∃ c,UInt8.ofNat (48+n)=c:=⟨_,rfl⟩
 have hcn:(c.toNat:Int)=48+(n:Int):=by
  rw[← hc];simp [UInt8.toNat_ofNat]
  omega
 have HC:∀ (w:World) (b:Nat),w.cell? ⟨b,0,none⟩=some (.int .u8 (48+(n:Int)))→(convert 142 9 (.slice (some ⟨b,0,none⟩) 1 1)).run Tryz.prog w = .ok (.string (bs [c])) w:=fun w b h=>by
  refine run_convert_bytes_back _ _ _ 5 ⟨b,0,none⟩ 1 [c] Tryz.underlying142 Tryz.underlying5 Tryz.underlying9 ?_;intro j hj;have:j=0:=by simp at hj;omega
  subst this;show w.cell? ⟨b,0,none⟩=_
  rw[h,← hcn];rfl
 rw[hc];clear hc;go_enter Tryz.func61,Tryz.ntmps61
 go_wp2_with fail
 go_ret;exact⟨rfl,(Below.refl _ _).alloc (Nat.le_refl _) _⟩
theorem kidsOf_take (ts:List (List UInt8))(k:Nat)(h:k<ts.length):kidsOf (ts.take (k+1))=kidsOf (ts.take k)++(32 :: ts[k]):=by
 unfold kidsOf;rw[List.take_succ_eq_append_getElem h,List.flatMap_append];simp
theorem kidsOf_len (ts:List (List UInt8))(k:Nat):(kidsOf (ts.take k)).length≤(kidsOf ts).length:=by
 have h:kidsOf ts=kidsOf (ts.take k)++kidsOf (ts.drop k):=by
  unfold kidsOf;rw[← List.flatMap_append,List.take_append_drop]
 rw[h,List.length_append];omega
theorem r5Print_any {l:Prog}{t:List UInt8}(h:Prints l t):∀ (w:World)(v:Value),NSlo w v l→Calls Tryz.prog 30 #[v] w fun e w'=>e = .returned (.string (bs t))∧Below w.heap.size w w':=by
 induction h with
 | node kind n s kids ts hk hn hs hs2 hkn hlen hK hl hz ih =>
  intro w v hN;have HIH:=Lib.hid ih;have HKK:=Lib.hid hK
  have hko:KidsOk kids:=fun kid hkid=>by
   obtain⟨j,hj⟩:=List.getElem?_of_mem hkid;have hjl:=(List.getElem?_eq_some_iff.1 hj).1;have h9:=(hK j kid ts[j] hj (List.getElem?_eq_getElem (by omega))).size
   exact⟨h9.1,h9.2.1⟩
  have HKI:=Lib.hid (fun (w9:World) (v9:Value) (h9:NSlo w9 v9 (newP kind n s kids))=>r5Kids_any kind n s kids v9 w9 h9 hko (by omega))
  have HN:=Lib.hid hN;obtain⟨g,o,cap,rfl,hc1,hc2,-,-⟩:=hN;obtain⟨c0,c1,c2,c3,c4⟩:=HN.out.facts (k:=0) (x:=⟨kind,n,kids.length,kids.flatten.length+1,s⟩) rfl;dsimp only at c0 c1 c2 c3 c4;simp only[Nat.zero_mul,Nat.add_zero] at c0 c1 c2 c3 c4;clear c2 c3;have hpl:0<(newP kind n s kids).length:=by rw[newP];simp
  have hpos:(((newP kind n s kids).length:Int)==0)=false:=by rw[beq_eq_false_iff_ne];omega
  have HPR:=Lib.hid (show printOf kind n s ts=headOf kind n s++kidsOf ts++[41] from rfl)
  generalize (newP kind n s kids).length=N at *
  have hq:∀ i,i<(bs s).size→plainC (bat (bs s) i)=true:=fun i hi=>by
   rw[bs_size] at hi;unfold bat;rw[bs_list,List.getD_eq_getElem?_getD,List.getElem?_eq_getElem hi];exact hs _ (List.getElem_mem hi)
  have HQ:=Lib.hid (fun (w9:World)=>r5Quote_plain (bs s) w9 (by rw[bs_size];omega) hq)
  simp only[bs_list] at HQ;clear hq hs ih hK;go_enter Tryz.func30,Tryz.ntmps30
  go_wp2_with fail
  refine (r5Kind_any kind w hk).mono ?_;rintro e w1 ⟨rfl,hb1⟩;have c0:=bSome hb1 c0;have c1:=bSome hb1 c1;have c4:=bSome hb1 c4;have hn1:(bs (kindName kind)).size≤6:=by rw[bs_size];exact kindName_len _
  have HH:=Lib.hid (show headOf kind n s=40 :: (kindName kind++((if n=0 then [] else [32,UInt8.ofNat (48+n)])++(if namedR kind=true then 32 :: 34 :: (s++[34]) else []))) from rfl)
  generalize headOf kind n s=hd at *;generalize kindName kind=nm at *;go_upto_if 19 with fail
  obtain⟨p1,hp1⟩:∃ p1,40 :: (nm++(if n=0 then [] else [32,UInt8.ofNat (48+n)]))=p1:=⟨_,rfl⟩
  have HP1:=Lib.hid hp1;have hp1z:(bs p1).size≤20:=by rw[← hp1,bs_size,List.length_cons,List.length_append];rw[bs_size] at hn1;split <;> simp <;> omega
  have HHD:=Lib.hid (show hd=p1++(if namedR kind=true then 32 :: 34 :: (s++[34]) else []) from by rw[HH.out,← hp1,List.cons_append,List.append_assoc])
  clear hp1;go_cut [3] (fun s3 w2=>s3 = .string (bs p1)∧Below w1.heap.size w1 w2)
  case first =>
   by_cases h0:n=0
   ·subst h0;go_wp2_with fail
    go_meet
    case rel=>exact⟨by rw[← HP1.out];exact congrArg Value.string (by rw[show (⟨#[40]⟩:ByteArray)=bs [40] from rfl,bs_app9];simp),Below.refl _ _⟩
   ·have h1:((n:Int)==0)=false:=by rw[beq_eq_false_iff_ne];omega
    have hdz:(bs [UInt8.ofNat (48+n)]).size≤1:=by rw[bs_size];simp
    go_wp2_with fail
    refine (rNumber_small9 n _ hn).mono ?_;rintro e w2 ⟨rfl,hb2⟩;generalize hdd:UInt8.ofNat (48+n)=dg at *
    have hfin:(⟨#[40]⟩:ByteArray)++bs nm++⟨#[32]⟩++bs [dg]=bs p1:=by
     rw[← HP1.out,if_neg h0];have e1:(⟨#[40]⟩:ByteArray)=bs [40]:=rfl;have e2:(⟨#[32]⟩:ByteArray)=bs [32]:=rfl;rw[e1,e2,bs_app9,bs_app9,bs_app9];simp
    have hz3:((⟨#[40]⟩:ByteArray)++bs nm++⟨#[32]⟩).size≤10:=by
     have e1:(⟨#[40]⟩:ByteArray)=bs [40]:=rfl;have e2:(⟨#[32]⟩:ByteArray)=bs [32]:=rfl;rw[e1,e2,bs_app9,bs_app9,bs_size];rw[bs_size] at hn1;simp
     omega
    go_wp2_with fail
    go_meet
    case rel=>exact⟨rfl,hb2⟩
  case rest =>
   rename World=>w2
   obtain⟨rfl,hb2⟩:=hcut;have c0:=bSome hb2 c0;have c4:=bSome hb2 c4;have hb3:=bNext hb1 hb2;clear hb1 hb2 c1;go_upto_if 32 with (go_at_call 62;refine (r5named_any _ _).mono ?_;rintro e w9 ⟨rfl,hw9⟩;obtain rfl:=hw9.symm)
   generalize namedR kind=nr at *;have HHD2:=Lib.hid HHD.out;go_cut [3] (fun s3 w3=>s3 = .string (bs hd)∧Below w2.heap.size w2 w3)
   case first =>
    cases nr with
    | true =>
     have hz3:(bs p1++(⟨#[32]⟩:ByteArray)).size≤30:=by
      rw[show (⟨#[32]⟩:ByteArray)=bs [32] from rfl,bs_app9,bs_size]
      rw[bs_size] at hp1z;simp
      omega
     have hz4:(bs (34 :: (s++[34]))).size≤1010:=by rw[bs_size];simp;omega
     have hfin:bs p1++(⟨#[32]⟩:ByteArray)++bs (34 :: (s++[34]))=bs hd:=by
      rw[show (⟨#[32]⟩:ByteArray)=bs [32] from rfl,bs_app9,bs_app9,HHD2.out]
      simp
     go_wp2_with fail
     refine (HQ.out _).mono ?_;rintro e w3 ⟨rfl,hb4⟩;generalize bs (34 :: (s++[34]))=qs at *;go_wp2_with fail
     go_meet
     case rel=>exact⟨rfl,hb4⟩
    | false =>
     go_wp2_with fail
     go_meet
     case rel=>exact⟨by rw[HHD2.out];simp,Below.refl _ _⟩
   case rest =>
    rename World=>w4
    obtain⟨rfl,hb4⟩:=hcut;have hb5:=bNext hb3 hb4;clear hb3 hb4 c0 c4;have hN4:=HN.out.below hb5;go_wp2_with fail
    refine (HKI.out _ _ hN4).mono ?_;rintro e w5 ⟨v5,rfl,hO5,hb6⟩;have hb7:=bNext hb5 hb6;obtain⟨ao,ac,rfl⟩:=hO5.form;obtain⟨us,u1,u2,u3⟩:=hO5
    have HROW:=Lib.hid (show ∀ k,k<kids.length→∃ gk u,ao=some ⟨gk,0,none⟩∧w5.cell? ⟨gk,k,none⟩=some u∧kids.length≤ac∧∃ kid,kids[k]?=some kid∧NSlo w5 u kid from fun k hk=>by
     obtain⟨gk,cap2,e1,e2,e3,e4,e5,e6⟩:=row_cell u2 (by omega)
     cases e1
     have hu:us[k]?=some us[k]:=List.getElem?_eq_getElem (by omega)
     have hkk:=List.getElem?_eq_getElem hk;exact⟨gk,us[k],rfl,e6 k _ hu,e2,kids[k],hkk,u3 k _ _ hu hkk⟩)
    have HTL:=Lib.hid hlen
    have htl:hd.length+(kidsOf ts).length+1≤10000:=by
     rw[HPR.out,List.length_append,List.length_append] at hl;simpa using hl
    clear u1 u2 u3 hlen hl HN HKI hN4;obtain⟨K,hKK⟩:∃ K,kids.length=K:=⟨_,rfl⟩;have HKL:=Lib.hid hKK;rw[hKK] at hkn HROW ⊢;clear hKK;go_wp2_with fail
    go_loopg [3,5] K (fun m s3 s5 wr=>∃ k:Nat,m=K - k∧k≤K∧s3 = .string (bs (hd++kidsOf (ts.take k)))∧s5 = .int .i64 k∧Below w5.heap.size w5 wr)
    case atStart=>exact⟨0,rfl,Nat.zero_le _,by simp [kidsOf],rfl,Below.refl _ _⟩
    case round =>
     obtain⟨k,rfl,hk,rfl,rfl,hb8⟩:=hrel;have hkl:=kidsOf_len ts k;have haz:(bs (hd++kidsOf (ts.take k))).size≤10000:=by rw[bs_size,List.length_append];omega
     by_cases hlt:k<K
     ·obtain⟨gk,u,rfl,hu,hac,kid,hkid,hNk⟩:=HROW.out k hlt;have hu:=bSome hb8 hu;have htk:k<ts.length:=by have:=HTL.out;have:=HKL.out;omega
      have htget:=List.getElem?_eq_getElem htk;have hNk:=hNk.below hb8;have HP:=Lib.hid (HIH.out k kid ts[k] hkid htget wr u hNk);have hsz9:=(HKK.out k kid ts[k] hkid htget).size.2.2
      have hfin:bs (hd++kidsOf (ts.take k))++(⟨#[32]⟩:ByteArray)++bs ts[k]=bs (hd++kidsOf (ts.take (k+1))):=by
       rw[show (⟨#[32]⟩:ByteArray)=bs [32] from rfl,bs_app9,bs_app9,kidsOf_take ts k htk]
       simp
      have HF:=Lib.hid hfin
      have hz5:(bs (hd++kidsOf (ts.take k))++(⟨#[32]⟩:ByteArray)).size≤10010:=by
       rw[show (⟨#[32]⟩:ByteArray)=bs [32] from rfl,bs_app9,bs_size]
       rw[bs_size] at haz;simp at haz ⊢
       omega
      have hz6:(bs ts[k]).size≤10000:=by rw[bs_size];exact hsz9
      clear hfin htget hkid hsz9;generalize bs ts[k]=tb at *;generalize bs (hd++kidsOf (ts.take k))=acc at *;obtain⟨g9,o9,c9,rfl,-⟩:=hNk;have hwk:IntKind.i64.wrap ((k:Int)+1)=(k:Int)+1:=by rw[IntKind.wrap_i64];omega
      go_wp2_with fail
      refine HP.out.mono ?_;rintro e w6 ⟨rfl,hb9⟩;go_wp2_with fail
      go_roundg (K - (k+1))
      case measure=>omega
      case rel=>exact⟨k+1,rfl,by omega,congrArg Value.string HF.out,by simp,hb8.trans (hb9.mono hb8.size)⟩
     ·obtain rfl:k=K:=by omega
      have hall:ts.take k=ts:=List.take_of_length_le (by have:=HTL.out;have:=HKL.out;omega)
      rw[hall] at haz ⊢
      have hfin:bs (hd++kidsOf ts)++(⟨#[41]⟩:ByteArray)=bs (printOf kind n s ts):=by
       rw[show (⟨#[41]⟩:ByteArray)=bs [41] from rfl,bs_app9,HPR.out]
      go_wp2_with fail
      go_ret;exact⟨rfl,hb7.trans (hb8.mono hb7.size)⟩
end Go.Proofs.YtbplbehhlbkklaaGreatDoor
