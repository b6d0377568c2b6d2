/- The document's live text (patoisref2): Read, Live, Escape; closed (patoisref12). -/
import Derived.Test.YtbplbehhlbkklaaGreatDoorGRef5G
import Derived.Test.YtbplbehhlbkklaaGreatDoorGZE
namespace Go.Proofs.YtbplbehhlbkklaaGreatDoor
open Go Go.RowKit
theorem infoR2:(Tryz.prog.info? 181).map (fun i=>(i.zero,i.size,i.bytes))=some (some (.agg #[.int .u8 0,.bool false]),2,2):=by kernel_rfl
def zpcCells (p:UInt8×Bool×Nat):List Value:=[.int .u8 (p.1.toNat:Int),.bool p.2.1]
def ZPcOwn (w:World) (B:Nat) (v:Value) (l:List (UInt8×Bool×Nat)):Prop:=w.ownsRow B 181 2 v l.length (l.flatMap zpcCells)
theorem ZPcOwn.form {w:World}{B:Nat}{v:Value}{L:List (UInt8×Bool×Nat)}(h:ZPcOwn w B v L):∃ ao cap,v = .slice ao L.length cap:=by
 rcases h.2 with ⟨hv,h0⟩ | ⟨g,cap,cur,hv,_⟩
 ·exact⟨none,0,by rw[hv,h0]⟩
 ·exact⟨_,_,hv⟩
theorem ZPcOwn.grown {w0 w w':World}{v v':Value}{L:List (UInt8×Bool×Nat)}{p:UInt8×Bool×Nat}{o:Obj}(hs:w0.heap.size≤w.heap.size)(h2:ZPcOwn w w0.heap.size v L)
  (hown:w'.ownsRow w0.heap.size 181 2 v' (L.length+1) (L.flatMap zpcCells++zpcCells p)) (hg:(w.alloc o).grownBy w' v.ownBlock):ZPcOwn w' w0.heap.size v' (L++[p])∧Below w0.heap.size w w':=by
 have hb1:=(Below.refl w.heap.size w).alloc (Nat.le_refl _) o;have hlt:=World.ownsRow.lt h2;refine ⟨?_,?_⟩
 ·unfold ZPcOwn;rw[List.length_append,List.flatMap_append,show [p].flatMap zpcCells=zpcCells p from by simp [List.flatMap]]
  exact hown
 ·exact (hb1.mono hs).trans ((Kept.grown (S:=fun k=>some k=v.ownBlock) (Kept.refl _ _) hg (fun k h _=>h.symm)).below (by simp;omega) (fun i hi e=>by have:=hlt _ e.symm;omega))
def ZPcSl (w:World) (v:Value) (l:List (UInt8×Bool×Nat)):Prop:=∃ ao cap,v = .slice ao l.length cap∧l.length≤cap∧cap≤maxLen∧(0<l.length→∃ g,ao=some ⟨g,0,none⟩∧∀ (k:Nat) (p:UInt8×Bool×Nat),l[k]?=some p→w.cell? ⟨g,k * 2,none⟩=some (.int .u8 (p.1.toNat:Int))∧w.cell? ⟨g,k * 2+1,none⟩=some (.bool p.2.1))
theorem ZPcOwn.sl {w:World}{B:Nat}{v:Value}{l:List (UInt8×Bool×Nat)}(h:ZPcOwn w B v l):ZPcSl w v l:=by
 by_cases hl:0<l.length
 ·obtain⟨g,cap,q1,q2,q3,q4,q5,q6⟩:=row_cell h hl;refine ⟨_,cap,q1,q2,q3,fun _=>⟨g,rfl,fun k p hk=>⟨?_,?_⟩⟩⟩
  ·have:=flat_get zpcCells 2 (fun _=>rfl) l k 0 p _ hk rfl
   rw[Nat.mul_comm];exact q6 _ _ this
  ·have:=flat_get zpcCells 2 (fun _=>rfl) l k 1 p _ hk rfl
   rw[Nat.mul_comm k 2];exact q6 _ _ this
 ·have h0:l=[]:=List.length_eq_zero_iff.1 (by omega)
  subst h0
  rcases h.2 with ⟨hv,_⟩ | ⟨g,cap,cur,hv,_,_,q1,q2,_⟩
  ·exact⟨none,0,hv,Nat.le_refl _,Nat.zero_le _,fun h=>absurd h (by simp)⟩
  ·exact⟨_,cap,hv,q1,q2,fun h=>absurd h (by simp)⟩
theorem ZPcSl.below {w w':World}{v:Value}{l:List (UInt8×Bool×Nat)}(h:ZPcSl w v l)(hb:Below w.heap.size w w'):ZPcSl w' v l:=by
 obtain⟨ao,cap,h1,h2,h3,h4⟩:=h;refine ⟨ao,cap,h1,h2,h3,fun hl=>?_⟩
 obtain⟨g,e1,e2⟩:=h4 hl;exact⟨g,e1,fun k p hk=>⟨bSome hb (e2 k p hk).1,bSome hb (e2 k p hk).2⟩⟩
theorem zpieces_plain (c:UInt8)(l:List UInt8)(i:Nat)(h:c.toNat≠92):(piecesP i (c :: l)).1=(c,false,i) :: (piecesP (i+1) l).1:=by
 cases l with
 | nil=>simp [piecesP,h]
 | cons d l=>simp [piecesP,h]
theorem zpieces_dead (c d:UInt8)(l:List UInt8)(i:Nat)(h:c.toNat=92):(piecesP i (c :: d :: l)).1=(d,true,i) :: (piecesP (i+2) l).1:=by
 simp [piecesP,h]
theorem zpieces_last (c:UInt8)(i:Nat)(h:c.toNat=92):(piecesP i [c]).1=[(c,true,i)]:=by
 simp [piecesP,h]
theorem zpieces_len:∀ (n:Nat)(l:List UInt8)(i:Nat),l.length≤n→(piecesP i l).1.length≤l.length
 | 0,l,i,h=>by
  obtain rfl:l=[]:=List.length_eq_zero_iff.1 (by omega)
  simp [piecesP]
 | n+1,[],i,_=>by simp [piecesP]
 | n+1,[c],i,_=>by
  simp only[piecesP];split <;> simp
 | n+1,c :: d :: l,i,h=>by
  simp only[List.length_cons] at h;have h1:=zpieces_len n l (i+2) (by omega)
  have h2:=zpieces_len n (d :: l) (i+1) (by simp;omega)
  simp only[piecesP];split
  ·simp
   omega
  ·simp at h2 ⊢
   omega
section
set_option maxHeartbeats 8000000
set_option maxRecDepth 100000
theorem r2Read_any (s:ByteArray)(w:World)(hs:s.size≤1000000):Calls Tryz.prog 159 #[.string s] w fun e w'=>∃ v,e = .returned v∧ZPcSl w' v (piecesP 0 s.data.toList).1∧Below w.heap.size w w':=by
 obtain⟨i0,hi0,hz0,hz1,hz2⟩:=info_parts infoR2;obtain⟨T,hT⟩:∃ T,(piecesP 0 s.data.toList).1=T:=⟨_,rfl⟩;have HT:=Lib.hid hT;rw[hT];clear hT;go_enter Tryz.func159,Tryz.ntmps159
 go_wp2_with fail
 go_loopg [3,4] s.size (fun m s3 s4 wr=>∃ (k:Nat) (P:List (UInt8×Bool×Nat)),m=s.size - k∧k≤s.size∧P.length≤k∧s4 = .int .i64 k∧ZPcOwn wr w.heap.size s3 P∧Below w.heap.size w wr∧Hid (P++(piecesP k (s.data.toList.drop k)).1=T))
 case atStart=>exact⟨0,[],rfl,Nat.zero_le _,by simp,rfl,World.ownsRow_nil _ _ _ _,Below.refl _ _,HT⟩
 case round =>
  obtain⟨k,P,rfl,hk,hP,rfl,hO,hb,HR⟩:=hrel;obtain⟨ao,acap,rfl⟩:=hO.form;have HO:=Lib.hid hO;have HPL:=Lib.hid (show ∃ pl,P.length=pl from ⟨_,rfl⟩)
  by_cases hlt:k<s.size
  ·have hg:=getElem_bat s k hlt;have hwk:IntKind.i64.wrap ((k:Int)+1)=(k:Int)+1:=by rw[IntKind.wrap_i64];omega
   have hwk2:IntKind.i64.wrap ((k:Int)+1+1)=(k:Int)+1+1:=by rw[IntKind.wrap_i64];omega
   have hsz:=hb.size;have HD:=Lib.hid (drop_bat s k hlt);obtain⟨pl,hpl⟩:∃ pl,P.length=pl:=⟨_,rfl⟩;have HPN:=Lib.hid hpl;have hOA:∀ o,(wr.alloc o).ownsRow w.heap.size 181 2 _ pl (P.flatMap zpcCells):=fun o=>World.ownsRow.alloc (by have h:=HO.out;unfold ZPcOwn at h;rw[hpl] at h;exact h) o
   rw[hpl] at hP HO ⊢;clear hO hpl HPL
   by_cases hc:(bat s k).toNat=92
   ·have hc2:(((bat s k).toNat:Int)==92)=true:=by rw[beq_iff_eq];omega
    by_cases hl2:k+1<s.size
    ·have hd2:decide ((k:Int)+1<(s.size:Int))=true:=by rw[decide_eq_true_eq];omega
     have hg2:=getElem_bat s (k+1) hl2
     have HN:=Lib.hid (show (P++[(bat s (k+1),true,k)])++(piecesP (k+2) (s.data.toList.drop (k+2))).1=T from by
      have h:=HR.out;rw[HD.out,drop_bat s (k+1) hl2,zpieces_dead _ _ _ _ hc] at h;rw[← h];simp)
     have hj1:(k:Int)+1<(s.size:Int):=by omega
     clear hc HR HD;go_wp2_with (at_builtin;refine wpList_append_own _ rfl _ _ 178 rfl w.heap.size 181 i0 _ 2 2 Tryz.underlying178 hi0 hz0 hz1 hz2 rfl (by decide) _ _ _ rfl (hOA _) ⟨wr.heap.size,0,none⟩ 1 1 [.int .u8 ((bat s (k+1)).toNat:Int),.bool true] rfl rfl (cells_new (by simp)) (by intro u hu;simp at hu;rcases hu with rfl | rfl <;> rfl) (by unfold maxLen;omega) (by omega) (by simp;omega) ?_;intro v6 w6 hown' hgrow _)
     obtain⟨hO6,hb6⟩:=ZPcOwn.grown (w0:=w) (p:=(bat s (k+1),true,k)) hsz HO.out (by rw[HPN.out];exact hown') hgrow
     have hb7:=hb.trans hb6;have hlen:(P++[(bat s (k+1),true,k)]).length≤k+2:=by rw[List.length_append,HPN.out];simp;omega
     clear hOA hown' hgrow;go_wp2_with fail
     go_roundg (s.size - (k+2))
     case measure=>omega
     case rel=>exact⟨k+2,_,rfl,by omega,hlen,by go_num,hO6,hb7,HN⟩
    ·have hd2:decide ((k:Int)+1<(s.size:Int))=false:=by rw[decide_eq_false_iff_not];omega
     have HN:=Lib.hid (show (P++[(bat s k,true,k)])++(piecesP (k+1) (s.data.toList.drop (k+1))).1=T from by
      have h:=HR.out;have e:s.data.toList.drop (k+1)=[]:=List.drop_of_length_le (by rw[size_eq];omega)
      rw[HD.out,e,zpieces_last _ _ hc] at h;rw[e,← h];simp [piecesP])
     clear hc HR HD;go_wp2_with (at_builtin;refine wpList_append_own _ rfl _ _ 178 rfl w.heap.size 181 i0 _ 2 2 Tryz.underlying178 hi0 hz0 hz1 hz2 rfl (by decide) _ _ _ rfl (hOA _) ⟨wr.heap.size,0,none⟩ 1 1 [.int .u8 ((bat s k).toNat:Int),.bool true] rfl rfl (cells_new (by simp)) (by intro u hu;simp at hu;rcases hu with rfl | rfl <;> rfl) (by unfold maxLen;omega) (by omega) (by simp;omega) ?_;intro v6 w6 hown' hgrow _)
     obtain⟨hO6,hb6⟩:=ZPcOwn.grown (w0:=w) (p:=(bat s k,true,k)) hsz HO.out (by rw[HPN.out];exact hown') hgrow
     have hb7:=hb.trans hb6;have hlen:(P++[(bat s k,true,k)]).length≤k+1:=by rw[List.length_append,HPN.out];simp;omega
     clear hOA hown' hgrow;go_wp2_with fail
     go_roundg (s.size - (k+1))
     case measure=>omega
     case rel=>exact⟨k+1,_,rfl,by omega,hlen,by go_num,hO6,hb7,HN⟩
   ·have hc2:(((bat s k).toNat:Int)==92)=false:=by rw[beq_eq_false_iff_ne];omega
    have HN:=Lib.hid (show (P++[(bat s k,false,k)])++(piecesP (k+1) (s.data.toList.drop (k+1))).1=T from by
     have h:=HR.out;rw[HD.out,zpieces_plain _ _ _ hc] at h;rw[← h];simp)
    clear hc HR HD;go_wp2_with (at_builtin;refine wpList_append_own _ rfl _ _ 178 rfl w.heap.size 181 i0 _ 2 2 Tryz.underlying178 hi0 hz0 hz1 hz2 rfl (by decide) _ _ _ rfl (hOA _) ⟨wr.heap.size,0,none⟩ 1 1 [.int .u8 ((bat s k).toNat:Int),.bool false] rfl rfl (cells_new (by simp)) (by intro u hu;simp at hu;rcases hu with rfl | rfl <;> rfl) (by unfold maxLen;omega) (by omega) (by simp;omega) ?_;intro v6 w6 hown' hgrow _)
    obtain⟨hO6,hb6⟩:=ZPcOwn.grown (w0:=w) (p:=(bat s k,false,k)) hsz HO.out (by rw[HPN.out];exact hown') hgrow
    have hb7:=hb.trans hb6;have hlen:(P++[(bat s k,false,k)]).length≤k+1:=by rw[List.length_append,HPN.out];simp;omega
    clear hOA hown' hgrow;go_wp2_with fail
    go_roundg (s.size - (k+1))
    case measure=>omega
    case rel=>exact⟨k+1,_,rfl,by omega,hlen,by go_num,hO6,hb7,HN⟩
  ·obtain rfl:k=s.size:=by omega
   have HPT:=Lib.hid (show P=T from by
    have h:=HR.out;rw[List.drop_of_length_le (by rw[size_eq];omega)] at h
    rw[← h];simp [piecesP])
   generalize P.length=pl at *;clear hO HR HPL;go_wp2_with fail
   go_ret;exact⟨_,rfl,by rw[← HPT.out];exact HO.out.sl,hb⟩
theorem r2closes_any (w:World)(v:Value)(l:List (UInt8×Bool×Nat))(i:Nat)(hl:l.length≤1000000)(hi:i<l.length)(h:ZPcSl w v l):Calls Tryz.prog 160 #[v,.int .i64 i] w fun e w'=>(∃ z:Int,e = .returned (.int .i64 z)∧decide (0≤z)=setEnds (l.drop i))∧w'=w:=by
 obtain⟨ao,cap,rfl,h1,h2,h3⟩:=h;obtain⟨g,rfl,h4⟩:=h3 (by omega)
 have H4:=Lib.hid h4;obtain⟨n,hn⟩:∃ n,l.length=n:=⟨_,rfl⟩;have HN:=Lib.hid hn;have hw2:IntKind.i64.wrap ((i:Int)+2)=((i+2:Nat):Int):=by rw[IntKind.wrap_i64];omega
 rw[hn] at hl hi h1 ⊢;clear h3 h4 hn;go_enter Tryz.func160,Tryz.ntmps160
 go_wp2_with fail
 go_loopg [5] (n - i) (fun m s5 wr=>∃ k:Nat,m=n+2 - k∧i+2≤k∧k≤n+2∧s5 = .int .i64 k∧wr=w∧Hid (setEnds (l.drop i)=(l.drop k).any fun p=>pieceIs p 93))
 case atStart=>exact⟨i+2,by omega,Nat.le_refl _,by omega,by go_num,rfl,Lib.hid (by unfold setEnds;rw[List.drop_drop])⟩
 case round =>
  obtain⟨k,rfl,hk1,hk2,rfl,rfl,HE⟩:=hrel;rename World=>w
  by_cases hlt:k<n
  ·obtain⟨p,hp⟩:∃ p,l[k]?=some p:=⟨_,List.getElem?_eq_getElem (by have:=HN.out;omega)⟩
   obtain⟨c0,c1⟩:=H4.out k p hp;obtain⟨c,d,z⟩:=p;dsimp only at c0 c1
   have HE2:=Lib.hid (show setEnds (l.drop i)=(pieceIs (c,d,z) 93 || (l.drop (k+1)).any fun p=>pieceIs p 93) from by
    have hkl:=(List.getElem?_eq_some_iff.1 hp).1;have e:l[k]=(c,d,z):=(List.getElem?_eq_some_iff.1 hp).2;rw[HE.out,List.drop_eq_getElem_cons hkl,e,List.any_cons])
   have hwk:IntKind.i64.wrap ((k:Int)+1)=(k:Int)+1:=by rw[IntKind.wrap_i64];omega
   clear HE hp
   by_cases hc:c.toNat=93
   ·have e1:((c.toNat:Int)==93)=true:=by rw[beq_iff_eq];omega
    cases d with
    | false =>
     have HE3:=Lib.hid (show setEnds (l.drop i)=true from by rw[HE2.out];simp [pieceIs,hc])
     clear hc HE2;go_wp2_with fail
     go_ret;exact⟨⟨_,rfl,by rw[HE3.out,decide_eq_true_eq];omega⟩,rfl⟩
    | true =>
     have HE3:=Lib.hid (show setEnds (l.drop i)=(l.drop (k+1)).any fun p=>pieceIs p 93 from by rw[HE2.out];simp [pieceIs])
     clear hc HE2;go_wp2_with fail
     go_roundg (n+2 - (k+1))
     case measure=>omega
     case rel=>exact⟨k+1,rfl,by omega,by omega,by go_num,rfl,HE3⟩
   ·have e1:((c.toNat:Int)==93)=false:=by rw[beq_eq_false_iff_ne];omega
    have HE3:=Lib.hid (show setEnds (l.drop i)=(l.drop (k+1)).any fun p=>pieceIs p 93 from by rw[HE2.out];simp [pieceIs,hc])
    clear hc HE2;go_wp2_with fail
    go_roundg (n+2 - (k+1))
    case measure=>omega
    case rel=>exact⟨k+1,rfl,by omega,by omega,by go_num,rfl,HE3⟩
  ·have HE3:=Lib.hid (show setEnds (l.drop i)=false from by rw[HE.out,List.drop_of_length_le (by have:=HN.out;omega)];rfl)
   go_wp2_with fail
   go_ret;exact⟨⟨_,rfl,by rw[HE3.out];decide⟩,rfl⟩
theorem r2Live_any (s:ByteArray)(w:World)(hs:s.size≤1000000):Calls Tryz.prog 142 #[.string s] w fun e w'=>e = .returned (.bool (liveP s.data.toList))∧Below w.heap.size w w':=by
 have HPL:=Lib.hid (zpieces_len _ s.data.toList 0 (Nat.le_refl _));have HS:=Lib.hid (size_eq s);obtain⟨r,hr⟩:∃ r,liveP s.data.toList=r:=⟨_,rfl⟩;rw[hr];have HR:=Lib.hid hr;clear hr;unfold liveP at HR;go_enter Tryz.func142,Tryz.ntmps142
 go_wp2_with fail
 refine (r2Read_any s w hs).mono ?_;rintro e w1 ⟨v,rfl,hv,hb1⟩;generalize (piecesP 0 s.data.toList).1=l at *;have HV:=Lib.hid hv;have hl6:l.length≤1000000:=by have h1:=HPL.out;have h2:=HS.out;omega
 obtain⟨ao,cap,rfl,h1,h2,h3⟩:=hv;have H3:=Lib.hid h3;have HC:=Lib.hid (fun (i:Nat) (hi:i<l.length)=>r2closes_any w1 _ l i hl6 hi HV.out)
 obtain⟨n,hn⟩:∃ n,l.length=n:=⟨_,rfl⟩;have HN:=Lib.hid hn;rw[hn] at HC H3 hl6 h1 ⊢;clear h3 hn HPL HS HV;go_wp2_with fail
 go_loopg [4] n (fun m s4 wr=>∃ k:Nat,m=n - k∧k≤n∧s4 = .int .i64 k∧wr=w1∧Hid (r=liveL (l.drop k)))
 case atStart=>exact⟨0,rfl,Nat.zero_le _,rfl,rfl,Lib.hid HR.out.symm⟩
 case round =>
  obtain⟨k,rfl,hk,rfl,rfl,HE⟩:=hrel;rename World=>w1
  by_cases hlt:k<n
  ·obtain⟨p,hp⟩:∃ p,l[k]?=some p:=⟨_,List.getElem?_eq_getElem (by have:=HN.out;omega)⟩
   obtain⟨g,rfl,h4⟩:=H3.out (by omega)
   obtain⟨c0,c1⟩:=h4 k p hp;obtain⟨c,d,z⟩:=p;dsimp only at c0 c1
   have HE2:=Lib.hid (show r=(pieceIs (c,d,z) 42 || pieceIs (c,d,z) 63 || (pieceIs (c,d,z) 91&&setEnds (l.drop k)) || liveL (l.drop (k+1))) from by
    have hkl:=(List.getElem?_eq_some_iff.1 hp).1;have e:l[k]=(c,d,z):=(List.getElem?_eq_some_iff.1 hp).2;have e2:l.drop k=(c,d,z) :: l.drop (k+1):=by rw[List.drop_eq_getElem_cons hkl,e]
    rw[HE.out,e2,liveL])
   have hwk:IntKind.i64.wrap ((k:Int)+1)=(k:Int)+1:=by rw[IntKind.wrap_i64];omega
   clear HE hp h4
   cases d with
   | true =>
    have HE3:=Lib.hid (show r=liveL (l.drop (k+1)) from by rw[HE2.out];simp [pieceIs])
    clear HE2;go_wp2_with fail
    go_roundg (n - (k+1))
    case measure=>omega
    case rel=>exact⟨k+1,rfl,by omega,by go_num,rfl,HE3⟩
   | false =>
    by_cases q1:c.toNat=42
    ·have e1:((c.toNat:Int)==42)=true:=by rw[beq_iff_eq];omega
     have HE3:=Lib.hid (show r=true from by rw[HE2.out];simp [pieceIs,q1])
     clear HE2 q1;go_wp2_with fail
     go_ret;exact⟨by rw[HE3.out];rfl,hb1⟩
    ·have e1:((c.toNat:Int)==42)=false:=by rw[beq_eq_false_iff_ne];omega
     by_cases q2:c.toNat=63
     ·have e2:((c.toNat:Int)==63)=true:=by rw[beq_iff_eq];omega
      have HE3:=Lib.hid (show r=true from by rw[HE2.out];simp [pieceIs,q2])
      clear HE2 q1 q2;go_wp2_with fail
      go_ret;exact⟨by rw[HE3.out];rfl,hb1⟩
     ·have e2:((c.toNat:Int)==63)=false:=by rw[beq_eq_false_iff_ne];omega
      by_cases q3:c.toNat=91
      ·have e3:((c.toNat:Int)==91)=true:=by rw[beq_iff_eq];omega
       have HE3:=Lib.hid (show r=(setEnds (l.drop k) || liveL (l.drop (k+1))) from by rw[HE2.out];simp [pieceIs,q3])
       clear HE2 q1 q2 q3;go_wp2_with fail
       refine (HC.out k hlt).mono ?_;rintro e w2 ⟨⟨z9,rfl,hz9⟩,rfl⟩
       cases hse:setEnds (l.drop k) with
       | true =>
        rw[hse] at hz9;have HE4:=Lib.hid (show r=true from by rw[HE3.out,hse];rfl)
        clear HE3 hse;go_wp2_with fail
        go_ret;exact⟨by rw[HE4.out];rfl,hb1⟩
       | false =>
        rw[hse] at hz9;have HE4:=Lib.hid (show r=liveL (l.drop (k+1)) from by rw[HE3.out,hse];rfl)
        clear HE3 hse;go_wp2_with fail
        go_roundg (n - (k+1))
        case measure=>omega
        case rel=>exact⟨k+1,rfl,by omega,by go_num,rfl,HE4⟩
      ·have e3:((c.toNat:Int)==91)=false:=by rw[beq_eq_false_iff_ne];omega
       have HE3:=Lib.hid (show r=liveL (l.drop (k+1)) from by rw[HE2.out];simp [pieceIs,q1,q2,q3])
       clear HE2 q1 q2 q3;go_wp2_with fail
       go_roundg (n - (k+1))
       case measure=>omega
       case rel=>exact⟨k+1,rfl,by omega,by go_num,rfl,HE3⟩
  ·have HE3:=Lib.hid (show r=false from by rw[HE.out,List.drop_of_length_le (by have:=HN.out;omega)];rfl)
   go_wp2_with fail
   go_ret;exact⟨by rw[HE3.out];rfl,hb1⟩
theorem z12closed_any (s:ByteArray)(w:World)(hs:s.size≤1000000):Calls Tryz.prog 143 #[.string s] w fun e w'=>e = .returned (.string (bs (closedP s.data.toList)))∧Below w.heap.size w w':=by
 have HA:=Lib.hid (show s++{ data:=#[92] }=bs (s.data.toList++[92]) from by rw[← bs_app9,bs_of];rfl)
 have q1:¬ 9223372036854775807<s.size+1:=by omega
 have q2:¬ 9223372036854775806<s.size:=by omega
 cases hc:isClosed s.data.toList with
 | true =>
  have HX:=Lib.hid (show bs (closedP s.data.toList)=s from by unfold closedP;rw[hc,if_pos rfl,bs_of])
  rw[HX.out];go_enter Tryz.func143,Tryz.ntmps143
  go_wp2_with fail
  refine (r2Closed_any s _ hs).mono ?_;rintro e w2 ⟨rfl,rfl⟩;rw[hc];go_wp2_with fail
  go_ret;exact⟨rfl,Below.refl _ _⟩
 | false =>
  have HX:=Lib.hid (show bs (closedP s.data.toList)=s++{ data:=#[92] } from by unfold closedP;rw[hc,if_neg (by simp),HA.out])
  rw[HX.out];go_enter Tryz.func143,Tryz.ntmps143
  go_wp2_with fail
  refine (r2Closed_any s _ hs).mono ?_;rintro e w2 ⟨rfl,rfl⟩;rw[hc];go_wp2_with fail
  go_ret;exact⟨rfl,Below.refl _ _⟩
end
end Go.Proofs.YtbplbehhlbkklaaGreatDoor
