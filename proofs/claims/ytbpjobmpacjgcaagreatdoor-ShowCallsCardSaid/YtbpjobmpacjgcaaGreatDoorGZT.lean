/- What the parsers make of sources whose tokens are known. -/
import Derived.Test.YtbpjobmpacjgcaaGreatDoorGQuoteB
import Derived.Test.YtbpjobmpacjgcaaGreatDoorGQTopG
import Derived.Test.YtbpjobmpacjgcaaGreatDoorGBParseG
import Derived.Test.YtbpjobmpacjgcaaGreatDoorGZS
namespace Go.Proofs.YtbpjobmpacjgcaaGreatDoor
open Go Go.RowKit
theorem CP (src:List UInt8)(l:aA)(h:nG src = .ok l)(hl:src.length≤8192)(hcls:∀ ts,dA src (src.length+1) 0 = .ok ts→jO ts)(w:World)(sent:Nat→Addr)(hS:kA w sent)(hmx:∃ m,w.cell? ⟨12,0,none⟩=some (.int .i64 m))(het:w.cell? ⟨8,0,none⟩=some (.iface 134 (.agg #[.pointer (some ⟨18,31,none⟩)]))) :
  Calls Tryz.prog 10 #[.string (bs src)] w fun e w'=>∃ g cap b,e = .returned (.tuple #[.slice (some ⟨g,0,none⟩) l.length cap,.nilIface])∧NSl w' b (.slice (some ⟨g,0,none⟩) l.length cap) l∧Below w.heap.size w w':=by
 have HP:=FL (bs src) w (by rw[aY];exact hl) sent hS hmx het (by rw[bK];exact hcls)
 rw[bK,h] at HP;refine HP.mono ?_;rintro e w' ⟨hb,v,b,rfl,hN⟩;obtain⟨g,cap,rfl,-⟩:=id hN;exact⟨g,cap,b,rfl,hN,hb⟩
theorem x6 (src:List UInt8)(l:aA)(h:nX src = .ok l)(hl:src.length≤8192)(hcls:∀ ts,dZ (src.length+1) true src 0 = .ok ts→qG ts)(w:World)(sent:Nat→Addr)(hS:kA w sent)(hmx:∃ m,w.cell? ⟨12,0,none⟩=some (.int .i64 m)) :
  Calls Tryz.prog 11 #[.string (bs src)] w fun e w'=>∃ g cap b,e = .returned (.tuple #[.slice (some ⟨g,0,none⟩) l.length cap,.nilIface])∧NSl w' b (.slice (some ⟨g,0,none⟩) l.length cap) l∧Below w.heap.size w w':=by
 have HP:=FK (bs src) w (by rw[aY];exact hl) sent hS hmx (by rw[bK,aY];exact hcls)
 rw[bK,h] at HP;refine HP.mono ?_;rintro e w' ⟨hb,v,b,rfl,hN⟩;obtain⟨g,cap,rfl,-⟩:=id hN;exact⟨g,cap,b,rfl,hN,hb⟩
theorem KD {ts:List aH}(hT:∀ t∈ts,t.kind≠18∧t.kind≠21∧t.kind≠22∧t.kind≠23∧t.kind≠10):qG ts:=fun i=>by
 by_cases hi:i<ts.length
 ·have hm:aK ts i∈ts:=by
   rw[← zU hi];exact List.getElem_mem hi
  exact hT _ hm
 ·unfold aK;rw[List.getD_eq_getElem?_getD,List.getElem?_eq_none (by omega)]
  simp
def Mw (ts:List aH):Bool:=ts.all fun t=>![18,21,22,23,10].contains t.kind
theorem My {S:List UInt8}(h:(match dZ (S.length+1) true S 0 with | .ok ts=>Mw ts | .error _=>true)=true):∀ ts,dZ (S.length+1) true S 0 = .ok ts→qG ts:=fun ts hts=>KD fun t ht=>by
 rw[hts] at h;have:=List.all_eq_true.1 h t ht
 simp at this
 exact this
theorem MU:∀ ts,dZ (([36,120]:List UInt8).length+1) true [36,120] 0 = .ok ts→qG ts:=My (by kernel_rfl)
theorem Lz:nX [36,120] = .ok (aC 21 0 [] [aC 2 0 [120] []]):=by kernel_rfl
set_option maxHeartbeats 8000000
set_option maxRecDepth 100000
def Al (l:aA):Prop:=∃ (kd:Int) (s:List UInt8),(kd=1∨kd=2)∧l=ndP kd s∧s.length≤2000
theorem CS:∀ (L:List aA),(∀ l∈L,Al l)→L.flatten.length=L.length∧∀ x∈L.flatten,x.text.length≤2000∧x.k=0∧x.size=1
 | [],_=>⟨rfl,fun x hx=>nomatch hx⟩
 | l :: L,h=>by
  obtain⟨h1,h2⟩:=CS L fun x hx=>h x (by simp [hx])
  obtain⟨kd,s,-,rfl,h3⟩:=h l (by simp)
  refine ⟨by rw[List.flatten_cons,List.length_append,h1];simp [ndP,aC];omega,fun x hx=>?_⟩
  rw[List.flatten_cons,List.mem_append] at hx
  rcases hx with hx | hx
  ·simp only[ndP,aC,List.flatten_nil,List.mem_singleton] at hx;subst hx;exact⟨h3,rfl,rfl⟩
  ·exact h2 x hx
theorem CT {L:List aA}(hL:∀ l∈L,Al l)(hn:L.length≤1000):lJ (aC 21 0 [] L):=by
 obtain⟨h1,h2⟩:=CS L hL;refine yH (by rw[bN];omega) fun x hx=>?_
 rw[aC,List.mem_cons] at hx
 rcases hx with rfl | hx
 ·refine ⟨Nat.zero_le _,?_⟩;show 0≤(L.length:Int)∧(L.length:Int)≤400000∧0≤(L.flatten.length:Int)+1∧(L.flatten.length:Int)+1≤400001
  omega
 ·obtain⟨q1,q2,q3⟩:=h2 x hx;omega
theorem Bd (p:Nat)(ep:∀ args w,(callFunc p args).run Tryz.prog w = .ok (.enter p args) w)(s:ByteArray)(hs:s.size≤8192)(sent:Nat→Addr)(w:World)(hE:Env w sent)
  (HP:Calls Tryz.prog p #[.string s] w fun e w'=>∃ v,e = .returned (.tuple #[v,.nilIface])∧Below w.heap.size w w') :
  Calls Tryz.prog 16 #[.string s,.func (.func p) #[] #[]] w fun e w'=>e = .returned (.tuple #[.string s,.nilIface])∧Below w.heap.size w w':=by
 have HH:=Ng HP;have HE:=Ng hE;clear HP hE;go_enter Tryz.func16,Tryz.ntmps16
 go_wp2_with fail
 refine HH.out.mono ?_;rintro e w1 ⟨v,rfl,hb1⟩;have e1:=HE.out.below hb1 102 1 (by simp [cH])
 have e2:=HE.out.below hb1 101 3 (by simp [cH])
 go_wp2_with fail
 refine (uS _ _).mono ?_;rintro e w2 ⟨rfl,rfl⟩;go_wp2_with fail
 refine (uS _ _).mono ?_;rintro e w2 ⟨rfl,rfl⟩;go_wp2_with fail
 go_ret2;exact⟨rfl,hb1⟩
end Go.Proofs.YtbpjobmpacjgcaaGreatDoor
