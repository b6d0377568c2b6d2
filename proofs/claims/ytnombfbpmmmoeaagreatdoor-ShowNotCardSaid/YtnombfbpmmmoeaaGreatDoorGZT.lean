/- What the parsers make of sources whose tokens are known. -/
import Derived.Test.YtnombfbpmmmoeaaGreatDoorGQuoteB
import Derived.Test.YtnombfbpmmmoeaaGreatDoorGQTopG
import Derived.Test.YtnombfbpmmmoeaaGreatDoorGBParseG
import Derived.Test.YtnombfbpmmmoeaaGreatDoorGZS
import Derived.Test.YtnombfbpmmmoeaaGreatDoorGZF
namespace Go.Proofs.YtnombfbpmmmoeaaGreatDoor
open Go Go.RowKit
theorem wQ (src:List UInt8)(l:aA)(h:mV src = .ok l)(hl:src.length≤8192)(hcls:∀ ts,cN src (src.length+1) 0 = .ok ts→oZ ts)(w:World)(sent:Nat→Addr)(hS:jN w sent)(hmx:∃ m,w.cell? ⟨11,0,none⟩=some (.int .i64 m))(het:w.cell? ⟨8,0,none⟩=some (.iface 148 (.agg #[.pointer (some ⟨18,27,none⟩)]))) :
  Calls Tryz.prog 9 #[.string (bs src)] w fun e w'=>∃ g cap b,e = .returned (.tuple #[.slice (some ⟨g,0,none⟩) l.length cap,.nilIface])∧NSl w' b (.slice (some ⟨g,0,none⟩) l.length cap) l∧Below w.heap.size w w':=by
 have HP:=Es (bs src) w (by rw[aW];exact hl) sent hS hmx het (by rw[bI];exact hcls)
 rw[bI,h] at HP;refine HP.mono ?_;rintro e w' ⟨hb,v,b,rfl,hN⟩;obtain⟨g,cap,rfl,-⟩:=id hN;exact⟨g,cap,b,rfl,hN,hb⟩
theorem wP (src:List UInt8)(l:aA)(h:nM src = .ok l)(hl:src.length≤8192)(hcls:∀ ts,dD (src.length+1) true src 0 = .ok ts→o0 ts)(w:World)(sent:Nat→Addr)(hS:jN w sent)(hmx:∃ m,w.cell? ⟨11,0,none⟩=some (.int .i64 m)) :
  Calls Tryz.prog 11 #[.string (bs src)] w fun e w'=>∃ g cap b,e = .returned (.tuple #[.slice (some ⟨g,0,none⟩) l.length cap,.nilIface])∧NSl w' b (.slice (some ⟨g,0,none⟩) l.length cap) l∧Below w.heap.size w w':=by
 have HP:=EY (bs src) w (by rw[aW];exact hl) sent hS hmx (by rw[bI,aW];exact hcls)
 rw[bI,h] at HP;refine HP.mono ?_;rintro e w' ⟨hb,v,b,rfl,hN⟩;obtain⟨g,cap,rfl,-⟩:=id hN;exact⟨g,cap,b,rfl,hN,hb⟩
theorem Ip {ts:List aH}(hT:∀ t∈ts,t.kind≠18∧t.kind≠21∧t.kind≠22∧t.kind≠23∧t.kind≠10):o0 ts:=fun i=>by
 by_cases hi:i<ts.length
 ·have hm:aK ts i∈ts:=by
   rw[← x8 hi];exact List.getElem_mem hi
  exact hT _ hm
 ·unfold aK;rw[List.getD_eq_getElem?_getD,List.getElem?_eq_none (by omega)]
  simp
def KJ (ts:List aH):Bool:=ts.all fun t=>![18,21,22,23,10].contains t.kind
theorem KH {S:List UInt8}(h:(match dD (S.length+1) true S 0 with | .ok ts=>KJ ts | .error _=>true)=true):∀ ts,dD (S.length+1) true S 0 = .ok ts→o0 ts:=fun ts hts=>Ip fun t ht=>by
 rw[hts] at h;have:=List.all_eq_true.1 h t ht
 simp at this
 exact this
theorem Le:∀ ts,dD (([36,120]:List UInt8).length+1) true [36,120] 0 = .ok ts→o0 ts:=KH (by kernel_rfl)
theorem JS:nM [36,120] = .ok (aE 21 0 [] [aE 2 0 [120] []]):=by kernel_rfl
set_option maxHeartbeats 8000000
set_option maxRecDepth 100000
def pB (l:aA):Prop:=∃ (kd:Int) (s:List UInt8),(kd=1∨kd=2)∧l=ndP kd s∧s.length≤2000
theorem Bg (l:List (List UInt8))(hl:∀ s∈l,s.length≤2000):∀ p∈l.map a8,pB p:=fun p hp=>by
 obtain⟨s,hs,rfl⟩:=List.mem_map.1 hp;exact⟨1,s,.inl rfl,rfl,hl s hs⟩
theorem pI:∀ (L:List aA),(∀ l∈L,pB l)→L.flatten.length=L.length∧∀ x∈L.flatten,x.text.length≤2000∧x.k=0∧x.size=1
 | [],_=>⟨rfl,fun x hx=>nomatch hx⟩
 | l :: L,h=>by
  obtain⟨h1,h2⟩:=pI L fun x hx=>h x (by simp [hx])
  obtain⟨kd,s,-,rfl,h3⟩:=h l (by simp)
  refine ⟨by rw[List.flatten_cons,List.length_append,h1];simp [ndP,aE];omega,fun x hx=>?_⟩
  rw[List.flatten_cons,List.mem_append] at hx
  rcases hx with hx | hx
  ·simp only[ndP,aE,List.flatten_nil,List.mem_singleton] at hx;subst hx;exact⟨h3,rfl,rfl⟩
  ·exact h2 x hx
theorem qZ {L:List aA}(hL:∀ l∈L,pB l)(hn:L.length≤1000):o8 (aE 21 0 [] L):=by
 obtain⟨h1,h2⟩:=pI L hL;refine JK (by rw[cF];omega) fun x hx=>?_
 rw[aE,List.mem_cons] at hx
 rcases hx with rfl | hx
 ·refine ⟨Nat.zero_le _,?_⟩;show 0≤(L.length:Int)∧(L.length:Int)≤400000∧0≤(L.flatten.length:Int)+1∧(L.flatten.length:Int)+1≤400001
  omega
 ·obtain⟨q1,q2,q3⟩:=h2 x hx;omega
theorem AQ (L:List aA)(hL:∀ l∈L,pB l)(_h0:L≠[])(hn:L.length≤1000)(hck:dA (aE 21 0 [] L)=none)(sent:Nat→Addr)(b:Nat)(v:Value)(w:World)(hb:b<w.heap.size)(hE:Env w sent)(hN:NSl w b v (aE 21 0 [] L)) :
  Calls Tryz.prog 17 #[v] w fun e w'=>e = .returned (.bool (L.all p8))∧Below w.heap.size w w':=by
 have HC:=LB (nX _ (qZ hL hn) sent b w v hN (mS _ _ _ _) hE (by rw[hck];simp))
 rw[hck] at HC
 have HS:=LB fun (w1:World) (h:Below w.heap.size w w1)=>A8 61 62 62 63 64 65 false (fun _ _=>by kernel_rfl) p8 L b v w1 (Nat.lt_of_lt_of_le hb h.size) (hN.below h).at (fun l hl=>by obtain⟨kd,s,-,rfl,-⟩:=hL l hl;exact sJ _ _ _ _) hn (by rw[(pI L hL).1];omega) (fun l hl w2 u h2 hu=>by
  obtain⟨kd,s,hk,rfl,-⟩:=hL l hl;exact Fl kd hk s b u w2 (Nat.lt_of_lt_of_le hb (aD h h2).size) hu)
 obtain⟨g,cap,rfl,-⟩:=id hN;generalize (aE 21 0 [] L).length=n at *;generalize L.all p8=r at *;clear hN hE hck;go_enter Tryz.func17,Tryz.ntmps17
 go_wp2_with fail
 refine HC.out.mono ?_;rintro e w1 ⟨hb1,he⟩;obtain rfl:e = .returned .nilIface:=he;go_wp2_with fail
 refine (I5 w1).mono ?_;rintro e w2 ⟨rfl,hb2⟩;go_wp2_with fail
 refine (HS.out w2 (aD hb1 hb2)).mono ?_;rintro e w3 ⟨rfl,hb3⟩;go_wp2_with fail
 go_ret;exact⟨rfl,aD (aD hb1 hb2) hb3⟩
theorem Hw (L:List aA)(hL:∀ l∈L,pB l)(_h0:L≠[])(hn:L.length≤1000)(hck:dA (aE 21 0 [] L)=none)(sent:Nat→Addr)(b:Nat)(v:Value)(w:World)(hb:b<w.heap.size)(hE:Env w sent)(hN:NSl w b v (aE 21 0 [] L)) :
  Calls Tryz.prog 18 #[v] w fun e w'=>e = .returned (.bool true)∧Below w.heap.size w w':=by
 have HC:=LB (nX _ (qZ hL hn) sent b w v hN (mS _ _ _ _) hE (by rw[hck];simp))
 rw[hck] at HC
 have HS:=LB fun (w1:World) (h:Below w.heap.size w w1)=>A8 70 70 69 72 70 73 true (fun _ _=>by kernel_rfl) (fun _=>true) L b v w1 (Nat.lt_of_lt_of_le hb h.size) (hN.below h).at (fun l hl=>by obtain⟨kd,s,-,rfl,-⟩:=hL l hl;exact sJ _ _ _ _) hn (by rw[(pI L hL).1];omega) (fun l hl w2 u h2 hu=>by
  obtain⟨kd,s,hk,rfl,-⟩:=hL l hl;exact Gi kd hk s b u w2 (Nat.lt_of_lt_of_le hb (aD h h2).size) hu)
 rw[show (L.all fun _=>true)=true by simp] at HS
 obtain⟨g,cap,rfl,-⟩:=id hN;generalize (aE 21 0 [] L).length=n at *;clear hN hE hck;go_enter Tryz.func18,Tryz.ntmps18
 go_wp2_with fail
 refine HC.out.mono ?_;rintro e w1 ⟨hb1,he⟩;obtain rfl:e = .returned .nilIface:=he;go_wp2_with fail
 refine (Hz w1).mono ?_;rintro e w2 ⟨rfl,hb2⟩;go_wp2_with fail
 refine (HS.out w2 (aD hb1 hb2)).mono ?_;rintro e w3 ⟨rfl,hb3⟩;go_wp2_with fail
 go_ret;exact⟨rfl,aD (aD hb1 hb2) hb3⟩
theorem Ag (p:Nat)(ep:∀ args w,(callFunc p args).run Tryz.prog w = .ok (.enter p args) w)(s:ByteArray)(hs:s.size≤8192)(sent:Nat→Addr)(w:World)(hE:Env w sent)
  (HP:Calls Tryz.prog p #[.string s] w fun e w'=>∃ v,e = .returned (.tuple #[v,.nilIface])∧Below w.heap.size w w') :
  Calls Tryz.prog 29 #[.string s,.func (.func p) #[] #[]] w fun e w'=>e = .returned (.tuple #[.string s,.nilIface])∧Below w.heap.size w w':=by
 have HH:=LB HP;have HE:=LB hE;clear HP hE;go_enter Tryz.func29,Tryz.ntmps29
 go_wp2_with fail
 refine HH.out.mono ?_;rintro e w1 ⟨v,rfl,hb1⟩;have e1:=HE.out.below hb1 102 1 (by simp [cC])
 have e2:=HE.out.below hb1 101 5 (by simp [cC])
 go_wp2_with fail
 refine (sZ _ _).mono ?_;rintro e w2 ⟨rfl,rfl⟩;go_wp2_with fail
 refine (sZ _ _).mono ?_;rintro e w2 ⟨rfl,rfl⟩;go_wp2_with fail
 go_ret2;exact⟨rfl,hb1⟩
theorem Ks (l:List (List UInt8))(h0:l≠[])(hl:∀ s∈l,s.length≤2000)(hn:l.length≤1000)(hz:(dN eP l).length≤8192)(sent:Nat→Addr)(b:Nat)(v:Value)(w:World)(hb:b<w.heap.size)(hS:jN w sent)(hmx:∃ m,w.cell? ⟨11,0,none⟩=some (.int .i64 m))(het:w.cell? ⟨8,0,none⟩=some (.iface 148 (.agg #[.pointer (some ⟨18,27,none⟩)])))(hN:NSl w b v (fQ l)) :
  Calls Tryz.prog 15 #[v] w fun e w'=>e = .returned (.tuple #[.string (bs (dN eP l)),.nilIface])∧Below w.heap.size w w':=by
 have hLf:=Bg l hl;have hL0:l.map a8≠[]:=by simpa using h0
 have hLn:(l.map a8).length≤1000:=by rw[List.length_map];exact hn
 have hck:=sG h0 hl hn;have hfl:=(pI _ hLf).1;have hsz:∀ p∈l.map a8,oV p:=fun p hp=>by obtain⟨kd,s,-,rfl,-⟩:=hLf p hp;exact sJ _ _ _ _
 have HC:=LB (nX _ (qZ hLf hLn) sent b w v hN (mS _ _ _ _) hS.env (by unfold fQ at hck;rw[hck];simp))
 unfold fQ at hck;rw[hck] at HC;have HA:=LB fun (w1:World) (h:Below w.heap.size w w1)=>AQ _ hLf hL0 hLn hck sent b v w1 (Nat.lt_of_lt_of_le hb h.size) (hS.below h).env (hN.below h)
 rw[I9] at HA
 have HL:=LB fun (w1:World) (h:Below w.heap.size w w1)=>Az 53 54 55 #[.agg #[.func (.func 53) #[] #[],.func (.func 54) #[] #[],.nilFunc]] _ _ (show (21:Int)≠20 by decide) (show (21:Int)≠23 by decide) (show (21:Int)≠25 by decide) (show (21:Int)≠26 by decide) (show (21:Int)≠27 by decide) (show (21:Int)≠32 by decide) b v (bs (Lib.join ((l.map a8).map shA) [32])) w1 (hN.below h).at
  (fun w2 h2=>(tF 21 0 [] _ b v w2 (Nat.lt_of_lt_of_le hb (aD h h2).size) hsz (by rw[hfl];omega) (hN.below (aD h h2)).at).mono fun e w' ⟨v',he,_,hb'⟩=>⟨v',he,hb'⟩)
  (fun w2 h2=>y7 53 54 55 _ (fun _ _=>by kernel_rfl) shA _ hL0 b v w2 (Nat.lt_of_lt_of_le hb (aD h h2).size) (hN.below (aD h h2)).at hsz hLn (by rw[hfl];omega)
   (fun p hp=>by
    obtain⟨s,hs,rfl⟩:=List.mem_map.1 hp;have:=L9 s
    have:=hl s hs
    show (39 :: (eJ s++[39])).length≤100000
    simp
    omega)
   (fun p hp w3 u h3 hu=>by
    obtain⟨s,hs,rfl⟩:=List.mem_map.1 hp;have:=hl s hs
    exact Er s b u w3 (hmx.elim fun m hm=>⟨m,aG (aD (aD h h2) h3) hm⟩) (by omega) hu))
 rw[K1,vW] at HL
 have HP:=LB fun (w1:World) (h:Below w.heap.size w w1)=>Ag 9 (fun _ _=>by kernel_rfl) (bs (dN eP l)) (by rw[aW];exact hz) sent w1 (hS.below h).env
  ((wQ _ _ (vB l h0 hl hn hz) hz (x6 (by have:=Lx.words Lx.nil tK l;rwa [List.append_nil] at this) (wR l)) w1 sent (hS.below h) (hmx.elim fun m hm=>⟨m,aG h hm⟩) (aG h het)).mono fun e w' ⟨g,c,b',he,_,hb'⟩=>⟨_,he,hb'⟩)
 obtain⟨g,cap,rfl,-⟩:=id hN;generalize bs (dN eP l)=z at *;generalize (fQ l).length=n at *;clear hN hS hmx het hck hz hl h0;go_enter Tryz.func15,Tryz.ntmps15
 go_wp2_with fail
 refine HC.out.mono ?_;rintro e w1 ⟨hb1,he⟩;obtain rfl:e = .returned .nilIface:=he;go_wp2_with fail
 refine (HA.out w1 hb1).mono ?_;rintro e w2 ⟨rfl,hb2⟩;have hb3:=aD hb1 hb2;go_wp2_with fail
 refine (Jn w2).mono ?_;rintro e w3 ⟨rfl,hb4⟩;have hb5:=aD hb3 hb4;go_wp2_with fail
 refine (HL.out w3 hb5).mono ?_;rintro e w4 ⟨rfl,hb6⟩;have hb7:=aD hb5 hb6;go_wp2_with fail
 refine (HP.out w4 hb7).mono ?_;rintro e w5 ⟨rfl,hb8⟩;go_wp2_with fail
 go_ret2;exact⟨rfl,aD hb7 hb8⟩
theorem Lr (s:List UInt8)(hs:s.length≤2000)(hck:dA (aE 21 0 [] [ndP 2 s])=none)(sent:Nat→Addr)(b:Nat)(v:Value)(w:World)(hb:b<w.heap.size)(hS:jN w sent)(hN:NSl w b v (aE 21 0 [] [ndP 2 s])) :
  Calls Tryz.prog 15 #[v] w fun e w'=>e = .returned (.tuple #[.string ⟨#[]⟩,.iface 287 (.pointer (some (sent 115)))])∧Below w.heap.size w w':=by
 have hLf:∀ p∈[ndP 2 s],pB p:=fun p hp=>by rw[List.mem_singleton] at hp;subst hp;exact⟨2,s,.inr rfl,rfl,hs⟩
 have HC:=LB (nX _ (qZ hLf (by simp)) sent b w v hN (mS _ _ _ _) hS.env (by rw[hck];simp))
 rw[hck] at HC;have HA:=LB fun (w1:World) (h:Below w.heap.size w w1)=>AQ _ hLf (by simp) (by simp) hck sent b v w1 (Nat.lt_of_lt_of_le hb h.size) (hS.below h).env (hN.below h)
 rw[show ([ndP 2 s].all p8)=false from rfl] at HA
 obtain⟨g,cap,rfl,-⟩:=id hN;have HE:=LB hS.env;generalize (aE 21 0 [] [ndP 2 s]).length=n at *;clear hN hS hck;go_enter Tryz.func15,Tryz.ntmps15
 go_wp2_with fail
 refine HC.out.mono ?_;rintro e w1 ⟨hb1,he⟩;obtain rfl:e = .returned .nilIface:=he;go_wp2_with fail
 refine (HA.out w1 hb1).mono ?_;rintro e w2 ⟨rfl,hb2⟩;have hb3:=aD hb1 hb2;have he:=HE.out.below hb3 115 0 (by simp [cC])
 go_wp2_with fail
 go_region
 go_wp2_with fail
 go_ret2;exact⟨rfl,kP hb3⟩
theorem CF (L:List aA)(hLf:∀ p∈L,pB p)(hL0:L≠[])(hLn:L.length≤1000)(hck:dA (aE 21 0 [] L)=none)(hz:(Lib.join (L.map shB) [32]).length≤8192)(sent:Nat→Addr)(b:Nat)(v:Value)(w:World)(hb:b<w.heap.size)(hS:jN w sent)(hmx:∃ m,w.cell? ⟨11,0,none⟩=some (.int .i64 m))(hN:NSl w b v (aE 21 0 [] L))
  (hp:∀ w1:World,Below w.heap.size w w1→Calls Tryz.prog 11 #[.string (bs (Lib.join (L.map shB) [32]))] w1 fun e w'=>∃ v,e = .returned (.tuple #[v,.nilIface])∧Below w1.heap.size w1 w') :
  Calls Tryz.prog 16 #[v] w fun e w'=>e = .returned (.tuple #[.string (bs (Lib.join (L.map shB) [32])),.nilIface])∧Below w.heap.size w w':=by
 have hfl:=(pI _ hLf).1;have hsz:∀ p∈L,oV p:=fun p hp=>by obtain⟨kd,s,-,rfl,-⟩:=hLf p hp;exact sJ _ _ _ _
 have HC:=LB (nX _ (qZ hLf hLn) sent b w v hN (mS _ _ _ _) hS.env (by rw[hck];simp))
 rw[hck] at HC;have HA:=LB fun (w1:World) (h:Below w.heap.size w w1)=>Hw _ hLf hL0 hLn hck sent b v w1 (Nat.lt_of_lt_of_le hb h.size) (hS.below h).env (hN.below h)
 have HL:=LB fun (w1:World) (h:Below w.heap.size w w1)=>Az 59 59 60 #[.agg #[.func (.func 59) #[] #[],.func (.func 59) #[] #[],.nilFunc]] _ _ (show (21:Int)≠20 by decide) (show (21:Int)≠23 by decide) (show (21:Int)≠25 by decide) (show (21:Int)≠26 by decide) (show (21:Int)≠27 by decide) (show (21:Int)≠32 by decide) b v (bs (Lib.join (L.map shB) [32])) w1 (hN.below h).at
  (fun w2 h2=>(tF 21 0 [] _ b v w2 (Nat.lt_of_lt_of_le hb (aD h h2).size) hsz (by rw[hfl];omega) (hN.below (aD h h2)).at).mono fun e w' ⟨v',he,_,hb'⟩=>⟨v',he,hb'⟩)
  (fun w2 h2=>y7 59 59 60 _ (fun _ _=>by kernel_rfl) shB _ hL0 b v w2 (Nat.lt_of_lt_of_le hb (aD h h2).size) (hN.below (aD h h2)).at hsz hLn (by rw[hfl];omega)
   (fun p hp=>by
    obtain⟨kd,s,hk,rfl,hs⟩:=hLf p hp;have h1:=wD s;show (if kd=1 then dS s else 36 :: s).length≤100000
    split
    ·omega
    ·simp;omega)
   (fun p hp w3 u h3 hu=>by
    obtain⟨kd,s,hk,rfl,hs⟩:=hLf p hp;exact D3 kd hk s b u w3 (hmx.elim fun m hm=>⟨m,aG (aD (aD h h2) h3) hm⟩) (by omega) hu))
 have HP:=LB fun (w1:World) (h:Below w.heap.size w w1)=>Ag 11 (fun _ _=>by kernel_rfl) (bs (Lib.join (L.map shB) [32])) (by rw[aW];exact hz) sent w1 (hS.below h).env (hp w1 h)
 obtain⟨g,cap,rfl,-⟩:=id hN;generalize bs (Lib.join (L.map shB) [32])=z at *;generalize (aE 21 0 [] L).length=n at *;clear hN hS hmx hck hz hp;go_enter Tryz.func16,Tryz.ntmps16
 go_wp2_with fail
 refine HC.out.mono ?_;rintro e w1 ⟨hb1,he⟩;obtain rfl:e = .returned .nilIface:=he;go_wp2_with fail
 refine (HA.out w1 hb1).mono ?_;rintro e w2 ⟨rfl,hb2⟩;have hb3:=aD hb1 hb2;go_wp2_with fail
 refine (Kq w2).mono ?_;rintro e w3 ⟨rfl,hb4⟩;have hb5:=aD hb3 hb4;go_wp2_with fail
 refine (HL.out w3 hb5).mono ?_;rintro e w4 ⟨rfl,hb6⟩;have hb7:=aD hb5 hb6;go_wp2_with fail
 refine (HP.out w4 hb7).mono ?_;rintro e w5 ⟨rfl,hb8⟩;go_wp2_with fail
 go_ret2;exact⟨rfl,aD hb7 hb8⟩
set_option maxHeartbeats 16000000
theorem vJ (L:List aA)(b:Nat)(v:Value)(w:World)(hb:b<w.heap.size)(hK:KSl w b v L)(hsz:L.flatten.length≤1000000)(hn:L.length≤100000) :
  Calls Tryz.prog 7 #[v] w fun e w'=>∃ v',e = .returned v'∧NSl w' b v' (aE 21 0 [] L)∧Below w.heap.size w w':=by
 have HN:=LB (bZ 21 0 [] L b v w hb hK (by omega) (by omega))
 obtain⟨ao,cap,rfl,-⟩:=hK;generalize L.length=n at *;go_enter Tryz.func7,Tryz.ntmps7
 go_wp2_with fail
 refine HN.out.mono ?_;rintro e w1 ⟨v1,rfl,h1,hb1⟩;go_wp2_with fail
 go_ret;exact⟨_,rfl,h1,hb1⟩
def exL:List (List UInt8):=[[101,99,104,111],[97,32,98]]
def qH:aA:=aE 21 0 [] [ndP 2 [120]]
theorem Fv (sent:Nat→Addr)(w:World)(hS:jN w sent)(hmx:∃ m,w.cell? ⟨11,0,none⟩=some (.int .i64 m))(het:w.cell? ⟨8,0,none⟩=some (.iface 148 (.agg #[.pointer (some ⟨18,27,none⟩)]))) :
  Calls Tryz.prog 6 #[] w fun e w'=>e = .returned (.bool true)∧Below w.heap.size w w':=by
 have hg:11<w.heap.size:=hmx.elim fun m hm=>block_lt_of_cell hm
 have hel:∀ s∈exL,s.length≤2000:=by decide
 have hzA:(dN eP exL).length≤8192:=by decide
 have hzB:(dN dS exL).length≤8192:=by decide
 have hB:=Ac exL (by decide) hel (by decide) hzB
 have EB:Lib.join ((exL.map a8).map shB) [32]=dN dS exL:=by rw[KD,vW]
 have HSe:=LB hS;have HMX:=LB hmx;have HET:=LB het;have hMX:∀ w1,Below w.heap.size w w1→∃ m,w1.cell? ⟨11,0,none⟩=some (.int .i64 m):=fun w1 h=>HMX.out.elim fun m hm=>⟨m,aG h hm⟩
 have HPB:=LB fun (w1:World) (h:Below w.heap.size w w1)=>wP _ _ hB.1 hzB (CO hB.2 (Bh exL)) w1 sent (HSe.out.below h) (hMX w1 h)
 have HPA:=LB fun (w1:World) (h:Below w.heap.size w w1)=>wQ _ _ (vB exL (by decide) hel (by decide) hzA) hzA (x6 (by have:=Lx.words Lx.nil tK exL;rwa [List.append_nil] at this) (wR exL)) w1 sent (HSe.out.below h) (hMX w1 h) (aG h HET.out)
 have HPX:=LB fun (w1:World) (h:Below w.heap.size w w1)=>wP [36,120] qH JS (by decide) Le w1 sent (HSe.out.below h) (hMX w1 h)
 have HA:=LB fun (w1:World) (v:Value) (h:Below w.heap.size w w1) (hv:NSl w1 11 v (fQ exL))=>Ks exL (by decide) hel (by decide) hzA sent 11 v w1 (Nat.lt_of_lt_of_le hg h.size) (HSe.out.below h) (hMX w1 h) (aG h HET.out) hv
 have HB:=LB fun (w1:World) (v:Value) (h:Below w.heap.size w w1) (hv:NSl w1 11 v (fQ exL))=>CF (exL.map a8) (Bg exL hel) (by decide) (by decide) (sG (by decide) hel (by decide)) (by rw[EB];exact hzB) sent 11 v w1 (Nat.lt_of_lt_of_le hg h.size) (HSe.out.below h) (hMX w1 h) hv
  (fun w2 h2=>by rw[EB];exact (HPB.out w2 (aD h h2)).mono fun e w' ⟨g,c,b',he,_,hb'⟩=>⟨_,he,hb'⟩)
 have HAN:=LB fun (w1:World) (v:Value) (h:Below w.heap.size w w1) (hv:NSl w1 11 v qH)=>Lr [120] (by decide) Ca sent 11 v w1 (Nat.lt_of_lt_of_le hg h.size) (HSe.out.below h) hv
 have HBX:=LB fun (w1:World) (v:Value) (h:Below w.heap.size w w1) (hv:NSl w1 11 v qH)=>CF [ndP 2 [120]] (fun p hp=>by rw[List.mem_singleton] at hp;subst hp;exact⟨2,[120],.inr rfl,rfl,by decide⟩) (by simp) (by simp) Ca (by decide) sent 11 v w1 (Nat.lt_of_lt_of_le hg h.size) (HSe.out.below h) (hMX w1 h) hv
  (fun w2 h2=>(HPX.out w2 (aD h h2)).mono fun e w' ⟨g,c,b',he,_,hb'⟩=>⟨_,he,hb'⟩)
 rw[EB] at HB;rw[show Lib.join ([ndP 2 [120]].map shB) [32]=[36,120] from rfl] at HBX
 have HSay:=LB fun (w1:World) (h:Below w.heap.size w w1)=>(HSe.out.below h).env 115 0 (by simp [cC])
 have hq1:a8 [101,99,104,111]=a8 [101,99,104,111]:=rfl;clear EB hB hzA hzB hel hS hmx het hMX;go_enter Tryz.func6,Tryz.ntmps6
 go_wp2_with fail
 refine (oD [101,99,104,111] 11 w hg).mono ?_;rintro e w1 ⟨v1,rfl,h1,hb1⟩;go_wp2_with fail
 refine (oD [97,32,98] 11 w1 (Nat.lt_of_lt_of_le hg hb1.size)).mono ?_;rintro e w2 ⟨v2,rfl,h2,hb2⟩;have hb3:=aD hb1 hb2;have hg2:=Nat.lt_of_lt_of_le hg hb3.size;have hb4:=hb3.alloc hb3.size (.cells #[v1,v2] 23);obtain⟨g1,c1,rfl,-⟩:=id h1;obtain⟨g2,c2,rfl,-⟩:=id h2;have HK:=LB (KSl.new2 hg2 (.inl (h1.below hb2)) (.inl h2));clear h1 h2;go_wp2_with fail
 refine (vJ [a8 [101,99,104,111],a8 [97,32,98]] 11 _ _ (Nat.lt_of_lt_of_le hg hb4.size) HK.out (by decide) (by decide)).mono ?_
 rintro e w3 ⟨v3,rfl,h3,hb5⟩;have hP:NSl w3 11 v3 (fQ exL):=h3;have hb6:=aD hb4 hb5;clear h3 HK;have HP3:=LB hP;obtain⟨g3,c3,rfl,-⟩:=id hP;clear hP;generalize hn3:(fQ exL).length=n3 at *;go_wp2_with fail
 refine (HA.out w3 _ hb6 (by rw[← hn3] at *;exact HP3.out)).mono ?_
 rintro e w4 ⟨rfl,hb7⟩;have hb8:=aD hb6 hb7;go_wp2_with fail
 refine (HB.out w4 _ hb8 (by rw[← hn3] at *;exact HP3.out.below hb7)).mono ?_
 rintro e w5 ⟨rfl,hb9⟩;have hb10:=aD hb8 hb9;go_wp2_with fail
 refine (HPA.out w5 hb10).mono ?_;rintro e w6 ⟨g6,c6,b6,rfl,hq6,hb11⟩;have hb12:=aD hb10 hb11;go_wp2_with fail
 refine (HPB.out w6 hb12).mono ?_;rintro e w7 ⟨g7,c7,b7,rfl,hq7,hb13⟩;have hb14:=aD hb12 hb13;go_wp2_with fail
 refine (bZ 2 0 [120] [] 11 _ w7 (Nat.lt_of_lt_of_le hg hb14.size) (KSl.nil _ _) (by simp) (by simp)).mono ?_
 rintro e w8 ⟨v8,rfl,h8,hb15⟩;have hb16:=aD hb14 hb15;have hg8:=Nat.lt_of_lt_of_le hg hb16.size;have hb17:=hb16.alloc hb16.size (.cells #[v8] 23);have HK8:=LB (KSl.new1 hg8 (.inl h8));obtain⟨g8,c8,rfl,-⟩:=id h8;clear h8;go_wp2_with fail
 refine (vJ [ndP 2 [120]] 11 _ _ (Nat.lt_of_lt_of_le hg hb17.size) HK8.out (by decide) (by decide)).mono ?_
 rintro e w9 ⟨v9,rfl,h9,hb18⟩;have hb19:=aD hb17 hb18;have hV:NSl w9 11 v9 qH:=h9;have HV:=LB hV;obtain⟨g9,c9,rfl,-⟩:=id hV;clear h9 hV HK8;generalize hn9:qH.length=n9 at *;go_wp2_with fail
 refine (HAN.out w9 _ hb19 (by rw[← hn9] at *;exact HV.out)).mono ?_
 rintro e w10 ⟨rfl,hb20⟩;have hb21:=aD hb19 hb20;go_wp2_with fail
 refine (HBX.out w10 _ hb21 (by rw[← hn9] at *;exact HV.out.below hb20)).mono ?_
 rintro e w11 ⟨rfl,hb22⟩;have hb23:=aD hb21 hb22;go_wp2_with fail
 refine (HPX.out w11 hb23).mono ?_;rintro e w12 ⟨g12,c12,b12,rfl,hq12,hb24⟩;have hb25:=aD hb23 hb24;have r9:=aD (aD hb20 hb22) hb24;have r7:=aD (aD ((Below.refl _ w8).alloc (Nat.le_refl _) (.cells #[.slice (some ⟨g8,0,none⟩) (aE 2 0 [120] []).length c8] 23)) hb18) r9;have r7:=aD hb15 r7;have r3:=aD (aD (aD (aD hb7 hb9) hb11) hb13) r7;obtain⟨ti,hti,htc⟩:=Option.map_eq_some_iff.1 xR;obtain⟨tj,htj,-⟩:=Option.map_eq_some_iff.1 xK;have HEq:=fun w=>run_eql_iface_ptr_same (P:=Tryz.prog) w (sent 115) Tryz.underlying27 Tryz.underlying287 hti htc htj
 have S1:=LB (rC (fQ exL) b6 11 _ _ w12 (hq6.below (aD hb13 r7)) (HP3.out.below r3) (by decide))
 have S2:=LB fun (w':World) (h:Below w12.heap.size w12 w')=>rC (fQ exL) b7 11 _ _ w' (hq7.below (aD r7 h)) (HP3.out.below (aD r3 h)) (by decide)
 have S3:=LB fun (w':World) (h:Below w12.heap.size w12 w')=>rC qH b12 11 _ _ w' (hq12.below h) (HV.out.below (aD r9 h)) (by decide)
 clear HP3 HV HA HB HAN HBX HPX HPA HPB;go_wp2_with fail
 refine S1.out.mono ?_;rintro e w13 ⟨rfl,hb26⟩;go_wp2_with fail
 refine (S2.out w13 hb26).mono ?_;rintro e w14 ⟨rfl,hb27⟩;have hb28:=aD hb26 hb27;have he:=HSay.out w14 (aD hb25 hb28);go_wp2_with fail
 refine (S3.out w14 hb28).mono ?_;rintro e w15 ⟨rfl,hb29⟩;go_wp2_with fail
 go_ret;exact⟨rfl,aD hb25 (aD hb28 hb29)⟩
end Go.Proofs.YtnombfbpmmmoeaaGreatDoor
