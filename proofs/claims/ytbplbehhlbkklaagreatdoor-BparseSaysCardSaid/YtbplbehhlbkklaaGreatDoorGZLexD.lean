/- The document's Lex of dialect B: quotes, names and words. -/
import Derived.Test.YtbplbehhlbkklaaGreatDoorGZKit
import Derived.Test.YtbplbehhlbkklaaGreatDoorGZN
import Derived.Deep.CutBlock
import Derived.Deep.RegionHeld3
import Derived.Deep.DeepCutAuto
namespace Go.Proofs.YtbplbehhlbkklaaGreatDoor
open Go Go.RowKit
def zfind (k:Nat):Code→Option Code
 | .block i c=>if i=k then some (.block i c) else zfind k c
 | .seq a b=>match zfind k a with
  | some c=>some c
  | none=>zfind k b
 | .loop c=>zfind k c
 | .scope c=>zfind k c
 | .cond _ a b=>match zfind k a with
  | some c=>some c
  | none=>zfind k b
 | _=>none
noncomputable def zsw:Code:=(Tryz.f19.body.bind (zfind 6)).getD .skip
theorem zbs_app (l m:List UInt8):bs l++bs m=bs (l++m):=by
 rw[← bs_of (bs l++bs m)];congr 1
set_option maxHeartbeats 64000000
set_option maxRecDepth 1000000
theorem zlex_dead (s:ByteArray)(l:List UInt8)(HL:Hid (s.data.toList=l))(hs:s.size≤8192)(p tb rb:Nat)(G:Bool)(c:UInt8)(wr w5:World)(hlt:p<s.size)(HD:Hid (l.drop p=c :: l.drop (p+1)))(HR:Hid (opFind opsZ (l.drop p)=([],0)))(hB5:Blk w5 tb [.int .i64 0,.int .i64 p,.int .i64 0,.string ⟨#[]⟩,.bool G])(hb5:Below tb wr w5)(htw:tb≤wr.heap.size)(hrbt:rb<tb)(HRBW:Hid (∀ W,Below tb wr W→Blk W rb [.int .i64 0,.slice none 0 0]))(h39:c.toNat=39){y1 y2 y4 y5 y6 y8 y9 y11 y13 y14 y15 y16 y17 y18 y19 y20 y21 y22 y23 y24 y25 y26 y27 y28 y29 y30 y31 y32 y33 y34 y35 y36 y37 y38 y39 y40 y41 y42 y43 y44 y45 y46 y47 y48 y49 y50 y51 y52 y53 y54 y55 y56 y57 y58 y59 y60 y61 y62 y63 y64 y65 y66 y67 y68 y69 y70 y71 y72 y73 y74 y75 y76 y77 y78 y79 y80 y81 y82 y83 y84 y85 y86 y87 y88 y89 y90 y91 y92 y93 y94 y95 y96 y97 y98 y99 y100 y101 y102 y103 y104 y105 y106 y107 y108 y109 y110 y111 y112 y113 y114 y115 y116 y117 y118 y119 y120 y121 y122 y124 y125 y126 y127 y128 y129 y130 y131 y132 y133 y134 y135 y136 y137 y138 y139 y140 y141 y142 y143 y144 y145 y146 y147 y148 y149 y150 y151 y152 y153 y154 y155 y156 y157 y158 y159 y160 y161 y162 y163 y164 y165 y166 y167 y168 y169 y170 y171 y172 y173 y174 y175 y176 y177 y178 y179 y180 y181 y182 y183 y184 y185 y186 y187 y188 y189 y190 y191 y192 y193 y194 y195 y196 y197 y198 y199 y200 y201 y202 y203 y204 y205 y206 y207 y208 y209 y210 y211 y212 y213 y214 y215 y216 y217 y218 y219 y220 y221 y222 y223 y224 y225 y226 y227 y228 y229 y230 y231 y232 y233 y234 y235 y236 y237 y238 y239 y240 y241 y242 y243 y244 y245 y246 y247 y248 y249 y250 y251 y252 y253 y254 y255 y256 y257 y258 y259 y260 y261 y262 y263 y264 y265 y266 y267 y268 y269 y270 y271 y272 y273 y274 y275 y276 y277 y278 y279 y280 y281 y282 y283 y284 y285 y286 y287 y288 y289 y290 y291 y292 y293 y294 y295 y296 y297 y298 y299 y300 y301:Value}{Q:Exit→Act→World→Prop}
  (hm:∀ (z2 z7 z13 z124 z125 z126 z127 z128 z129 z130 z131 z132 z133 z134 z135 z136 z137 z138 z139 z140 z141 z142 z143 z144 z145 z146 z147 z148 z149 z150 z151 z152 z153 z154 z155 z156 z157 z158 z159 z160 z161 z162 z163 z164 z165 z166 z167 z168 z169 z170 z171 z172 z173 z174 z175 z176 z177 z178 z179 z180 z181 z182 z183 z184 z185 z186 z187 z188 z189 z190 z191 z192 z193 z194 z195 z196 z197 z198 z199 z200 z201 z202 z203 z204 z205 z206 z207 z208 z209 z210 z211 z212 z213 z214 z215 z216 z217 z218 z219 z220 z221 z222 z223 z224 z225 z226 z227 z228 z229 z230 z231 z232 z233 z234 z235 z236 z237 z238 z239 z240 z241 z242 z243 z244 z245 z246 z247 z248 z249 z250 z251 z252 z253 z254 z255 z256 z257 z258 z259 z260 z261 z262 z263 z264 z265 z266 z267 z268 z269 z270 z271 z272 z273 z274 z275 z276 z277 z278 z279 z280:Value) (w':World),(∃ (tk tn n:Nat) (tx:List UInt8),z7 = .int .i64 ((p+n:Nat):Int)∧tk≠0∧p+n≤s.size∧1≤n∧Hid (tokenB (l.drop p) p = .ok (⟨tk,p,tn,tx,false⟩,n))∧Blk w' tb [.int .i64 tk,.int .i64 p,.int .i64 tn,.string (bs tx),.bool G]∧Below tb wr w')→Q .normal ⟨#[.string s,y1,z2,.pointer (some ⟨rb,0,none⟩),y4,y5,y6,z7,y8,y9,.pointer (some ⟨tb,0,none⟩),y11,.int .i64 p,z13,y14,y15,y16,y17,y18,y19,y20,y21,y22,y23,y24,y25,y26,y27,y28,y29,y30,y31,y32,y33,y34,y35,y36,y37,y38,y39,y40,y41,y42,y43,y44,y45,y46,y47,y48,y49,y50,y51,y52,y53,y54,y55,y56,y57,y58,y59,y60,y61,y62,y63,y64,y65,y66,y67,y68,y69,y70,y71,y72,y73,y74,y75,y76,y77,y78,y79,y80,y81,y82,y83,y84,y85,y86,y87,y88,y89,y90,y91,y92,y93,y94,y95,y96,y97,y98,y99,y100,y101,y102,y103,y104,y105,y106,y107,y108,y109,y110,y111,y112,y113,y114,y115,y116,y117,y118,y119,y120,y121,y122,.int .u8 c.toNat,z124,z125,z126,z127,z128,z129,z130,z131,z132,z133,z134,z135,z136,z137,z138,z139,z140,z141,z142,z143,z144,z145,z146,z147,z148,z149,z150,z151,z152,z153,z154,z155,z156,z157,z158,z159,z160,z161,z162,z163,z164,z165,z166,z167,z168,z169,z170,z171,z172,z173,z174,z175,z176,z177,z178,z179,z180,z181,z182,z183,z184,z185,z186,z187,z188,z189,z190,z191,z192,z193,z194,z195,z196,z197,z198,z199,z200,z201,z202,z203,z204,z205,z206,z207,z208,z209,z210,z211,z212,z213,z214,z215,z216,z217,z218,z219,z220,z221,z222,z223,z224,z225,z226,z227,z228,z229,z230,z231,z232,z233,z234,z235,z236,z237,z238,z239,z240,z241,z242,z243,z244,z245,z246,z247,z248,z249,z250,z251,z252,z253,z254,z255,z256,z257,z258,z259,z260,z261,z262,z263,z264,z265,z266,z267,z268,z269,z270,z271,z272,z273,z274,z275,z276,z277,z278,z279,z280,y281,y282,y283,y284,y285,y286,y287,y288,y289,y290,y291,y292,y293,y294,y295,y296,y297,y298,y299,y300,y301],[]⟩ w')
  (hret:∀ (a':Act) (w9:World) (e fb:Nat),a'.defers=[]→a'.tmps.getD 2 undef = .slice none 0 0→a'.tmps.getD 3 undef = .pointer (some ⟨rb,0,none⟩)→Below tb wr w9→tb≤fb→w9.heap[fb]?=some (.cells #[.int .i64 p] 3 (0,0))→Hid (tokenB (l.drop p) p = .error (e,p))→Q .ret a' ((w9.setCell ⟨rb,0,none⟩ (.int .i64 e)).setCell ⟨rb,1,none⟩ (.slice (some ⟨fb,0,none⟩) 1 1))) :
  Code.wp Tryz.prog zsw Q ⟨#[.string s,y1,y2,.pointer (some ⟨rb,0,none⟩),y4,y5,y6,.int .i64 p,y8,y9,.pointer (some ⟨tb,0,none⟩),y11,.int .i64 p,y13,y14,y15,y16,y17,y18,y19,y20,y21,y22,y23,y24,y25,y26,y27,y28,y29,y30,y31,y32,y33,y34,y35,y36,y37,y38,y39,y40,y41,y42,y43,y44,y45,y46,y47,y48,y49,y50,y51,y52,y53,y54,y55,y56,y57,y58,y59,y60,y61,y62,y63,y64,y65,y66,y67,y68,y69,y70,y71,y72,y73,y74,y75,y76,y77,y78,y79,y80,y81,y82,y83,y84,y85,y86,y87,y88,y89,y90,y91,y92,y93,y94,y95,y96,y97,y98,y99,y100,y101,y102,y103,y104,y105,y106,y107,y108,y109,y110,y111,y112,y113,y114,y115,y116,y117,y118,y119,y120,y121,y122,.int .u8 c.toNat,y124,y125,y126,y127,y128,y129,y130,y131,y132,y133,y134,y135,y136,y137,y138,y139,y140,y141,y142,y143,y144,y145,y146,y147,y148,y149,y150,y151,y152,y153,y154,y155,y156,y157,y158,y159,y160,y161,y162,y163,y164,y165,y166,y167,y168,y169,y170,y171,y172,y173,y174,y175,y176,y177,y178,y179,y180,y181,y182,y183,y184,y185,y186,y187,y188,y189,y190,y191,y192,y193,y194,y195,y196,y197,y198,y199,y200,y201,y202,y203,y204,y205,y206,y207,y208,y209,y210,y211,y212,y213,y214,y215,y216,y217,y218,y219,y220,y221,y222,y223,y224,y225,y226,y227,y228,y229,y230,y231,y232,y233,y234,y235,y236,y237,y238,y239,y240,y241,y242,y243,y244,y245,y246,y247,y248,y249,y250,y251,y252,y253,y254,y255,y256,y257,y258,y259,y260,y261,y262,y263,y264,y265,y266,y267,y268,y269,y270,y271,y272,y273,y274,y275,y276,y277,y278,y279,y280,y281,y282,y283,y284,y285,y286,y287,y288,y289,y290,y291,y292,y293,y294,y295,y296,y297,y298,y299,y300,y301],[]⟩ w5:=by
 have HLL:=Lib.hid (show l.length=s.size from by rw[← HL.out,size_eq])
 have HDR:=Lib.hid (fun (p:Nat) (h:p<s.size)=>show l.drop p=s[p] :: l.drop (p+1) from by rw[getElem_bat s p h,← HL.out];exact drop_bat s p h)
 have HGE:=Lib.hid (fun (i:Nat) (h:i<s.size) (h2:i<l.length)=>show l[i]=s[i] from by
  have h9:=HDR.out i h;rw[zdrop_at h2] at h9;injection h9)
 have HM:=Lib.hid hm;have HRET:=Lib.hid hret;have HRBT:=Lib.hid hrbt;clear hm hret;have t0:w5.cell? ⟨tb,0,none⟩=some (.int .i64 0):=hB5.cell 0 rfl;have htl:tb≤w5.heap.size:=Nat.le_of_lt hB5.lt;conv=>arg 2;whnf
 have e39:((c.toNat:Int)==39)=true:=by rw[beq_iff_eq];omega
 have HTD:=Lib.hid (tok_dead (p:=p) HD.out HR.out h39);have hw0:IntKind.i64.wrap ((p:Int)+1)=(p:Int)+1:=by rw[IntKind.wrap_i64];omega
 have f0:=hB5.free 0;clear h39;go_wp2_with fail
 go_loopg [7] (s.size - p) (fun m s7 wx=>∃ (i:Nat) (acc:List UInt8),m=s.size+1 - i∧p+1≤i∧i≤s.size∧s7 = .int .i64 i∧Blk wx tb [.int .i64 19,.int .i64 p,.int .i64 0,.string (bs acc),.bool G]∧Below tb wr wx∧acc.length≤i∧Hid (deadB (l.drop (p+1))=deadRest l (p+1) i acc))
 case atStart=>exact⟨p+1,[],by omega,Nat.le_refl _,by omega,by go_num,hB5.set 0 (.int .i64 19),hb5.setCell (p:=⟨tb,0,none⟩) (Nat.le_refl _) _,Nat.zero_le _,Lib.hid (dead_start _ _).symm⟩
 case round =>
  obtain⟨i,acc,rfl,hpi,his,rfl,hBx,hbx,hacl,hdr⟩:=hrel;rename World=>wx
  obtain⟨sa,hsa⟩:∃ sa,bs acc=sa:=⟨_,rfl⟩;have hsas:sa.size≤8192:=by rw[← hsa,bs_size];omega
  have HSA:=Lib.hid hsa;rw[hsa] at hBx;clear hsa;have t3:=hBx.cell 3 rfl;have f3:=hBx.free 3
  by_cases hi:i<s.size
  ·obtain⟨d,hdd⟩:∃ d,s[i]=d:=⟨_,rfl⟩;have hld:l[i]'(by rw[HLL.out];exact hi)=d:=by rw[HGE.out i hi];exact hdd
   have HLD:=Lib.hid hld;clear hld;have hw1:IntKind.i64.wrap ((i:Int)+1)=(i:Int)+1:=by rw[IntKind.wrap_i64];omega
   by_cases hq:d.toNat=39
   ·have eq1:((d.toNat:Int)==39)=true:=by rw[beq_iff_eq];omega
    by_cases hi2:i+1<s.size
    ·obtain⟨d2,hdd2⟩:∃ d2,s[i+1]=d2:=⟨_,rfl⟩;have hld2:l[i+1]'(by rw[HLL.out];exact hi2)=d2:=by rw[HGE.out (i+1) hi2];exact hdd2
     have HLD2:=Lib.hid hld2;clear hld2;have hi2I:(i:Int)+1<s.size:=by omega
     by_cases hq2:d2.toNat=39
     ·have eq2:((d2.toNat:Int)==39)=true:=by rw[beq_iff_eq];omega
      have hw2:IntKind.i64.wrap ((i:Int)+1+1)=(i:Int)+1+1:=by rw[IntKind.wrap_i64];omega
      obtain⟨x1,hx1⟩:∃ x1,s.extract (i+1) (i+1+1)=x1:=⟨_,rfl⟩
      have HX1:=Lib.hid (show x1=bs [39] from by
       rw[← hx1,extract_bs,HL.out,← List.take_append_drop 0 [39]]
       have h9:(l.take (i+1+1)).drop (i+1)=[d2]:=by
        rw[List.take_succ_eq_append_getElem (by rw[HLL.out];omega),List.drop_append_of_le_length (by rw[List.length_take,HLL.out];omega),HLD2.out,List.drop_of_length_le (by rw[List.length_take];omega)]
        rfl
       rw[h9,show d2=39 from UInt8.toNat_inj.1 hq2]
       rfl)
      have hx1s:x1.size=1:=by rw[HX1.out];rfl
      have HDT:=Lib.hid (hdr.out.trans (dead_two (by omega) (by rw[HLL.out];exact hi2) (by rw[HLD.out];exact hq) (by rw[HLD2.out];exact hq2)))
      have HCAT:=Lib.hid (show sa++x1=bs (acc++[39]) from by rw[HX1.out,← HSA.out,zbs_app])
      clear hq hq2 hdr;go_upto_region 40 with fail
      go_region
      all_goals
       go_wp2_with fail
       go_roundg (s.size+1 - (i+2))
       all_goals first
        | omega
        | exact⟨i+2,acc++[39],rfl,by omega,by omega,by go_num,by have h:=hBx.set 3 (.string (sa++x1));rw[HCAT.out] at h ⊢;first | exact h | exact h.drew,by first | exact (hbx.setCell (p:=⟨tb,3,none⟩) (Nat.le_refl _) _).drew | exact (hbx.drew).setCell (p:=⟨tb,3,none⟩) (Nat.le_refl _) _,by simp;omega,HDT⟩
     ·have eq2:((d2.toNat:Int)==39)=false:=by rw[beq_eq_false_iff_ne];omega
      have HDO:=Lib.hid (hdr.out.trans (dead_one (acc:=acc) (by rw[HLL.out];exact hi) (by rw[HLD.out];exact hq) (fun h=>by rw[HLD2.out];exact hq2)))
      clear hdr;go_wp2_with fail
      refine HM.out _ _ _ _ _ _ _ _ _ _ _ _ _ _ _ _ _ _ _ _ _ _ _ _ _ _ _ _ _ _ _ _ _ _ _ _ _ _ _ _ _ _ _ _ _ _ _ _ _ _ _ _ _ _ _ _ _ _ _ _ _ _ _ _ _ _ _ _ _ _ _ _ _ _ _ _ _ _ _ _ _ _ _ _ _ _ _ _ _ _ _ _ _ _ _ _ _ _ _ _ _ _ _ _ _ _ _ _ _ _ _ _ _ _ _ _ _ _ _ _ _ _ _ _ _ _ _ _ _ _ _ _ _ _ _ _ _ _ _ _ _ _ _ _ _ _ _ _ _ _ _ _ _ _ _ _ _ _ _ _ _ ?_;exact⟨19,0,i+1 - p,acc,by rw[show p+(i+1 - p)=i+1 by omega];go_num,by omega,by omega,by omega,Lib.hid (by rw[HTD.out,HDO.out];show Except.ok (_,_)=Except.ok (_,_);congr 2;omega),by rw[HSA.out];exact hBx,hbx⟩
    ·have hi2I:¬ (i:Int)+1<s.size:=by omega
     have hi2D:decide ((i:Int)+1<s.size)=false:=decide_eq_false hi2I;have HDO:=Lib.hid (hdr.out.trans (dead_one (acc:=acc) (by rw[HLL.out];exact hi) (by rw[HLD.out];exact hq) (fun h=>absurd h (by rw[HLL.out];exact hi2))))
     clear hi2I;clear hdr;go_wp2_with fail
     refine HM.out _ _ _ _ _ _ _ _ _ _ _ _ _ _ _ _ _ _ _ _ _ _ _ _ _ _ _ _ _ _ _ _ _ _ _ _ _ _ _ _ _ _ _ _ _ _ _ _ _ _ _ _ _ _ _ _ _ _ _ _ _ _ _ _ _ _ _ _ _ _ _ _ _ _ _ _ _ _ _ _ _ _ _ _ _ _ _ _ _ _ _ _ _ _ _ _ _ _ _ _ _ _ _ _ _ _ _ _ _ _ _ _ _ _ _ _ _ _ _ _ _ _ _ _ _ _ _ _ _ _ _ _ _ _ _ _ _ _ _ _ _ _ _ _ _ _ _ _ _ _ _ _ _ _ _ _ _ _ _ _ _ ?_;exact⟨19,0,i+1 - p,acc,by rw[show p+(i+1 - p)=i+1 by omega];go_num,by omega,by omega,by omega,Lib.hid (by rw[HTD.out,HDO.out];show Except.ok (_,_)=Except.ok (_,_);congr 2;omega),by rw[HSA.out];exact hBx,hbx⟩
   ·have eq1:((d.toNat:Int)==39)=false:=by rw[beq_eq_false_iff_ne];omega
    obtain⟨x1,hx1⟩:∃ x1,s.extract i (i+1)=x1:=⟨_,rfl⟩
    have HX1:=Lib.hid (show x1=bs [d] from by
     rw[← hx1,extract_bs,HL.out];rw[List.take_succ_eq_append_getElem (by rw[HLL.out];omega),List.drop_append_of_le_length (by rw[List.length_take,HLL.out];omega),HLD.out,List.drop_of_length_le (by rw[List.length_take];omega)]
     rfl)
    have hx1s:x1.size=1:=by rw[HX1.out];rfl
    have HDT:=Lib.hid (hdr.out.trans ((dead_go (acc:=acc) (by omega) (by rw[HLL.out];exact hi) (by rw[HLD.out];exact hq)).trans (by rw[HLD.out])))
    have HCAT:=Lib.hid (show sa++x1=bs (acc++[d]) from by rw[HX1.out,← HSA.out,zbs_app])
    clear hq hdr;go_upto_region 40 with fail
    go_region
    all_goals
     go_wp2_with fail
     go_roundg (s.size+1 - (i+1))
     all_goals first
      | omega
      | exact⟨i+1,acc++[d],rfl,by omega,by omega,by go_num,by have h:=hBx.set 3 (.string (sa++x1));rw[HCAT.out] at h ⊢;first | exact h | exact h.drew,by first | exact (hbx.setCell (p:=⟨tb,3,none⟩) (Nat.le_refl _) _).drew | exact (hbx.drew).setCell (p:=⟨tb,3,none⟩) (Nat.le_refl _) _,by simp;omega,HDT⟩
  ·have hbB5:=hbx;have hRB5:=HRBW.out wx hbB5;have HTE:=Lib.hid (id (show tokenB (l.drop p) p = .error (103,p) from by rw[HTD.out,hdr.out,dead_end _ _ _ _ (by rw[HLL.out];omega)]))
   clear hdr t3 f3;go_wp2_with fail
   refine (rPlacedT_any 103 (p:Int) (by decide) _).mono ?_
   rintro e w9 ⟨fb,rfl,hfb,hge,hb9⟩;have hR9:=hRB5.below hb9;have r0:=hR9.cell 0 rfl;have r1:=hR9.cell 1 rfl;have rf0:=hR9.free 0;have rf1:=hR9.free 1;have htl9:=hbB5.size;go_wp2_with fail
   exact HRET.out _ w9 103 fb rfl rfl rfl (hbB5.trans (hb9.mono (by omega))) (by omega) hfb HTE
theorem zlex_word (s:ByteArray)(l:List UInt8)(HL:Hid (s.data.toList=l))(hs:s.size≤8192)(p tb rb:Nat)(G:Bool)(c:UInt8)(wr w5:World)(hlt:p<s.size)(HD:Hid (l.drop p=c :: l.drop (p+1)))(HR:Hid (opFind opsZ (l.drop p)=([],0)))(hB5:Blk w5 tb [.int .i64 0,.int .i64 p,.int .i64 0,.string ⟨#[]⟩,.bool G])(hb5:Below tb wr w5)(_htw:tb≤wr.heap.size)(hrbt:rb<tb)(_HRBW:Hid (∀ W,Below tb wr W→Blk W rb [.int .i64 0,.slice none 0 0]))(HNB:Hid (¬ (c.toNat=38∨c.toNat=96)))(HFR:Hid (¬ (c.toNat=32∨c.toNat=9∨c.toNat=35)))(h39:¬ c.toNat=39)(h36:¬ c.toNat=36){y1 y2 y4 y5 y6 y8 y9 y11 y13 y14 y15 y16 y17 y18 y19 y20 y21 y22 y23 y24 y25 y26 y27 y28 y29 y30 y31 y32 y33 y34 y35 y36 y37 y38 y39 y40 y41 y42 y43 y44 y45 y46 y47 y48 y49 y50 y51 y52 y53 y54 y55 y56 y57 y58 y59 y60 y61 y62 y63 y64 y65 y66 y67 y68 y69 y70 y71 y72 y73 y74 y75 y76 y77 y78 y79 y80 y81 y82 y83 y84 y85 y86 y87 y88 y89 y90 y91 y92 y93 y94 y95 y96 y97 y98 y99 y100 y101 y102 y103 y104 y105 y106 y107 y108 y109 y110 y111 y112 y113 y114 y115 y116 y117 y118 y119 y120 y121 y122 y124 y125 y126 y127 y128 y129 y130 y131 y132 y133 y134 y135 y136 y137 y138 y139 y140 y141 y142 y143 y144 y145 y146 y147 y148 y149 y150 y151 y152 y153 y154 y155 y156 y157 y158 y159 y160 y161 y162 y163 y164 y165 y166 y167 y168 y169 y170 y171 y172 y173 y174 y175 y176 y177 y178 y179 y180 y181 y182 y183 y184 y185 y186 y187 y188 y189 y190 y191 y192 y193 y194 y195 y196 y197 y198 y199 y200 y201 y202 y203 y204 y205 y206 y207 y208 y209 y210 y211 y212 y213 y214 y215 y216 y217 y218 y219 y220 y221 y222 y223 y224 y225 y226 y227 y228 y229 y230 y231 y232 y233 y234 y235 y236 y237 y238 y239 y240 y241 y242 y243 y244 y245 y246 y247 y248 y249 y250 y251 y252 y253 y254 y255 y256 y257 y258 y259 y260 y261 y262 y263 y264 y265 y266 y267 y268 y269 y270 y271 y272 y273 y274 y275 y276 y277 y278 y279 y280 y281 y282 y283 y284 y285 y286 y287 y288 y289 y290 y291 y292 y293 y294 y295 y296 y297 y298 y299 y300 y301:Value}{Q:Exit→Act→World→Prop}
  (hm:∀ (z2 z7 z13 z124 z125 z126 z127 z128 z129 z130 z131 z132 z133 z134 z135 z136 z137 z138 z139 z140 z141 z142 z143 z144 z145 z146 z147 z148 z149 z150 z151 z152 z153 z154 z155 z156 z157 z158 z159 z160 z161 z162 z163 z164 z165 z166 z167 z168 z169 z170 z171 z172 z173 z174 z175 z176 z177 z178 z179 z180 z181 z182 z183 z184 z185 z186 z187 z188 z189 z190 z191 z192 z193 z194 z195 z196 z197 z198 z199 z200 z201 z202 z203 z204 z205 z206 z207 z208 z209 z210 z211 z212 z213 z214 z215 z216 z217 z218 z219 z220 z221 z222 z223 z224 z225 z226 z227 z228 z229 z230 z231 z232 z233 z234 z235 z236 z237 z238 z239 z240 z241 z242 z243 z244 z245 z246 z247 z248 z249 z250 z251 z252 z253 z254 z255 z256 z257 z258 z259 z260 z261 z262 z263 z264 z265 z266 z267 z268 z269 z270 z271 z272 z273 z274 z275 z276 z277 z278 z279 z280:Value) (w':World),(∃ (tk tn n:Nat) (tx:List UInt8),z7 = .int .i64 ((p+n:Nat):Int)∧tk≠0∧p+n≤s.size∧1≤n∧Hid (tokenB (l.drop p) p = .ok (⟨tk,p,tn,tx,false⟩,n))∧Blk w' tb [.int .i64 tk,.int .i64 p,.int .i64 tn,.string (bs tx),.bool G]∧Below tb wr w')→Q .normal ⟨#[.string s,y1,z2,.pointer (some ⟨rb,0,none⟩),y4,y5,y6,z7,y8,y9,.pointer (some ⟨tb,0,none⟩),y11,.int .i64 p,z13,y14,y15,y16,y17,y18,y19,y20,y21,y22,y23,y24,y25,y26,y27,y28,y29,y30,y31,y32,y33,y34,y35,y36,y37,y38,y39,y40,y41,y42,y43,y44,y45,y46,y47,y48,y49,y50,y51,y52,y53,y54,y55,y56,y57,y58,y59,y60,y61,y62,y63,y64,y65,y66,y67,y68,y69,y70,y71,y72,y73,y74,y75,y76,y77,y78,y79,y80,y81,y82,y83,y84,y85,y86,y87,y88,y89,y90,y91,y92,y93,y94,y95,y96,y97,y98,y99,y100,y101,y102,y103,y104,y105,y106,y107,y108,y109,y110,y111,y112,y113,y114,y115,y116,y117,y118,y119,y120,y121,y122,.int .u8 c.toNat,z124,z125,z126,z127,z128,z129,z130,z131,z132,z133,z134,z135,z136,z137,z138,z139,z140,z141,z142,z143,z144,z145,z146,z147,z148,z149,z150,z151,z152,z153,z154,z155,z156,z157,z158,z159,z160,z161,z162,z163,z164,z165,z166,z167,z168,z169,z170,z171,z172,z173,z174,z175,z176,z177,z178,z179,z180,z181,z182,z183,z184,z185,z186,z187,z188,z189,z190,z191,z192,z193,z194,z195,z196,z197,z198,z199,z200,z201,z202,z203,z204,z205,z206,z207,z208,z209,z210,z211,z212,z213,z214,z215,z216,z217,z218,z219,z220,z221,z222,z223,z224,z225,z226,z227,z228,z229,z230,z231,z232,z233,z234,z235,z236,z237,z238,z239,z240,z241,z242,z243,z244,z245,z246,z247,z248,z249,z250,z251,z252,z253,z254,z255,z256,z257,z258,z259,z260,z261,z262,z263,z264,z265,z266,z267,z268,z269,z270,z271,z272,z273,z274,z275,z276,z277,z278,z279,z280,y281,y282,y283,y284,y285,y286,y287,y288,y289,y290,y291,y292,y293,y294,y295,y296,y297,y298,y299,y300,y301],[]⟩ w')
  (hret:∀ (a':Act) (w9:World) (e fb:Nat),a'.defers=[]→a'.tmps.getD 2 undef = .slice none 0 0→a'.tmps.getD 3 undef = .pointer (some ⟨rb,0,none⟩)→Below tb wr w9→tb≤fb→w9.heap[fb]?=some (.cells #[.int .i64 p] 3 (0,0))→Hid (tokenB (l.drop p) p = .error (e,p))→Q .ret a' ((w9.setCell ⟨rb,0,none⟩ (.int .i64 e)).setCell ⟨rb,1,none⟩ (.slice (some ⟨fb,0,none⟩) 1 1))) :
  Code.wp Tryz.prog zsw Q ⟨#[.string s,y1,y2,.pointer (some ⟨rb,0,none⟩),y4,y5,y6,.int .i64 p,y8,y9,.pointer (some ⟨tb,0,none⟩),y11,.int .i64 p,y13,y14,y15,y16,y17,y18,y19,y20,y21,y22,y23,y24,y25,y26,y27,y28,y29,y30,y31,y32,y33,y34,y35,y36,y37,y38,y39,y40,y41,y42,y43,y44,y45,y46,y47,y48,y49,y50,y51,y52,y53,y54,y55,y56,y57,y58,y59,y60,y61,y62,y63,y64,y65,y66,y67,y68,y69,y70,y71,y72,y73,y74,y75,y76,y77,y78,y79,y80,y81,y82,y83,y84,y85,y86,y87,y88,y89,y90,y91,y92,y93,y94,y95,y96,y97,y98,y99,y100,y101,y102,y103,y104,y105,y106,y107,y108,y109,y110,y111,y112,y113,y114,y115,y116,y117,y118,y119,y120,y121,y122,.int .u8 c.toNat,y124,y125,y126,y127,y128,y129,y130,y131,y132,y133,y134,y135,y136,y137,y138,y139,y140,y141,y142,y143,y144,y145,y146,y147,y148,y149,y150,y151,y152,y153,y154,y155,y156,y157,y158,y159,y160,y161,y162,y163,y164,y165,y166,y167,y168,y169,y170,y171,y172,y173,y174,y175,y176,y177,y178,y179,y180,y181,y182,y183,y184,y185,y186,y187,y188,y189,y190,y191,y192,y193,y194,y195,y196,y197,y198,y199,y200,y201,y202,y203,y204,y205,y206,y207,y208,y209,y210,y211,y212,y213,y214,y215,y216,y217,y218,y219,y220,y221,y222,y223,y224,y225,y226,y227,y228,y229,y230,y231,y232,y233,y234,y235,y236,y237,y238,y239,y240,y241,y242,y243,y244,y245,y246,y247,y248,y249,y250,y251,y252,y253,y254,y255,y256,y257,y258,y259,y260,y261,y262,y263,y264,y265,y266,y267,y268,y269,y270,y271,y272,y273,y274,y275,y276,y277,y278,y279,y280,y281,y282,y283,y284,y285,y286,y287,y288,y289,y290,y291,y292,y293,y294,y295,y296,y297,y298,y299,y300,y301],[]⟩ w5:=by
 have HLL:=Lib.hid (show l.length=s.size from by rw[← HL.out,size_eq])
 have HDR:=Lib.hid (fun (p:Nat) (h:p<s.size)=>show l.drop p=s[p] :: l.drop (p+1) from by rw[getElem_bat s p h,← HL.out];exact drop_bat s p h)
 have HGE:=Lib.hid (fun (i:Nat) (h:i<s.size) (h2:i<l.length)=>show l[i]=s[i] from by
  have h9:=HDR.out i h;rw[zdrop_at h2] at h9;injection h9)
 have HM:=Lib.hid hm;have HRET:=Lib.hid hret;have HRBT:=Lib.hid hrbt;clear hm hret;have t0:w5.cell? ⟨tb,0,none⟩=some (.int .i64 0):=hB5.cell 0 rfl;have htl:tb≤w5.heap.size:=Nat.le_of_lt hB5.lt;conv=>arg 2;whnf
 have e39:((c.toNat:Int)==39)=false:=by rw[beq_eq_false_iff_ne];omega
 have e36:((c.toNat:Int)==36)=false:=by rw[beq_eq_false_iff_ne];omega
 have HTW:=Lib.hid (tok_word (p:=p) HD.out HR.out HNB.out h39 h36);have f0:=hB5.free 0;clear h39 h36;go_wp2_with fail
 go_loopg [7] (s.size+1 - p) (fun m s7 wx=>∃ i:Nat,m=s.size+1 - i∧p≤i∧i≤s.size∧s7 = .int .i64 i∧Blk wx tb [.int .i64 18,.int .i64 p,.int .i64 0,.string ⟨#[]⟩,.bool G]∧Below tb wr wx∧Hid (((l.drop p).take (i - p)).all (fun c=>!endsB c)=true))
 case atStart=>exact⟨p,rfl,Nat.le_refl _,by omega,rfl,hB5.set 0 (.int .i64 18),hb5.setCell (p:=⟨tb,0,none⟩) (Nat.le_refl _) _,Lib.hid (by rw[Nat.sub_self];rfl)⟩
 case round =>
  obtain⟨i,rfl,hpi,his,rfl,hBx,hbx,hall⟩:=hrel;rename World=>wx
  have f3:=hBx.free 3;have t3:=hBx.cell 3 rfl
  by_cases hi:i<s.size
  ·obtain⟨d,hdd⟩:∃ d,s[i]=d:=⟨_,rfl⟩;have hld:l[i]'(by rw[HLL.out];exact hi)=d:=by rw[HGE.out i hi];exact hdd
   have HLD:=Lib.hid hld;clear hld
   cases hen:endsB d with
   | false =>
    have HGO:=Lib.hid (zword_go hpi hall.out (by rw[HLL.out];exact hi) (by rw[HLD.out,hen];rfl))
    have HEN:=Lib.hid hen;have hw1:IntKind.i64.wrap ((i:Int)+1)=(i:Int)+1:=by rw[IntKind.wrap_i64];omega
    clear hen;go_wp2_with fail
    refine (z12InWord_any d _).mono ?_;rintro e w9 ⟨rfl,rfl⟩;rw[HEN.out];go_wp2_with fail
    go_roundg (s.size+1 - (i+1))
    case measure=>omega
    case rel=>exact⟨i+1,rfl,by omega,by omega,by go_num,hBx,hbx,HGO⟩
   | true =>
    have HWE:=Lib.hid (zword_end hpi (by rw[HLL.out];exact his) hall.out (fun h=>by rw[HLD.out,hen];rfl))
    have HEN:=Lib.hid hen;clear hen;go_wp2_with fail
    refine (z12InWord_any d _).mono ?_;rintro e w9 ⟨rfl,rfl⟩;rename World=>wx
    rw[HEN.out];obtain⟨sx,hsx⟩:∃ sx,s.extract p (i)=sx:=⟨_,rfl⟩;have HSX:=Lib.hid (show sx=bs ((l.take (i)).drop p) from by rw[← hsx,extract_bs,HL.out])
    have HTK:=Lib.hid (show tokenB (l.drop p) p = .ok (⟨18,p,0,(l.take (i)).drop p,false⟩,(i) - p) from by
     rw[HTW.out,HWE.out];have h9:((l.take (i)).drop p).length=(i) - p:=by rw[List.length_drop,List.length_take,HLL.out];omega
     rw[h9])
    have hn1:1≤(i) - p:=(tokenB_takes _ _ _ _ HTK.out).2.2.2.2 (fun c9 m9 h9=>by rw[HD.out] at h9;injection h9 with h8 _;rw[← h8];exact HFR.out) (fun h9=>by rw[HD.out] at h9;cases h9)
    go_wp2_with fail
    refine HM.out _ _ _ _ _ _ _ _ _ _ _ _ _ _ _ _ _ _ _ _ _ _ _ _ _ _ _ _ _ _ _ _ _ _ _ _ _ _ _ _ _ _ _ _ _ _ _ _ _ _ _ _ _ _ _ _ _ _ _ _ _ _ _ _ _ _ _ _ _ _ _ _ _ _ _ _ _ _ _ _ _ _ _ _ _ _ _ _ _ _ _ _ _ _ _ _ _ _ _ _ _ _ _ _ _ _ _ _ _ _ _ _ _ _ _ _ _ _ _ _ _ _ _ _ _ _ _ _ _ _ _ _ _ _ _ _ _ _ _ _ _ _ _ _ _ _ _ _ _ _ _ _ _ _ _ _ _ _ _ _ _ ?_;exact⟨18,0,(i) - p,(l.take (i)).drop p,by rw[show p+((i) - p)=(i) by omega],by omega,by omega,hn1,HTK,by have h:=hBx.set 3 (.string sx);rw[HSX.out] at h ⊢;exact h,hbx.setCell (p:=⟨tb,3,none⟩) (Nat.le_refl _) _⟩
  ·obtain rfl:i=s.size:=by omega
   have HWE:=Lib.hid (zword_end hpi (by rw[HLL.out];exact his) hall.out (fun h=>absurd h (by rw[HLL.out];omega)))
   obtain⟨sx,hsx⟩:∃ sx,s.extract p (s.size)=sx:=⟨_,rfl⟩;have HSX:=Lib.hid (show sx=bs ((l.take (s.size)).drop p) from by rw[← hsx,extract_bs,HL.out])
   have HTK:=Lib.hid (show tokenB (l.drop p) p = .ok (⟨18,p,0,(l.take (s.size)).drop p,false⟩,(s.size) - p) from by
    rw[HTW.out,HWE.out];have h9:((l.take (s.size)).drop p).length=(s.size) - p:=by rw[List.length_drop,List.length_take,HLL.out];omega
    rw[h9])
   have hn1:1≤(s.size) - p:=(tokenB_takes _ _ _ _ HTK.out).2.2.2.2 (fun c9 m9 h9=>by rw[HD.out] at h9;injection h9 with h8 _;rw[← h8];exact HFR.out) (fun h9=>by rw[HD.out] at h9;cases h9)
   go_wp2_with fail
   refine HM.out _ _ _ _ _ _ _ _ _ _ _ _ _ _ _ _ _ _ _ _ _ _ _ _ _ _ _ _ _ _ _ _ _ _ _ _ _ _ _ _ _ _ _ _ _ _ _ _ _ _ _ _ _ _ _ _ _ _ _ _ _ _ _ _ _ _ _ _ _ _ _ _ _ _ _ _ _ _ _ _ _ _ _ _ _ _ _ _ _ _ _ _ _ _ _ _ _ _ _ _ _ _ _ _ _ _ _ _ _ _ _ _ _ _ _ _ _ _ _ _ _ _ _ _ _ _ _ _ _ _ _ _ _ _ _ _ _ _ _ _ _ _ _ _ _ _ _ _ _ _ _ _ _ _ _ _ _ _ _ _ _ ?_;exact⟨18,0,(s.size) - p,(l.take (s.size)).drop p,by rw[show p+((s.size) - p)=(s.size) by omega],by omega,by omega,hn1,HTK,by have h:=hBx.set 3 (.string sx);rw[HSX.out] at h ⊢;exact h,hbx.setCell (p:=⟨tb,3,none⟩) (Nat.le_refl _) _⟩
end Go.Proofs.YtbplbehhlbkklaaGreatDoor
