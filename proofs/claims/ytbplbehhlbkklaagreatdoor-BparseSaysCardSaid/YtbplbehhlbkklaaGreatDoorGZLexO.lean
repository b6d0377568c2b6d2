/- The document's Lex of dialect B: operators; what else may begin. -/
import Derived.Test.YtbplbehhlbkklaaGreatDoorGZLexE
namespace Go.Proofs.YtbplbehhlbkklaaGreatDoor
open Go Go.RowKit
set_option maxHeartbeats 64000000
set_option maxRecDepth 1000000
noncomputable def zop:Code:=(Tryz.f19.body.bind (zfind 4)).getD .skip
theorem zlex_op (s:ByteArray)(l:List UInt8)(HL:Hid (s.data.toList=l))(hs:s.size≤8192)(p tb g1 g2:Nat)(G:Bool)(R:List UInt8×Nat)(wr w5:World)(hlt:p<s.size)(HR:Hid (opFind opsZ (l.drop p)=R))(hB5:Blk w5 tb [.int .i64 0,.int .i64 p,.int .i64 0,.string ⟨#[]⟩,.bool G])(hb5:Below tb wr w5)(htw:tb≤wr.heap.size)(hg1l:g1<tb)(_hg2l:g2<tb)(HG1:Hid (∀ W,Below tb wr W→Blk W g1 (opsZ.map fun x=>Value.string (bs x.1))))(HG2:Hid (∀ W,Below tb wr W→Blk W g2 (opsZ.map fun x=>Value.int .i64 x.2))){y1 y2 y3 y6 y8 y9 y12 y13 y14 y15 y16 y17 y18 y19 y20 y21 y22 y23 y24 y25 y26 y27 y28 y29 y30 y31 y32 y33 y34 y35 y36 y37 y38 y39 y40 y41 y42 y43 y44 y45 y46 y47 y48 y49 y50 y51 y52 y53 y54 y55 y56 y57 y58 y59 y60 y61 y62 y63 y64 y65 y66 y67 y68 y69 y70 y71 y72 y73 y74 y75 y76 y77 y78 y79 y80 y81 y82 y83 y84 y85 y86 y87 y88 y89 y90 y91 y92 y93 y94 y95 y96 y97 y98 y99 y100 y101 y102 y103 y104 y105 y106 y107 y108 y109 y110 y111 y112 y113 y114 y115 y116 y117 y118 y119 y120 y121 y122 y123 y124 y125 y126 y127 y128 y129 y130 y131 y132 y133 y134 y135 y136 y137 y138 y139 y140 y141 y142 y143 y144 y145 y146 y147 y148 y149 y150 y151 y152 y153 y154 y155 y156 y157 y158 y159 y160 y161 y162 y163 y164 y165 y166 y167 y168 y169 y170 y171 y172 y173 y174 y175 y176 y177 y178 y179 y180 y181 y182 y183 y184 y185 y186 y187 y188 y189 y190 y191 y192 y193 y194 y195 y196 y197 y198 y199 y200 y201 y202 y203 y204 y205 y206 y207 y208 y209 y210 y211 y212 y213 y214 y215 y216 y217 y218 y219 y220 y221 y222 y223 y224 y225 y226 y227 y228 y229 y230 y231 y232 y233 y234 y235 y236 y237 y238 y239 y240 y241 y242 y243 y244 y245 y246 y247 y248 y249 y250 y251 y252 y253 y254 y255 y256 y257 y258 y259 y260 y261 y262 y263 y264 y265 y266 y267 y268 y269 y270 y271 y272 y273 y274 y275 y276 y277 y278 y279 y280 y281 y282 y283 y284 y285 y286 y287 y288 y289 y290 y291 y292 y293 y294 y295 y296 y297 y298 y299 y300 y301:Value}{Q:Exit→Act→World→Prop}
  (hm:∀ (z7 z11 z56 z57 z58 z59 z60 z61 z62 z63 z64 z65 z66 z67 z68 z69 z70 z71 z72 z73 z74 z75 z76 z77 z78 z79 z80 z81 z82 z83 z84 z85 z86 z87 z88 z89 z90 z91 z92 z93 z94 z95 z96 z97 z98 z99 z100 z101 z102 z103 z104 z105:Value) (w':World),(z7 = .int .i64 ((p+R.1.length:Nat):Int)∧Blk w' tb [.int .i64 R.2,.int .i64 p,.int .i64 0,.string ⟨#[]⟩,.bool G]∧Below tb wr w')→Q .normal ⟨#[.string s,y1,y2,y3,.slice (some ⟨g1,0,none⟩) 17 17,.slice (some ⟨g2,0,none⟩) 17 17,y6,z7,y8,y9,.pointer (some ⟨tb,0,none⟩),z11,y12,y13,y14,y15,y16,y17,y18,y19,y20,y21,y22,y23,y24,y25,y26,y27,y28,y29,y30,y31,y32,y33,y34,y35,y36,y37,y38,y39,y40,y41,y42,y43,y44,y45,y46,y47,y48,y49,y50,y51,y52,y53,y54,y55,z56,z57,z58,z59,z60,z61,z62,z63,z64,z65,z66,z67,z68,z69,z70,z71,z72,z73,z74,z75,z76,z77,z78,z79,z80,z81,z82,z83,z84,z85,z86,z87,z88,z89,z90,z91,z92,z93,z94,z95,z96,z97,z98,z99,z100,z101,z102,z103,z104,z105,y106,y107,y108,y109,y110,y111,y112,y113,y114,y115,y116,y117,y118,y119,y120,y121,y122,y123,y124,y125,y126,y127,y128,y129,y130,y131,y132,y133,y134,y135,y136,y137,y138,y139,y140,y141,y142,y143,y144,y145,y146,y147,y148,y149,y150,y151,y152,y153,y154,y155,y156,y157,y158,y159,y160,y161,y162,y163,y164,y165,y166,y167,y168,y169,y170,y171,y172,y173,y174,y175,y176,y177,y178,y179,y180,y181,y182,y183,y184,y185,y186,y187,y188,y189,y190,y191,y192,y193,y194,y195,y196,y197,y198,y199,y200,y201,y202,y203,y204,y205,y206,y207,y208,y209,y210,y211,y212,y213,y214,y215,y216,y217,y218,y219,y220,y221,y222,y223,y224,y225,y226,y227,y228,y229,y230,y231,y232,y233,y234,y235,y236,y237,y238,y239,y240,y241,y242,y243,y244,y245,y246,y247,y248,y249,y250,y251,y252,y253,y254,y255,y256,y257,y258,y259,y260,y261,y262,y263,y264,y265,y266,y267,y268,y269,y270,y271,y272,y273,y274,y275,y276,y277,y278,y279,y280,y281,y282,y283,y284,y285,y286,y287,y288,y289,y290,y291,y292,y293,y294,y295,y296,y297,y298,y299,y300,y301],[]⟩ w') :
  Code.wp Tryz.prog zop Q ⟨#[.string s,y1,y2,y3,.slice (some ⟨g1,0,none⟩) 17 17,.slice (some ⟨g2,0,none⟩) 17 17,y6,.int .i64 p,y8,y9,.pointer (some ⟨tb,0,none⟩),.int .i64 0,y12,y13,y14,y15,y16,y17,y18,y19,y20,y21,y22,y23,y24,y25,y26,y27,y28,y29,y30,y31,y32,y33,y34,y35,y36,y37,y38,y39,y40,y41,y42,y43,y44,y45,y46,y47,y48,y49,y50,y51,y52,y53,y54,y55,y56,y57,y58,y59,y60,y61,y62,y63,y64,y65,y66,y67,y68,y69,y70,y71,y72,y73,y74,y75,y76,y77,y78,y79,y80,y81,y82,y83,y84,y85,y86,y87,y88,y89,y90,y91,y92,y93,y94,y95,y96,y97,y98,y99,y100,y101,y102,y103,y104,y105,y106,y107,y108,y109,y110,y111,y112,y113,y114,y115,y116,y117,y118,y119,y120,y121,y122,y123,y124,y125,y126,y127,y128,y129,y130,y131,y132,y133,y134,y135,y136,y137,y138,y139,y140,y141,y142,y143,y144,y145,y146,y147,y148,y149,y150,y151,y152,y153,y154,y155,y156,y157,y158,y159,y160,y161,y162,y163,y164,y165,y166,y167,y168,y169,y170,y171,y172,y173,y174,y175,y176,y177,y178,y179,y180,y181,y182,y183,y184,y185,y186,y187,y188,y189,y190,y191,y192,y193,y194,y195,y196,y197,y198,y199,y200,y201,y202,y203,y204,y205,y206,y207,y208,y209,y210,y211,y212,y213,y214,y215,y216,y217,y218,y219,y220,y221,y222,y223,y224,y225,y226,y227,y228,y229,y230,y231,y232,y233,y234,y235,y236,y237,y238,y239,y240,y241,y242,y243,y244,y245,y246,y247,y248,y249,y250,y251,y252,y253,y254,y255,y256,y257,y258,y259,y260,y261,y262,y263,y264,y265,y266,y267,y268,y269,y270,y271,y272,y273,y274,y275,y276,y277,y278,y279,y280,y281,y282,y283,y284,y285,y286,y287,y288,y289,y290,y291,y292,y293,y294,y295,y296,y297,y298,y299,y300,y301],[]⟩ w5:=by
 have HLL:=Lib.hid (show l.length=s.size from by rw[← HL.out,size_eq])
 have HM:=Lib.hid hm;have htl:tb≤w5.heap.size:=Nat.le_of_lt hB5.lt;clear hm;conv=>arg 2;whnf
 have hbt:=hb5;have hBt:=hB5;go_wp2_with fail
 go_loopg [7,11] 17 (fun m s7 s11 wx=>∃ q kd ln:Nat,m=(if kd=0 then 17 - q else 0)∧q≤17∧s7 = .int .i64 ((p+ln:Nat):Int)∧s11 = .int .i64 q∧Blk wx tb [.int .i64 kd,.int .i64 p,.int .i64 0,.string ⟨#[]⟩,.bool G]∧Below tb wr wx∧Hid (kd=0→opFind (opsZ.drop q) (l.drop p)=R∧ln=0)∧Hid (kd≠0→R.2=kd∧R.1.length=ln)∧p+ln≤s.size)
 case atStart=>exact⟨0,0,0,rfl,Nat.zero_le _,rfl,rfl,hBt,hbt,Lib.hid fun _=>⟨HR.out,rfl⟩,Lib.hid fun h=>absurd rfl h,by omega⟩
 case round =>
  clear hBt hbt;obtain⟨q,kd,ln,rfl,hq,rfl,rfl,hBx,hbx,hk0,hk1,hln⟩:=hrel;rename World=>wx
  have hbBx:=hbx;have t0:=hBx.cell 0 rfl
  by_cases hkd:kd=0
  ·subst hkd;obtain⟨h2,rfl⟩:=hk0.out rfl;have HOP:=Lib.hid h2
   (try rw[Nat.add_zero])
   clear hk0 hk1 h2 hln;have t0:wx.cell? ⟨tb,0,none⟩=some (.int .i64 0):=hBx.cell 0 rfl
   by_cases hq17:q<17
   ·obtain⟨o,kd,hok,ho3,ho1,hkd1,hkd2⟩:=opsZ_get hq17;obtain⟨ob,hob⟩:∃ ob,bs o=ob:=⟨_,rfl⟩;have hobs:ob.size=o.length:=by rw[← hob,bs_size]
    have y1:wx.cell? ⟨g1,q,none⟩=some (.string ob):=(HG1.out wx hbBx).cell q (by rw[List.getElem?_map,hok,← hob];rfl)
    have y2:wx.cell? ⟨g2,q,none⟩=some (.int .i64 kd):=(HG2.out wx hbBx).cell q (by rw[List.getElem?_map,hok];rfl)
    have y1r:=cell_regrown y1;have HFD:=Lib.hid (opFind_drop hok (l.drop p));have HPA:=Lib.hid (pre_at l p o (by rw[HLL.out];omega))
    have HEX:=Lib.hid (show s.extract p (p+ob.size)=bs ((l.take (p+o.length)).drop p) from by rw[extract_bs,HL.out,hobs])
    have HOB:=Lib.hid hob;have HOS:=Lib.hid hobs;have hob3:ob.size≤3:=by omega
    have hw1:IntKind.i64.wrap ((p:Int)+ob.size)=(p:Int)+ob.size:=by rw[IntKind.wrap_i64];omega
    have hw2:IntKind.i64.wrap ((q:Int)+1)=(q:Int)+1:=by rw[IntKind.wrap_i64];omega
    have hq0:(0:Int)≤(q:Int):=by omega
    have hq1:(q:Int)<17:=by omega
    have hgt1:g1≠tb:=by omega
    clear hok hob hobs
    by_cases hle:p+ob.size≤s.size
    ·have hleI:(p:Int)+ob.size≤s.size:=by omega
     by_cases hx:s.extract p (p+ob.size)=ob
     ·have HR2:=Lib.hid (show R=(o,kd) from by
       have h:=HOP.out;rw[HFD.out,if_pos] at h
       ·exact h.symm
       ·rw[HPA.out,Bool.and_eq_true,decide_eq_true_eq,decide_eq_true_eq];have h9:=HEX.out;rw[hx,← HOB.out] at h9;exact⟨by rw[HLL.out,← HOS.out];exact hle,(bs_inj h9).symm⟩)
      go_upto_region 18 with fail
      refine wp_region_quiet_below (by kernel_rfl) (by kernel_rfl) ?_
      repeat (go_big_quiet_step (fail))
      refine wpQuiet_nil ?_;intro w6 hw';have hb:Below wx.heap.size wx w6:=below_of_regrown hw';clear hw';have hB6:=hBx.below hb;have y16:=bSome hb y1;have y26:=bSome hb y2;have hbx6:=hbx.trans (hb.mono (by have:=hbx.size;omega))
      have fz:=hB6.free 0;have t06:=hB6.cell 0 rfl;have y1s:(w6.setCell ⟨tb,0,none⟩ (.int .i64 kd)).cell? ⟨g1,q,none⟩=some (.string ob):=(World.cell?_of_block (Below.heap_setCell _ _ _ _ (by show g1≠tb;exact hgt1))).trans y16
      have hB7:=hB6.set 0 (.int .i64 kd);have hb7:=hbx6.setCell (p:=⟨tb,0,none⟩) (Nat.le_refl _) (.int .i64 kd);clear hx y1 y2 y1r t0 hBx hbx hb;go_wp2_with fail
      go_roundg 0
      case measure=>omega
      case rel=>exact⟨q+1,kd,ob.size,by rw[if_neg (by omega)],by omega,by go_num,by go_num,hB7,hb7,Lib.hid fun h=>absurd h (by omega),Lib.hid fun _=>by rw[HR2.out];exact⟨rfl,HOS.out.symm⟩,hle⟩
     ·have hqx:((s.extract p (p+ob.size)).toList==ob.toList)=false:=by
       rw[ByteArray.toList_eq,ByteArray.toList_eq,beq_eq_false_iff_ne];intro e;exact hx (by rw[← bs_of (s.extract p (p+ob.size)),e,bs_of])
      have HR2:=Lib.hid (show opFind (opsZ.drop (q+1)) (l.drop p)=R from by
       have h:=HOP.out;rw[HFD.out,if_neg] at h
       ·exact h
       ·rw[HPA.out,Bool.and_eq_true,decide_eq_true_eq,decide_eq_true_eq];rintro ⟨h8,h9⟩;exact hx (by rw[HEX.out,h9];exact HOB.out))
      clear hx;go_upto_region 18 with fail
      refine wp_region_quiet_below (by kernel_rfl) (by kernel_rfl) ?_
      repeat (go_big_quiet_step (fail))
      refine wpQuiet_nil ?_;intro w6 hw';have hb:Below wx.heap.size wx w6:=below_of_regrown hw';clear hw';have hB6:=hBx.below hb;have hbx6:=hbx.trans (hb.mono (by have:=hbx.size;omega))
      clear y1 y2 y1r t0 hBx hbx hb;go_wp2_with fail
      go_roundg (17 - (q+1))
      case measure=>simp;omega
      case rel=>exact⟨q+1,0,0,rfl,by omega,by go_num,by go_num,hB6,hbx6,Lib.hid fun _=>⟨HR2.out,rfl⟩,Lib.hid fun h=>absurd rfl h,by omega⟩
    ·have hleI:¬ (p:Int)+ob.size≤s.size:=by omega
     have hleD:decide ((p:Int)+ob.size≤s.size)=false:=decide_eq_false hleI
     have HR2:=Lib.hid (show opFind (opsZ.drop (q+1)) (l.drop p)=R from by
      have h:=HOP.out;rw[HFD.out,if_neg] at h
      ·exact h
      ·rw[HPA.out,Bool.and_eq_true,decide_eq_true_eq,decide_eq_true_eq];rintro ⟨h8,h9⟩;rw[HLL.out,← HOS.out] at h8;exact hle h8)
     clear hleI;go_upto_region 18 with fail
     refine wp_region_quiet_below (by kernel_rfl) (by kernel_rfl) ?_
     repeat (go_big_quiet_step (fail))
     refine wpQuiet_nil ?_;intro w6 hw';have hb:Below wx.heap.size wx w6:=below_of_regrown hw';clear hw';have hB6:=hBx.below hb;have hbx6:=hbx.trans (hb.mono (by have:=hbx.size;omega))
     clear y1 y2 y1r t0 hBx hbx hb;go_wp2_with fail
     go_roundg (17 - (q+1))
     case measure=>simp;omega
     case rel=>exact⟨q+1,0,0,rfl,by omega,by go_num,by go_num,hB6,hbx6,Lib.hid fun _=>⟨HR2.out,rfl⟩,Lib.hid fun h=>absurd rfl h,by omega⟩
   ·obtain rfl:q=17:=by omega
    have HR2:=Lib.hid (show R=([],0) from HOP.out.symm)
    go_wp2_with fail
    refine HM.out _ _ _ _ _ _ _ _ _ _ _ _ _ _ _ _ _ _ _ _ _ _ _ _ _ _ _ _ _ _ _ _ _ _ _ _ _ _ _ _ _ _ _ _ _ _ _ _ _ _ _ _ _ ?_;exact⟨by rw[HR2.out];rfl,by rw[HR2.out];exact hBx,hbx⟩
  ·obtain⟨hr2,hr1⟩:=hk1.out hkd;have HR2:=Lib.hid hr2;have HR1:=Lib.hid hr1;have e0:((kd:Int)==0)=false:=by rw[beq_eq_false_iff_ne];omega
   clear hk0 hk1 hr1 hr2
   by_cases hq17:q<17
   ·go_wp2_with fail
    refine HM.out _ _ _ _ _ _ _ _ _ _ _ _ _ _ _ _ _ _ _ _ _ _ _ _ _ _ _ _ _ _ _ _ _ _ _ _ _ _ _ _ _ _ _ _ _ _ _ _ _ _ _ _ _ ?_;exact⟨by rw[HR1.out];first | done | rfl | go_num,by rw[HR2.out];exact hBx,hbx⟩
   ·obtain rfl:q=17:=by omega
    go_wp2_with fail
    refine HM.out _ _ _ _ _ _ _ _ _ _ _ _ _ _ _ _ _ _ _ _ _ _ _ _ _ _ _ _ _ _ _ _ _ _ _ _ _ _ _ _ _ _ _ _ _ _ _ _ _ _ _ _ _ ?_;exact⟨by rw[HR1.out];first | done | rfl | go_num,by rw[HR2.out];exact hBx,hbx⟩
theorem zlex_switch (s:ByteArray)(l:List UInt8)(HL:Hid (s.data.toList=l))(hs:s.size≤8192)(p tb rb:Nat)(G:Bool)(c:UInt8)(wr w5:World)(hlt:p<s.size)(HD:Hid (l.drop p=c :: l.drop (p+1)))(HR:Hid (opFind opsZ (l.drop p)=([],0)))(hB5:Blk w5 tb [.int .i64 0,.int .i64 p,.int .i64 0,.string ⟨#[]⟩,.bool G])(hb5:Below tb wr w5)(htw:tb≤wr.heap.size)(hrbt:rb<tb)(HRBW:Hid (∀ W,Below tb wr W→Blk W rb [.int .i64 0,.slice none 0 0]))(HNB:Hid (¬ (c.toNat=38∨c.toNat=96)))(HFR:Hid (¬ (c.toNat=32∨c.toNat=9∨c.toNat=35))){y1 y2 y4 y5 y6 y8 y9 y11 y13 y14 y15 y16 y17 y18 y19 y20 y21 y22 y23 y24 y25 y26 y27 y28 y29 y30 y31 y32 y33 y34 y35 y36 y37 y38 y39 y40 y41 y42 y43 y44 y45 y46 y47 y48 y49 y50 y51 y52 y53 y54 y55 y56 y57 y58 y59 y60 y61 y62 y63 y64 y65 y66 y67 y68 y69 y70 y71 y72 y73 y74 y75 y76 y77 y78 y79 y80 y81 y82 y83 y84 y85 y86 y87 y88 y89 y90 y91 y92 y93 y94 y95 y96 y97 y98 y99 y100 y101 y102 y103 y104 y105 y106 y107 y108 y109 y110 y111 y112 y113 y114 y115 y116 y117 y118 y119 y120 y121 y122 y124 y125 y126 y127 y128 y129 y130 y131 y132 y133 y134 y135 y136 y137 y138 y139 y140 y141 y142 y143 y144 y145 y146 y147 y148 y149 y150 y151 y152 y153 y154 y155 y156 y157 y158 y159 y160 y161 y162 y163 y164 y165 y166 y167 y168 y169 y170 y171 y172 y173 y174 y175 y176 y177 y178 y179 y180 y181 y182 y183 y184 y185 y186 y187 y188 y189 y190 y191 y192 y193 y194 y195 y196 y197 y198 y199 y200 y201 y202 y203 y204 y205 y206 y207 y208 y209 y210 y211 y212 y213 y214 y215 y216 y217 y218 y219 y220 y221 y222 y223 y224 y225 y226 y227 y228 y229 y230 y231 y232 y233 y234 y235 y236 y237 y238 y239 y240 y241 y242 y243 y244 y245 y246 y247 y248 y249 y250 y251 y252 y253 y254 y255 y256 y257 y258 y259 y260 y261 y262 y263 y264 y265 y266 y267 y268 y269 y270 y271 y272 y273 y274 y275 y276 y277 y278 y279 y280 y281 y282 y283 y284 y285 y286 y287 y288 y289 y290 y291 y292 y293 y294 y295 y296 y297 y298 y299 y300 y301:Value}{Q:Exit→Act→World→Prop}
  (hm:∀ (z2 z7 z13 z124 z125 z126 z127 z128 z129 z130 z131 z132 z133 z134 z135 z136 z137 z138 z139 z140 z141 z142 z143 z144 z145 z146 z147 z148 z149 z150 z151 z152 z153 z154 z155 z156 z157 z158 z159 z160 z161 z162 z163 z164 z165 z166 z167 z168 z169 z170 z171 z172 z173 z174 z175 z176 z177 z178 z179 z180 z181 z182 z183 z184 z185 z186 z187 z188 z189 z190 z191 z192 z193 z194 z195 z196 z197 z198 z199 z200 z201 z202 z203 z204 z205 z206 z207 z208 z209 z210 z211 z212 z213 z214 z215 z216 z217 z218 z219 z220 z221 z222 z223 z224 z225 z226 z227 z228 z229 z230 z231 z232 z233 z234 z235 z236 z237 z238 z239 z240 z241 z242 z243 z244 z245 z246 z247 z248 z249 z250 z251 z252 z253 z254 z255 z256 z257 z258 z259 z260 z261 z262 z263 z264 z265 z266 z267 z268 z269 z270 z271 z272 z273 z274 z275 z276 z277 z278 z279 z280:Value) (w':World),(∃ (tk tn n:Nat) (tx:List UInt8),z7 = .int .i64 ((p+n:Nat):Int)∧tk≠0∧p+n≤s.size∧1≤n∧Hid (tokenB (l.drop p) p = .ok (⟨tk,p,tn,tx,false⟩,n))∧Blk w' tb [.int .i64 tk,.int .i64 p,.int .i64 tn,.string (bs tx),.bool G]∧Below tb wr w')→Q .normal ⟨#[.string s,y1,z2,.pointer (some ⟨rb,0,none⟩),y4,y5,y6,z7,y8,y9,.pointer (some ⟨tb,0,none⟩),y11,.int .i64 p,z13,y14,y15,y16,y17,y18,y19,y20,y21,y22,y23,y24,y25,y26,y27,y28,y29,y30,y31,y32,y33,y34,y35,y36,y37,y38,y39,y40,y41,y42,y43,y44,y45,y46,y47,y48,y49,y50,y51,y52,y53,y54,y55,y56,y57,y58,y59,y60,y61,y62,y63,y64,y65,y66,y67,y68,y69,y70,y71,y72,y73,y74,y75,y76,y77,y78,y79,y80,y81,y82,y83,y84,y85,y86,y87,y88,y89,y90,y91,y92,y93,y94,y95,y96,y97,y98,y99,y100,y101,y102,y103,y104,y105,y106,y107,y108,y109,y110,y111,y112,y113,y114,y115,y116,y117,y118,y119,y120,y121,y122,.int .u8 c.toNat,z124,z125,z126,z127,z128,z129,z130,z131,z132,z133,z134,z135,z136,z137,z138,z139,z140,z141,z142,z143,z144,z145,z146,z147,z148,z149,z150,z151,z152,z153,z154,z155,z156,z157,z158,z159,z160,z161,z162,z163,z164,z165,z166,z167,z168,z169,z170,z171,z172,z173,z174,z175,z176,z177,z178,z179,z180,z181,z182,z183,z184,z185,z186,z187,z188,z189,z190,z191,z192,z193,z194,z195,z196,z197,z198,z199,z200,z201,z202,z203,z204,z205,z206,z207,z208,z209,z210,z211,z212,z213,z214,z215,z216,z217,z218,z219,z220,z221,z222,z223,z224,z225,z226,z227,z228,z229,z230,z231,z232,z233,z234,z235,z236,z237,z238,z239,z240,z241,z242,z243,z244,z245,z246,z247,z248,z249,z250,z251,z252,z253,z254,z255,z256,z257,z258,z259,z260,z261,z262,z263,z264,z265,z266,z267,z268,z269,z270,z271,z272,z273,z274,z275,z276,z277,z278,z279,z280,y281,y282,y283,y284,y285,y286,y287,y288,y289,y290,y291,y292,y293,y294,y295,y296,y297,y298,y299,y300,y301],[]⟩ w')
  (hret:∀ (a':Act) (w9:World) (e fb:Nat),a'.defers=[]→a'.tmps.getD 2 undef = .slice none 0 0→a'.tmps.getD 3 undef = .pointer (some ⟨rb,0,none⟩)→Below tb wr w9→tb≤fb→w9.heap[fb]?=some (.cells #[.int .i64 p] 3 (0,0))→Hid (tokenB (l.drop p) p = .error (e,p))→Q .ret a' ((w9.setCell ⟨rb,0,none⟩ (.int .i64 e)).setCell ⟨rb,1,none⟩ (.slice (some ⟨fb,0,none⟩) 1 1))) :
  Code.wp Tryz.prog zsw Q ⟨#[.string s,y1,y2,.pointer (some ⟨rb,0,none⟩),y4,y5,y6,.int .i64 p,y8,y9,.pointer (some ⟨tb,0,none⟩),y11,.int .i64 p,y13,y14,y15,y16,y17,y18,y19,y20,y21,y22,y23,y24,y25,y26,y27,y28,y29,y30,y31,y32,y33,y34,y35,y36,y37,y38,y39,y40,y41,y42,y43,y44,y45,y46,y47,y48,y49,y50,y51,y52,y53,y54,y55,y56,y57,y58,y59,y60,y61,y62,y63,y64,y65,y66,y67,y68,y69,y70,y71,y72,y73,y74,y75,y76,y77,y78,y79,y80,y81,y82,y83,y84,y85,y86,y87,y88,y89,y90,y91,y92,y93,y94,y95,y96,y97,y98,y99,y100,y101,y102,y103,y104,y105,y106,y107,y108,y109,y110,y111,y112,y113,y114,y115,y116,y117,y118,y119,y120,y121,y122,.int .u8 c.toNat,y124,y125,y126,y127,y128,y129,y130,y131,y132,y133,y134,y135,y136,y137,y138,y139,y140,y141,y142,y143,y144,y145,y146,y147,y148,y149,y150,y151,y152,y153,y154,y155,y156,y157,y158,y159,y160,y161,y162,y163,y164,y165,y166,y167,y168,y169,y170,y171,y172,y173,y174,y175,y176,y177,y178,y179,y180,y181,y182,y183,y184,y185,y186,y187,y188,y189,y190,y191,y192,y193,y194,y195,y196,y197,y198,y199,y200,y201,y202,y203,y204,y205,y206,y207,y208,y209,y210,y211,y212,y213,y214,y215,y216,y217,y218,y219,y220,y221,y222,y223,y224,y225,y226,y227,y228,y229,y230,y231,y232,y233,y234,y235,y236,y237,y238,y239,y240,y241,y242,y243,y244,y245,y246,y247,y248,y249,y250,y251,y252,y253,y254,y255,y256,y257,y258,y259,y260,y261,y262,y263,y264,y265,y266,y267,y268,y269,y270,y271,y272,y273,y274,y275,y276,y277,y278,y279,y280,y281,y282,y283,y284,y285,y286,y287,y288,y289,y290,y291,y292,y293,y294,y295,y296,y297,y298,y299,y300,y301],[]⟩ w5:=by
 by_cases h39:c.toNat=39
 ·exact zlex_dead s l HL hs p tb rb G c wr w5 hlt HD HR hB5 hb5 htw hrbt HRBW h39 hm hret
 ·by_cases h36:c.toNat=36
  ·exact zlex_dollar s l HL hs p tb rb G c wr w5 hlt HD HR hB5 hb5 htw hrbt HRBW h39 h36 hm hret
  ·exact zlex_word s l HL hs p tb rb G c wr w5 hlt HD HR hB5 hb5 htw hrbt HRBW HNB HFR h39 h36 hm hret
end Go.Proofs.YtbplbehhlbkklaaGreatDoor
