/- The document's Lex of dialect B: names behind a dollar. -/
import Derived.Test.YtbplbehhlbkklaaGreatDoorGZLexD
namespace Go.Proofs.YtbplbehhlbkklaaGreatDoor
open Go Go.RowKit
set_option maxHeartbeats 64000000
set_option maxRecDepth 1000000
theorem zlex_dollar (s:ByteArray)(l:List UInt8)(HL:Hid (s.data.toList=l))(hs:s.size≤8192)(p tb rb:Nat)(G:Bool)(c:UInt8)(wr w5:World)(hlt:p<s.size)(HD:Hid (l.drop p=c :: l.drop (p+1)))(HR:Hid (opFind opsZ (l.drop p)=([],0)))(hB5:Blk w5 tb [.int .i64 0,.int .i64 p,.int .i64 0,.string ⟨#[]⟩,.bool G])(hb5:Below tb wr w5)(htw:tb≤wr.heap.size)(hrbt:rb<tb)(HRBW:Hid (∀ W,Below tb wr W→Blk W rb [.int .i64 0,.slice none 0 0]))(_h39:¬ c.toNat=39)(h36:c.toNat=36){y1 y2 y4 y5 y6 y8 y9 y11 y13 y14 y15 y16 y17 y18 y19 y20 y21 y22 y23 y24 y25 y26 y27 y28 y29 y30 y31 y32 y33 y34 y35 y36 y37 y38 y39 y40 y41 y42 y43 y44 y45 y46 y47 y48 y49 y50 y51 y52 y53 y54 y55 y56 y57 y58 y59 y60 y61 y62 y63 y64 y65 y66 y67 y68 y69 y70 y71 y72 y73 y74 y75 y76 y77 y78 y79 y80 y81 y82 y83 y84 y85 y86 y87 y88 y89 y90 y91 y92 y93 y94 y95 y96 y97 y98 y99 y100 y101 y102 y103 y104 y105 y106 y107 y108 y109 y110 y111 y112 y113 y114 y115 y116 y117 y118 y119 y120 y121 y122 y124 y125 y126 y127 y128 y129 y130 y131 y132 y133 y134 y135 y136 y137 y138 y139 y140 y141 y142 y143 y144 y145 y146 y147 y148 y149 y150 y151 y152 y153 y154 y155 y156 y157 y158 y159 y160 y161 y162 y163 y164 y165 y166 y167 y168 y169 y170 y171 y172 y173 y174 y175 y176 y177 y178 y179 y180 y181 y182 y183 y184 y185 y186 y187 y188 y189 y190 y191 y192 y193 y194 y195 y196 y197 y198 y199 y200 y201 y202 y203 y204 y205 y206 y207 y208 y209 y210 y211 y212 y213 y214 y215 y216 y217 y218 y219 y220 y221 y222 y223 y224 y225 y226 y227 y228 y229 y230 y231 y232 y233 y234 y235 y236 y237 y238 y239 y240 y241 y242 y243 y244 y245 y246 y247 y248 y249 y250 y251 y252 y253 y254 y255 y256 y257 y258 y259 y260 y261 y262 y263 y264 y265 y266 y267 y268 y269 y270 y271 y272 y273 y274 y275 y276 y277 y278 y279 y280 y281 y282 y283 y284 y285 y286 y287 y288 y289 y290 y291 y292 y293 y294 y295 y296 y297 y298 y299 y300 y301:Value}{Q:Exit→Act→World→Prop}
  (hm:∀ (z2 z7 z13 z124 z125 z126 z127 z128 z129 z130 z131 z132 z133 z134 z135 z136 z137 z138 z139 z140 z141 z142 z143 z144 z145 z146 z147 z148 z149 z150 z151 z152 z153 z154 z155 z156 z157 z158 z159 z160 z161 z162 z163 z164 z165 z166 z167 z168 z169 z170 z171 z172 z173 z174 z175 z176 z177 z178 z179 z180 z181 z182 z183 z184 z185 z186 z187 z188 z189 z190 z191 z192 z193 z194 z195 z196 z197 z198 z199 z200 z201 z202 z203 z204 z205 z206 z207 z208 z209 z210 z211 z212 z213 z214 z215 z216 z217 z218 z219 z220 z221 z222 z223 z224 z225 z226 z227 z228 z229 z230 z231 z232 z233 z234 z235 z236 z237 z238 z239 z240 z241 z242 z243 z244 z245 z246 z247 z248 z249 z250 z251 z252 z253 z254 z255 z256 z257 z258 z259 z260 z261 z262 z263 z264 z265 z266 z267 z268 z269 z270 z271 z272 z273 z274 z275 z276 z277 z278 z279 z280:Value) (w':World),(∃ (tk tn n:Nat) (tx:List UInt8),z7 = .int .i64 ((p+n:Nat):Int)∧tk≠0∧p+n≤s.size∧1≤n∧Hid (tokenB (l.drop p) p = .ok (⟨tk,p,tn,tx,false⟩,n))∧Blk w' tb [.int .i64 tk,.int .i64 p,.int .i64 tn,.string (bs tx),.bool G]∧Below tb wr w')→Q .normal ⟨#[.string s,y1,z2,.pointer (some ⟨rb,0,none⟩),y4,y5,y6,z7,y8,y9,.pointer (some ⟨tb,0,none⟩),y11,.int .i64 p,z13,y14,y15,y16,y17,y18,y19,y20,y21,y22,y23,y24,y25,y26,y27,y28,y29,y30,y31,y32,y33,y34,y35,y36,y37,y38,y39,y40,y41,y42,y43,y44,y45,y46,y47,y48,y49,y50,y51,y52,y53,y54,y55,y56,y57,y58,y59,y60,y61,y62,y63,y64,y65,y66,y67,y68,y69,y70,y71,y72,y73,y74,y75,y76,y77,y78,y79,y80,y81,y82,y83,y84,y85,y86,y87,y88,y89,y90,y91,y92,y93,y94,y95,y96,y97,y98,y99,y100,y101,y102,y103,y104,y105,y106,y107,y108,y109,y110,y111,y112,y113,y114,y115,y116,y117,y118,y119,y120,y121,y122,.int .u8 c.toNat,z124,z125,z126,z127,z128,z129,z130,z131,z132,z133,z134,z135,z136,z137,z138,z139,z140,z141,z142,z143,z144,z145,z146,z147,z148,z149,z150,z151,z152,z153,z154,z155,z156,z157,z158,z159,z160,z161,z162,z163,z164,z165,z166,z167,z168,z169,z170,z171,z172,z173,z174,z175,z176,z177,z178,z179,z180,z181,z182,z183,z184,z185,z186,z187,z188,z189,z190,z191,z192,z193,z194,z195,z196,z197,z198,z199,z200,z201,z202,z203,z204,z205,z206,z207,z208,z209,z210,z211,z212,z213,z214,z215,z216,z217,z218,z219,z220,z221,z222,z223,z224,z225,z226,z227,z228,z229,z230,z231,z232,z233,z234,z235,z236,z237,z238,z239,z240,z241,z242,z243,z244,z245,z246,z247,z248,z249,z250,z251,z252,z253,z254,z255,z256,z257,z258,z259,z260,z261,z262,z263,z264,z265,z266,z267,z268,z269,z270,z271,z272,z273,z274,z275,z276,z277,z278,z279,z280,y281,y282,y283,y284,y285,y286,y287,y288,y289,y290,y291,y292,y293,y294,y295,y296,y297,y298,y299,y300,y301],[]⟩ w')
  (hret:∀ (a':Act) (w9:World) (e fb:Nat),a'.defers=[]→a'.tmps.getD 2 undef = .slice none 0 0→a'.tmps.getD 3 undef = .pointer (some ⟨rb,0,none⟩)→Below tb wr w9→tb≤fb→w9.heap[fb]?=some (.cells #[.int .i64 p] 3 (0,0))→Hid (tokenB (l.drop p) p = .error (e,p))→Q .ret a' ((w9.setCell ⟨rb,0,none⟩ (.int .i64 e)).setCell ⟨rb,1,none⟩ (.slice (some ⟨fb,0,none⟩) 1 1))) :
  Code.wp Tryz.prog zsw Q ⟨#[.string s,y1,y2,.pointer (some ⟨rb,0,none⟩),y4,y5,y6,.int .i64 p,y8,y9,.pointer (some ⟨tb,0,none⟩),y11,.int .i64 p,y13,y14,y15,y16,y17,y18,y19,y20,y21,y22,y23,y24,y25,y26,y27,y28,y29,y30,y31,y32,y33,y34,y35,y36,y37,y38,y39,y40,y41,y42,y43,y44,y45,y46,y47,y48,y49,y50,y51,y52,y53,y54,y55,y56,y57,y58,y59,y60,y61,y62,y63,y64,y65,y66,y67,y68,y69,y70,y71,y72,y73,y74,y75,y76,y77,y78,y79,y80,y81,y82,y83,y84,y85,y86,y87,y88,y89,y90,y91,y92,y93,y94,y95,y96,y97,y98,y99,y100,y101,y102,y103,y104,y105,y106,y107,y108,y109,y110,y111,y112,y113,y114,y115,y116,y117,y118,y119,y120,y121,y122,.int .u8 c.toNat,y124,y125,y126,y127,y128,y129,y130,y131,y132,y133,y134,y135,y136,y137,y138,y139,y140,y141,y142,y143,y144,y145,y146,y147,y148,y149,y150,y151,y152,y153,y154,y155,y156,y157,y158,y159,y160,y161,y162,y163,y164,y165,y166,y167,y168,y169,y170,y171,y172,y173,y174,y175,y176,y177,y178,y179,y180,y181,y182,y183,y184,y185,y186,y187,y188,y189,y190,y191,y192,y193,y194,y195,y196,y197,y198,y199,y200,y201,y202,y203,y204,y205,y206,y207,y208,y209,y210,y211,y212,y213,y214,y215,y216,y217,y218,y219,y220,y221,y222,y223,y224,y225,y226,y227,y228,y229,y230,y231,y232,y233,y234,y235,y236,y237,y238,y239,y240,y241,y242,y243,y244,y245,y246,y247,y248,y249,y250,y251,y252,y253,y254,y255,y256,y257,y258,y259,y260,y261,y262,y263,y264,y265,y266,y267,y268,y269,y270,y271,y272,y273,y274,y275,y276,y277,y278,y279,y280,y281,y282,y283,y284,y285,y286,y287,y288,y289,y290,y291,y292,y293,y294,y295,y296,y297,y298,y299,y300,y301],[]⟩ w5:=by
 have HLL:=Lib.hid (show l.length=s.size from by rw[← HL.out,size_eq])
 have HDR:=Lib.hid (fun (p:Nat) (h:p<s.size)=>show l.drop p=s[p] :: l.drop (p+1) from by rw[getElem_bat s p h,← HL.out];exact drop_bat s p h)
 have HGE:=Lib.hid (fun (i:Nat) (h:i<s.size) (h2:i<l.length)=>show l[i]=s[i] from by
  have h9:=HDR.out i h;rw[zdrop_at h2] at h9;injection h9)
 have HM:=Lib.hid hm;have HRET:=Lib.hid hret;have HRBT:=Lib.hid hrbt;clear hm hret;have t0:w5.cell? ⟨tb,0,none⟩=some (.int .i64 0):=hB5.cell 0 rfl;have htl:tb≤w5.heap.size:=Nat.le_of_lt hB5.lt;conv=>arg 2;whnf
 have e39:((c.toNat:Int)==39)=false:=by rw[beq_eq_false_iff_ne];omega
 have e36:((c.toNat:Int)==36)=true:=by rw[beq_iff_eq];omega
 have HTD:=Lib.hid (tok_dollar (p:=p) HD.out HR.out h36);have hw0:IntKind.i64.wrap ((p:Int)+1)=(p:Int)+1:=by rw[IntKind.wrap_i64];omega
 have f0:=hB5.free 0;obtain⟨hd0,hhd⟩:∃ hd0,((l.drop (p+1)).headD 0).toNat=hd0:=⟨_,rfl⟩;have HHD:=Lib.hid hhd;obtain⟨pre,hpre⟩:∃ pre,dPre hd0=pre:=⟨_,rfl⟩;obtain⟨K0,hK0⟩:∃ K0,dKind hd0=K0:=⟨_,rfl⟩;have HPRE:=Lib.hid hpre;have HK0:=Lib.hid hK0
 have hpre2:p+1+pre≤s.size∧pre≤1∧(pre=0 ↔ ¬ (hd0=35∨hd0=34)):=by
  have h9:=dPre_le (l.drop (p+1));rw[hhd,hpre,List.length_drop,HLL.out] at h9;refine ⟨by omega,?_,?_⟩
  ·rw[← hpre];unfold dPre;split <;> omega
  ·rw[← hpre];unfold dPre;split <;> omega
 have hK20:=dKind_range hd0;rw[hK0] at hK20;clear _h39 h36 hhd hpre hK0
 by_cases hi:p+1<s.size
 ·obtain⟨d,hdd⟩:∃ d,s[p+1]=d:=⟨_,rfl⟩;have hdh:hd0=d.toNat:=by rw[← HHD.out,HDR.out (p+1) hi,hdd];rfl
  have hiI:(p:Int)+1<s.size:=by omega
  go_upto_if 198 with fail
  go_cut [7] from 189 to 214 (fun s7 w6=>s7 = .int .i64 ((p+1+pre:Nat):Int)∧Blk w6 tb [.int .i64 K0,.int .i64 p,.int .i64 0,.string ⟨#[]⟩,.bool G]∧Below tb wr w6)
  case first =>
   have hB6:=hB5.set 0 (.int .i64 20);have hb6:=hb5.setCell (p:=⟨tb,0,none⟩) (Nat.le_refl _) (.int .i64 20);obtain⟨w6,hw6⟩:∃ w6,w5.setCell ⟨tb,0,none⟩ (.int .i64 20)=w6:=⟨_,rfl⟩;rw[hw6] at hB6 hb6 ⊢;have f0:=hB6.free 0;have t0:=hB6.cell 0 rfl;clear hB5 hb5 hw6
   ·have hw2:IntKind.i64.wrap ((p:Int)+1+1)=(p:Int)+1+1:=by rw[IntKind.wrap_i64];omega
    by_cases h35:d.toNat=35
    ·have e1:((d.toNat:Int)==35)=true:=by rw[beq_iff_eq];omega
     obtain rfl:pre=1:=by omega
     obtain rfl:K0=21:=by rw[← HK0.out,hdh,h35];rfl
     clear hdh h35;go_wp2_with fail
     go_meet
     case rel=>exact⟨by go_num,hB6.set 0 (.int .i64 21),hb6.setCell (p:=⟨tb,0,none⟩) (Nat.le_refl _) _⟩
    ·have e1:((d.toNat:Int)==35)=false:=by rw[beq_eq_false_iff_ne];omega
     by_cases h34:d.toNat=34
     ·have e2:((d.toNat:Int)==34)=true:=by rw[beq_iff_eq];omega
      obtain rfl:pre=1:=by omega
      obtain rfl:K0=22:=by rw[← HK0.out,hdh,h34];rfl
      clear hdh h34 h35;go_wp2_with fail
      go_meet
      case rel=>exact⟨by go_num,hB6.set 0 (.int .i64 22),hb6.setCell (p:=⟨tb,0,none⟩) (Nat.le_refl _) _⟩
     ·have e2:((d.toNat:Int)==34)=false:=by rw[beq_eq_false_iff_ne];omega
      obtain rfl:pre=0:=by omega
      obtain rfl:K0=20:=by rw[← HK0.out,hdh];unfold dKind;rw[if_neg h35,if_neg h34]
      clear hdh h34 h35;go_wp2_with fail
      go_meet
      case rel=>exact⟨by go_num,hB6,hb6⟩
  case rest =>
   clear f0 t0 hB5 hb5 hdh hdd;rename World=>w6
   obtain⟨rfl,hB6,hb6⟩:=hcut;obtain⟨i2,hi2⟩:∃ i2,p+1+pre=i2:=⟨_,rfl⟩;have hi2s:i2≤s.size:=by omega
   have HI2:=Lib.hid hi2;have HMD:=Lib.hid (show (l.drop (p+1)).drop (dPre ((l.drop (p+1)).headD 0).toNat)=l.drop i2 from by rw[HHD.out,HPRE.out,List.drop_drop,hi2])
   rw[hi2];clear hi2;have t0:=hB6.cell 0 rfl;have f0:=hB6.free 0;have f2:=hB6.free 2;have f3:=hB6.free 3;have t3:=hB6.cell 3 rfl;have t2:=hB6.cell 2 rfl;have hbB6:=hb6;obtain⟨r,hr⟩:∃ r,runName (l.drop i2)=r:=⟨_,rfl⟩;have HRN:=Lib.hid hr;obtain⟨rl,hrl9⟩:∃ rl,r.length=rl:=⟨_,rfl⟩;have HRL:=Lib.hid hrl9
   have hrls:i2+rl≤s.size:=by
    have h9:=runName_le (l.drop i2);rw[hr,hrl9,List.length_drop,HLL.out] at h9;omega
   have HRUN:=Lib.hid (fun (W:World)=>zrRun_any s i2 W (by omega) hi2s)
   rw[HL.out,hr,hrl9] at HRUN;clear hr hrl9;go_wp2_with fail
   refine (HRUN.out _).mono ?_;rintro e w7 ⟨rfl,rfl⟩;rename World=>w6
   have hK20i:(K0:Int)=20 ↔ pre=0:=by
    have h9:=HK0.out;have h8:=HPRE.out;unfold dKind at h9;unfold dPre at h8;split at h9
    ·split at h8 <;> omega
    ·split at h9
     ·split at h8 <;> omega
     ·split at h8 <;> omega
   by_cases hr0:0<rl
   ·have hgt:(i2:Int)<((i2+rl:Nat):Int):=by omega
    obtain⟨sx,hsx⟩:∃ sx,s.extract i2 (i2+rl)=sx:=⟨_,rfl⟩
    have HSX:=Lib.hid (show sx=bs r from by
     rw[← hsx,extract_bs,HL.out,List.drop_take];congr 1
     have h9:r <+: l.drop i2:=by
      rw[← HRN.out];obtain⟨c9,m9,h7,h8,h6⟩:=run_first (x:=l.drop i2) (by rw[HRN.out,HRL.out];exact hr0)
      rw[h6,h7];exact List.prefix_cons_inj _ |>.2 (List.takeWhile_prefix _)
     rw[Nat.add_sub_cancel_left,← HRL.out];exact (List.prefix_iff_eq_take.1 h9).symm)
    have hsxs:sx.size=rl:=by rw[HSX.out,bs_size,HRL.out]
    have HDR2:=Lib.hid (zdollar_run (m:=l.drop (p+1)) (by rw[HMD.out,HRN.out,HRL.out];exact hr0))
    rw[HMD.out,HRN.out,HRL.out,HHD.out,HPRE.out,HK0.out] at HDR2
    by_cases h20:rl≤20
    ·rw[if_pos h20] at HDR2;have h20I:¬ (20:Int)<(rl:Int):=by omega
     go_wp2_with fail
     refine HM.out _ _ _ _ _ _ _ _ _ _ _ _ _ _ _ _ _ _ _ _ _ _ _ _ _ _ _ _ _ _ _ _ _ _ _ _ _ _ _ _ _ _ _ _ _ _ _ _ _ _ _ _ _ _ _ _ _ _ _ _ _ _ _ _ _ _ _ _ _ _ _ _ _ _ _ _ _ _ _ _ _ _ _ _ _ _ _ _ _ _ _ _ _ _ _ _ _ _ _ _ _ _ _ _ _ _ _ _ _ _ _ _ _ _ _ _ _ _ _ _ _ _ _ _ _ _ _ _ _ _ _ _ _ _ _ _ _ _ _ _ _ _ _ _ _ _ _ _ _ _ _ _ _ _ _ _ _ _ _ _ _ ?_;exact⟨K0,0,1+pre+rl,r,by have:=HI2.out;go_num,by omega,by have:=HI2.out;omega,by omega,Lib.hid (by rw[HTD.out,HDR2.out];show Except.ok (_,_)=Except.ok (_,_);congr 2;omega),by have h:=hB6.set 3 (.string sx);rw[HSX.out] at h ⊢;exact h,hb6.setCell (p:=⟨tb,3,none⟩) (Nat.le_refl _) _⟩
    ·rw[if_neg h20] at HDR2;have h20I:(20:Int)<(rl:Int):=by omega
     have HTE:=Lib.hid (id (show tokenB (l.drop p) p = .error (106,p) from by rw[HTD.out,HDR2.out]))
     have hB7:=hB6.set 3 (.string sx);have hb7:=hb6.setCell (p:=⟨tb,3,none⟩) (Nat.le_refl _) (.string sx);have hbB5:=hb7;have hRB5:=HRBW.out _ hbB5;go_upto_region 65 with fail
     obtain⟨w8,hw8⟩:∃ w8,w6.setCell ⟨tb,3,none⟩ (.string sx)=w8:=⟨_,rfl⟩;rw[hw8] at hRB5 hbB5 ⊢;clear hw8 hB7 hb7;go_wp2_with fail
     refine (rPlacedT_any 106 (p:Int) (by decide) _).mono ?_
     rintro e w9 ⟨fb,rfl,hfb,hge,hb9⟩;have hR9:=hRB5.below hb9;have r0:=hR9.cell 0 rfl;have r1:=hR9.cell 1 rfl;have rf0:=hR9.free 0;have rf1:=hR9.free 1;have htl9:=hbB5.size;go_wp2_with fail
     exact HRET.out _ w9 106 fb rfl rfl rfl (hbB5.trans (hb9.mono (by omega))) (by omega) hfb HTE
   ·obtain rfl:rl=0:=by omega
    rw[Nat.add_zero];have HR0:=Lib.hid (show (runName ((l.drop (p+1)).drop (dPre ((l.drop (p+1)).headD 0).toNat))).length=0 from by rw[HMD.out,HRN.out,HRL.out])
    by_cases hi:i2<s.size
    ·have hi2I:(i2:Int)<s.size:=by omega
     obtain⟨d,hdd⟩:∃ d,s[i2]=d:=⟨_,rfl⟩;have HDI:=Lib.hid (show l.drop i2=d :: l.drop (i2+1) from by rw[HDR.out i2 hi,hdd])
     have hw3:IntKind.i64.wrap ((i2:Int)+1)=(i2:Int)+1:=by rw[IntKind.wrap_i64];omega
     by_cases h42:d.toNat=42
     ·have e42:((d.toNat:Int)==42)=true:=by rw[beq_iff_eq];omega
      have HDS:=Lib.hid (zdollar_star (m:=l.drop (p+1)) (x:=l.drop (i2+1)) (by rw[HMD.out,HDI.out,show d=42 from UInt8.toNat_inj.1 h42]))
      rw[HHD.out,HPRE.out,HK0.out] at HDS;clear h42;go_wp2_with fail
      refine HM.out _ _ _ _ _ _ _ _ _ _ _ _ _ _ _ _ _ _ _ _ _ _ _ _ _ _ _ _ _ _ _ _ _ _ _ _ _ _ _ _ _ _ _ _ _ _ _ _ _ _ _ _ _ _ _ _ _ _ _ _ _ _ _ _ _ _ _ _ _ _ _ _ _ _ _ _ _ _ _ _ _ _ _ _ _ _ _ _ _ _ _ _ _ _ _ _ _ _ _ _ _ _ _ _ _ _ _ _ _ _ _ _ _ _ _ _ _ _ _ _ _ _ _ _ _ _ _ _ _ _ _ _ _ _ _ _ _ _ _ _ _ _ _ _ _ _ _ _ _ _ _ _ _ _ _ _ _ _ _ _ _ ?_;exact⟨K0,0,1+pre+1,[42],by have:=HI2.out;go_num,by omega,by have:=HI2.out;omega,by omega,Lib.hid (by rw[HTD.out,HDS.out];show Except.ok (_,_)=Except.ok (_,_);congr 2;omega),hB6.set 3 (.string ⟨#[42]⟩),hb6.setCell (p:=⟨tb,3,none⟩) (Nat.le_refl _) _⟩
     ·have e42:((d.toNat:Int)==42)=false:=by rw[beq_eq_false_iff_ne];omega
      have HN42:=Lib.hid (show ∀ x,(l.drop (p+1)).drop (dPre ((l.drop (p+1)).headD 0).toNat)≠42 :: x from fun x e=>by
       rw[HMD.out,HDI.out] at e;injection e with e1 _
       rw[e1] at h42;exact h42 rfl)
      clear h42
      by_cases hdg:pre=0∧49≤d.toNat∧d.toNat≤57
      ·obtain⟨hp0,hd1,hd2⟩:=hdg;subst hp0;have e20:((K0:Int)==20)=true:=by rw[beq_iff_eq];exact hK20i.2 rfl
       have d1:decide ((49:Int)≤(d.toNat:Int))=true:=by rw[decide_eq_true_eq];omega
       have d2:decide ((d.toNat:Int)≤57)=true:=by rw[decide_eq_true_eq];omega
       have hw8:IntKind.u8.wrap ((d.toNat:Int) - 48)=(d.toNat:Int) - 48:=by rw[show IntKind.u8.wrap ((d.toNat:Int) - 48)=((d.toNat:Int) - 48) % 256 from rfl];omega
       have hw9:IntKind.i64.wrap ((d.toNat:Int) - 48)=(d.toNat:Int) - 48:=by rw[IntKind.wrap_i64];omega
       have hdh:hd0=d.toNat:=by
        have h9:=HI2.out;rw[← HHD.out,show p+1=i2 by omega,HDI.out]
        rfl
       have HDN:=Lib.hid (zdollar_num (m:=l.drop (p+1)) (by rw[HHD.out,hdh];exact⟨hd1,hd2⟩))
       rw[HHD.out,hdh] at HDN;clear hK20i hpre2 hK20;clear hdh;go_wp2_with fail
       refine HM.out _ _ _ _ _ _ _ _ _ _ _ _ _ _ _ _ _ _ _ _ _ _ _ _ _ _ _ _ _ _ _ _ _ _ _ _ _ _ _ _ _ _ _ _ _ _ _ _ _ _ _ _ _ _ _ _ _ _ _ _ _ _ _ _ _ _ _ _ _ _ _ _ _ _ _ _ _ _ _ _ _ _ _ _ _ _ _ _ _ _ _ _ _ _ _ _ _ _ _ _ _ _ _ _ _ _ _ _ _ _ _ _ _ _ _ _ _ _ _ _ _ _ _ _ _ _ _ _ _ _ _ _ _ _ _ _ _ _ _ _ _ _ _ _ _ _ _ _ _ _ _ _ _ _ _ _ _ _ _ _ _ ?_;exact⟨23,d.toNat - 48,1+0+1,[],by have:=HI2.out;go_num,by omega,by have:=HI2.out;omega,by omega,Lib.hid (by rw[HTD.out,HDN.out]),by have h:=(hB6.set 0 (.int .i64 23)).set 2 (.int .i64 ((d.toNat:Int) - 48));rw[show ((d.toNat - 48:Nat):Int)=(d.toNat:Int) - 48 by omega];exact h,(hb6.setCell (p:=⟨tb,0,none⟩) (Nat.le_refl _) _).setCell (p:=⟨tb,2,none⟩) (Nat.le_refl _) _⟩
      ·have HTE:=Lib.hid (id (show tokenB (l.drop p) p = .error (106,p) from by
        rw[HTD.out,zdollar_none HR0.out HN42.out];intro h9
        by_cases hp0:pre=0
        ·have h8:=HI2.out;rw[show p+1=i2 by omega,HDI.out] at h9
         exact hdg ⟨hp0,h9⟩
        ·have h8:=hpre2.2.2;rw[HHD.out] at h9;omega))
       have hRB5:=HRBW.out _ hbB6;have hbB5:=hbB6
       by_cases hp0:pre=0
       ·have e20:((K0:Int)==20)=true:=by rw[beq_iff_eq];exact hK20i.2 hp0
        by_cases hd1:49≤d.toNat
        ·have d1:decide ((49:Int)≤(d.toNat:Int))=true:=by rw[decide_eq_true_eq];omega
         have d2:decide ((d.toNat:Int)≤57)=false:=by rw[decide_eq_false_iff_not];intro h;exact hdg ⟨hp0,hd1,by omega⟩
         clear hdg hd1;go_wp2_with fail
         refine (rPlacedT_any 106 (p:Int) (by decide) _).mono ?_
         rintro e w9 ⟨fb,rfl,hfb,hge,hb9⟩;have hR9:=hRB5.below hb9;have r0:=hR9.cell 0 rfl;have r1:=hR9.cell 1 rfl;have rf0:=hR9.free 0;have rf1:=hR9.free 1;have htl9:=hbB5.size;go_wp2_with fail
         exact HRET.out _ w9 106 fb rfl rfl rfl (hbB5.trans (hb9.mono (by omega))) (by omega) hfb HTE
        ·have d1:decide ((49:Int)≤(d.toNat:Int))=false:=by rw[decide_eq_false_iff_not];omega
         clear hdg hd1;go_wp2_with fail
         refine (rPlacedT_any 106 (p:Int) (by decide) _).mono ?_
         rintro e w9 ⟨fb,rfl,hfb,hge,hb9⟩;have hR9:=hRB5.below hb9;have r0:=hR9.cell 0 rfl;have r1:=hR9.cell 1 rfl;have rf0:=hR9.free 0;have rf1:=hR9.free 1;have htl9:=hbB5.size;go_wp2_with fail
         exact HRET.out _ w9 106 fb rfl rfl rfl (hbB5.trans (hb9.mono (by omega))) (by omega) hfb HTE
       ·have e20:((K0:Int)==20)=false:=by rw[beq_eq_false_iff_ne];exact fun h=>hp0 (hK20i.1 h)
        clear hdg;go_wp2_with fail
        refine (rPlacedT_any 106 (p:Int) (by decide) _).mono ?_
        rintro e w9 ⟨fb,rfl,hfb,hge,hb9⟩;have hR9:=hRB5.below hb9;have r0:=hR9.cell 0 rfl;have r1:=hR9.cell 1 rfl;have rf0:=hR9.free 0;have rf1:=hR9.free 1;have htl9:=hbB5.size;go_wp2_with fail
        exact HRET.out _ w9 106 fb rfl rfl rfl (hbB5.trans (hb9.mono (by omega))) (by omega) hfb HTE
    ·obtain rfl:i2=s.size:=by omega
     have e1:l.drop s.size=[]:=List.drop_of_length_le (by rw[HLL.out];exact Nat.le_refl _)
     have HTE:=Lib.hid (id (show tokenB (l.drop p) p = .error (106,p) from by
      rw[HTD.out,zdollar_none HR0.out (fun x e=>by rw[HMD.out,e1] at e;cases e)]
      intro h9
      by_cases hp0:pre=0
      ·have h8:=HI2.out;rw[show p+1=s.size by omega,e1] at h9
       simp at h9
      ·have h8:=hpre2.2.2;rw[HHD.out] at h9;omega))
     have hRB5:=HRBW.out _ hbB6;have hbB5:=hbB6;clear e1
     by_cases hp0:pre=0
     ·have e20:((K0:Int)==20)=true:=by rw[beq_iff_eq];exact hK20i.2 hp0
      go_wp2_with fail
      refine (rPlacedT_any 106 (p:Int) (by decide) _).mono ?_
      rintro e w9 ⟨fb,rfl,hfb,hge,hb9⟩;have hR9:=hRB5.below hb9;have r0:=hR9.cell 0 rfl;have r1:=hR9.cell 1 rfl;have rf0:=hR9.free 0;have rf1:=hR9.free 1;have htl9:=hbB5.size;go_wp2_with fail
      exact HRET.out _ w9 106 fb rfl rfl rfl (hbB5.trans (hb9.mono (by omega))) (by omega) hfb HTE
     ·have e20:((K0:Int)==20)=false:=by rw[beq_eq_false_iff_ne];exact fun h=>hp0 (hK20i.1 h)
      go_wp2_with fail
      refine (rPlacedT_any 106 (p:Int) (by decide) _).mono ?_
      rintro e w9 ⟨fb,rfl,hfb,hge,hb9⟩;have hR9:=hRB5.below hb9;have r0:=hR9.cell 0 rfl;have r1:=hR9.cell 1 rfl;have rf0:=hR9.free 0;have rf1:=hR9.free 1;have htl9:=hbB5.size;go_wp2_with fail
      exact HRET.out _ w9 106 fb rfl rfl rfl (hbB5.trans (hb9.mono (by omega))) (by omega) hfb HTE
 ·have hiI:¬ (p:Int)+1<s.size:=by omega
  have hiD:decide ((p:Int)+1<s.size)=false:=decide_eq_false hiI;have hps1:p+1=s.size:=by omega
  have HPS:=Lib.hid hps1;have HRUN:=Lib.hid (fun (W:World)=>zrRun_any s s.size W (by omega) (Nat.le_refl _))
  have e1:l.drop s.size=[]:=List.drop_of_length_le (by rw[HLL.out];exact Nat.le_refl _)
  rw[HL.out,e1] at HRUN
  have HTE:=Lib.hid (id (show tokenB (l.drop p) p = .error (106,p) from by
   rw[HTD.out,hps1,e1];rfl))
  have hB6:=hB5.set 0 (.int .i64 20);have hb6:=hb5.setCell (p:=⟨tb,0,none⟩) (Nat.le_refl _) (.int .i64 20);have hpI:(p:Int)+1=(s.size:Int):=by omega
  clear hiI hps1 e1 hpre2 hi;go_upto_region 52 with fail
  obtain⟨w6,hw6⟩:∃ w6,w5.setCell ⟨tb,0,none⟩ (.int .i64 20)=w6:=⟨_,rfl⟩;rw[hw6] at hB6 hb6 ⊢;have t0:w6.cell? ⟨tb,0,none⟩=some (.int .i64 20):=hB6.cell 0 rfl;have hbB5:=hb6;have hRB5:=HRBW.out w6 hbB5;clear f0 hB5 hb5 hw6 hpI;go_wp2_with fail
  refine (HRUN.out _).mono ?_;rintro e w7 ⟨rfl,rfl⟩;rename World=>w6
  rw[show ((s.size+(runName ([]:List UInt8)).length:Nat):Int)=(s.size:Int) from rfl]
  go_wp2_with fail
  refine (rPlacedT_any 106 (p:Int) (by decide) _).mono ?_
  rintro e w9 ⟨fb,rfl,hfb,hge,hb9⟩;have hR9:=hRB5.below hb9;have r0:=hR9.cell 0 rfl;have r1:=hR9.cell 1 rfl;have rf0:=hR9.free 0;have rf1:=hR9.free 1;have htl9:=hbB5.size;go_wp2_with fail
  exact HRET.out _ w9 106 fb rfl rfl rfl (hbB5.trans (hb9.mono (by omega))) (by omega) hfb HTE
end Go.Proofs.YtbplbehhlbkklaaGreatDoor
