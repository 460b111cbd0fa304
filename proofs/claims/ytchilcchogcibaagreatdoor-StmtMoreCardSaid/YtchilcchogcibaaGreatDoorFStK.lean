/- stmt.text as a plain function: a statement's text. -/
import Derived.Test.YtchilcchogcibaaGreatDoorFR5Law
set_option maxRecDepth 100000
set_option maxHeartbeats 16000000
namespace Go.Proofs.YtchilcchogcibaaGreatDoor
open Go.RowKit
attribute [local go_sem] ByteArray.extract_mk Ak AY
attribute [local go_sem ↓] Go.wp_at_zero Go.wp_at_succ
def Xg:List (List UInt8):=[GR,Lp,Ff,Fe,Eo,FH,Hw,FV,EZ,Dy,Gx,I8,GH]
theorem aZ{s:St}(hp:Am s=true):s.op∈Xg:=by
 unfold Am at hp;unfold Xg
 repeat' split at hp
 all_goals first|(cases hp;done)|(simp_all;done)|(rename_i h;rcases h with h|h<;>simp_all;done)|(rename_i h;rcases h with h|h|h|h<;>simp_all;done)
theorem Xf:∀l∈Xg,l.length<=10:=by decide
theorem Yp:∀l∈Xg,∀b∈l,b.toNat<128:=by decide
theorem TK(s:St)(p:StP)(w:World)(hok:s.Ok)(hQ:StQ 1000 s p (Old w.heap.size) w)(hV:FY w)(hp:Am s=true):Calls Tryz.prog 54 #[.agg (s.cells p).toArray] w (Ret (.string ⟨(Dk s).toArray⟩) w):=by
 have hops:=aZ hp;obtain⟨kc,ks,kw,hM⟩:=hQ.h;have l1:=hok.tb;have lt:=hok.ot;refine Gl s p w λw0 HW ks0 hb0 hz0 HST HB=>?_
 have HM2:Hid (∀Y:World,Below w0.heap.size w0 Y->StH s p kc ks kw (Old Y.heap.size) Y):=λY hY=>hM.keep (DK (hb0.trans (hY.mono hz0)) (Nat.le_trans hz0 hY.size))
 have HEV:Hid (∀Y:World,Below w0.heap.size w0 Y->FY Y):=λY hY=>hV.below (hb0.trans (hY.mono hz0))
 have HMQ:Hid (∀Y:World,Below w0.heap.size w0 Y->StQ 1000 s p (Old Y.heap.size) Y):=λY hY=>(HM2.out Y hY).q
 have hUP1:Hid (∀Y:World,Calls Tryz.prog 85 #[.string ⟨(s.op:List UInt8).toArray⟩] Y (Ret (.string ⟨(upperB s.op).toArray⟩) Y)):=λY=>Gu s.op Y (Nat.le_trans (Xf _ hops) (by decide)) (Yp _ hops)
 have lu:(upperB s.op).length<=10:=by rw[GX];exact Xf _ hops
 obtain⟨U,hU⟩:∃U,upperB s.op=U:=⟨_,rfl⟩;rw[hU]at hUP1 lu;obtain⟨R,hR⟩:∃R,Dk s=R:=⟨_,rfl⟩;rw[hR];have HR0:=Lib.hid hR;have HU0:=Lib.hid hU;have HOK:=Lib.hid hok;have HP0:=Lib.hid hp;have HOPS:=Lib.hid hops;have HMH:=Lib.hid hM;have HB0:=Lib.hid hb0;have HS1:Hid (∀Z:World,Below w0.heap.size w0 Z->Z.cell? ⟨w.heap.size,0,none⟩=some (.string ⟨s.op.toArray⟩)/\Z.cell? ⟨w.heap.size,1,none⟩=some (.string ⟨s.tb.toArray⟩)/\Z.cell? ⟨w.heap.size,2,none⟩=some (.string ⟨s.ot.toArray⟩)):=λZ hz=>⟨(HST.out Z hz).1,(HST.out Z hz).2.1,(HST.out Z hz).2.2.1⟩
 have HKB:Hid (∀Z:World,Below w0.heap.size w0 Z->Blk Z w.heap.size 34 (s.cells p).toArray):=λZ hz=>ks0.below hz ks0.lt
 clear hR hU hM hQ hV hok ks0 hb0 hops hp;have hc0:Below w0.heap.size w0 w0:=Below.refl _ _;obtain⟨s0,s1,s2⟩:=HS1.out w0 hc0;go_in
 go_upto_region 1 with fail
 rw[show w.alloc _=w0 from HW.out];clear HW;go_wp2_with fail;refine rgn HS1 λhHeld=>?_
 refine tS [0,1,5,6,9,10] ?_;iterate 6(refine tC ?_;refine ap ?_)
 refine tN ?_;refine rdy 2 λK hK=>?_
 go_simp
 (refine(hUP1.out _).mono ?_)<;>rintro en w2 ⟨rfl,hb2⟩<;>have hz2:=hb2.size<;>(try simp at hz2)
 go_wp2_with fail;refine hK.out _ _ (HS1.out _ (by exact bl)) λhHeld=>?_
 clear hK K;refine ap ?_;refine tS [3,4,7,8,11,12] ?_;iterate 6(refine tC ?_;refine ap ?_)
 refine tN ?_;refine wpAnyH_done (by kernel_rfl) ?_ _;have hb2':Below w0.heap.size w0 w2:=by exact bl
 clear s0 s1 s2;obtain⟨s0,s1,s2⟩:=HS1.out w2 hb2';have hz2':=hb2'.size;clear hb2 hz2 hHeld;obtain⟨WA,rfl⟩:∃W,W=w2:=⟨_,rfl⟩;by_cases hop:s.op=GR
 case pos=>
  have hok:=HOK.out;have hp:=HP0.out;have hM:=HMH.out;have hb0:=HB0.out;have HM2:=HM2.out;have HEV:=HEV.out;unfold Am at hp;rw[if_pos (by rw[hop];first|done|decide)]at hp;simp only[Bool.and_eq_true]at hp;obtain⟨⟨g1,gc⟩,_⟩:=hp;have l1:=Af g1;have HCR:Hid (∀Y:World,Below w0.heap.size w0 Y->Calls Tryz.prog 86 #[.agg (s.cells p).toArray] Y (Ret (.string ⟨(Dk s).toArray⟩) Y)):=λY hY=>by
   have:=SI s p Y hok (HMQ.out Y hY) (HEV Y hY) gc;unfold Dk;rw[if_pos hop];exact this
  have hU:=HU0.out;have hR:=HR0.out;rw[hR]at HCR;have o_create:(s.op==[99,114,101,97,116,101])=true:=by rw[hop];rfl
  clear hR hU hM hok hb0 hop HM2 HEV HR0 HU0 HOK HP0 HOPS HMH;have HX:=Lib.hid (HCR.out WA hb2');go_wp2_with (refine wpList_load_row rfl 34 _ rfl w.heap.size rfl 34 (s.cells p).toArray (0,0) _ (HKB.out _ hb2') Tryz.underlying34 rfl Au ?_);refine HX.out.mono ?_;rintro en w5 ⟨rfl,hb5⟩;have hbf:=HB.out.trans ((hb2'.trans (hb5.mono hz2')).mono hz0);go_wp2_with fail;go_ret;exact⟨rfl,hbf⟩
 have n_create:=Lib.hid hop;clear hop;by_cases hop:s.op=Lp
 case pos=>
  have hok:=HOK.out;have hp:=HP0.out;have hM:=HMH.out;have hb0:=HB0.out;have HM2:=HM2.out;have HEV:=HEV.out;unfold Am at hp;rw[if_neg (by rw[hop];first|done|decide)]at hp;rw[if_pos (by rw[hop];first|done|decide)]at hp;simp only[Bool.and_eq_true]at hp;obtain⟨g1,_⟩:=hp;have l1:=Af g1;have hU:=HU0.out;have hR:=HR0.out;unfold Dk at hR;rw[if_neg (by rw[hop];first|done|decide)]at hR;rw[if_pos (by rw[hop];first|done|decide)]at hR;have HR:=Lib.hid hR;have o_create:(s.op==[99,114,101,97,116,101])=false:=by rw[hop];rfl
  have o_drop:(s.op==[100,114,111,112])=true:=by rw[hop];rfl
  clear hR hU hM hok hb0 hop HM2 HEV HR0 HU0 HOK HP0 HOPS HMH;have hbf:=HB.out.trans (hb2'.mono hz0);go_wp2_with fail;go_ret;exact⟨by rw[<-HR.out];simp,hbf⟩
 have n_drop:=Lib.hid hop;clear hop;by_cases hop:s.op=Ff
 case pos=>
  have hok:=HOK.out;have hp:=HP0.out;have hM:=HMH.out;have hb0:=HB0.out;have HM2:=HM2.out;have HEV:=HEV.out;unfold Am at hp;iterate 2(rw[if_neg (by rw[hop];first|done|decide)]at hp)
  rw[if_pos (by rw[hop];first|done|decide)]at hp;simp only[Bool.and_eq_true]at hp;obtain⟨⟨g1,gw⟩,_⟩:=hp;have l1:=Af g1;obtain⟨_,nw,aw⟩:=BO gw;have hjl:(BM BB (s.row.map λv=>DT v.k v.i v.s)).length<=2000:=by
   have h1:=EW (λv:V=>DT v.k v.i v.s) 100 s.row (λv hv=>JS v.k v.i v.s (hok.row v hv).1);have h2:s.row.length * (100+3)<=12 * 103:=Nat.mul_le_mul_right _ nw;omega
  have HLV:Hid (∀Y:World,Below w0.heap.size w0 Y->Calls Tryz.prog 87 #[.slice p.row.a s.row.length p.row.c,.func (.func 88) #[] #[]] Y (Ret (.string ⟨(BM BB (s.row.map λv=>DT v.k v.i v.s)).toArray⟩) Y)):=λY hY=>
   UF p.row.a p.row.c s.row (λv:V=>DT v.k v.i v.s) 88 (Go.Proofs.enters_of Tryz.func88 (by kernel_rfl) rfl) Y hok.nW (by omega) (HM2 Y hY).2.2.2.2.2.1 (λv hv Z hz _=>QO v.k v.i v.s Z (hok.row v hv).1.1 (hok.row v hv).1.2 ((HEV Y hY).below hz).1 ((HEV Y hY).below hz).2.1)
  obtain⟨J,hJ⟩:∃X,BM BB (s.row.map λv=>DT v.k v.i v.s)=X:=⟨_,rfl⟩;rw[hJ]at HLV;rw[hJ]at hjl;have hU:=HU0.out;have hR:=HR0.out;unfold Dk at hR;iterate 2(rw[if_neg (by rw[hop];first|done|decide)]at hR)
  rw[if_pos (by rw[hop];first|done|decide)]at hR;rw[hJ]at hR;have HR:=Lib.hid hR;have HS2:Hid (∀Z:World,Below w0.heap.size w0 Z->Z.cell? ⟨w.heap.size,1,none⟩=some (.string ⟨s.tb.toArray⟩)/\Z.cell? ⟨w.heap.size,14,none⟩=some (.slice p.row.a s.row.length p.row.c)):=λZ hz=>⟨(HST.out Z hz).2.1,(HST.out Z hz).2.2.2.2.2.2.2.2.2.2.2.2.2.2.1⟩
  have o_create:(s.op==[99,114,101,97,116,101])=false:=by rw[hop];rfl
  have o_drop:(s.op==[100,114,111,112])=false:=by rw[hop];rfl
  have o_insert:(s.op==[105,110,115,101,114,116])=true:=by rw[hop];rfl
  clear hR hU hM hok hb0 hop HM2 HEV HR0 HU0 HOK HP0 HOPS HMH hJ;clear s0 s1 s2;obtain⟨s0,-,-⟩:=HS1.out WA hb2';have HSW:Hid (∀Z:World,Below WA.heap.size WA Z->Z.cell? ⟨w.heap.size,1,none⟩=some (.string ⟨s.tb.toArray⟩)/\Z.cell? ⟨w.heap.size,14,none⟩=some (.slice p.row.a s.row.length p.row.c)):=λZ hz=>HS2.out Z (hb2'.trans (hz.mono hz2'))
  have HBW:Hid (∀Z:World,Below WA.heap.size WA Z->Below w0.heap.size w0 Z):=λZ hz=>hb2'.trans (hz.mono hz2')
  go_wp2_with fail;clear s0;refine rgn HSW λhHeld=>?_
  refine tS [0,1,2,3,4,5] ?_;iterate 6(refine tC ?_;refine ap ?_)
  refine tN ?_;refine rdy 6 λK hK=>?_
  go_simp
  (refine(HLV.out _ (HBW.out _ (by exact bl))).mono ?_)<;>rintro en w6 ⟨rfl,hb6⟩<;>have hz6:=hb6.size<;>(try simp at hz6)
  go_wp2_with fail;refine hK.out _ _ (HSW.out _ (by exact bl)) λhHeld=>?_
  clear hK K;refine ap ?_;refine tS [7,8,9] ?_;iterate 3(refine tC ?_;refine ap ?_)
  refine tN ?_;refine wpAnyH_done (by kernel_rfl) ?_ _;have hbz:Below WA.heap.size WA w6:=by exact bl
  have hbf:=HB.out.trans ((HBW.out _ hbz).mono hz0);go_wp2_with fail;go_ret;exact⟨by rw[<-HR.out];simp,hbf⟩
 have n_insert:=Lib.hid hop;clear hop;by_cases hop:s.op=Fe
 case pos=>
  have hok:=HOK.out;have hp:=HP0.out;have hM:=HMH.out;have hb0:=HB0.out;have HM2:=HM2.out;have HEV:=HEV.out;unfold Am at hp;iterate 3(rw[if_neg (by rw[hop];first|done|decide)]at hp)
  rw[if_pos (by rw[hop];first|done|decide)]at hp;simp only[Bool.and_eq_true]at hp;obtain⟨⟨⟨g1,gs⟩,gq⟩,_⟩:=hp;have l1:=Af g1;obtain⟨_,nw,aw⟩:=BO gs;have hjl:(BM BB (s.sets.map Ih)).length<=60000:=by
   have h1:=EW Ih 7000 s.sets (λv hv=>QW (aw v hv) (hok.num.2.2.2 v hv));have h2:s.sets.length * (7000+3)<=8 * 7003:=Nat.mul_le_mul_right _ nw;omega
  have HLS:Hid (∀Y:World,Below w0.heap.size w0 Y->Calls Tryz.prog 91 #[.slice p.sets.a s.sets.length p.sets.c,.func (.func 89) #[] #[]] Y (Ret (.string ⟨(BM BB (s.sets.map Ih)).toArray⟩) Y)):=λY hY=>
   UH p.sets.a p.sets.c s.sets Ih 89 (Go.Proofs.enters_of Tryz.func89 (by kernel_rfl) rfl) Y hok.nS (by omega) 1000 ks (HM2 Y hY).2.2.2.2.2.2.1 (λx hx A' c' Z hz hex=>Vd x A' c' ks Z (aw x hx) (hok.sets x hx).2 (hok.num.2.2.2 x hx) (Ed hex.2.2.2 (Nat.le_refl _)) ((HEV Y hY).below hz))
  obtain⟨J,hJ⟩:∃X,BM BB (s.sets.map Ih)=X:=⟨_,rfl⟩;rw[hJ]at HLS;rw[hJ]at hjl;have hwl:=Ho gq hok.num.2.1;have HWH:Hid (∀Y:World,Below w0.heap.size w0 Y->Calls Tryz.prog 92 #[.agg #[.string ⟨s.whr.op.toArray⟩,.int .i64 s.whr.v.k,.int .i64 s.whr.v.i,.string ⟨s.whr.v.s.toArray⟩,.string ⟨s.whr.s.toArray⟩,.slice p.whr.a s.whr.l.length p.whr.c]] Y (Ret (.string ⟨(DY s.whr).toArray⟩) Y)):=λY hY=>by
   have:=IL s.whr p.whr.a p.whr.c kw Y hok.whr hok.num.2.1 (Ed (HM2 Y hY).2.2.2.2.2.2.2 (Nat.le_refl _)) (HEV Y hY);rw[Mc gq]at this;exact this
  obtain⟨K,hK⟩:∃X,DY s.whr=X:=⟨_,rfl⟩;rw[hK]at HWH;rw[hK]at hwl;have hU:=HU0.out;have hR:=HR0.out;unfold Dk at hR;iterate 3(rw[if_neg (by rw[hop];first|done|decide)]at hR)
  rw[if_pos (by rw[hop];first|done|decide)]at hR;rw[hJ,hK]at hR;have HR:=Lib.hid hR;have HS2:Hid (∀Z:World,Below w0.heap.size w0 Z->Z.cell? ⟨w.heap.size,1,none⟩=some (.string ⟨s.tb.toArray⟩)/\Z.cell? ⟨w.heap.size,15,none⟩=some (.slice p.sets.a s.sets.length p.sets.c)/\Z.cell? ⟨w.heap.size,16,none⟩=some (.string ⟨s.whr.op.toArray⟩)/\Z.cell? ⟨w.heap.size,17,none⟩=some (.int .i64 s.whr.v.k)/\Z.cell? ⟨w.heap.size,18,none⟩=some (.int .i64 s.whr.v.i)/\Z.cell? ⟨w.heap.size,19,none⟩=some (.string ⟨s.whr.v.s.toArray⟩)/\Z.cell? ⟨w.heap.size,20,none⟩=some (.string ⟨s.whr.s.toArray⟩)/\Z.cell? ⟨w.heap.size,21,none⟩=some (.slice p.whr.a s.whr.l.length p.whr.c)):=λZ hz=>⟨(HST.out Z hz).2.1,(HST.out Z hz).2.2.2.2.2.2.2.2.2.2.2.2.2.2.2.1,(HST.out Z hz).2.2.2.2.2.2.2.2.2.2.2.2.2.2.2.2.1,(HST.out Z hz).2.2.2.2.2.2.2.2.2.2.2.2.2.2.2.2.2.1,(HST.out Z hz).2.2.2.2.2.2.2.2.2.2.2.2.2.2.2.2.2.2.1,(HST.out Z hz).2.2.2.2.2.2.2.2.2.2.2.2.2.2.2.2.2.2.2.1,(HST.out Z hz).2.2.2.2.2.2.2.2.2.2.2.2.2.2.2.2.2.2.2.2.1,(HST.out Z hz).2.2.2.2.2.2.2.2.2.2.2.2.2.2.2.2.2.2.2.2.2.1⟩
  have o_create:(s.op==[99,114,101,97,116,101])=false:=by rw[hop];rfl
  have o_drop:(s.op==[100,114,111,112])=false:=by rw[hop];rfl
  have o_insert:(s.op==[105,110,115,101,114,116])=false:=by rw[hop];rfl
  have o_update:(s.op==[117,112,100,97,116,101])=true:=by rw[hop];rfl
  clear hR hU hM hok hb0 hop HM2 HEV HR0 HU0 HOK HP0 HOPS HMH hJ hK;clear s0 s1 s2;obtain⟨s0,-,-⟩:=HS1.out WA hb2';have HSW:Hid (∀Z:World,Below WA.heap.size WA Z->Z.cell? ⟨w.heap.size,1,none⟩=some (.string ⟨s.tb.toArray⟩)/\Z.cell? ⟨w.heap.size,15,none⟩=some (.slice p.sets.a s.sets.length p.sets.c)/\Z.cell? ⟨w.heap.size,16,none⟩=some (.string ⟨s.whr.op.toArray⟩)/\Z.cell? ⟨w.heap.size,17,none⟩=some (.int .i64 s.whr.v.k)/\Z.cell? ⟨w.heap.size,18,none⟩=some (.int .i64 s.whr.v.i)/\Z.cell? ⟨w.heap.size,19,none⟩=some (.string ⟨s.whr.v.s.toArray⟩)/\Z.cell? ⟨w.heap.size,20,none⟩=some (.string ⟨s.whr.s.toArray⟩)/\Z.cell? ⟨w.heap.size,21,none⟩=some (.slice p.whr.a s.whr.l.length p.whr.c)):=λZ hz=>HS2.out Z (hb2'.trans (hz.mono hz2'))
  have HBW:Hid (∀Z:World,Below WA.heap.size WA Z->Below w0.heap.size w0 Z):=λZ hz=>hb2'.trans (hz.mono hz2')
  go_wp2_with fail;clear s0;refine rgn HSW λhHeld=>?_
  refine tS [0,1,2,3,4,5,6,9,10] ?_;iterate 9(refine tC ?_;refine ap ?_)
  refine tN ?_;refine rdy 7 λK hK=>?_
  go_simp
  (refine(HLS.out _ (HBW.out _ (by exact bl))).mono ?_)<;>rintro en w7 ⟨rfl,hb7⟩<;>have hz7:=hb7.size<;>(try simp at hz7)
  go_wp2_with fail;refine hK.out _ _ (HSW.out _ (by exact bl)) λhHeld=>?_
  clear hK K;refine ap ?_;refine tS [8] (tC ?_);refine ap (tN ?_);refine rdy 11 λK hK=>?_
  go_simp
  (refine(HWH.out _ (HBW.out _ (by exact bl))).mono ?_)<;>rintro en w11 ⟨rfl,hb11⟩<;>have hz11:=hb11.size<;>(try simp at hz11)
  go_wp2_with fail;refine hK.out _ _ (HSW.out _ (by exact bl)) λhHeld=>?_
  clear hK K;refine ap ?_;refine tS [12,13] ?_;iterate 2(refine tC ?_;refine ap ?_)
  refine tN ?_;refine wpAnyH_done (by kernel_rfl) ?_ _;have hbz:Below WA.heap.size WA w11:=by exact bl
  have hbf:=HB.out.trans ((HBW.out _ hbz).mono hz0);go_wp2_with fail;go_ret;exact⟨by rw[<-HR.out];simp,hbf⟩
 have n_update:=Lib.hid hop;clear hop;by_cases hop:s.op=Eo
 case pos=>
  have hok:=HOK.out;have hp:=HP0.out;have hM:=HMH.out;have hb0:=HB0.out;have HM2:=HM2.out;have HEV:=HEV.out;unfold Am at hp;iterate 4(rw[if_neg (by rw[hop];first|done|decide)]at hp)
  rw[if_pos (by rw[hop];first|done|decide)]at hp;simp only[Bool.and_eq_true]at hp;obtain⟨⟨g1,gq⟩,_⟩:=hp;have l1:=Af g1;have hwl:=Ho gq hok.num.2.1;have HWH:Hid (∀Y:World,Below w0.heap.size w0 Y->Calls Tryz.prog 92 #[.agg #[.string ⟨s.whr.op.toArray⟩,.int .i64 s.whr.v.k,.int .i64 s.whr.v.i,.string ⟨s.whr.v.s.toArray⟩,.string ⟨s.whr.s.toArray⟩,.slice p.whr.a s.whr.l.length p.whr.c]] Y (Ret (.string ⟨(DY s.whr).toArray⟩) Y)):=λY hY=>by
   have:=IL s.whr p.whr.a p.whr.c kw Y hok.whr hok.num.2.1 (Ed (HM2 Y hY).2.2.2.2.2.2.2 (Nat.le_refl _)) (HEV Y hY);rw[Mc gq]at this;exact this
  obtain⟨K,hK⟩:∃X,DY s.whr=X:=⟨_,rfl⟩;rw[hK]at HWH;rw[hK]at hwl;have hU:=HU0.out;have hR:=HR0.out;unfold Dk at hR;iterate 4(rw[if_neg (by rw[hop];first|done|decide)]at hR)
  rw[if_pos (by rw[hop];first|done|decide)]at hR;rw[hK]at hR;have HR:=Lib.hid hR;have HS2:Hid (∀Z:World,Below w0.heap.size w0 Z->Z.cell? ⟨w.heap.size,1,none⟩=some (.string ⟨s.tb.toArray⟩)/\Z.cell? ⟨w.heap.size,16,none⟩=some (.string ⟨s.whr.op.toArray⟩)/\Z.cell? ⟨w.heap.size,17,none⟩=some (.int .i64 s.whr.v.k)/\Z.cell? ⟨w.heap.size,18,none⟩=some (.int .i64 s.whr.v.i)/\Z.cell? ⟨w.heap.size,19,none⟩=some (.string ⟨s.whr.v.s.toArray⟩)/\Z.cell? ⟨w.heap.size,20,none⟩=some (.string ⟨s.whr.s.toArray⟩)/\Z.cell? ⟨w.heap.size,21,none⟩=some (.slice p.whr.a s.whr.l.length p.whr.c)):=λZ hz=>⟨(HST.out Z hz).2.1,(HST.out Z hz).2.2.2.2.2.2.2.2.2.2.2.2.2.2.2.2.1,(HST.out Z hz).2.2.2.2.2.2.2.2.2.2.2.2.2.2.2.2.2.1,(HST.out Z hz).2.2.2.2.2.2.2.2.2.2.2.2.2.2.2.2.2.2.1,(HST.out Z hz).2.2.2.2.2.2.2.2.2.2.2.2.2.2.2.2.2.2.2.1,(HST.out Z hz).2.2.2.2.2.2.2.2.2.2.2.2.2.2.2.2.2.2.2.2.1,(HST.out Z hz).2.2.2.2.2.2.2.2.2.2.2.2.2.2.2.2.2.2.2.2.2.1⟩
  have o_create:(s.op==[99,114,101,97,116,101])=false:=by rw[hop];rfl
  have o_drop:(s.op==[100,114,111,112])=false:=by rw[hop];rfl
  have o_insert:(s.op==[105,110,115,101,114,116])=false:=by rw[hop];rfl
  have o_update:(s.op==[117,112,100,97,116,101])=false:=by rw[hop];rfl
  have o_delete:(s.op==[100,101,108,101,116,101])=true:=by rw[hop];rfl
  clear hR hU hM hok hb0 hop HM2 HEV HR0 HU0 HOK HP0 HOPS HMH hK;clear s0 s1 s2;obtain⟨s0,-,-⟩:=HS1.out WA hb2';have HSW:Hid (∀Z:World,Below WA.heap.size WA Z->Z.cell? ⟨w.heap.size,1,none⟩=some (.string ⟨s.tb.toArray⟩)/\Z.cell? ⟨w.heap.size,16,none⟩=some (.string ⟨s.whr.op.toArray⟩)/\Z.cell? ⟨w.heap.size,17,none⟩=some (.int .i64 s.whr.v.k)/\Z.cell? ⟨w.heap.size,18,none⟩=some (.int .i64 s.whr.v.i)/\Z.cell? ⟨w.heap.size,19,none⟩=some (.string ⟨s.whr.v.s.toArray⟩)/\Z.cell? ⟨w.heap.size,20,none⟩=some (.string ⟨s.whr.s.toArray⟩)/\Z.cell? ⟨w.heap.size,21,none⟩=some (.slice p.whr.a s.whr.l.length p.whr.c)):=λZ hz=>HS2.out Z (hb2'.trans (hz.mono hz2'))
  have HBW:Hid (∀Z:World,Below WA.heap.size WA Z->Below w0.heap.size w0 Z):=λZ hz=>hb2'.trans (hz.mono hz2')
  go_wp2_with fail;clear s0;refine rgn HSW λhHeld=>?_
  refine tS [0,1,2,3,4] ?_;iterate 5(refine tC ?_;refine ap ?_)
  refine tN ?_;refine rdy 5 λK hK=>?_
  go_simp
  (refine(HWH.out _ (HBW.out _ (by exact bl))).mono ?_)<;>rintro en w5 ⟨rfl,hb5⟩<;>have hz5:=hb5.size<;>(try simp at hz5)
  go_wp2_with fail;refine hK.out _ _ (HSW.out _ (by exact bl)) λhHeld=>?_
  clear hK K;refine ap ?_;refine tS [6,7] ?_;iterate 2(refine tC ?_;refine ap ?_)
  refine tN ?_;refine wpAnyH_done (by kernel_rfl) ?_ _;have hbz:Below WA.heap.size WA w5:=by exact bl
  have hbf:=HB.out.trans ((HBW.out _ hbz).mono hz0);go_wp2_with fail;go_ret;exact⟨by rw[<-HR.out];simp,hbf⟩
 have n_delete:=Lib.hid hop;clear hop;by_cases hop:s.op=FH
 case pos=>
  have hok:=HOK.out;have hp:=HP0.out;have hM:=HMH.out;have hb0:=HB0.out;have HM2:=HM2.out;have HEV:=HEV.out;unfold Am at hp;iterate 4(rw[if_neg (by rw[hop];first|done|decide)]at hp)
  rw[if_pos (by rw[hop];first|done|decide)]at hp;simp only[Bool.and_eq_true]at hp;obtain⟨⟨g1,gq⟩,_⟩:=hp;have l1:=Af g1;have hwl:=Ho gq hok.num.2.1;have HWH:Hid (∀Y:World,Below w0.heap.size w0 Y->Calls Tryz.prog 92 #[.agg #[.string ⟨s.whr.op.toArray⟩,.int .i64 s.whr.v.k,.int .i64 s.whr.v.i,.string ⟨s.whr.v.s.toArray⟩,.string ⟨s.whr.s.toArray⟩,.slice p.whr.a s.whr.l.length p.whr.c]] Y (Ret (.string ⟨(DY s.whr).toArray⟩) Y)):=λY hY=>by
   have:=IL s.whr p.whr.a p.whr.c kw Y hok.whr hok.num.2.1 (Ed (HM2 Y hY).2.2.2.2.2.2.2 (Nat.le_refl _)) (HEV Y hY);rw[Mc gq]at this;exact this
  obtain⟨K,hK⟩:∃X,DY s.whr=X:=⟨_,rfl⟩;rw[hK]at HWH;rw[hK]at hwl;have hU:=HU0.out;have hR:=HR0.out;unfold Dk at hR;iterate 5(rw[if_neg (by rw[hop];first|done|decide)]at hR)
  rw[if_pos (by rw[hop];first|done|decide)]at hR;rw[hK]at hR;have HR:=Lib.hid hR;have HS2:Hid (∀Z:World,Below w0.heap.size w0 Z->Z.cell? ⟨w.heap.size,1,none⟩=some (.string ⟨s.tb.toArray⟩)/\Z.cell? ⟨w.heap.size,16,none⟩=some (.string ⟨s.whr.op.toArray⟩)/\Z.cell? ⟨w.heap.size,17,none⟩=some (.int .i64 s.whr.v.k)/\Z.cell? ⟨w.heap.size,18,none⟩=some (.int .i64 s.whr.v.i)/\Z.cell? ⟨w.heap.size,19,none⟩=some (.string ⟨s.whr.v.s.toArray⟩)/\Z.cell? ⟨w.heap.size,20,none⟩=some (.string ⟨s.whr.s.toArray⟩)/\Z.cell? ⟨w.heap.size,21,none⟩=some (.slice p.whr.a s.whr.l.length p.whr.c)):=λZ hz=>⟨(HST.out Z hz).2.1,(HST.out Z hz).2.2.2.2.2.2.2.2.2.2.2.2.2.2.2.2.1,(HST.out Z hz).2.2.2.2.2.2.2.2.2.2.2.2.2.2.2.2.2.1,(HST.out Z hz).2.2.2.2.2.2.2.2.2.2.2.2.2.2.2.2.2.2.1,(HST.out Z hz).2.2.2.2.2.2.2.2.2.2.2.2.2.2.2.2.2.2.2.1,(HST.out Z hz).2.2.2.2.2.2.2.2.2.2.2.2.2.2.2.2.2.2.2.2.1,(HST.out Z hz).2.2.2.2.2.2.2.2.2.2.2.2.2.2.2.2.2.2.2.2.2.1⟩
  have o_create:(s.op==[99,114,101,97,116,101])=false:=by rw[hop];rfl
  have o_drop:(s.op==[100,114,111,112])=false:=by rw[hop];rfl
  have o_insert:(s.op==[105,110,115,101,114,116])=false:=by rw[hop];rfl
  have o_update:(s.op==[117,112,100,97,116,101])=false:=by rw[hop];rfl
  have o_delete:(s.op==[100,101,108,101,116,101])=false:=by rw[hop];rfl
  have o_select:(s.op==[115,101,108,101,99,116])=true:=by rw[hop];rfl
  clear hR hU hM hok hb0 hop HM2 HEV HR0 HU0 HOK HP0 HOPS HMH hK;clear s0 s1 s2;obtain⟨s0,-,-⟩:=HS1.out WA hb2';have HSW:Hid (∀Z:World,Below WA.heap.size WA Z->Z.cell? ⟨w.heap.size,1,none⟩=some (.string ⟨s.tb.toArray⟩)/\Z.cell? ⟨w.heap.size,16,none⟩=some (.string ⟨s.whr.op.toArray⟩)/\Z.cell? ⟨w.heap.size,17,none⟩=some (.int .i64 s.whr.v.k)/\Z.cell? ⟨w.heap.size,18,none⟩=some (.int .i64 s.whr.v.i)/\Z.cell? ⟨w.heap.size,19,none⟩=some (.string ⟨s.whr.v.s.toArray⟩)/\Z.cell? ⟨w.heap.size,20,none⟩=some (.string ⟨s.whr.s.toArray⟩)/\Z.cell? ⟨w.heap.size,21,none⟩=some (.slice p.whr.a s.whr.l.length p.whr.c)):=λZ hz=>HS2.out Z (hb2'.trans (hz.mono hz2'))
  have HBW:Hid (∀Z:World,Below WA.heap.size WA Z->Below w0.heap.size w0 Z):=λZ hz=>hb2'.trans (hz.mono hz2')
  go_wp2_with fail;clear s0;refine rgn HSW λhHeld=>?_
  refine tS [0,1,2,3,4] ?_;iterate 5(refine tC ?_;refine ap ?_)
  refine tN ?_;refine rdy 5 λK hK=>?_
  go_simp
  (refine(HWH.out _ (HBW.out _ (by exact bl))).mono ?_)<;>rintro en w5 ⟨rfl,hb5⟩<;>have hz5:=hb5.size<;>(try simp at hz5)
  go_wp2_with fail;refine hK.out _ _ (HSW.out _ (by exact bl)) λhHeld=>?_
  clear hK K;refine ap ?_;refine tS [6,7] ?_;iterate 2(refine tC ?_;refine ap ?_)
  refine tN ?_;refine wpAnyH_done (by kernel_rfl) ?_ _;have hbz:Below WA.heap.size WA w5:=by exact bl
  have hbf:=HB.out.trans ((HBW.out _ hbz).mono hz0);go_wp2_with fail;go_ret;exact⟨by rw[<-HR.out];simp,hbf⟩
 have n_select:=Lib.hid hop;clear hop;by_cases hop:s.op=Hw
 case pos=>
  have hok:=HOK.out;have hp:=HP0.out;have hM:=HMH.out;have hb0:=HB0.out;have HM2:=HM2.out;have HEV:=HEV.out;unfold Am at hp;iterate 5(rw[if_neg (by rw[hop];first|done|decide)]at hp)
  rw[if_pos (by rw[hop];first|done|decide)]at hp;simp only[Bool.and_eq_true]at hp;obtain⟨⟨g1,g2⟩,_⟩:=hp;have l1:=Af g1;have l2:=Af g2;have hU:=HU0.out;have hR:=HR0.out;unfold Dk at hR;iterate 6(rw[if_neg (by rw[hop];first|done|decide)]at hR)
  rw[if_pos (by rw[hop];first|done|decide)]at hR;rw[hU]at hR;have HR:=Lib.hid hR;have HS2:Hid (∀Z:World,Below w0.heap.size w0 Z->Z.cell? ⟨w.heap.size,0,none⟩=some (.string ⟨s.op.toArray⟩)/\Z.cell? ⟨w.heap.size,1,none⟩=some (.string ⟨s.tb.toArray⟩)/\Z.cell? ⟨w.heap.size,22,none⟩=some (.string ⟨s.role.toArray⟩)):=λZ hz=>⟨(HST.out Z hz).1,(HST.out Z hz).2.1,(HST.out Z hz).2.2.2.2.2.2.2.2.2.2.2.2.2.2.2.2.2.2.2.2.2.2⟩
  have o_create:(s.op==[99,114,101,97,116,101])=false:=by rw[hop];rfl
  have o_drop:(s.op==[100,114,111,112])=false:=by rw[hop];rfl
  have o_insert:(s.op==[105,110,115,101,114,116])=false:=by rw[hop];rfl
  have o_update:(s.op==[117,112,100,97,116,101])=false:=by rw[hop];rfl
  have o_delete:(s.op==[100,101,108,101,116,101])=false:=by rw[hop];rfl
  have o_select:(s.op==[115,101,108,101,99,116])=false:=by rw[hop];rfl
  have o_read:(s.op==[114,101,97,100])=true:=by rw[hop];rfl
  clear hR hU hM hok hb0 hop HM2 HEV HR0 HU0 HOK HP0 HOPS HMH;clear s0 s1 s2;obtain⟨s0,-,-⟩:=HS1.out WA hb2';have HSW:Hid (∀Z:World,Below WA.heap.size WA Z->Z.cell? ⟨w.heap.size,0,none⟩=some (.string ⟨s.op.toArray⟩)/\Z.cell? ⟨w.heap.size,1,none⟩=some (.string ⟨s.tb.toArray⟩)/\Z.cell? ⟨w.heap.size,22,none⟩=some (.string ⟨s.role.toArray⟩)):=λZ hz=>HS2.out Z (hb2'.trans (hz.mono hz2'))
  have HBW:Hid (∀Z:World,Below WA.heap.size WA Z->Below w0.heap.size w0 Z):=λZ hz=>hb2'.trans (hz.mono hz2')
  go_wp2_with fail;clear s0;refine rgn HSW λhHeld=>?_
  refine tS [0,1,5,6,9,10] ?_;iterate 6(refine tC ?_;refine ap ?_)
  refine tN ?_;refine rdy 2 λK hK=>?_
  go_simp
  (refine(hUP1.out _).mono ?_)<;>rintro en w2 ⟨rfl,hb2⟩<;>have hz2:=hb2.size<;>(try simp at hz2)
  go_wp2_with fail;refine hK.out _ _ (HSW.out _ (by exact bl)) λhHeld=>?_
  clear hK K;refine ap ?_;refine tS [3,4,7,8,11,12] ?_;iterate 6(refine tC ?_;refine ap ?_)
  refine tN ?_;refine wpAnyH_done (by kernel_rfl) ?_ _;have hbz:Below WA.heap.size WA w2:=by exact bl
  have hbf:=HB.out.trans ((HBW.out _ hbz).mono hz0);go_wp2_with fail;go_ret;exact⟨by rw[<-HR.out];simp,hbf⟩
 have n_read:=Lib.hid hop;clear hop;by_cases hop:s.op=FV
 case pos=>
  have hok:=HOK.out;have hp:=HP0.out;have hM:=HMH.out;have hb0:=HB0.out;have HM2:=HM2.out;have HEV:=HEV.out;unfold Am at hp;iterate 5(rw[if_neg (by rw[hop];first|done|decide)]at hp)
  rw[if_pos (by rw[hop];first|done|decide)]at hp;simp only[Bool.and_eq_true]at hp;obtain⟨⟨g1,g2⟩,_⟩:=hp;have l1:=Af g1;have l2:=Af g2;have hU:=HU0.out;have hR:=HR0.out;unfold Dk at hR;iterate 6(rw[if_neg (by rw[hop];first|done|decide)]at hR)
  rw[if_pos (by rw[hop];first|done|decide)]at hR;rw[hU]at hR;have HR:=Lib.hid hR;have HS2:Hid (∀Z:World,Below w0.heap.size w0 Z->Z.cell? ⟨w.heap.size,0,none⟩=some (.string ⟨s.op.toArray⟩)/\Z.cell? ⟨w.heap.size,1,none⟩=some (.string ⟨s.tb.toArray⟩)/\Z.cell? ⟨w.heap.size,22,none⟩=some (.string ⟨s.role.toArray⟩)):=λZ hz=>⟨(HST.out Z hz).1,(HST.out Z hz).2.1,(HST.out Z hz).2.2.2.2.2.2.2.2.2.2.2.2.2.2.2.2.2.2.2.2.2.2⟩
  have o_create:(s.op==[99,114,101,97,116,101])=false:=by rw[hop];rfl
  have o_drop:(s.op==[100,114,111,112])=false:=by rw[hop];rfl
  have o_insert:(s.op==[105,110,115,101,114,116])=false:=by rw[hop];rfl
  have o_update:(s.op==[117,112,100,97,116,101])=false:=by rw[hop];rfl
  have o_delete:(s.op==[100,101,108,101,116,101])=false:=by rw[hop];rfl
  have o_select:(s.op==[115,101,108,101,99,116])=false:=by rw[hop];rfl
  have o_read:(s.op==[114,101,97,100])=false:=by rw[hop];rfl
  have o_write:(s.op==[119,114,105,116,101])=true:=by rw[hop];rfl
  clear hR hU hM hok hb0 hop HM2 HEV HR0 HU0 HOK HP0 HOPS HMH;clear s0 s1 s2;obtain⟨s0,-,-⟩:=HS1.out WA hb2';have HSW:Hid (∀Z:World,Below WA.heap.size WA Z->Z.cell? ⟨w.heap.size,0,none⟩=some (.string ⟨s.op.toArray⟩)/\Z.cell? ⟨w.heap.size,1,none⟩=some (.string ⟨s.tb.toArray⟩)/\Z.cell? ⟨w.heap.size,22,none⟩=some (.string ⟨s.role.toArray⟩)):=λZ hz=>HS2.out Z (hb2'.trans (hz.mono hz2'))
  have HBW:Hid (∀Z:World,Below WA.heap.size WA Z->Below w0.heap.size w0 Z):=λZ hz=>hb2'.trans (hz.mono hz2')
  go_wp2_with fail;clear s0;refine rgn HSW λhHeld=>?_
  refine tS [0,1,5,6,9,10] ?_;iterate 6(refine tC ?_;refine ap ?_)
  refine tN ?_;refine rdy 2 λK hK=>?_
  go_simp
  (refine(hUP1.out _).mono ?_)<;>rintro en w2 ⟨rfl,hb2⟩<;>have hz2:=hb2.size<;>(try simp at hz2)
  go_wp2_with fail;refine hK.out _ _ (HSW.out _ (by exact bl)) λhHeld=>?_
  clear hK K;refine ap ?_;refine tS [3,4,7,8,11,12] ?_;iterate 6(refine tC ?_;refine ap ?_)
  refine tN ?_;refine wpAnyH_done (by kernel_rfl) ?_ _;have hbz:Below WA.heap.size WA w2:=by exact bl
  have hbf:=HB.out.trans ((HBW.out _ hbz).mono hz0);go_wp2_with fail;go_ret;exact⟨by rw[<-HR.out];simp,hbf⟩
 have n_write:=Lib.hid hop;clear hop;by_cases hop:s.op=EZ
 case pos=>
  have hok:=HOK.out;have hp:=HP0.out;have hM:=HMH.out;have hb0:=HB0.out;have HM2:=HM2.out;have HEV:=HEV.out;unfold Am at hp;iterate 5(rw[if_neg (by rw[hop];first|done|decide)]at hp)
  rw[if_pos (by rw[hop];first|done|decide)]at hp;simp only[Bool.and_eq_true]at hp;obtain⟨⟨g1,g2⟩,_⟩:=hp;have l1:=Af g1;have l2:=Af g2;have hdr:s.op.drop 2=[114,101,97,100]:=by rw[hop];rfl
  have hUP2:Hid (∀Y:World,Calls Tryz.prog 85 #[.string ⟨#[114,101,97,100]⟩] Y (Ret (.string ⟨(upperB [114,101,97,100]).toArray⟩) Y)):=λY=>Gu [114,101,97,100] Y (by decide) (by decide)
  have lu2:(upperB [114,101,97,100]).length<=10:=by decide
  have hU:=HU0.out;obtain⟨U2,hU2⟩:∃U,upperB [114,101,97,100]=U:=⟨_,rfl⟩;rw[hU2]at hUP2 lu2;have hR:=HR0.out;unfold Dk at hR;iterate 7(rw[if_neg (by rw[hop];first|done|decide)]at hR)
  rw[if_pos (by rw[hop];first|done|decide)]at hR;rw[hdr]at hR;rw[hU2]at hR;have HR:=Lib.hid hR;have HS2:Hid (∀Z:World,Below w0.heap.size w0 Z->Z.cell? ⟨w.heap.size,0,none⟩=some (.string ⟨#[117,110,114,101,97,100]⟩)/\Z.cell? ⟨w.heap.size,1,none⟩=some (.string ⟨s.tb.toArray⟩)/\Z.cell? ⟨w.heap.size,22,none⟩=some (.string ⟨s.role.toArray⟩)):=λZ hz=>⟨by have:=(HST.out Z hz).1;rw[hop]at this;exact this,(HST.out Z hz).2.1,(HST.out Z hz).2.2.2.2.2.2.2.2.2.2.2.2.2.2.2.2.2.2.2.2.2.2⟩
  have o_create:(s.op==[99,114,101,97,116,101])=false:=by rw[hop];rfl
  have o_drop:(s.op==[100,114,111,112])=false:=by rw[hop];rfl
  have o_insert:(s.op==[105,110,115,101,114,116])=false:=by rw[hop];rfl
  have o_update:(s.op==[117,112,100,97,116,101])=false:=by rw[hop];rfl
  have o_delete:(s.op==[100,101,108,101,116,101])=false:=by rw[hop];rfl
  have o_select:(s.op==[115,101,108,101,99,116])=false:=by rw[hop];rfl
  have o_read:(s.op==[114,101,97,100])=false:=by rw[hop];rfl
  have o_write:(s.op==[119,114,105,116,101])=false:=by rw[hop];rfl
  have o_unread:(s.op==[117,110,114,101,97,100])=true:=by rw[hop];rfl
  clear hR hU hM hok hb0 hop HM2 HEV HR0 HU0 HOK HP0 HOPS HMH hU2 hdr;clear s0 s1 s2;obtain⟨s0,-,-⟩:=HS1.out WA hb2';have HSW:Hid (∀Z:World,Below WA.heap.size WA Z->Z.cell? ⟨w.heap.size,0,none⟩=some (.string ⟨#[117,110,114,101,97,100]⟩)/\Z.cell? ⟨w.heap.size,1,none⟩=some (.string ⟨s.tb.toArray⟩)/\Z.cell? ⟨w.heap.size,22,none⟩=some (.string ⟨s.role.toArray⟩)):=λZ hz=>HS2.out Z (hb2'.trans (hz.mono hz2'))
  have HBW:Hid (∀Z:World,Below WA.heap.size WA Z->Below w0.heap.size w0 Z):=λZ hz=>hb2'.trans (hz.mono hz2')
  go_wp2_with fail;clear s0;refine rgn HSW λhHeld=>?_
  refine tS [0,1,2,6,7,10,11] ?_;iterate 7(refine tC ?_;refine ap ?_)
  refine tN ?_;refine rdy 3 λK hK=>?_
  go_simp
  (refine(hUP2.out _).mono ?_)<;>rintro en w3 ⟨rfl,hb3⟩<;>have hz3:=hb3.size<;>(try simp at hz3)
  go_wp2_with fail;refine hK.out _ _ (HSW.out _ (by exact bl)) λhHeld=>?_
  clear hK K;refine ap ?_;refine tS [4,5,8,9,12,13] ?_;iterate 6(refine tC ?_;refine ap ?_)
  refine tN ?_;refine wpAnyH_done (by kernel_rfl) ?_ _;have hbz:Below WA.heap.size WA w3:=by exact bl
  have hbf:=HB.out.trans ((HBW.out _ hbz).mono hz0);go_wp2_with fail;go_ret;exact⟨by rw[<-HR.out];simp,hbf⟩
 have n_unread:=Lib.hid hop;clear hop;by_cases hop:s.op=Dy
 case pos=>
  have hok:=HOK.out;have hp:=HP0.out;have hM:=HMH.out;have hb0:=HB0.out;have HM2:=HM2.out;have HEV:=HEV.out;unfold Am at hp;iterate 5(rw[if_neg (by rw[hop];first|done|decide)]at hp)
  rw[if_pos (by rw[hop];first|done|decide)]at hp;simp only[Bool.and_eq_true]at hp;obtain⟨⟨g1,g2⟩,_⟩:=hp;have l1:=Af g1;have l2:=Af g2;have hdr:s.op.drop 2=[119,114,105,116,101]:=by rw[hop];rfl
  have hUP2:Hid (∀Y:World,Calls Tryz.prog 85 #[.string ⟨#[119,114,105,116,101]⟩] Y (Ret (.string ⟨(upperB [119,114,105,116,101]).toArray⟩) Y)):=λY=>Gu [119,114,105,116,101] Y (by decide) (by decide)
  have lu2:(upperB [119,114,105,116,101]).length<=10:=by decide
  have hU:=HU0.out;obtain⟨U2,hU2⟩:∃U,upperB [119,114,105,116,101]=U:=⟨_,rfl⟩;rw[hU2]at hUP2 lu2;have hR:=HR0.out;unfold Dk at hR;iterate 7(rw[if_neg (by rw[hop];first|done|decide)]at hR)
  rw[if_pos (by rw[hop];first|done|decide)]at hR;rw[hdr]at hR;rw[hU2]at hR;have HR:=Lib.hid hR;have HS2:Hid (∀Z:World,Below w0.heap.size w0 Z->Z.cell? ⟨w.heap.size,0,none⟩=some (.string ⟨#[117,110,119,114,105,116,101]⟩)/\Z.cell? ⟨w.heap.size,1,none⟩=some (.string ⟨s.tb.toArray⟩)/\Z.cell? ⟨w.heap.size,22,none⟩=some (.string ⟨s.role.toArray⟩)):=λZ hz=>⟨by have:=(HST.out Z hz).1;rw[hop]at this;exact this,(HST.out Z hz).2.1,(HST.out Z hz).2.2.2.2.2.2.2.2.2.2.2.2.2.2.2.2.2.2.2.2.2.2⟩
  have o_create:(s.op==[99,114,101,97,116,101])=false:=by rw[hop];rfl
  have o_drop:(s.op==[100,114,111,112])=false:=by rw[hop];rfl
  have o_insert:(s.op==[105,110,115,101,114,116])=false:=by rw[hop];rfl
  have o_update:(s.op==[117,112,100,97,116,101])=false:=by rw[hop];rfl
  have o_delete:(s.op==[100,101,108,101,116,101])=false:=by rw[hop];rfl
  have o_select:(s.op==[115,101,108,101,99,116])=false:=by rw[hop];rfl
  have o_read:(s.op==[114,101,97,100])=false:=by rw[hop];rfl
  have o_write:(s.op==[119,114,105,116,101])=false:=by rw[hop];rfl
  have o_unread:(s.op==[117,110,114,101,97,100])=false:=by rw[hop];rfl
  have o_unwrite:(s.op==[117,110,119,114,105,116,101])=true:=by rw[hop];rfl
  clear hR hU hM hok hb0 hop HM2 HEV HR0 HU0 HOK HP0 HOPS HMH hU2 hdr;clear s0 s1 s2;obtain⟨s0,-,-⟩:=HS1.out WA hb2';have HSW:Hid (∀Z:World,Below WA.heap.size WA Z->Z.cell? ⟨w.heap.size,0,none⟩=some (.string ⟨#[117,110,119,114,105,116,101]⟩)/\Z.cell? ⟨w.heap.size,1,none⟩=some (.string ⟨s.tb.toArray⟩)/\Z.cell? ⟨w.heap.size,22,none⟩=some (.string ⟨s.role.toArray⟩)):=λZ hz=>HS2.out Z (hb2'.trans (hz.mono hz2'))
  have HBW:Hid (∀Z:World,Below WA.heap.size WA Z->Below w0.heap.size w0 Z):=λZ hz=>hb2'.trans (hz.mono hz2')
  go_wp2_with fail;clear s0;refine rgn HSW λhHeld=>?_
  refine tS [0,1,2,6,7,10,11] ?_;iterate 7(refine tC ?_;refine ap ?_)
  refine tN ?_;refine rdy 3 λK hK=>?_
  go_simp
  (refine(hUP2.out _).mono ?_)<;>rintro en w3 ⟨rfl,hb3⟩<;>have hz3:=hb3.size<;>(try simp at hz3)
  go_wp2_with fail;refine hK.out _ _ (HSW.out _ (by exact bl)) λhHeld=>?_
  clear hK K;refine ap ?_;refine tS [4,5,8,9,12,13] ?_;iterate 6(refine tC ?_;refine ap ?_)
  refine tN ?_;refine wpAnyH_done (by kernel_rfl) ?_ _;have hbz:Below WA.heap.size WA w3:=by exact bl
  have hbf:=HB.out.trans ((HBW.out _ hbz).mono hz0);go_wp2_with fail;go_ret;exact⟨by rw[<-HR.out];simp,hbf⟩
 have n_unwrite:=Lib.hid hop;clear hop;by_cases hop:s.op=Gx
 case pos=>
  have hok:=HOK.out;have hp:=HP0.out;have hM:=HMH.out;have hb0:=HB0.out;have HM2:=HM2.out;have HEV:=HEV.out;unfold Am at hp;iterate 6(rw[if_neg (by rw[hop];first|done|decide)]at hp)
  rw[if_pos (by rw[hop];first|done|decide)]at hp;simp only[Bool.and_eq_true]at hp;obtain⟨⟨⟨⟨g1,g3⟩,gn⟩,gk⟩,_⟩:=hp;have l1:=Af g1;have l3:=Af g3;obtain⟨_,nw,aw⟩:=BO gn;have hjl:(BM BB s.names).length<=2000:=by
   have h1:=EW (λx:List UInt8=>x) 16 s.names (λv hv=>Af (aw v hv));have h2:s.names.length * (16+3)<=8 * 19:=Nat.mul_le_mul_right _ nw;rw[List.map_id']at h1;omega
  have HLN:Hid (∀Y:World,Below w0.heap.size w0 Y->Calls Tryz.prog 93 #[.slice p.names.a s.names.length p.names.c,.func (.func 84) #[] #[]] Y (Ret (.string ⟨(BM BB s.names).toArray⟩) Y)):=λY hY=>by
   have:=UG p.names.a p.names.c s.names (λx:List UInt8=>x) 84 (Go.Proofs.enters_of Tryz.func84 (by kernel_rfl) rfl) Y hok.nN (by rw[List.map_id'];omega) (HM2 Y hY).1 (λx hx Z hz _=>Vf x Z);rw[List.map_id']at this;exact this
  obtain⟨J,hJ⟩:∃X,BM BB s.names=X:=⟨_,rfl⟩;rw[hJ]at HLN;rw[hJ]at hjl;have hwl:=Ez (a:=[32]) (by decide) gk hok.num.1;have HCK:Hid (∀Y:World,Below w0.heap.size w0 Y->Calls Tryz.prog 94 #[.string ⟨#[32]⟩,.agg #[.string ⟨s.chk.op.toArray⟩,.int .i64 s.chk.v.k,.int .i64 s.chk.v.i,.string ⟨s.chk.v.s.toArray⟩,.string ⟨s.chk.s.toArray⟩,.slice p.chk.a s.chk.l.length p.chk.c]] Y (Ret (.string ⟨(Bz [32] s.chk).toArray⟩) Y)):=λY hY=>by
   have:=GV [32] s.chk p.chk.a p.chk.c kc Y (by decide) hok.chk hok.num.1 (Ed (HM2 Y hY).2.2.2.2.1 (Nat.le_refl _)) (HEV Y hY);rw[KY gk]at this;exact this
  obtain⟨K,hK⟩:∃X,Bz [32] s.chk=X:=⟨_,rfl⟩;rw[hK]at HCK;rw[hK]at hwl;have hU:=HU0.out;have hR:=HR0.out;unfold Dk at hR;iterate 8(rw[if_neg (by rw[hop];first|done|decide)]at hR)
  rw[if_pos (by rw[hop];first|done|decide)]at hR;unfold JB at hR;rw[hU,hJ,hK]at hR;have HR:=Lib.hid hR;have HS2:Hid (∀Z:World,Below w0.heap.size w0 Z->Z.cell? ⟨w.heap.size,3,none⟩=some (.slice p.names.a s.names.length p.names.c)/\Z.cell? ⟨w.heap.size,8,none⟩=some (.string ⟨s.chk.op.toArray⟩)/\Z.cell? ⟨w.heap.size,9,none⟩=some (.int .i64 s.chk.v.k)/\Z.cell? ⟨w.heap.size,10,none⟩=some (.int .i64 s.chk.v.i)/\Z.cell? ⟨w.heap.size,11,none⟩=some (.string ⟨s.chk.v.s.toArray⟩)/\Z.cell? ⟨w.heap.size,12,none⟩=some (.string ⟨s.chk.s.toArray⟩)/\Z.cell? ⟨w.heap.size,13,none⟩=some (.slice p.chk.a s.chk.l.length p.chk.c)):=λZ hz=>⟨(HST.out Z hz).2.2.2.1,(HST.out Z hz).2.2.2.2.2.2.2.2.1,(HST.out Z hz).2.2.2.2.2.2.2.2.2.1,(HST.out Z hz).2.2.2.2.2.2.2.2.2.2.1,(HST.out Z hz).2.2.2.2.2.2.2.2.2.2.2.1,(HST.out Z hz).2.2.2.2.2.2.2.2.2.2.2.2.1,(HST.out Z hz).2.2.2.2.2.2.2.2.2.2.2.2.2.1⟩
  have o_create:(s.op==[99,114,101,97,116,101])=false:=by rw[hop];rfl
  have o_drop:(s.op==[100,114,111,112])=false:=by rw[hop];rfl
  have o_insert:(s.op==[105,110,115,101,114,116])=false:=by rw[hop];rfl
  have o_update:(s.op==[117,112,100,97,116,101])=false:=by rw[hop];rfl
  have o_delete:(s.op==[100,101,108,101,116,101])=false:=by rw[hop];rfl
  have o_select:(s.op==[115,101,108,101,99,116])=false:=by rw[hop];rfl
  have o_read:(s.op==[114,101,97,100])=false:=by rw[hop];rfl
  have o_write:(s.op==[119,114,105,116,101])=false:=by rw[hop];rfl
  have o_unread:(s.op==[117,110,114,101,97,100])=false:=by rw[hop];rfl
  have o_unwrite:(s.op==[117,110,119,114,105,116,101])=false:=by rw[hop];rfl
  have o_copy:(s.op==[99,111,112,121])=true:=by rw[hop];rfl
  clear hR hU hM hok hb0 hop HM2 HEV HR0 HU0 HOK HP0 HOPS HMH hJ hK;clear s0 s1 s2;obtain⟨s0,-,-⟩:=HS1.out WA hb2';have HSW:Hid (∀Z:World,Below WA.heap.size WA Z->Z.cell? ⟨w.heap.size,3,none⟩=some (.slice p.names.a s.names.length p.names.c)/\Z.cell? ⟨w.heap.size,8,none⟩=some (.string ⟨s.chk.op.toArray⟩)/\Z.cell? ⟨w.heap.size,9,none⟩=some (.int .i64 s.chk.v.k)/\Z.cell? ⟨w.heap.size,10,none⟩=some (.int .i64 s.chk.v.i)/\Z.cell? ⟨w.heap.size,11,none⟩=some (.string ⟨s.chk.v.s.toArray⟩)/\Z.cell? ⟨w.heap.size,12,none⟩=some (.string ⟨s.chk.s.toArray⟩)/\Z.cell? ⟨w.heap.size,13,none⟩=some (.slice p.chk.a s.chk.l.length p.chk.c)):=λZ hz=>HS2.out Z (hb2'.trans (hz.mono hz2'))
  have HBW:Hid (∀Z:World,Below WA.heap.size WA Z->Below w0.heap.size w0 Z):=λZ hz=>hb2'.trans (hz.mono hz2')
  go_wp2_with fail;clear s0;refine rgn HSW λhHeld=>?_
  refine tS [0,1,2,3,4,8,9] ?_;iterate 7(refine tC ?_;refine ap ?_)
  refine tN ?_;refine rdy 5 λK hK=>?_
  go_simp
  (refine(HLN.out _ (HBW.out _ (by exact bl))).mono ?_)<;>rintro en w5 ⟨rfl,hb5⟩<;>have hz5:=hb5.size<;>(try simp at hz5)
  go_wp2_with fail;refine hK.out _ _ (HSW.out _ (by exact bl)) λhHeld=>?_
  clear hK K;refine ap ?_;refine tS [6,7] ?_;iterate 2(refine tC ?_;refine ap ?_)
  refine tN ?_;refine rdy 10 λK hK=>?_
  go_simp
  (refine(HCK.out _ (HBW.out _ (by exact bl))).mono ?_)<;>rintro en w10 ⟨rfl,hb10⟩<;>have hz10:=hb10.size<;>(try simp at hz10)
  go_wp2_with fail;refine hK.out _ _ (HSW.out _ (by exact bl)) λhHeld=>?_
  clear hK K;refine ap ?_;refine tS [11,12] ?_;iterate 2(refine tC ?_;refine ap ?_)
  refine tN ?_;refine wpAnyH_done (by kernel_rfl) ?_ _;have hbz:Below WA.heap.size WA w10:=by exact bl
  have hbf:=HB.out.trans ((HBW.out _ hbz).mono hz0);go_wp2_with fail;go_ret;exact⟨by rw[<-HR.out];simp,hbf⟩
 have n_copy:=Lib.hid hop;clear hop;by_cases hop:s.op=I8
 case pos=>
  have hok:=HOK.out;have hp:=HP0.out;have hM:=HMH.out;have hb0:=HB0.out;have HM2:=HM2.out;have HEV:=HEV.out;unfold Am at hp;iterate 7(rw[if_neg (by rw[hop];first|done|decide)]at hp)
  rw[if_pos (by rw[hop];first|done|decide)]at hp;simp only[Bool.and_eq_true]at hp;obtain⟨⟨⟨⟨⟨g1,g3⟩,g4⟩,g2⟩,gk⟩,_⟩:=hp;have l1:=Af g1;have l2:=Af g2;have l3:=Af g3;have l4:=Af g4;have hwl:=Ez (a:=[32]) (by decide) gk hok.num.1;have HCK:Hid (∀Y:World,Below w0.heap.size w0 Y->Calls Tryz.prog 94 #[.string ⟨#[32]⟩,.agg #[.string ⟨s.chk.op.toArray⟩,.int .i64 s.chk.v.k,.int .i64 s.chk.v.i,.string ⟨s.chk.v.s.toArray⟩,.string ⟨s.chk.s.toArray⟩,.slice p.chk.a s.chk.l.length p.chk.c]] Y (Ret (.string ⟨(Bz [32] s.chk).toArray⟩) Y)):=λY hY=>by
   have:=GV [32] s.chk p.chk.a p.chk.c kc Y (by decide) hok.chk hok.num.1 (Ed (HM2 Y hY).2.2.2.2.1 (Nat.le_refl _)) (HEV Y hY);rw[KY gk]at this;exact this
  obtain⟨K,hK⟩:∃X,Bz [32] s.chk=X:=⟨_,rfl⟩;rw[hK]at HCK;rw[hK]at hwl;have hU:=HU0.out;have hR:=HR0.out;unfold Dk at hR;iterate 9(rw[if_neg (by rw[hop];first|done|decide)]at hR)
  rw[if_pos (by rw[hop];first|done|decide)]at hR;unfold JB at hR;rw[hU,hK]at hR;have HR:=Lib.hid hR;have HS2:Hid (∀Z:World,Below w0.heap.size w0 Z->Z.cell? ⟨w.heap.size,22,none⟩=some (.string ⟨s.role.toArray⟩)/\Z.cell? ⟨w.heap.size,5,none⟩=some (.string ⟨s.key.toArray⟩)/\Z.cell? ⟨w.heap.size,8,none⟩=some (.string ⟨s.chk.op.toArray⟩)/\Z.cell? ⟨w.heap.size,9,none⟩=some (.int .i64 s.chk.v.k)/\Z.cell? ⟨w.heap.size,10,none⟩=some (.int .i64 s.chk.v.i)/\Z.cell? ⟨w.heap.size,11,none⟩=some (.string ⟨s.chk.v.s.toArray⟩)/\Z.cell? ⟨w.heap.size,12,none⟩=some (.string ⟨s.chk.s.toArray⟩)/\Z.cell? ⟨w.heap.size,13,none⟩=some (.slice p.chk.a s.chk.l.length p.chk.c)):=λZ hz=>⟨(HST.out Z hz).2.2.2.2.2.2.2.2.2.2.2.2.2.2.2.2.2.2.2.2.2.2,(HST.out Z hz).2.2.2.2.2.1,(HST.out Z hz).2.2.2.2.2.2.2.2.1,(HST.out Z hz).2.2.2.2.2.2.2.2.2.1,(HST.out Z hz).2.2.2.2.2.2.2.2.2.2.1,(HST.out Z hz).2.2.2.2.2.2.2.2.2.2.2.1,(HST.out Z hz).2.2.2.2.2.2.2.2.2.2.2.2.1,(HST.out Z hz).2.2.2.2.2.2.2.2.2.2.2.2.2.1⟩
  have o_create:(s.op==[99,114,101,97,116,101])=false:=by rw[hop];rfl
  have o_drop:(s.op==[100,114,111,112])=false:=by rw[hop];rfl
  have o_insert:(s.op==[105,110,115,101,114,116])=false:=by rw[hop];rfl
  have o_update:(s.op==[117,112,100,97,116,101])=false:=by rw[hop];rfl
  have o_delete:(s.op==[100,101,108,101,116,101])=false:=by rw[hop];rfl
  have o_select:(s.op==[115,101,108,101,99,116])=false:=by rw[hop];rfl
  have o_read:(s.op==[114,101,97,100])=false:=by rw[hop];rfl
  have o_write:(s.op==[119,114,105,116,101])=false:=by rw[hop];rfl
  have o_unread:(s.op==[117,110,114,101,97,100])=false:=by rw[hop];rfl
  have o_unwrite:(s.op==[117,110,119,114,105,116,101])=false:=by rw[hop];rfl
  have o_copy:(s.op==[99,111,112,121])=false:=by rw[hop];rfl
  have o_join:(s.op==[106,111,105,110])=true:=by rw[hop];rfl
  clear hR hU hM hok hb0 hop HM2 HEV HR0 HU0 HOK HP0 HOPS HMH hK;clear s0 s1 s2;obtain⟨s0,-,-⟩:=HS1.out WA hb2';have HSW:Hid (∀Z:World,Below WA.heap.size WA Z->Z.cell? ⟨w.heap.size,22,none⟩=some (.string ⟨s.role.toArray⟩)/\Z.cell? ⟨w.heap.size,5,none⟩=some (.string ⟨s.key.toArray⟩)/\Z.cell? ⟨w.heap.size,8,none⟩=some (.string ⟨s.chk.op.toArray⟩)/\Z.cell? ⟨w.heap.size,9,none⟩=some (.int .i64 s.chk.v.k)/\Z.cell? ⟨w.heap.size,10,none⟩=some (.int .i64 s.chk.v.i)/\Z.cell? ⟨w.heap.size,11,none⟩=some (.string ⟨s.chk.v.s.toArray⟩)/\Z.cell? ⟨w.heap.size,12,none⟩=some (.string ⟨s.chk.s.toArray⟩)/\Z.cell? ⟨w.heap.size,13,none⟩=some (.slice p.chk.a s.chk.l.length p.chk.c)):=λZ hz=>HS2.out Z (hb2'.trans (hz.mono hz2'))
  have HBW:Hid (∀Z:World,Below WA.heap.size WA Z->Below w0.heap.size w0 Z):=λZ hz=>hb2'.trans (hz.mono hz2')
  go_wp2_with fail;clear s0;refine rgn HSW λhHeld=>?_
  refine tS [0,1,2,3,4,5,6,7,8,9,10] ?_;iterate 11(refine tC ?_;refine ap ?_)
  refine tN ?_;refine rdy 11 λK hK=>?_
  go_simp
  (refine(HCK.out _ (HBW.out _ (by exact bl))).mono ?_)<;>rintro en w11 ⟨rfl,hb11⟩<;>have hz11:=hb11.size<;>(try simp at hz11)
  go_wp2_with fail;refine hK.out _ _ (HSW.out _ (by exact bl)) λhHeld=>?_
  clear hK K;refine ap ?_;refine tS [12,13] ?_;iterate 2(refine tC ?_;refine ap ?_)
  refine tN ?_;refine wpAnyH_done (by kernel_rfl) ?_ _;have hbz:Below WA.heap.size WA w11:=by exact bl
  have hbf:=HB.out.trans ((HBW.out _ hbz).mono hz0);go_wp2_with fail;go_ret;exact⟨by rw[<-HR.out];simp,hbf⟩
 have n_join:=Lib.hid hop;clear hop;by_cases hop:s.op=GH
 case pos=>
  have hok:=HOK.out;have hp:=HP0.out;have hM:=HMH.out;have hb0:=HB0.out;have HM2:=HM2.out;have HEV:=HEV.out;unfold Am at hp;iterate 8(rw[if_neg (by rw[hop];first|done|decide)]at hp)
  rw[if_pos (by rw[hop];first|done|decide)]at hp;simp only[Bool.and_eq_true]at hp;obtain⟨⟨⟨⟨g1,g3⟩,gn⟩,gk⟩,_⟩:=hp;have l1:=Af g1;have l3:=Af g3;have hwl:=Ez (a:=[32]) (by decide) gk hok.num.1;have HCK:Hid (∀Y:World,Below w0.heap.size w0 Y->Calls Tryz.prog 94 #[.string ⟨#[32]⟩,.agg #[.string ⟨s.chk.op.toArray⟩,.int .i64 s.chk.v.k,.int .i64 s.chk.v.i,.string ⟨s.chk.v.s.toArray⟩,.string ⟨s.chk.s.toArray⟩,.slice p.chk.a s.chk.l.length p.chk.c]] Y (Ret (.string ⟨(Bz [32] s.chk).toArray⟩) Y)):=λY hY=>by
   have:=GV [32] s.chk p.chk.a p.chk.c kc Y (by decide) hok.chk hok.num.1 (Ed (HM2 Y hY).2.2.2.2.1 (Nat.le_refl _)) (HEV Y hY);rw[KY gk]at this;exact this
  obtain⟨K,hK⟩:∃X,Bz [32] s.chk=X:=⟨_,rfl⟩;rw[hK]at HCK;rw[hK]at hwl;obtain⟨n1,n2,an⟩:=BO gn;have hn2:s.names.length=2:=by omega
  obtain⟨x0,x1,hx⟩:∃x0 x1,s.names=[x0,x1]:=by
   match hx:s.names,hn2 with
   |[a,b],_=>exact⟨a,b,rfl⟩
  have la:=Af (an x0 (by rw[hx];simp));have lb:=Af (an x1 (by rw[hx];simp));obtain⟨nb,no,hpa,hnb,hnr⟩:=hM.1 (by omega);have e0:=hnr 0 x0 (by rw[hx];rfl);have e1:=hnr 1 x1 (by rw[hx];rfl);have hnb':nb<w.heap.size:=hnb;have HNM:Hid (∀Z:World,Below w0.heap.size w0 Z->Z.cell? ⟨w.heap.size,3,none⟩=some (.slice (some ⟨nb,no,none⟩) 2 p.names.c)/\Z.cell? ⟨nb,no,none⟩=some (.string ⟨x0.toArray⟩)/\Z.cell? ⟨nb,no+1,none⟩=some (.string ⟨x1.toArray⟩)):=λZ hz=>by
   have hc:∀o,Z.cell? ⟨nb,o,none⟩=w.cell? ⟨nb,o,none⟩:=λo=>(hb0.trans (hz.mono hz0)).cell (p:=⟨nb,o,none⟩) hnb'
   refine⟨?_,(hc _).trans e0,(hc _).trans e1⟩;have:=(HST.out Z hz).2.2.2.1;rw[hpa,hn2]at this;exact this
  have hU:=HU0.out;have hR:=HR0.out;unfold Dk at hR;iterate 10(rw[if_neg (by rw[hop];first|done|decide)]at hR)
  unfold JB at hR;rw[hx]at hR;rw[hU,hK]at hR;have HR:=Lib.hid hR;have HS2:Hid (∀Z:World,Below w0.heap.size w0 Z->Z.cell? ⟨w.heap.size,3,none⟩=some (.slice (some ⟨nb,no,none⟩) 2 p.names.c)/\Z.cell? ⟨w.heap.size,8,none⟩=some (.string ⟨s.chk.op.toArray⟩)/\Z.cell? ⟨w.heap.size,9,none⟩=some (.int .i64 s.chk.v.k)/\Z.cell? ⟨w.heap.size,10,none⟩=some (.int .i64 s.chk.v.i)/\Z.cell? ⟨w.heap.size,11,none⟩=some (.string ⟨s.chk.v.s.toArray⟩)/\Z.cell? ⟨w.heap.size,12,none⟩=some (.string ⟨s.chk.s.toArray⟩)/\Z.cell? ⟨w.heap.size,13,none⟩=some (.slice p.chk.a s.chk.l.length p.chk.c)/\Z.cell? ⟨nb,no,none⟩=some (.string ⟨x0.toArray⟩)/\Z.cell? ⟨nb,no+1,none⟩=some (.string ⟨x1.toArray⟩)):=λZ hz=>⟨(HNM.out Z hz).1,(HST.out Z hz).2.2.2.2.2.2.2.2.1,(HST.out Z hz).2.2.2.2.2.2.2.2.2.1,(HST.out Z hz).2.2.2.2.2.2.2.2.2.2.1,(HST.out Z hz).2.2.2.2.2.2.2.2.2.2.2.1,(HST.out Z hz).2.2.2.2.2.2.2.2.2.2.2.2.1,(HST.out Z hz).2.2.2.2.2.2.2.2.2.2.2.2.2.1,(HNM.out Z hz).2.1,(HNM.out Z hz).2.2⟩
  have o_create:(s.op==[99,114,101,97,116,101])=false:=by rw[hop];rfl
  have o_drop:(s.op==[100,114,111,112])=false:=by rw[hop];rfl
  have o_insert:(s.op==[105,110,115,101,114,116])=false:=by rw[hop];rfl
  have o_update:(s.op==[117,112,100,97,116,101])=false:=by rw[hop];rfl
  have o_delete:(s.op==[100,101,108,101,116,101])=false:=by rw[hop];rfl
  have o_select:(s.op==[115,101,108,101,99,116])=false:=by rw[hop];rfl
  have o_read:(s.op==[114,101,97,100])=false:=by rw[hop];rfl
  have o_write:(s.op==[119,114,105,116,101])=false:=by rw[hop];rfl
  have o_unread:(s.op==[117,110,114,101,97,100])=false:=by rw[hop];rfl
  have o_unwrite:(s.op==[117,110,119,114,105,116,101])=false:=by rw[hop];rfl
  have o_copy:(s.op==[99,111,112,121])=false:=by rw[hop];rfl
  have o_join:(s.op==[106,111,105,110])=false:=by rw[hop];rfl
  have o_group:(s.op==[103,114,111,117,112])=true:=by rw[hop];rfl
  clear hR hU hM hok hb0 hop HM2 HEV HR0 HU0 HOK HP0 HOPS HMH hK hx hpa hn2 e0 e1 an;clear s0 s1 s2;obtain⟨s0,-,-⟩:=HS1.out WA hb2';have HSW:Hid (∀Z:World,Below WA.heap.size WA Z->Z.cell? ⟨w.heap.size,3,none⟩=some (.slice (some ⟨nb,no,none⟩) 2 p.names.c)/\Z.cell? ⟨w.heap.size,8,none⟩=some (.string ⟨s.chk.op.toArray⟩)/\Z.cell? ⟨w.heap.size,9,none⟩=some (.int .i64 s.chk.v.k)/\Z.cell? ⟨w.heap.size,10,none⟩=some (.int .i64 s.chk.v.i)/\Z.cell? ⟨w.heap.size,11,none⟩=some (.string ⟨s.chk.v.s.toArray⟩)/\Z.cell? ⟨w.heap.size,12,none⟩=some (.string ⟨s.chk.s.toArray⟩)/\Z.cell? ⟨w.heap.size,13,none⟩=some (.slice p.chk.a s.chk.l.length p.chk.c)/\Z.cell? ⟨nb,no,none⟩=some (.string ⟨x0.toArray⟩)/\Z.cell? ⟨nb,no+1,none⟩=some (.string ⟨x1.toArray⟩)):=λZ hz=>HS2.out Z (hb2'.trans (hz.mono hz2'))
  have HBW:Hid (∀Z:World,Below WA.heap.size WA Z->Below w0.heap.size w0 Z):=λZ hz=>hb2'.trans (hz.mono hz2')
  go_wp2_with fail;clear s0;refine rgn HSW λhHeld=>?_
  refine tS [0,1,2,3,4,5,6,7,8,9,10,11,12,13,14] ?_;iterate 15(refine tC ?_;refine ap ?_)
  refine tN ?_;refine rdy 15 λK hK=>?_
  go_simp
  (refine(HCK.out _ (HBW.out _ (by exact bl))).mono ?_)<;>rintro en w15 ⟨rfl,hb15⟩<;>have hz15:=hb15.size<;>(try simp at hz15)
  go_wp2_with fail;refine hK.out _ _ (HSW.out _ (by exact bl)) λhHeld=>?_
  clear hK K;refine ap ?_;refine tS [16,17] ?_;iterate 2(refine tC ?_;refine ap ?_)
  refine tN ?_;refine wpAnyH_done (by kernel_rfl) ?_ _;have hbz:Below WA.heap.size WA w15:=by exact bl
  have hbf:=HB.out.trans ((HBW.out _ hbz).mono hz0);go_wp2_with fail;go_ret;exact⟨by rw[<-HR.out];simp,hbf⟩
 have n_group:=Lib.hid hop;clear hop;exfalso;have h:=HOPS.out;unfold Xg at h;simp only[List.mem_cons,List.not_mem_nil,or_false,n_create.out,n_drop.out,n_insert.out,n_update.out,n_delete.out,n_select.out,n_read.out,n_write.out,n_unread.out,n_unwrite.out,n_copy.out,n_join.out,n_group.out]at h
end Go.Proofs.YtchilcchogcibaaGreatDoor
