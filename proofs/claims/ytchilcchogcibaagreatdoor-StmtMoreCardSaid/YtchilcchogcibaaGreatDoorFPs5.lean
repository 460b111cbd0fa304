/- The statement parser's statement at GRANT and REVOKE; stmt.Text and stmt.May as plain functions; A region that draws its order and loads, or stores, a whole row of cells; stmt.Parse at a text whose first word is GRANT, or REVOKE. -/
import Derived.ChangeMaps4
import Derived.Deep.MidRow
import Derived.Test.YtchilcchogcibaaGreatDoorFPs3
import Derived.Test.YtchilcchogcibaaGreatDoorFStK
set_option maxRecDepth 100000
set_option maxHeartbeats 4000000
namespace Go.Proofs.YtchilcchogcibaaGreatDoor
section
open Go.RowKit Go.ChangeMaps Go.MapKept
attribute [local go_sem] ByteArray.extract_mk Ak AY
attribute [local go_sem ↓] Go.wp_at_zero Go.wp_at_succ
theorem Pj{w:World}{b:Nat}{es:Array MapEntry}{clock:Nat}(s:List UInt8)(val:Value)(h:w.heap[b]? = some (.map es clock))(hf:Instr.findNow .string (.string ⟨s.toArray⟩) es.toList 0=some none):
  ∃w':World,(Instr.mapUpdate 132 (.map (some b)) (.string ⟨s.toArray⟩) val).run Tryz.prog w=.ok () w'/\w'.heap[b]? = some (.map (es.push ⟨.string ⟨s.toArray⟩,val,clock⟩) (clock+1))/\w.grownBy w' (some b):=by
 have hlt:b<w.heap.size:=(Array.getElem?_eq_some_iff.1 h).1;have hc:(Instr.checkKey false 10000 9 (.string ⟨s.toArray⟩)).run Tryz.prog w=.ok () w:=MapKept.run_checkKey (k:=.string ⟨s.toArray⟩) Tryz.underlying9 (by simp[MapKept.IsKey]) false 9999;refine⟨setBlock w b (.map (es.push ⟨.string ⟨s.toArray⟩,val,clock⟩) (clock+1)), ?_,by simp[setBlock,hlt],⟨rfl,rfl,rfl,by simp[setBlock],λk _ hne=>?_⟩⟩
 ·simp[Instr.mapUpdate,run_underlying Tryz.underlying132,MapKept.run_getObj_map h,hc,MapKept.run_findKey Tryz.underlying9 hf,MapKept.run_setObj_map _ h,Result.andThen,setBlock]
 ·have:k≠b:=λe=>hne (by rw[e])
  simp[setBlock,Ne.symm this]
def meV(g f:Nat):Value:=.func (.func f) #[.pointer (some ⟨g,0,none⟩)] #[]
def P9(g:Nat):Array MapEntry:=#[]
 |>.push ⟨.string ⟨([67,82,69,65,84,69]:List UInt8).toArray⟩,meV g 97,0⟩
 |>.push ⟨.string ⟨([68,82,79,80]:List UInt8).toArray⟩,meV g 98,1⟩
 |>.push ⟨.string ⟨([73,78,83,69,82,84]:List UInt8).toArray⟩,meV g 99,2⟩
 |>.push ⟨.string ⟨([85,80,68,65,84,69]:List UInt8).toArray⟩,meV g 100,3⟩
 |>.push ⟨.string ⟨([68,69,76,69,84,69]:List UInt8).toArray⟩,meV g 101,4⟩
 |>.push ⟨.string ⟨([83,69,76,69,67,84]:List UInt8).toArray⟩,meV g 102,5⟩
 |>.push ⟨.string ⟨([71,82,65,78,84]:List UInt8).toArray⟩,meV g 103,6⟩
 |>.push ⟨.string ⟨([82,69,86,79,75,69]:List UInt8).toArray⟩,meV g 104,7⟩
 |>.push ⟨.string ⟨([77,73,71,82,65,84,69]:List UInt8).toArray⟩,meV g 105,8⟩
theorem lookK{w:World}{b i g f:Nat}(op:List UInt8)(h:w.heap[b]? = some (.map (P9 g) 9))(hf:Instr.findNow .string (.string ⟨op.toArray⟩) (P9 g).toList 0=some (some (i,meV g f))):
  (Instr.lookup 132 (.map (some b)) (.string ⟨op.toArray⟩) true).run Tryz.prog w=.ok (.tuple #[meV g f,.bool true]) w:=by
 have hc:∀e,(Instr.checkKey e 10000 9 (.string ⟨op.toArray⟩)).run Tryz.prog w=.ok () w:=λe=>MapKept.run_checkKey (k:=.string ⟨op.toArray⟩) Tryz.underlying9 (by simp[MapKept.IsKey]) e 9999
 simp[Instr.lookup,run_underlying Tryz.underlying132,MapKept.run_getObj_map h,hc,MapKept.run_findKey Tryz.underlying9 hf,Result.andThen]
theorem ah(g:Nat)(w:World):∃w0 w1 w2 w3 w4 w5 w6 w7 w8 w9:World,(Instr.makeMap 132 none).run Tryz.prog w=.ok (.map (some w.heap.size)) w0 ∧
  (Instr.mapUpdate 132 (.map (some w.heap.size)) (.string ⟨([67,82,69,65,84,69]:List UInt8).toArray⟩) (meV g 97)).run Tryz.prog w0=.ok () w1 ∧
  (Instr.mapUpdate 132 (.map (some w.heap.size)) (.string ⟨([68,82,79,80]:List UInt8).toArray⟩) (meV g 98)).run Tryz.prog w1=.ok () w2 ∧
  (Instr.mapUpdate 132 (.map (some w.heap.size)) (.string ⟨([73,78,83,69,82,84]:List UInt8).toArray⟩) (meV g 99)).run Tryz.prog w2=.ok () w3 ∧
  (Instr.mapUpdate 132 (.map (some w.heap.size)) (.string ⟨([85,80,68,65,84,69]:List UInt8).toArray⟩) (meV g 100)).run Tryz.prog w3=.ok () w4 ∧
  (Instr.mapUpdate 132 (.map (some w.heap.size)) (.string ⟨([68,69,76,69,84,69]:List UInt8).toArray⟩) (meV g 101)).run Tryz.prog w4=.ok () w5 ∧
  (Instr.mapUpdate 132 (.map (some w.heap.size)) (.string ⟨([83,69,76,69,67,84]:List UInt8).toArray⟩) (meV g 102)).run Tryz.prog w5=.ok () w6 ∧
  (Instr.mapUpdate 132 (.map (some w.heap.size)) (.string ⟨([71,82,65,78,84]:List UInt8).toArray⟩) (meV g 103)).run Tryz.prog w6=.ok () w7 ∧
  (Instr.mapUpdate 132 (.map (some w.heap.size)) (.string ⟨([82,69,86,79,75,69]:List UInt8).toArray⟩) (meV g 104)).run Tryz.prog w7=.ok () w8 ∧
  (Instr.mapUpdate 132 (.map (some w.heap.size)) (.string ⟨([77,73,71,82,65,84,69]:List UInt8).toArray⟩) (meV g 105)).run Tryz.prog w8=.ok () w9 ∧
  w9.heap[w.heap.size]? = some (.map (P9 g) 9)/\Below w.heap.size w w9:=by
 have m0:(Instr.makeMap 132 none).run Tryz.prog w=.ok (.map (some w.heap.size)) (w.alloc (.map #[] 0)):=run_makeMap_plain w _;have h0:(w.alloc (.map #[] 0)).heap[w.heap.size]? = some (.map #[] 0):=heap_alloc_new w _;have g0:Below w.heap.size w (w.alloc (.map #[] 0)):=(Below.refl _ _).alloc (Nat.le_refl _) _
 generalize w.alloc (.map #[] 0)=w0 at *
 obtain⟨w1,m1,h1,y1⟩:=Pj ([67,82,69,65,84,69]) (meV g 97) h0 (by kernel_rfl);have g1:=g0.grown y1 g0.size (λk hk=>by cases hk;exact Nat.le_refl _);clear y1 h0 g0;obtain⟨w2,m2,h2,y2⟩:=Pj ([68,82,79,80]) (meV g 98) h1 (by kernel_rfl);have g2:=g1.grown y2 g1.size (λk hk=>by cases hk;exact Nat.le_refl _);clear y2 h1 g1;obtain⟨w3,m3,h3,y3⟩:=Pj ([73,78,83,69,82,84]) (meV g 99) h2 (by kernel_rfl);have g3:=g2.grown y3 g2.size (λk hk=>by cases hk;exact Nat.le_refl _);clear y3 h2 g2;obtain⟨w4,m4,h4,y4⟩:=Pj ([85,80,68,65,84,69]) (meV g 100) h3 (by kernel_rfl);have g4:=g3.grown y4 g3.size (λk hk=>by cases hk;exact Nat.le_refl _);clear y4 h3 g3;obtain⟨w5,m5,h5,y5⟩:=Pj ([68,69,76,69,84,69]) (meV g 101) h4 (by kernel_rfl);have g5:=g4.grown y5 g4.size (λk hk=>by cases hk;exact Nat.le_refl _);clear y5 h4 g4;obtain⟨w6,m6,h6,y6⟩:=Pj ([83,69,76,69,67,84]) (meV g 102) h5 (by kernel_rfl);have g6:=g5.grown y6 g5.size (λk hk=>by cases hk;exact Nat.le_refl _);clear y6 h5 g5;obtain⟨w7,m7,h7,y7⟩:=Pj ([71,82,65,78,84]) (meV g 103) h6 (by kernel_rfl);have g7:=g6.grown y7 g6.size (λk hk=>by cases hk;exact Nat.le_refl _);clear y7 h6 g6;obtain⟨w8,m8,h8,y8⟩:=Pj ([82,69,86,79,75,69]) (meV g 104) h7 (by kernel_rfl);have g8:=g7.grown y8 g7.size (λk hk=>by cases hk;exact Nat.le_refl _);clear y8 h7 g7;obtain⟨w9,m9,h9,y9⟩:=Pj ([77,73,71,82,65,84,69]) (meV g 105) h8 (by kernel_rfl);have g9:=g8.grown y9 g8.size (λk hk=>by cases hk;exact Nat.le_refl _);clear y9 h8 g8;exact⟨w0,w1,w2,w3,w4,w5,w6,w7,w8,w9,m0,m1,m2,m3,m4,m5,m6,m7,m8,m9,h9,g9⟩
end
section
open Go.RowKit
attribute [local go_sem] ByteArray.extract_mk Ak AY
attribute [local go_sem ↓] Go.wp_at_zero Go.wp_at_succ
theorem Ou:∀l:List (List UInt8),(∀c∈l,Ai c=true)->(Eh l).length<=l.length * 40
 |[],_=>by simp[Eh]
 |c::r,h=>by
  have ih:=Ou r (λx hx=>h x (by simp[hx]));have:=Af (h c (by simp));unfold Eh at ih ⊢;rw[List.flatMap_cons,List.length_append,List.length_cons];simp at ih ⊢;omega
theorem O8:∀l:List Rf,(∀c∈l,G9 c=true)->(Ei l).length<=l.length * 80
 |[],_=>by simp[Ei]
 |c::r,h=>by
  have ih:=O8 r (λx hx=>h x (by simp[hx]));have h0:=h c (by simp);unfold G9 at h0;simp only[Bool.and_eq_true]at h0;have h1:=Af h0.1;have h2:=Af h0.2;unfold Ei at ih ⊢;rw[List.flatMap_cons,List.length_append,List.length_cons];simp at ih ⊢;omega
theorem VP(s:St)(hok:s.Ok)(h:Am s=true):(Dk s).length<=200000:=by
 have hno:=hok.op;have hnt:=hok.ot;have htb:=hok.tb;have hro:=hok.role;have hke:=hok.key;have hu:=GX s.op;have hu2:=GX (s.op.drop 2);have hd2:(s.op.drop 2).length<=s.op.length:=by rw[List.length_drop];omega
 have hmig:(JB s).length<=4000:=by unfold JB;simp;omega
 unfold Am at h;unfold Dk;split at h
 ·rename_i hop
  rw[if_pos hop];unfold OA at h;simp only[Bool.and_eq_true]at h;obtain⟨⟨h1,⟨⟨⟨⟨h2,h3⟩,h4⟩,h5⟩,h6⟩⟩,_⟩:=h;have k1:=Ez (a:=BB) (by decide) h6 hok.num.1;have k2:=Ou s.uniq (BO h4).2.2;have k3:=O8 s.refs (BO h5).2.2;have k4:=EW Ij 100 s.cols (λc hc=>OD ((BO h2).2.2 c hc));have n1:=(BO h2).2.1;have n2:=(BO h4).2.1;have n3:=(BO h5).2.1;simp only[List.length_append,List.length_cons,List.length_nil];omega
 rename_i n1
 rw[if_neg n1];split at h
 ·rename_i hop
  rw[if_pos hop];simp only[List.length_append,List.length_cons,List.length_nil];omega
 rename_i n2
 rw[if_neg n2];split at h
 ·rename_i hop
  rw[if_pos hop];simp only[Bool.and_eq_true]at h;have k4:=EW (λv:V=>DT v.k v.i v.s) 100 s.row (λv hv=>JS v.k v.i v.s (hok.row v hv).1);have k5:=(BO h.1.2).2.1;simp only[List.length_append,List.length_cons,List.length_nil];omega
 rename_i n3
 rw[if_neg n3];split at h
 ·rename_i hop
  rw[if_pos hop];simp only[Bool.and_eq_true]at h;obtain⟨⟨⟨h1,h2⟩,h3⟩,_⟩:=h;have k1:=Ho h3 hok.num.2.1;have k4:=EW Ih 7000 s.sets (λv hv=>QW ((BO h2).2.2 v hv) (hok.num.2.2.2 v hv));have k5:=(BO h2).2.1;simp only[List.length_append,List.length_cons,List.length_nil];omega
 rename_i n4
 rw[if_neg n4];split at h
 ·rename_i hop
  simp only[Bool.and_eq_true]at h;have k1:=Ho h.1.2 hok.num.2.1;by_cases hd:s.op=Eo
  ·rw[if_pos hd];simp only[List.length_append,List.length_cons,List.length_nil];omega
  ·rw[if_neg hd,if_pos (by rcases hop with h|h;exact absurd h hd;exact h)];simp only[List.length_append,List.length_cons,List.length_nil];omega
 rename_i n5
 rw[if_neg (λh=>n5 (.inl h)),if_neg (λh=>n5 (.inr h))];split at h
 ·rename_i hop
  by_cases hd:s.op=Hw\/s.op=FV
  ·rw[if_pos hd];simp only[List.length_append,List.length_cons,List.length_nil];omega
  ·have hd2:s.op=EZ\/s.op=Dy:=by
    rcases hop with h|h|h
    ·exact absurd (.inl h) hd
    ·exact absurd (.inr h) hd
    ·exact h
   rw[if_neg hd,if_pos hd2];simp only[List.length_append,List.length_cons,List.length_nil];omega
 rename_i n6
 rw[if_neg (λh=>n6 (h.elim .inl λh=>.inr (.inl h))),if_neg (λh=>n6 (.inr (.inr h)))];split at h
 ·rename_i hop
  rw[if_pos hop];simp only[Bool.and_eq_true]at h;obtain⟨⟨⟨⟨h1,h2⟩,h3⟩,h4⟩,_⟩:=h;have k1:=Ez (a:=[32]) (by decide) h4 hok.num.1;have k4:=EW (λx:List UInt8=>x) 16 s.names (λv hv=>Af ((BO h3).2.2 v hv));rw[List.map_id']at k4;have k5:=(BO h3).2.1;simp only[List.length_append,List.length_cons,List.length_nil];omega
 rename_i n7
 rw[if_neg n7];split at h
 ·rename_i hop
  rw[if_pos hop];simp only[Bool.and_eq_true]at h;obtain⟨⟨⟨⟨⟨h1,h2⟩,h3⟩,h4⟩,h5⟩,_⟩:=h;have k1:=Ez (a:=[32]) (by decide) h5 hok.num.1;simp only[List.length_append,List.length_cons,List.length_nil];omega
 rename_i n8
 rw[if_neg n8];split at h
 ·rename_i hop
  simp only[Bool.and_eq_true]at h;obtain⟨⟨⟨⟨h1,h2⟩,h3⟩,h4⟩,_⟩:=h;have k1:=Ez (a:=[32]) (by decide) h4 hok.num.1;obtain⟨g1,g2,g3⟩:=BO h3;have k2:=Af (KN (d:=[]) (k:=0) g3 (by omega));have k3:=Af (KN (d:=[]) (k:=1) g3 (by omega));simp only[List.length_append,List.length_cons,List.length_nil];omega
 ·cases h
def Uh(s:St):List UInt8:=if Jf s then Dk s else[]
theorem UX(o:Option (List Tok)):(Ib o).2=if o.isSome then 0 else 2:=by cases o<;>rfl
theorem TP(s:St)(p:StP)(w:World)(hok:s.Ok)(hQ:StQ 1000 s p (Old w.heap.size) w)(hV:FY w):
  Calls Tryz.prog 27 #[.agg (s.cells p).toArray] w (Ret (.tuple #[.string ⟨(Uh s).toArray⟩,.int .i64 (if Jf s then 0 else 1)]) w):=by
 obtain⟨kc,ks,kw,hM⟩:=hQ.h;refine Gl s p w λw0 HW ks0 hb0 hz0 HST HB=>?_
 have HMQ:∀Y:World,Below w0.heap.size w0 Y->StQ 1000 s p (Old Y.heap.size) Y:=λY hY=>(hM.keep (DK (hb0.trans (hY.mono hz0)) (Nat.le_trans hz0 hY.size))).q
 have HEV:∀Y:World,Below w0.heap.size w0 Y->FY Y:=λY hY=>hV.below (hb0.trans (hY.mono hz0))
 have HKB:Hid (∀Z:World,Below w0.heap.size w0 Z->Blk Z w.heap.size 34 (s.cells p).toArray):=λZ hz=>ks0.below hz ks0.lt
 have HP:=Lib.hid (Qx s p w0 hok (HMQ w0 (Below.refl _ _)) );have HT:Hid (Am s=true->∀Y:World,Below w0.heap.size w0 Y->Calls Tryz.prog 54 #[.agg (s.cells p).toArray] Y (Ret (.string ⟨(Dk s).toArray⟩) Y)):=λhp Y hY=>TK s p Y hok (HMQ Y hY) (HEV Y hY) hp
 have HC:Hid (Am s=true->∀Y:World,Below w0.heap.size w0 Y->Calls Tryz.prog 55 #[.string ⟨(Dk s).toArray⟩] Y (Zp (Ib (Ii (Dk s))).1 (Ib (Ii (Dk s))).2 Y)):=λhp Y hY=>N9 (Dk s) Y (by have:=VP s hok hp;omega) (HEV Y hY).1
 obtain⟨P,hP⟩:∃P,Am s=P:=⟨_,rfl⟩;obtain⟨C,hC⟩:∃C,Ii (Dk s)=C:=⟨_,rfl⟩;have HM2:Hid (Jf s=(P&&C.isSome)):=by show _=_;unfold Jf;rw[hP,hC]
 have HR:Hid (Uh s=if Jf s then Dk s else[]):=rfl;obtain⟨M,hM0⟩:∃M,Jf s=M:=⟨_,rfl⟩;obtain⟨R,hR0⟩:∃R,Uh s=R:=⟨_,rfl⟩;obtain⟨T,hT0⟩:∃T,Dk s=T:=⟨_,rfl⟩;rw[hM0]at HM2 HR;rw[hR0,hT0]at HR;rw[hT0]at HT HC hC;rw[hP]at HP HT HC;rw[hC]at HC;rw[hM0,hR0];obtain⟨E,hE0⟩:∃E:Int,(if M then 0 else 1)=E:=⟨_,rfl⟩;rw[hE0];have HE:=Lib.hid hE0;clear hE0;have HCT:=Lib.hid (UX C);clear hQ hM hV HMQ HEV ks0 hP hC hM0 hR0 hT0 hok hb0;have hc0:Below w0.heap.size w0 w0:=Below.refl _ _;cases P with
 |false=>
  have hm:M=false:=HM2.out;subst hm;have hr:R=[]:=HR.out;subst hr;have he:E=1:=HE.out.symm;subst he;go_in
  go_upto_region 1 with fail
  rw[show w.alloc _=w0 from HW.out];clear HW;go_wp2_with (refine wpList_load_row rfl 34 _ rfl w.heap.size rfl 34 (s.cells p).toArray (0,0) _ (HKB.out _ hc0) Tryz.underlying34 rfl Au ?_);refine HP.out.mono ?_;rintro en w1 ⟨rfl,hb1⟩;have hbf:=HB.out.trans (hb1.mono hz0);go_wp2_with fail;refine bodyPost_ret (v:=.tuple #[.string ⟨#[]⟩,.int .i64 1]) (by simp[results,Tryz.results27,go_sem, *]) rfl ?_;exact⟨rfl,hbf⟩
 |true=>
  have HMC:Hid (M=C.isSome):=HM2.out;clear HM2;go_in
  go_upto_region 1 with fail
  rw[show w.alloc _=w0 from HW.out];clear HW;go_wp2_with (refine wpList_load_row rfl 34 _ rfl w.heap.size rfl 34 (s.cells p).toArray (0,0) _ (HKB.out _ hc0) Tryz.underlying34 rfl Au ?_);refine HP.out.mono ?_;rintro en w1 ⟨rfl,hb1⟩;have hz1:=hb1.size;have HT1:=Lib.hid (HT.out trivial w1 hb1);go_wp2_with (refine wpList_load_row rfl 34 _ rfl w.heap.size rfl 34 (s.cells p).toArray (0,0) _ (HKB.out _ hb1) Tryz.underlying34 rfl Au ?_);refine HT1.out.mono ?_;rintro en w2 ⟨rfl,hb2⟩;have hc2:Below w0.heap.size w0 w2:=hb1.trans (hb2.mono hz1);have hz2:=hc2.size;have HC2:=Lib.hid (HC.out trivial w2 hc2);go_wp2_with fail;refine HC2.out.mono ?_;rintro en w3 ⟨A3,c3,rfl,_,_,_,hb3⟩;have hbf:=HB.out.trans ((hc2.trans (hb3.mono hz2)).mono hz0);cases C with
  |none=>
   have hm:M=false:=HMC.out;subst hm;have hr:R=[]:=HR.out;subst hr;have he:E=1:=HE.out.symm;subst he;have e2:(Ib (none:Option (List Tok))).2=2:=rfl;go_wp2_with fail;refine bodyPost_ret (v:=.tuple #[.string ⟨#[]⟩,.int .i64 1]) (by simp[results,Tryz.results27,go_sem, *]) rfl ?_;exact⟨rfl,hbf⟩
  |some l=>
   have hm:M=true:=HMC.out;subst hm;have hr:R=T:=HR.out;subst hr;have he:E=0:=HE.out.symm;subst he;have e2:(Ib (some l)).2=0:=rfl;go_wp2_with fail;refine bodyPost_ret (v:=.tuple #[.string ⟨R.toArray⟩,.int .i64 0]) (by simp[results,Tryz.results27,go_sem, *]) rfl ?_;exact⟨rfl,hbf⟩
theorem Va(s:St)(p:StP)(w:World)(hok:s.Ok)(hQ:StQ 1000 s p (Old w.heap.size) w)(hV:FY w):
  Calls Tryz.prog 36 #[.agg (s.cells p).toArray] w (Ret (.bool (Jf s)) w):=by
 refine Gl s p w λw0 HW ks0 hb0 hz0 HST HB=>?_
 have HT:=Lib.hid (TP s p w0 hok (hQ.keep (DK hb0 hz0)) (hV.below hb0));have HKS:=Lib.hid ks0;obtain⟨M,hM0⟩:∃M,Jf s=M:=⟨_,rfl⟩;obtain⟨R,hR0⟩:∃R,Uh s=R:=⟨_,rfl⟩;rw[hM0,hR0]at HT;rw[hM0];obtain⟨E,hE0⟩:∃E:Int,(if M then 0 else 1)=E:=⟨_,rfl⟩;rw[hE0]at HT;clear hQ hV ks0 hM0 hR0 hok hb0;cases M with
 |false=>
  have he:E=1:=hE0.symm;subst he;clear hE0;go_in
  go_upto_region 1 with fail
  rw[show w.alloc _=w0 from HW.out];clear HW;go_wp2_with (refine wpList_load_row rfl 34 _ rfl w.heap.size rfl 34 (s.cells p).toArray (0,0) _ HKS.out Tryz.underlying34 rfl Au ?_);refine HT.out.mono ?_;rintro en w1 ⟨rfl,hb1⟩;have hbf:=HB.out.trans (hb1.mono hz0);go_wp2_with fail;go_ret;exact⟨rfl,hbf⟩
 |true=>
  have he:E=0:=hE0.symm;subst he;clear hE0;go_in
  go_upto_region 1 with fail
  rw[show w.alloc _=w0 from HW.out];clear HW;go_wp2_with (refine wpList_load_row rfl 34 _ rfl w.heap.size rfl 34 (s.cells p).toArray (0,0) _ HKS.out Tryz.underlying34 rfl Au ?_);refine HT.out.mono ?_;rintro en w1 ⟨rfl,hb1⟩;have hbf:=HB.out.trans (hb1.mono hz0);go_wp2_with fail;go_ret;exact⟨rfl,hbf⟩
end
section
open Go
section
variable {P : Program} {ops : Array Oper} {Q : Exit → Act → World → Prop} {S : World → Prop}
theorem Sj{o:Oper}{a:Act}(ty:TypeId)(x:Operand)(ho:o.op=.load ty x)(hw:Region.wanted o (yielded ops a.tmps)=true)
 (g:Nat)(hx:a.eval x=.pointer (some ⟨g,0,none⟩))(t:TypeId)(cs:Array Value)(d:TypeDesc)(hu:P.underlying ty=some d)(hd:(match d with | .struct _ | .array _ _=>true|_=>false)=true)(hi:(P.info? ty).map (·.size)=some cs.size)
 (hg:∀w:World,S w->w.heap[g]? = some (.cells cs t (0,0))):YieldsIf P ops S o (.agg cs) a:=.inl ⟨hw,λw hS=>by
 unfold execOp;simp only[ho,hx,Instr.loadAt,Instr.sureAddr,Sem.run_bind,Sem.run_pure,Result.andThen_ok,run_loadVar_row w g t ty cs (0,0) d (hg w hS) hu hd hi]⟩
theorem BL{o:Oper}{a:Act}{w:World}{K:Act->World->Prop}{E:Prop}(hw:Region.wanted o (yielded ops a.tmps)=true)(ty:TypeId)(x y:Operand)(ho:o.op=.store ty x y)
 (g:Nat)(cells:Array Value)(hx:a.eval x=.pointer (some ⟨g,0,none⟩))(hy:a.eval y=.agg cells)
 (t:TypeId)(hg:∃old:Array Value,old.size=cells.size/\w.heap[g]? = some (.cells old t (0,0)))(hi:(P.info? ty).map (·.size)=some cells.size)(h1:cells.all (·.oneCell')=true)
 (h:K (a.put o.dst undef) (w.setRow g cells)):if Region.wanted o (yielded ops a.tmps)=true then Oper.wp P o a w K Q else E:=by
 rw[if_pos hw];obtain⟨old,hold,hg⟩:=hg;exact wp_store_row ty x y ho g cells hx hy t old hg hi hold h1 h
end
end
section
open Go.RowKit
attribute [local go_sem] ByteArray.extract_mk Ak AY
attribute [local go_sem ↓] Go.wp_at_zero Go.wp_at_succ
theorem Bo{P:Program}{ops:Array Oper}{rest:List Oper}{op:Oper}{a:Act}{w:World}{Q:Exit->Act->World->Prop}(hw:Region.wanted op (yielded ops a.tmps)=true)(ty:TypeId)(x:Operand)(ho:op.op=.load ty x)
 (b o:Nat)(hx:a.eval x=.pointer (some ⟨b,o,none⟩))(cs:List Value)(d:TypeDesc)(hc:w.rangeAt b o cs)
 (hu:P.underlying ty=some d)(hd:d.isRow=true)(hi:(P.info? ty).map (·.size)=some cs.length)
 (h:wpList P ops Q rest (a.put op.dst (.agg cs.toArray)) w):wpList P ops Q (op::rest) a w:=
 wpList_step λK hK=>by rw[if_pos hw];exact wp_load_mid ty x ho b o hx cs d hc hu hd hi (hK _ _ h)
def grS(r:List UInt8×List UInt8×List UInt8):St:=⟨r.1,r.2.1,[],[],[],[],[],[],ex0,[],[],ex0,r.2.2⟩
theorem gr_ok(op tb role:List UInt8)(h1:op.length<=1000)(h2:tb.length<=1000)(h3:role.length<=1000):(⟨op,tb,[],[],[],[],[],[],ex0,[],[],ex0,role⟩:St).Ok where
 op:=h1
 tb:=h2
 ot:=Nat.zero_le _
 key:=Nat.zero_le _
 role:=h3
 nN:=Nat.zero_le _
 nC:=Nat.zero_le _
 nU:=Nat.zero_le _
 nR:=Nat.zero_le _
 nW:=Nat.zero_le _
 nS:=Nat.zero_le _
 names:=λx hx=>by cases hx
 cols:=λx hx=>by cases hx
 uniq:=λx hx=>by cases hx
 refs:=λx hx=>by cases hx
 chk:=CX
 whr:=CX
 row:=λx hx=>by cases hx
 sets:=λx hx=>by cases hx
 num:=by
  have e:D8 13 ex0:=by
   refine⟨?_, ?_⟩
   ·unfold Fq;exact⟨by decide,by decide⟩
   ·intro x hx;cases hx
  exact⟨e,e,(λx hx=>by cases hx),(λx hx=>by cases hx)⟩
theorem bD(op tb role:List UInt8)(Q:Nat->Prop)(w:World):StQ 1000 ⟨op,tb,[],[],[],[],[],[],ex0,[],[],ex0,role⟩ Cj Q w:=
 ⟨SQ.nil,λh=>absurd h (by simp),SQ.nil,XQ.nil,⟨0,rfl⟩,λh=>absurd h (by simp),⟨0,ZQ.nil⟩,0,rfl⟩
theorem Bj{l:List Tok}{a:Nat}{s:List UInt8}(h:AO l a=some s):∃t∈l,t.s=s:=by
 unfold AO at h;split at h
 ·cases h
 ·rename_i t ht
  split at h
  ·injection h with h
   exact⟨t,List.mem_of_getElem? ht,h⟩
  ·cases h
theorem Rk{l:List Tok}{a:Nat}{ahead:List UInt8}{r:List UInt8×List UInt8}(h:Ej l a ahead=some r)(hs:∀t∈l,t.s.length<=1000)(ha:ahead.length<=10):r.1.length<=1000/\r.2.length<=1000:=by
 have key:∀(w:List UInt8),w.length<=10->((AO l (a+2)).map λt=>(ahead++w,t))=some r->r.1.length<=1000/\r.2.length<=1000:=λw hw h=>by
  cases hn:AO l (a+2)with
  |none=>rw[hn]at h;cases h
  |some s=>
   rw[hn]at h
   injection h with h
   obtain⟨t,ht,rfl⟩:=Bj hn;subst h;exact⟨by simp only[List.length_append];omega,hs t ht⟩
 unfold Ej at h;split at h
 ·split at h
  ·exact key _ (by decide) h
  ·cases h
 ·split at h
  ·split at h
   ·exact key _ (by decide) h
   ·cases h
  ·cases h
theorem WO{l:List Tok}{a:Nat}{ahead word:List UInt8}{r:List UInt8×List UInt8×List UInt8}(h:Ia l a ahead word=some r)(hs:∀t∈l,t.s.length<=1000)(ha:ahead.length<=10):(grS r).Ok:=by
 unfold Ia at h;cases hg:Ej l a ahead with
 |none=>rw[hg]at h;cases h
 |some q=>
  rw[hg]at h;obtain⟨h1,h2⟩:=Rk hg hs ha;simp only[Option.bind_some]at h;split at h
  ·cases hn:AO l (a+4)with
   |none=>rw[hn]at h;cases h
   |some s=>
    rw[hn]at h
    injection h with h
    obtain⟨t,ht,rfl⟩:=Bj hn;subst h;exact gr_ok _ _ _ h1 h2 (hs t ht)
  ·cases h
def RetPp(o:Option St)(w:World)(en:Ending)(w':World):Prop:=
 match o with
 |none=>en=.returned (.tuple #[.agg ((stZ [] []).cells Cj).toArray,.int .i64 2])/\Below w.heap.size w w'
 |some x=>en=.returned (.tuple #[.agg (x.cells Cj).toArray,.int .i64 0])/\Below w.heap.size w w'
theorem Zl(s:List UInt8)(w:World)(hs:s.length<=900000)(hc:Ii s=none)(hV:FY w):Calls Tryz.prog 30 #[.string ⟨s.toArray⟩] w (RetPp none w):=by
 obtain⟨w0,hw0⟩:∃w0,w.alloc (.cells #[.string ⟨#[]⟩,.string ⟨#[]⟩,.string ⟨#[]⟩,.slice none 0 0,.slice none 0 0,.string ⟨#[]⟩,.slice none 0 0,.slice none 0 0,.string ⟨#[]⟩,.int .i64 0,.int .i64 0,.string ⟨#[]⟩,.string ⟨#[]⟩,.slice none 0 0,.slice none 0 0,.slice none 0 0,.string ⟨#[]⟩,.int .i64 0,.int .i64 0,.string ⟨#[]⟩,.string ⟨#[]⟩,.slice none 0 0,.string ⟨#[]⟩] 34)=w0:=⟨_,rfl⟩;have k0:Blk w0 w.heap.size 34 ((stZ [] []).cells Cj).toArray:=by rw[<-hw0];exact Blk.new _ _ _
 have hb0:Below w.heap.size w w0:=by rw[<-hw0];exact bl
 have HC:=Lib.hid (N9 s w0 hs (hV.below hb0).1);rw[hc]at HC;have HW:=Lib.hid hw0;have hlt:=k0.lt;clear hw0 hc;go_in
 go_upto_region 1 with fail
 rw[show w.alloc _=w0 from HW.out];clear HW;go_wp2_with fail;refine HC.out.mono ?_;rintro en w1 ⟨A,c,rfl,-,-,-,hb1⟩;have k1:=k0.below hb1 hlt;have hb:=hb0.trans (hb1.mono hb0.size);have HB:=Lib.hid (Df hb (Nat.le_refl _) ((stZ [] []).cells Cj).toArray);have HK1:=Lib.hid k1;have hres:(loadVar 34 ⟨w.heap.size,0,none⟩).run Tryz.prog (w1.setRow w.heap.size ((stZ [] []).cells Cj).toArray)=.ok (.agg ((stZ [] []).cells Cj).toArray) (w1.setRow w.heap.size ((stZ [] []).cells Cj).toArray):=run_loadVar_row _ _ 34 34 _ (0,0) _ (k1.row _) Tryz.underlying34 rfl Au;clear hb k0 k1 hb1 hb0;dsimp only[Ib];go_wp2_with (refine wpList_store_row rfl 34 _ _ rfl w.heap.size ((stZ [] []).cells Cj).toArray rfl rfl 34 _ HK1.out Au rfl (IY _ _) ?_);refine bodyPost_ret (v:=.tuple #[.agg ((stZ [] []).cells Cj).toArray,.int .i64 2]) (by first|(simp[results,Tryz.results30,asAddr,hres];done)|(simp[results,Tryz.results30,asAddr,hres,Sem.run_bind];done)) rfl ?_;exact⟨rfl,HB.out⟩
end
end Go.Proofs.YtchilcchogcibaaGreatDoor
