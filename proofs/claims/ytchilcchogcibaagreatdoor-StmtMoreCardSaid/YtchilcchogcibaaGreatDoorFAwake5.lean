/- The statement parser, whole; caddislaw05.awake answers true. -/
import Derived.Test.YtchilcchogcibaaGreatDoorFPs18
set_option maxRecDepth 100000
set_option maxHeartbeats 8000000
namespace Go.Proofs.YtchilcchogcibaaGreatDoor
section
open Go.RowKit Go.ChangeMaps Go.MapKept
attribute [local go_sem] ByteArray.extract_mk Ak AY
attribute [local go_sem ↓] Go.wp_at_zero Go.wp_at_succ
def Iu(l:List Tok)(ahead word:List UInt8):Option (St×Nat):=(Ia l 1 ahead word).map λr=>(grS r,6)
theorem O0{g:Nat}{A:Option Addr}{c:Nat}{l:List Tok}{ahead word:List UInt8}{w:World}{en:Ending}{w':World}(ha:ahead.length<=10)(hs:∀t∈l,t.s.length<=1000)
 (h:YO (Ia l 1 ahead word) g A c l 1 (psC A l.length c 1 ((stZ [] []).cells Cj)) w en w'):Fz (Iu l ahead word) g A c l w en w':=by
 unfold Iu;cases hg:Ia l 1 ahead word with
 |none=>rw[hg]at h;exact h
 |some r=>
  rw[hg]at h;obtain⟨h1,h2,h3⟩:=h;rw[Ha,Iw,NV,Ad]at h2;exact⟨Cj,h1,h2,bD _ _ _ _ _,WO hg hs ha,h3⟩
theorem UM(g:Nat)(A:Option Addr)(c:Nat)(l:List Tok)(w:World)(hp:PsE g c l w)(h:PsS g A c l 1 (psC A l.length c 1 ((stZ [] []).cells Cj)) w):
  Calls Tryz.prog 103 #[.pointer (some ⟨g,0,none⟩)] w (Fz (Iu l [] [84,79]) g A c l w):=
 (Tz g A c l 1 _ [] [] [] w (by decide) h rfl rfl rfl hp.s).mono λen w' hr=>O0 (by decide) hp.s hr
theorem Qh(g:Nat)(A:Option Addr)(c:Nat)(l:List Tok)(w:World)(hp:PsE g c l w)(h:PsS g A c l 1 (psC A l.length c 1 ((stZ [] []).cells Cj)) w):
  Calls Tryz.prog 104 #[.pointer (some ⟨g,0,none⟩)] w (Fz (Iu l [117,110] [70,82,79,77]) g A c l w):=
 (Qm g A c l 1 _ [] [] [] w (by decide) h rfl rfl rfl hp.s).mono λen w' hr=>O0 (by decide) hp.s hr
def Zf(l:List Tok)(s:List UInt8):Option (St×Nat):=
 if s=[67,82,69,65,84,69]then KW l else if s=[68,82,79,80]then N7 l else if s=[73,78,83,69,82,84]then Gy l else if s=[85,80,68,65,84,69]then J4 l
 else if s=[68,69,76,69,84,69]then JG l [100,101,108,101,116,101] [[70,82,79,77]]else if s=[83,69,76,69,67,84]then JG l [115,101,108,101,99,116] [[42],[70,82,79,77]]
 else if s=[71,82,65,78,84]then Iu l [] [84,79]else if s=[82,69,86,79,75,69]then Iu l [117,110] [70,82,79,77]else if s=[77,73,71,82,65,84,69]then JA l else none
def X3:List (List UInt8):=[[67,82,69,65,84,69],[68,82,79,80],[73,78,83,69,82,84],[85,80,68,65,84,69],[68,69,76,69,84,69],[83,69,76,69,67,84],[71,82,65,78,84],[82,69,86,79,75,69],[77,73,71,82,65,84,69]]
def stmtP(l:List Tok)(s:List UInt8):Option St:=(IK l (Zf l s)).bind λr=>if Jf r.1 then some r.1 else none
theorem aQ(tx:List UInt8)(l:List Tok)(s:List UInt8)(w:World)(hs:tx.length<=900000)(hc:Ii tx=some l)(hl:l.length<=990)(ht:∀t∈l,t.s.length<=1000)(h0:l[0]? = some ⟨1,s⟩)(hf:s∈X3)(hV:FY w)(hE:JP w):
  Calls Tryz.prog 30 #[.string ⟨tx.toArray⟩] w (MB (stmtP l s) w):=by
 refine JY tx l _ w hs hc hl ht hV hE λg A c W hTy hp h=>?_
 simp only[X3,List.mem_cons,List.not_mem_nil,or_false]at hf;rcases hf with rfl|rfl|rfl|rfl|rfl|rfl|rfl|rfl|rfl
 ·exact Dl 97 0 [67,82,69,65,84,69] (Go.Proofs.enters_of Tryz.func97 (by kernel_rfl) rfl) (KW l) g A c l W (by kernel_rfl) h0 hTy hp h λB Z hT hp h=>UY g B c l Z hT hp h
 ·exact Dl 98 1 [68,82,79,80] (Go.Proofs.enters_of Tryz.func98 (by kernel_rfl) rfl) (N7 l) g A c l W (by kernel_rfl) h0 hTy hp h λB Z hT hp h=>SC g B c l Z hp h
 ·exact Dl 99 2 [73,78,83,69,82,84] (Go.Proofs.enters_of Tryz.func99 (by kernel_rfl) rfl) (Gy l) g A c l W (by kernel_rfl) h0 hTy hp h λB Z hT hp h=>Nj g B c l Z hp h
 ·exact Dl 100 3 [85,80,68,65,84,69] (Go.Proofs.enters_of Tryz.func100 (by kernel_rfl) rfl) (J4 l) g A c l W (by kernel_rfl) h0 hTy hp h λB Z hT hp h=>Sr g B c l Z hp h
 ·exact Dl 101 4 [68,69,76,69,84,69] (Go.Proofs.enters_of Tryz.func101 (by kernel_rfl) rfl) (JG l [100,101,108,101,116,101] [[70,82,79,77]]) g A c l W (by kernel_rfl) h0 hTy hp h λB Z hT hp h=>UV g B c l Z hp h
 ·exact Dl 102 5 [83,69,76,69,67,84] (Go.Proofs.enters_of Tryz.func102 (by kernel_rfl) rfl) (JG l [115,101,108,101,99,116] [[42],[70,82,79,77]]) g A c l W (by kernel_rfl) h0 hTy hp h λB Z hT hp h=>OH g B c l Z hp h
 ·exact Dl 103 6 [71,82,65,78,84] (Go.Proofs.enters_of Tryz.func103 (by kernel_rfl) rfl) (Iu l [] [84,79]) g A c l W (by kernel_rfl) h0 hTy hp h λB Z hT hp h=>UM g B c l Z hp h
 ·exact Dl 104 7 [82,69,86,79,75,69] (Go.Proofs.enters_of Tryz.func104 (by kernel_rfl) rfl) (Iu l [117,110] [70,82,79,77]) g A c l W (by kernel_rfl) h0 hTy hp h λB Z hT hp h=>Qh g B c l Z hp h
 ·exact Dl 105 8 [77,73,71,82,65,84,69] (Go.Proofs.enters_of Tryz.func105 (by kernel_rfl) rfl) (JA l) g A c l W (by kernel_rfl) h0 hTy hp h λB Z hT hp h=>RH g B c l Z hp h
end
section
open Go.RowKit
attribute [local go_sem] ByteArray.extract_mk Ak AY
attribute [local go_sem ↓] Go.wp_at_zero Go.wp_at_succ
def XD:List UInt8:=[83,69,76,69,67,84,32,42,32,70,82,79,77,32,116,32,87,72,69,82,69,32,107,32,61,32,49]
def XC:List UInt8:=[68,82,79,80,32,116]
def XB:List UInt8:=[73,78,83,69,82,84,32,73,78,84,79,32,116,32,86,65,76,85,69,83,32,40,49,44,32,39,97,39,44,32,78,85,76,76,41]
def XK:List Tok:=(Ii XD).getD []
def XJ:List Tok:=(Ii XC).getD []
def XI:List Tok:=(Ii XB).getD []
def tkOk(t:List UInt8)(l:List Tok):Bool:=(Ii t).isSome&&decide (l.length<=990)&&l.all λx=>decide (x.s.length<=1000)
theorem Pm{t:List UInt8}{l:List Tok}(h:tkOk t l=true)(hl:(Ii t).getD []=l):Ii t=some l/\l.length<=990/\∀x∈l,x.s.length<=1000:=by
 unfold tkOk at h;simp only[Bool.and_eq_true,decide_eq_true_eq,List.all_eq_true]at h;obtain⟨⟨h1,h2⟩,h3⟩:=h;obtain⟨q,hq⟩:=Option.isSome_iff_exists.1 h1;rw[hq]at hl;exact⟨by rw[hq,<-hl];rfl,h2,h3⟩
def Yh:Option St:=(IK XK (JG XK [115,101,108,101,99,116] [[42],[70,82,79,77]])).bind λr=>if Jf r.1 then some r.1 else none
def aF:Option St:=(IK XJ (N7 XJ)).bind λr=>if Jf r.1 then some r.1 else none
def Ye:Option St:=(IK XI (Gy XI)).bind λr=>if Jf r.1 then some r.1 else none
theorem Yg:∃x,Yh=some x/\x.op=[115,101,108,101,99,116]/\x.tb=[116]/\x.whr.op=[61]:=by
 have h:(match Yh with|some x=>decide (x.op=[115,101,108,101,99,116]/\x.tb=[116]/\x.whr.op=[61])|none=>false)=true:=by kernel_rfl
 cases hs:Yh with
 |none=>rw[hs]at h;cases h
 |some x=>rw[hs]at h;exact⟨x,rfl,of_decide_eq_true h⟩
theorem Yf:aF=none:=by
 have h:aF.isNone=true:=by kernel_rfl
 exact Option.isNone_iff_eq_none.1 h
theorem Yd:∃x,Ye=some x/\x.op=[105,110,115,101,114,116]/\x.row.length=3:=by
 have h:(match Ye with|some x=>decide (x.op=[105,110,115,101,114,116]/\x.row.length=3)|none=>false)=true:=by kernel_rfl
 cases hs:Ye with
 |none=>rw[hs]at h;cases h
 |some x=>rw[hs]at h;exact⟨x,rfl,of_decide_eq_true h⟩
theorem Yl(w:World)(hV:FY w)(hE:JP w):Calls Tryz.prog 30 #[.string ⟨XD.toArray⟩] w (MB Yh w):=by
 obtain⟨h1,h2,h3⟩:=Pm (t:=XD) (l:=XK) (by kernel_rfl) rfl;exact JY XD XK _ w (by decide) h1 h2 h3 hV hE λg A c W hT hp h=>Pv g A c XK W (by kernel_rfl) hT hp h
theorem Yk(w:World)(hV:FY w)(hE:JP w):Calls Tryz.prog 30 #[.string ⟨XC.toArray⟩] w (MB aF w):=by
 obtain⟨h1,h2,h3⟩:=Pm (t:=XC) (l:=XJ) (by kernel_rfl) rfl;exact JY XC XJ _ w (by decide) h1 h2 h3 hV hE λg A c W hT hp h=>Tq g A c XJ W (by kernel_rfl) hT hp h
theorem Yj(w:World)(hV:FY w)(hE:JP w):Calls Tryz.prog 30 #[.string ⟨XB.toArray⟩] w (MB Ye w):=by
 obtain⟨h1,h2,h3⟩:=Pm (t:=XB) (l:=XI) (by kernel_rfl) rfl;exact JY XB XI _ w (by decide) h1 h2 h3 hV hE λg A c W hT hp h=>Px g A c XI W (by kernel_rfl) hT hp h
theorem AHF(w:World)(hV:FY w)(hE:JP w):Calls Tryz.prog 29 #[] w (Ret (.bool true) w):=by
 obtain⟨x1,hx1,a1,a2,a3⟩:=Yg;obtain⟨x3,hx3,a4,a5⟩:=Yd;have HP1:Hid (∀Z:World,Below w.heap.size w Z->Calls Tryz.prog 30 #[.string ⟨XD.toArray⟩] Z (MB (some x1) Z)):=λZ hz=>by
  have:=Yl Z (hV.below hz) (hE.below hz rfl);rw[hx1]at this;exact this
 have HP2:Hid (∀Z:World,Below w.heap.size w Z->Calls Tryz.prog 30 #[.string ⟨XC.toArray⟩] Z (MB none Z)):=λZ hz=>by
  have:=Yk Z (hV.below hz) (hE.below hz rfl);rw[Yf]at this;exact this
 have HP3:Hid (∀Z:World,Below w.heap.size w Z->Calls Tryz.prog 30 #[.string ⟨XB.toArray⟩] Z (MB (some x3) Z)):=λZ hz=>by
  have:=Yj Z (hV.below hz) (hE.below hz rfl);rw[hx3]at this;exact this
 have A1:=Lib.hid a1;have A2:=Lib.hid a2;have A3:=Lib.hid a3;have A4:=Lib.hid a4;have A5:=Lib.hid a5;clear hV hE hx1 hx3 a1 a2 a3 a4 a5;go_in
 go_wp2_with fail;refine Calls.mono (HP1.out w (Below.refl _ _)) ?_;rintro en v1 ⟨p1,rfl,-,-,hb1⟩;have hn1:Below w.heap.size w w:=Below.refl _ _;obtain⟨u1,hu1⟩:∃u,v1.alloc (.cells ((x1).cells p1).toArray 34)=u:=⟨_,rfl⟩;have k1:Blk u1 v1.heap.size 34 ((x1).cells p1).toArray:=by rw[<-hu1];exact Blk.new _ _ _
 have hd1:Below v1.heap.size v1 u1:=by rw[<-hu1];exact bl
 have hz1:=hb1.size;have hm1:Below w.heap.size w u1:=(hn1.trans (hb1.mono hn1.size)).trans (hd1.mono (Nat.le_trans hn1.size hz1));have HU1:=Lib.hid hu1;have HK1:=Lib.hid k1;have hl1:v1.heap.size<u1.heap.size:=k1.lt;clear hu1 k1;go_upto_region 2 with(refine wpList_store_row rfl 34 _ _ rfl v1.heap.size ((x1).cells p1).toArray rfl rfl 34 _ (heap_alloc_last _ _) Au rfl (IY _ _) ?_)
 rw[show World.setRow _ _ _=u1 from(World.setRow_alloc_new _ _ _ _).trans HU1.out];clear HU1;go_wp2_with fail;refine Calls.mono (HP2.out u1 hm1) ?_;rintro en v2 ⟨rfl,hb2⟩;have hn2:=hm1;obtain⟨u2,hu2⟩:∃u,v2.alloc (.cells ((stZ [] []).cells Cj).toArray 34)=u:=⟨_,rfl⟩;have k2:Blk u2 v2.heap.size 34 ((stZ [] []).cells Cj).toArray:=by rw[<-hu2];exact Blk.new _ _ _
 have hd2:Below v2.heap.size v2 u2:=by rw[<-hu2];exact bl
 have hz2:=hb2.size;have hm2:Below w.heap.size w u2:=(hn2.trans (hb2.mono hn2.size)).trans (hd2.mono (Nat.le_trans hn2.size hz2));have HU2:=Lib.hid hu2;have HK2:=Lib.hid k2;have hl2:v2.heap.size<u2.heap.size:=k2.lt;clear hu2 k2;go_upto_region 3 with(refine wpList_store_row rfl 34 _ _ rfl v2.heap.size ((stZ [] []).cells Cj).toArray rfl rfl 34 _ (heap_alloc_last _ _) Au rfl (IY _ _) ?_)
 rw[show World.setRow _ _ _=u2 from(World.setRow_alloc_new _ _ _ _).trans HU2.out];clear HU2;go_wp2_with fail;refine Calls.mono (HP3.out u2 hm2) ?_;rintro en v3 ⟨p3,rfl,-,-,hb3⟩;have hn3:=hm2;obtain⟨u3,hu3⟩:∃u,v3.alloc (.cells ((x3).cells p3).toArray 34)=u:=⟨_,rfl⟩;have k3:Blk u3 v3.heap.size 34 ((x3).cells p3).toArray:=by rw[<-hu3];exact Blk.new _ _ _
 have hd3:Below v3.heap.size v3 u3:=by rw[<-hu3];exact bl
 have hz3:=hb3.size;have hm3:Below w.heap.size w u3:=(hn3.trans (hb3.mono hn3.size)).trans (hd3.mono (Nat.le_trans hn3.size hz3));have HU3:=Lib.hid hu3;have HK3:=Lib.hid k3;have hl3:v3.heap.size<u3.heap.size:=k3.lt;clear hu3 k3;go_upto_region 4 with(refine wpList_store_row rfl 34 _ _ rfl v3.heap.size ((x3).cells p3).toArray rfl rfl 34 _ (heap_alloc_last _ _) Au rfl (IY _ _) ?_)
 rw[show World.setRow _ _ _=u3 from(World.setRow_alloc_new _ _ _ _).trans HU3.out];clear HU3;have k1:Blk u3 v1.heap.size 34 (x1.cells p1).toArray:=((HK1.out.below (hb2.trans (hd2.mono hb2.size)) HK1.out.lt).below (hb3.trans (hd3.mono hb3.size)) (Nat.lt_of_lt_of_le HK1.out.lt (Nat.le_trans hb2.size hd2.size)));have k3:=HK3.out;have q0:u3.cell? ⟨v1.heap.size,0,none⟩=some (.string ⟨#[115,101,108,101,99,116]⟩):=(k1.cell 0).trans (by show some (Value.string ⟨x1.op.toArray⟩)=_;rw[A1.out]);have q1:u3.cell? ⟨v1.heap.size,1,none⟩=some (.string ⟨#[116]⟩):=(k1.cell 1).trans (by show some (Value.string ⟨x1.tb.toArray⟩)=_;rw[A2.out]);have q2:u3.cell? ⟨v1.heap.size,16,none⟩=some (.string ⟨#[61]⟩):=(k1.cell 16).trans (by show some (Value.string ⟨x1.whr.op.toArray⟩)=_;rw[A3.out]);have q3:u3.cell? ⟨v3.heap.size,0,none⟩=some (.string ⟨#[105,110,115,101,114,116]⟩):=(k3.cell 0).trans (by show some (Value.string ⟨x3.op.toArray⟩)=_;rw[A4.out]);have q4:u3.cell? ⟨v3.heap.size,14,none⟩=some (.slice p3.row.a 3 p3.row.c):=(k3.cell 14).trans (by show some (Value.slice p3.row.a x3.row.length p3.row.c)=_;rw[A5.out]);clear k1 k3 HK1 HK2 HK3 A1 A2 A3 A4 A5 HP1 HP2 HP3;go_wp2_with fail;go_ret;exact⟨rfl,hm3⟩
end
end Go.Proofs.YtchilcchogcibaaGreatDoor
