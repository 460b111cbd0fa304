/- value.May answers mayB, whatever value it is handed; so does the document's own May; The document's May, good and Order, and the laws' Few, as plain functions; Values held against each other; value.known, and words on fields and worlds; lexer's octets, its runs and how long one is, as plain functions; cmp.Compare and cmp.Or as plain functions; value.Order, And, Or, Not, Equal, Less, Plus, Minus, IsNull as plain functions; value's inner functions (says, truth, whether) as plain functions; value.And, Or, Not, alike, Equal, Less, IsNull as plain functions; value.Plus and Minus as plain functions; A drawn region some of whose operations change memory and may come up in many orders; Words for a drawn region of calls and new variables. -/
import Derived.Test.YtchilcchogcibaaGreatDoorRows
import Derived.Deep.DrawnRows
import Derived.Deep.DeepCutAuto
import Derived.IntWalk
import Derived.RegionTactic
import Derived.Test.YtchilcchogcibaaGreatDoorFAppend
set_option maxRecDepth 100000
set_option maxHeartbeats 2000000
namespace Go.Proofs.YtchilcchogcibaaGreatDoor
section
open Go.RowKit
def Og(r:Int):Bool:=decide (r<32)||decide (126<r)
def En(b:UInt8):Bool:=Og (b.toNat:Int)
def Dt:List UInt8->Nat->Int
 |[],_=>-1
 |b::r,n=>if En b then(n:Int)else Dt r (n+1)
theorem Q9(l:List UInt8):∀n,decide (Dt l n<0) = !(l.any En):=by
 induction l with
 |nil=>intro n;simp[Dt]
 |cons b r ih=>
  intro n;by_cases h:En b=true
  ·simp[Dt,h]
  ·simp[Dt,h,ih]
theorem SG(s:ByteArray)(pos:Nat)(h:pos<s.size)(hb:En s[pos]=false):Utf8.decode s pos=(s[pos].toNat,1):=by
 have e:s.get! pos=s[pos]:=by
  show s.data[pos]! = s.data[pos]
  exact getElem!_pos s.data pos h
 simp only[En,Og,Bool.or_eq_false_iff,decide_eq_false_iff_not]at hb;rw[Lib.decode_at,e];unfold Lib.decodeN;rw[if_pos (by omega)]
theorem UW(s:ByteArray)(pos:Nat)(h:pos<s.size)(hb:En s[pos]=true):Og ((Utf8.decode s pos).1:Int)=true:=by
 have e:s.get! pos=s[pos]:=by
  show s.data[pos]! = s.data[pos]
  exact getElem!_pos s.data pos h
 simp only[En,Og,Bool.or_eq_true,decide_eq_true_eq]at hb;rw[Lib.decode_at,e];unfold Lib.decodeN;have:=UInt8.toNat_lt s[pos];simp only[Og,Bool.or_eq_true,decide_eq_true_eq]
 repeat' split
 all_goals(simp only;try omega)
 all_goals(try simp_all;try omega)
theorem RP(r:Int)(w:World):
  Calls Tryz.prog 136 #[.int .i32 r] w λe w'=>e=.returned (.bool (Og r))/\w=w':=by
 by_cases h1:r<32
 ·go_in
  go_wp2;go_ret;exact⟨by simp[Og,h1],rfl⟩
 ·by_cases h2:126<r
  ·go_in
   go_wp2;go_ret;exact⟨by simp[Og,h2],rfl⟩
  ·go_in
   go_wp2;go_ret;exact⟨by simp[Og,h1,h2],rfl⟩
theorem Oi(s:ByteArray)(w:World):
  Calls Tryz.prog 191 #[.string s,.func (.func 136) #[] #[],.bool true] w λe w'=>e=.returned (.int .i64 (Dt s.data.toList 0))/\Below w.heap.size w w':=by
 go_in
 go_wp2;go_loopg [] s.size (λgf wx=>∃pos:Nat,wx.heap[w.heap.size]? = some (.stringIter s pos)/\Below w.heap.size w wx/\Hid (Dt (s.data.toList.drop pos) pos=Dt s.data.toList 0)/\gf+pos=s.size)
 case atStart=>exact⟨0,World.iter_heap w s 0,(Below.refl _ w).alloc (Nat.le_refl _) _,rfl,by omega⟩
 case round=>
  obtain⟨pos,hit,hbw,hleft,hfu⟩:=hrel;by_cases hps:pos<s.size
  ·obtain⟨g',rfl⟩:∃g',gk=g'+1:=⟨gk - 1,by omega⟩;have hnx:∀ty,(Instr.next (.pointer (some ⟨w.heap.size,0,none⟩)) true ty).run Tryz.prog wr=_:=λty=>Lib.run_next_any_at wr w.heap.size s pos ty hit hps
   by_cases hb:En s[pos]=true
   ·have hd:=UW s pos hps hb;obtain⟨R,hR⟩:∃R,(Utf8.decode s pos).1=R:=⟨_,rfl⟩;obtain⟨K,hK⟩:∃K,(Utf8.decode s pos).2=K:=⟨_,rfl⟩;rw[hR,hK]at hnx;rw[hR]at hd;have hbw2:=Lib.below_iterAt hbw (k:=w.heap.size) (Nat.le_refl _) s (pos+K);have hl:Dt s.data.toList 0=pos:=by
     rw[<-hleft.out,PZ s pos hps];simp[Dt,hb]
    have HL:=Lib.hid hl;clear hl hleft hb hfu;go_wp2_with (go_at_call 136;refine(RP _ _).mono ?_;rintro e w' ⟨rfl,rfl⟩);go_ret;exact⟨by rw[HL.out];rfl,hbw2⟩
   ·have hb':En s[pos]=false:=by simpa using hb
    have hd:=SG s pos hps hb';rw[hd]at hnx;have hbw2:=Lib.below_iterAt hbw (k:=w.heap.size) (Nat.le_refl _) s (pos+1);have hit2:=Lib.iterAt_heap wr w.heap.size s pos (pos+1) hit;have hl:Dt (s.data.toList.drop (pos+1)) (pos+1)=Dt s.data.toList 0:=by
     rw[<-hleft.out,PZ s pos hps];simp[Dt,hb']
    have HL:=Lib.hid hl;have HF:=Lib.hid hfu;have ho:Og (s[pos].toNat:Int)=false:=hb';clear hl hleft hb hfu hb' hd;go_wp2_with (go_at_call 136;refine(RP _ _).mono ?_;rintro e w' ⟨rfl,rfl⟩);go_roundg g'
    case measure=>omega
    case rel=>exact⟨pos+1,hit2,hbw2,HL,by have:=HF.out;omega⟩
  ·have hnx:∀ty,(Instr.next (.pointer (some ⟨w.heap.size,0,none⟩)) true ty).run Tryz.prog wr=_:=λty=>Lib.run_next_end_at wr w.heap.size s pos ty hit hps
   have hl:Dt s.data.toList 0 = -1:=by
     rw[<-hleft.out,List.drop_of_length_le (by simp;omega)];simp[Dt]
   have HL:=Lib.hid hl;clear hl hleft hfu;go_wp2;go_ret;exact⟨by rw[HL.out];rfl,hbw⟩
theorem Oo(s:List UInt8)(w:World):
  Calls Tryz.prog 137 #[.string ⟨s.toArray⟩,.func (.func 136) #[] #[]] w λe w'=>e=.returned (.int .i64 (Dt s 0))/\Below w.heap.size w w':=by
 go_in
 go_wp2_with (go_at_call 191;refine(Oi _ _).mono ?_;rintro e w' ⟨rfl,hb⟩);go_ret;exact⟨rfl,hb⟩
def D5(k i:Int)(s:List UInt8):Bool:=
 if k=0 then decide (i=0)&&s.isEmpty
 else if k=1 then s.isEmpty
 else if k=2 then decide (i=0)&&decide (s.length<=40)&&!(s.any En)
 else if k=3 then(decide (i=0)||decide (i=1))&&s.isEmpty
 else false
theorem Ep(k i:Int)(s:List UInt8)(w:World):
  Calls Tryz.prog 77 #[.agg #[.int .i64 k,.int .i64 i,.string ⟨s.toArray⟩]] w λe w'=>e=.returned (.bool (D5 k i s))/\Below w.heap.size w w':=by
 go_in
 go_wp2_with (go_at_call 137;refine(Oo _ _).mono ?_;rintro e w' ⟨rfl,hb⟩)
 all_goals go_ret
 all_goals refine⟨?_, ?_⟩
 all_goals first
  |exact(Below.refl _ _).alloc (Nat.le_refl _) _
  |exact((Below.refl _ _).alloc (Nat.le_refl _) _).trans (hb.mono (by simp))
  |skip
 all_goals go_light
 all_goals(simp_all [D5,Q9])
 all_goals omega
end
section
open Go.RowKit
attribute [local go_sem] ByteArray.extract_mk Ak
theorem X7(k i:Int)(s:List UInt8)(w:World):
  Calls Tryz.prog 59 #[.agg #[.int .i64 k,.int .i64 i,.string ⟨s.toArray⟩]] w λe w'=>e=.returned (.agg #[.int .i64 k,.int .i64 i,.string ⟨(s.take 60).toArray⟩])/\Below w.heap.size w w':=by
 by_cases h:s.length<=60
 ·go_in
  go_wp2;refine bodyPost_ret (v:=.agg #[.int .i64 k,.int .i64 i,.string ⟨s.toArray⟩]) (by simp[results,Tryz.results59,go_sem]) rfl ⟨?_, ?_⟩
  ·rw[List.take_of_length_le h]
  ·exact((Below.refl _ _).alloc (Nat.le_refl _) _).alloc (by simp) _
 ·go_in
  go_wp2;refine bodyPost_ret (v:=.agg #[.int .i64 k,.int .i64 i,.string ⟨(s.take 60).toArray⟩]) (by simp[results,Tryz.results59,go_sem]) rfl ⟨?_, ?_⟩
  ·rfl
  ·exact((Below.refl _ _).alloc (Nat.le_refl _) _).alloc (by simp) _
def L8(k i:Int)(s:List UInt8):V:=if D5 k i s then⟨k,i,s⟩else⟨0,0,[]⟩
end
section
open Go.RowKit
attribute [local go_sem] ByteArray.extract_mk Ak
attribute [local go_sem ↓] Go.wp_at_zero Go.wp_at_succ
def Two(n:Nat)(a b:V)(w:World):Prop:=
 (w.cell? ⟨n,0,none⟩=some (.int .i64 a.k)/\w.cell? ⟨n,1,none⟩=some (.int .i64 a.i)/\w.cell? ⟨n,2,none⟩=some (.string ⟨a.s.toArray⟩)) ∧
 (w.cell? ⟨n+1,0,none⟩=some (.int .i64 b.k)/\w.cell? ⟨n+1,1,none⟩=some (.int .i64 b.i)/\w.cell? ⟨n+1,2,none⟩=some (.string ⟨b.s.toArray⟩))
def veq(a b:V):Bool:=decide (a.k=b.k)&&(decide (a.i=b.i)&&a.s==b.s)
theorem CY(k i:Int)(s:List UInt8)(k' i':Int)(s':List UInt8)(w:World):
  (binOp .eql 27 (.agg #[.int .i64 k,.int .i64 i,.string ⟨s.toArray⟩]) (.agg #[.int .i64 k',.int .i64 i',.string ⟨s'.toArray⟩])).run Tryz.prog w=.ok (.bool (veq ⟨k,i,s⟩ ⟨k',i',s'⟩)) w:=by
 by_cases h1:k=k'<;>by_cases h2:i=i'<;>by_cases h3:s=s'<;>simp[go_sem,veq,h1,h2,h3,Tryz.underlying27,Tryz.underlying3,Tryz.underlying2,Tryz.underlying9]
theorem CE(k i:Int)(s:List UInt8)(k' i':Int)(s':List UInt8)(w:World):
  (binOp .neq 27 (.agg #[.int .i64 k,.int .i64 i,.string ⟨s.toArray⟩]) (.agg #[.int .i64 k',.int .i64 i',.string ⟨s'.toArray⟩])).run Tryz.prog w=.ok (.bool (!veq ⟨k,i,s⟩ ⟨k',i',s'⟩)) w:=by
 by_cases h1:k=k'<;>by_cases h2:i=i'<;>by_cases h3:s=s'<;>simp[go_sem,veq,h1,h2,h3,Tryz.underlying27,Tryz.underlying3,Tryz.underlying2,Tryz.underlying9]
theorem Hl{P:Program}{c:Code}{Q:Exit->Act->World->Prop}{a:Act}{w:World}(R:World->Prop)(h:R w)(k:∀w',R w'->Code.wp P c Q a w'):Code.wp P c Q a w:=k w h
theorem Ag{w:World}{b o:Nat}{v:Value}(h:w.cell? ⟨b,o,none⟩=some v):b<w.heap.size:=by
 rcases Nat.lt_or_ge b w.heap.size with hlt|hge
 ·exact hlt
 ·simp[World.cell?,Array.getElem?_eq_none hge]at h
theorem Td(k i:Int)(s:ByteArray)(w:World):(Instr.field 27 (.agg #[.int .i64 k,.int .i64 i,.string s]) 0).run Tryz.prog w=.ok (.int .i64 k) w:=by kernel_rfl
theorem Tc(k i:Int)(s:ByteArray)(w:World):(Instr.field 27 (.agg #[.int .i64 k,.int .i64 i,.string s]) 1).run Tryz.prog w=.ok (.int .i64 i) w:=by kernel_rfl
theorem TZ(k i:Int)(s:ByteArray)(w:World):(Instr.field 27 (.agg #[.int .i64 k,.int .i64 i,.string s]) 2).run Tryz.prog w=.ok (.string s) w:=by kernel_rfl
def V.agg(v:V):Value:=.agg #[.int .i64 v.k,.int .i64 v.i,.string ⟨v.s.toArray⟩]
def V.may(v:V):Bool:=D5 v.k v.i v.s
def V.good(v:V):V:=L8 v.k v.i v.s
theorem V.good_not{v:V}(h:v.may=false):v.good=V.zero:=by unfold V.good L8;unfold V.may at h;rw[h];rfl
end
section
open Go.RowKit
attribute [local go_sem] ByteArray.extract_mk Ak AY
attribute [local go_sem ↓] Go.wp_at_zero Go.wp_at_succ
def BA(c:UInt8):Bool:=decide (48<=c.toNat)&&decide (c.toNat<=57)
def DV(c:UInt8):Bool:=(decide (97<=c.toNat)&&decide (c.toNat<=122))||(decide (65<=c.toNat)&&decide (c.toNat<=90))
def BV(c:UInt8):Bool:=DV c||BA c||decide (c.toNat=95)
def YP(b:Bool)(w:World)(e:Ending)(w':World):Prop:=e=.returned (.bool b)/\w=w'
theorem Gj(c:UInt8)(w:World):Calls Tryz.prog 206 #[.int .u8 (c.toNat:Int)] w (YP (BA c) w):=by
 by_cases h1:48<=c.toNat
 ·have p1:(48:Int)<=(c.toNat:Int):=by omega
  by_cases h2:c.toNat<=57
  ·have p2:(c.toNat:Int)<=57:=by omega
   go_in
   go_wp2;go_ret;exact⟨by simp[BA,h1,h2],rfl⟩
  ·have p2:¬(c.toNat:Int)<=57:=by omega
   go_in
   go_wp2;go_ret;exact⟨by simp[BA,h2],rfl⟩
 ·have p1:¬(48:Int)<=(c.toNat:Int):=by omega
  go_in
  go_wp2;go_ret;exact⟨by simp[BA,h1],rfl⟩
theorem Gp(c:UInt8)(w:World):Calls Tryz.prog 205 #[.int .u8 (c.toNat:Int)] w (YP (DV c) w):=by
 by_cases h1:97<=c.toNat
 ·have p1:(97:Int)<=(c.toNat:Int):=by omega
  by_cases h2:c.toNat<=122
  ·have p2:(c.toNat:Int)<=122:=by omega
   go_in
   go_wp2;go_ret;exact⟨by simp[DV,h1,h2],rfl⟩
  ·have p2:¬(c.toNat:Int)<=122:=by omega
   have p3:(65:Int)<=(c.toNat:Int):=by omega
   have p4:¬(c.toNat:Int)<=90:=by omega
   go_in
   go_wp2;go_ret;exact⟨by simp[DV,h2];omega,rfl⟩
 ·have p1:¬(97:Int)<=(c.toNat:Int):=by omega
  by_cases h3:65<=c.toNat
  ·have p3:(65:Int)<=(c.toNat:Int):=by omega
   by_cases h4:c.toNat<=90
   ·have p4:(c.toNat:Int)<=90:=by omega
    go_in
    go_wp2;go_ret;exact⟨by simp[DV,h3,h4],rfl⟩
   ·have p4:¬(c.toNat:Int)<=90:=by omega
    go_in
    go_wp2;go_ret;exact⟨by simp[DV,h1,h4],rfl⟩
  ·have p3:¬(65:Int)<=(c.toNat:Int):=by omega
   go_in
   go_wp2;go_ret;exact⟨by simp[DV,h1,h3],rfl⟩
theorem Qy(c:UInt8)(w:World):Calls Tryz.prog 204 #[.int .u8 (c.toNat:Int)] w (YP (BV c) w):=by
 cases hl:DV c
 ·have HL:=Lib.hid hl;cases hd:BA c
  ·have HD:=Lib.hid hd;have hp:BV c=((c.toNat:Int)==95):=by
    unfold BV;rw[hl,hd];by_cases h:c.toNat=95
    ·simp[h]
    ·have:¬((c.toNat:Int)=95):=by omega
     simp[h,this]
   have HP:=Lib.hid hp;clear hl hd hp;go_in
   go_wp2_with (first|(go_at_call 205;refine(Gp c _).mono ?_;rw[HL.out];rintro e w' ⟨rfl,rfl⟩)|(go_at_call 206;refine(Gj c _).mono ?_;rw[HD.out];rintro e w' ⟨rfl,rfl⟩));go_ret;exact⟨by rw[HP.out];rfl,rfl⟩
  ·have HD:=Lib.hid hd;have hp:BV c=true:=by unfold BV;rw[hl,hd];rfl
   have HP:=Lib.hid hp;clear hl hd hp;go_in
   go_wp2_with (first|(go_at_call 205;refine(Gp c _).mono ?_;rw[HL.out];rintro e w' ⟨rfl,rfl⟩)|(go_at_call 206;refine(Gj c _).mono ?_;rw[HD.out];rintro e w' ⟨rfl,rfl⟩));go_ret;exact⟨by rw[HP.out];rfl,rfl⟩
 ·have HL:=Lib.hid hl;have hp:BV c=true:=by unfold BV;rw[hl];rfl
  have HP:=Lib.hid hp;clear hl hp;go_in
  go_wp2_with (go_at_call 205;refine(Gp c _).mono ?_;rw[HL.out];rintro e w' ⟨rfl,rfl⟩);go_ret;exact⟨by rw[HP.out];rfl,rfl⟩
def Aj(f g:UInt8->Bool):List UInt8->Nat
 |[]=>0
 |c::r=>if f c then 1+(r.takeWhile g).length else 0
theorem EM(f g:UInt8->Bool)(s:List UInt8):Aj f g s<=s.length:=by
 cases s with
 |nil=>exact Nat.le_refl _
 |cons c r=>
  unfold Aj;have:=(List.takeWhile_sublist g (l:=r)).length_le;simp only[List.length_cons];split<;>omega
theorem Ud(g:UInt8->Bool)(r:List UInt8)(j:Nat)(c:UInt8)(h:r[j]? = some c):((r.drop j).takeWhile g).length=if g c then((r.drop (j+1)).takeWhile g).length+1 else 0:=by
 obtain⟨hj,he⟩:=List.getElem?_eq_some_iff.1 h;rw[List.drop_eq_getElem_cons hj,he,List.takeWhile_cons];split<;>simp
theorem Lr(s:List UInt8)(w:World)(hs:s.length<=1000000):
  Calls Tryz.prog 157 #[.agg #[.int .i64 1,.int .i64 16,.func (.func 205) #[] #[],.func (.func 204) #[] #[]],.string ⟨s.toArray⟩] w (Ret (.int .i64 (Aj DV BV s:Int)) w):=by
 obtain⟨w0,hw0⟩:∃w0,w.alloc (.cells #[.int .i64 1,.int .i64 16,.func (.func 205) #[] #[],.func (.func 204) #[] #[]] 183)=w0:=⟨_,rfl⟩;have hb0:Below w.heap.size w w0:=by rw[<-hw0];exact bl
 have hk0:Blk w0 w.heap.size 183 #[.int .i64 1,.int .i64 16,.func (.func 205) #[] #[],.func (.func 204) #[] #[]]:=by rw[<-hw0];exact Blk.new _ _ _
 have HW:=Lib.hid hw0;clear hw0;have lw:=hk0.lt;have hz0:=hb0.size;have HSH:Hid (∀w',Below w0.heap.size w0 w'->(w'.cell? ⟨w.heap.size,2,none⟩=some (.func (.func 205) #[] #[])/\w'.cell? ⟨w.heap.size,3,none⟩=some (.func (.func 204) #[] #[]))):=λw' h=>⟨(hk0.below h lw).cell 2,(hk0.below h lw).cell 3⟩
 cases s with
 |nil=>
  go_in
  go_upto_region 1 with fail
  rw[HW.out];refine wp_region_held_drew (S:=(λ_=>True)) (by kernel_rfl) ?_ (λhHeld=>?_)
  ·try dsimp only
   first|done|trivial
  refine tS [0,1,2] ?_;iterate 3(refine tC ?_;refine ap ?_)
  refine tN ?_;refine tS [3,4,5,6,7,8] ?_;iterate 6(refine tX ?_;refine ap ?_)
  refine tN ?_;refine tS [9] (tC ?_);refine ap (tN ?_);refine wpAnyH_done (by kernel_rfl) ?_ _;go_wp2_with fail;go_ret;exact⟨rfl,by exact bl⟩
 |cons c r=>
  have hr:r.length<=999999:=by simp at hs;omega
  clear hs;have e1:((c::r)==[])=false:=rfl;go_in
  go_upto_region 1 with fail
  rw[HW.out];cases hf:DV c
  ·have HF:=Lib.hid hf;clear hf;refine rgn HSH λhHeld=>?_
   refine tS [0,1,2,3,4,5,6] ?_;iterate 7(refine tC ?_;refine ap ?_)
   refine tN ?_;refine rdy 7 λK hK=>?_
   go_simp;refine(Gp c _).mono ?_<;>rw[HF.out]<;>rintro e w7 ⟨rfl,rfl⟩
   go_wp2_with fail;refine hK.out _ _ (HSH.out _ (by exact bl)) λhHeld=>?_
   clear hK K;refine ap ?_;refine tS [8,9] ?_;iterate 2(refine tC ?_;refine ap ?_)
   refine tN ?_;refine wpAnyH_done (by kernel_rfl) ?_ _;go_wp2_with fail;go_ret;exact⟨by simp[Aj,HF.out],by exact bl⟩
  ·have HF:=Lib.hid hf;clear hf;refine rgn HSH λhHeld=>?_
   refine tS [0,1,2,3,4,5,6] ?_;iterate 7(refine tC ?_;refine ap ?_)
   refine tN ?_;refine rdy 7 λK hK=>?_
   go_simp;refine(Gp c _).mono ?_<;>rw[HF.out]<;>rintro e w7 ⟨rfl,rfl⟩
   go_wp2_with fail;refine hK.out _ _ (HSH.out _ (by exact bl)) λhHeld=>?_
   clear hK K;refine ap ?_;refine tS [8,9] ?_;iterate 2(refine tC ?_;refine ap ?_)
   refine tN ?_;refine wpAnyH_done (by kernel_rfl) ?_ _;have hbS:Below w0.heap.size w0 w0.drew:=by exact bl
   generalize w0.drew=ws at *
   go_wp2_with fail;go_loopw [5] (λi wr=>∃j:Nat,j<=r.length/\i=.int .i64 ((j:Int)+1)/\Hid ((r.takeWhile BV).length=j+((r.drop j).takeWhile BV).length)/\Below w0.heap.size w0 wr) (λi _=>r.length+1 - (intOf i).toNat)
   case atStart=>exact⟨0,by omega,rfl,(by show _=_;simp),hbS⟩
   case round=>
    obtain⟨j,hj,rfl,HT,hbr⟩:=hrel;obtain⟨Wr,rfl⟩:∃Wr,Wr=wr:=⟨_,rfl⟩;have hzr:=hbr.size;by_cases hlt:j<r.length
    ·obtain⟨d,hd⟩:∃d,r[j]? = some d:=⟨_,List.getElem?_eq_getElem hlt⟩;have hst:=Ud BV r j d hd;have i1:(0:Int)<=(j:Int)+1:=by omega
     have i2:(j:Int)+1<(r.length:Int)+1:=by omega
     have hdd:r[j]=d:=by rw[List.getElem?_eq_getElem hlt]at hd;exact Option.some.inj hd
     have i4:((j:Int)+1).toNat=j+1:=by omega
     have i5:(c::r)[j+1]? = some d:=by rw[List.getElem?_cons_succ];exact hd
     clear hd;cases hg:BV d
     ·rw[hg]at hst;have HG:=Lib.hid hg;have HST:=Lib.hid hst;clear hg hst;go_wp2_with fail;refine rgn HSH λhHeld=>?_
      refine tS [0,1,2,3,4,5,6,7,8,9] ?_;iterate 10(refine tC ?_;refine ap ?_)
      refine tN ?_;refine rdy 10 λK hK=>?_
      go_simp;refine(Qy d _).mono ?_<;>rw[HG.out]<;>rintro e w7 ⟨rfl,rfl⟩
      go_wp2_with fail;refine hK.out _ _ (HSH.out _ (by exact bl)) λhHeld=>?_
      clear hK K;refine ap ?_;refine tS [11] (tC ?_);refine ap (tN ?_);refine wpAnyH_done (by kernel_rfl) ?_ _;go_wp2_with fail;go_ret;refine⟨?_,by exact bl⟩;have h1:=HT.out;have h2:=HST.out;simp only[Bool.false_eq_true,if_false]at h2;have h3:Aj DV BV (c::r)=1+(r.takeWhile BV).length:=by simp[Aj,HF.out]
      rw[h3,h1,h2];simp;omega
     ·rw[hg]at hst;have HG:=Lib.hid hg;have HST:=Lib.hid hst;clear hg hst;go_wp2_with fail;refine rgn HSH λhHeld=>?_
      refine tS [0,1,2,3,4,5,6,7,8,9] ?_;iterate 10(refine tC ?_;refine ap ?_)
      refine tN ?_;refine rdy 10 λK hK=>?_
      go_simp;refine(Qy d _).mono ?_<;>rw[HG.out]<;>rintro e w7 ⟨rfl,rfl⟩
      go_wp2_with fail;refine hK.out _ _ (HSH.out _ (by exact bl)) λhHeld=>?_
      clear hK K;refine ap ?_;refine tS [11] (tC ?_);refine ap (tN ?_);refine wpAnyH_done (by kernel_rfl) ?_ _;go_wp2_with fail;go_roundw
      case rel=>exact⟨j+1,by omega,by go_num,(by show _=_;rw[HT.out,HST.out];simp;omega),by exact bl⟩
      case measure=>simp[intOf];omega
    ·have i2:¬((j:Int)+1<(r.length:Int)+1):=by omega
     have i3:decide ((j:Int)<(r.length:Int))=false:=by simp;omega
     have hnil:r.drop j=[]:=List.drop_of_length_le (by omega);have HN:=Lib.hid hnil;clear hnil;go_wp2_with fail;refine wp_region_held_drew (S:=(λ_=>True)) (by kernel_rfl) ?_ (λhHeld=>?_)
     ·try dsimp only
      first|done|trivial
     refine tS [0,1,2,3,4] ?_;iterate 5(refine tC ?_;refine ap ?_)
     refine tN ?_;refine tS [5,6,7,8,9,10] ?_;iterate 6(refine tX ?_;refine ap ?_)
     refine tN ?_;refine tS [11] (tC ?_);refine ap (tN ?_);refine wpAnyH_done (by kernel_rfl) ?_ _;go_wp2_with fail;go_ret;refine⟨?_,by exact bl⟩;have h1:=HT.out;rw[HN.out]at h1;have h3:Aj DV BV (c::r)=1+(r.takeWhile BV).length:=by simp[Aj,HF.out]
     rw[h3,h1];simp;omega
theorem Lu(s:List UInt8)(w:World)(hs:s.length<=1000000):
  Calls Tryz.prog 157 #[.agg #[.int .i64 2,.int .i64 19,.func (.func 206) #[] #[],.func (.func 206) #[] #[]],.string ⟨s.toArray⟩] w (Ret (.int .i64 (Aj BA BA s:Int)) w):=by
 obtain⟨w0,hw0⟩:∃w0,w.alloc (.cells #[.int .i64 2,.int .i64 19,.func (.func 206) #[] #[],.func (.func 206) #[] #[]] 183)=w0:=⟨_,rfl⟩;have hb0:Below w.heap.size w w0:=by rw[<-hw0];exact bl
 have hk0:Blk w0 w.heap.size 183 #[.int .i64 2,.int .i64 19,.func (.func 206) #[] #[],.func (.func 206) #[] #[]]:=by rw[<-hw0];exact Blk.new _ _ _
 have HW:=Lib.hid hw0;clear hw0;have lw:=hk0.lt;have hz0:=hb0.size;have HSH:Hid (∀w',Below w0.heap.size w0 w'->(w'.cell? ⟨w.heap.size,2,none⟩=some (.func (.func 206) #[] #[])/\w'.cell? ⟨w.heap.size,3,none⟩=some (.func (.func 206) #[] #[]))):=λw' h=>⟨(hk0.below h lw).cell 2,(hk0.below h lw).cell 3⟩
 cases s with
 |nil=>
  go_in
  go_upto_region 1 with fail
  rw[HW.out];refine wp_region_held_drew (S:=(λ_=>True)) (by kernel_rfl) ?_ (λhHeld=>?_)
  ·try dsimp only
   first|done|trivial
  refine tS [0,1,2] ?_;iterate 3(refine tC ?_;refine ap ?_)
  refine tN ?_;refine tS [3,4,5,6,7,8] ?_;iterate 6(refine tX ?_;refine ap ?_)
  refine tN ?_;refine tS [9] (tC ?_);refine ap (tN ?_);refine wpAnyH_done (by kernel_rfl) ?_ _;go_wp2_with fail;go_ret;exact⟨rfl,by exact bl⟩
 |cons c r=>
  have hr:r.length<=999999:=by simp at hs;omega
  clear hs;have e1:((c::r)==[])=false:=rfl;go_in
  go_upto_region 1 with fail
  rw[HW.out];cases hf:BA c
  ·have HF:=Lib.hid hf;clear hf;refine rgn HSH λhHeld=>?_
   refine tS [0,1,2,3,4,5,6] ?_;iterate 7(refine tC ?_;refine ap ?_)
   refine tN ?_;refine rdy 7 λK hK=>?_
   go_simp;refine(Gj c _).mono ?_<;>rw[HF.out]<;>rintro e w7 ⟨rfl,rfl⟩
   go_wp2_with fail;refine hK.out _ _ (HSH.out _ (by exact bl)) λhHeld=>?_
   clear hK K;refine ap ?_;refine tS [8,9] ?_;iterate 2(refine tC ?_;refine ap ?_)
   refine tN ?_;refine wpAnyH_done (by kernel_rfl) ?_ _;go_wp2_with fail;go_ret;exact⟨by simp[Aj,HF.out],by exact bl⟩
  ·have HF:=Lib.hid hf;clear hf;refine rgn HSH λhHeld=>?_
   refine tS [0,1,2,3,4,5,6] ?_;iterate 7(refine tC ?_;refine ap ?_)
   refine tN ?_;refine rdy 7 λK hK=>?_
   go_simp;refine(Gj c _).mono ?_<;>rw[HF.out]<;>rintro e w7 ⟨rfl,rfl⟩
   go_wp2_with fail;refine hK.out _ _ (HSH.out _ (by exact bl)) λhHeld=>?_
   clear hK K;refine ap ?_;refine tS [8,9] ?_;iterate 2(refine tC ?_;refine ap ?_)
   refine tN ?_;refine wpAnyH_done (by kernel_rfl) ?_ _;have hbS:Below w0.heap.size w0 w0.drew:=by exact bl
   generalize w0.drew=ws at *
   go_wp2_with fail;go_loopw [5] (λi wr=>∃j:Nat,j<=r.length/\i=.int .i64 ((j:Int)+1)/\Hid ((r.takeWhile BA).length=j+((r.drop j).takeWhile BA).length)/\Below w0.heap.size w0 wr) (λi _=>r.length+1 - (intOf i).toNat)
   case atStart=>exact⟨0,by omega,rfl,(by show _=_;simp),hbS⟩
   case round=>
    obtain⟨j,hj,rfl,HT,hbr⟩:=hrel;obtain⟨Wr,rfl⟩:∃Wr,Wr=wr:=⟨_,rfl⟩;have hzr:=hbr.size;by_cases hlt:j<r.length
    ·obtain⟨d,hd⟩:∃d,r[j]? = some d:=⟨_,List.getElem?_eq_getElem hlt⟩;have hst:=Ud BA r j d hd;have i1:(0:Int)<=(j:Int)+1:=by omega
     have i2:(j:Int)+1<(r.length:Int)+1:=by omega
     have hdd:r[j]=d:=by rw[List.getElem?_eq_getElem hlt]at hd;exact Option.some.inj hd
     have i4:((j:Int)+1).toNat=j+1:=by omega
     have i5:(c::r)[j+1]? = some d:=by rw[List.getElem?_cons_succ];exact hd
     clear hd;cases hg:BA d
     ·rw[hg]at hst;have HG:=Lib.hid hg;have HST:=Lib.hid hst;clear hg hst;go_wp2_with fail;refine rgn HSH λhHeld=>?_
      refine tS [0,1,2,3,4,5,6,7,8,9] ?_;iterate 10(refine tC ?_;refine ap ?_)
      refine tN ?_;refine rdy 10 λK hK=>?_
      go_simp;refine(Gj d _).mono ?_<;>rw[HG.out]<;>rintro e w7 ⟨rfl,rfl⟩
      go_wp2_with fail;refine hK.out _ _ (HSH.out _ (by exact bl)) λhHeld=>?_
      clear hK K;refine ap ?_;refine tS [11] (tC ?_);refine ap (tN ?_);refine wpAnyH_done (by kernel_rfl) ?_ _;go_wp2_with fail;go_ret;refine⟨?_,by exact bl⟩;have h1:=HT.out;have h2:=HST.out;simp only[Bool.false_eq_true,if_false]at h2;have h3:Aj BA BA (c::r)=1+(r.takeWhile BA).length:=by simp[Aj,HF.out]
      rw[h3,h1,h2];simp;omega
     ·rw[hg]at hst;have HG:=Lib.hid hg;have HST:=Lib.hid hst;clear hg hst;go_wp2_with fail;refine rgn HSH λhHeld=>?_
      refine tS [0,1,2,3,4,5,6,7,8,9] ?_;iterate 10(refine tC ?_;refine ap ?_)
      refine tN ?_;refine rdy 10 λK hK=>?_
      go_simp;refine(Gj d _).mono ?_<;>rw[HG.out]<;>rintro e w7 ⟨rfl,rfl⟩
      go_wp2_with fail;refine hK.out _ _ (HSH.out _ (by exact bl)) λhHeld=>?_
      clear hK K;refine ap ?_;refine tS [11] (tC ?_);refine ap (tN ?_);refine wpAnyH_done (by kernel_rfl) ?_ _;go_wp2_with fail;go_roundw
      case rel=>exact⟨j+1,by omega,by go_num,(by show _=_;rw[HT.out,HST.out];simp;omega),by exact bl⟩
      case measure=>simp[intOf];omega
    ·have i2:¬((j:Int)+1<(r.length:Int)+1):=by omega
     have i3:decide ((j:Int)<(r.length:Int))=false:=by simp;omega
     have hnil:r.drop j=[]:=List.drop_of_length_le (by omega);have HN:=Lib.hid hnil;clear hnil;go_wp2_with fail;refine wp_region_held_drew (S:=(λ_=>True)) (by kernel_rfl) ?_ (λhHeld=>?_)
     ·try dsimp only
      first|done|trivial
     refine tS [0,1,2,3,4] ?_;iterate 5(refine tC ?_;refine ap ?_)
     refine tN ?_;refine tS [5,6,7,8,9,10] ?_;iterate 6(refine tX ?_;refine ap ?_)
     refine tN ?_;refine tS [11] (tC ?_);refine ap (tN ?_);refine wpAnyH_done (by kernel_rfl) ?_ _;go_wp2_with fail;go_ret;refine⟨?_,by exact bl⟩;have h1:=HT.out;rw[HN.out]at h1;have h3:Aj BA BA (c::r)=1+(r.takeWhile BA).length:=by simp[Aj,HF.out]
     rw[h3,h1];simp;omega
end
section
open Go.RowKit
attribute [local go_sem] ByteArray.extract_mk Ak
attribute [local go_sem ↓] Go.wp_at_zero Go.wp_at_succ
def cmpI(a b:Int):Int:=if a<b then -1 else if b<a then 1 else 0
def cmpS(a b:List UInt8):Int:=if a=b then 0 else if Op.bytesLess a b then -1 else 1
def or3(x y z:Int):Int:=if x=0 then(if y=0 then z else y)else x
def cord(a b:V):Int:=or3 (cmpI a.k b.k) (cmpI a.i b.i) (cmpS a.s b.s)
def Gv(k i:Int)(s:List UInt8):Int:=if k=3 then(if D5 k i s then 1+i else 0)else 0
theorem may3{i:Int}{s:List UInt8}(h:D5 3 i s=true):(i=0\/i=1)/\s=[]:=by
 simp[D5]at h;exact h
theorem Qa(k i:Int)(s:List UInt8)(w:World):
  Calls Tryz.prog 154 #[.agg #[.int .i64 k,.int .i64 i,.string ⟨s.toArray⟩]] w (Ret (.int .i64 (Gv k i s)) w):=by
 by_cases hk:k=3
 ·subst hk;cases hm:D5 3 i s
  ·have e:Gv 3 i s=0:=by simp[Gv,hm]
   rw[e];clear e;have HM:=Lib.hid hm;clear hm;go_in
   go_wp2_with fail;refine(Ep _ _ _ _).mono ?_;rintro e w1 ⟨rfl,hb⟩;rw[HM.out];go_wp2;go_ret;exact⟨rfl,by exact bl⟩
  ·have e:Gv 3 i s=1+i:=by simp[Gv,hm]
   rw[e];clear e;have hi1:0<=i:=by rcases(may3 hm).1 with h|h<;>omega
   have hi2:i<=1:=by rcases(may3 hm).1 with h|h<;>omega
   have HM:=Lib.hid hm;clear hm;go_in
   go_wp2_with fail;refine(Ep _ _ _ _).mono ?_;rintro e w1 ⟨rfl,hb⟩;rw[HM.out];obtain⟨hc,hf⟩:=EJ hb;have hz:=hb.size;simp at hz hc hf;go_wp2;go_ret;exact⟨rfl,by exact bl⟩
 ·have e:Gv k i s=0:=by simp[Gv,hk]
  rw[e];clear e;have hk':(k != 3)=true:=by simp[hk]
  clear hk;go_in
  go_wp2;go_ret;exact⟨rfl,by exact bl⟩
def TD(n:Int):V:=if n=0 then V.zero else⟨3,n - 1,[]⟩
theorem TG(w:World):Calls Tryz.prog 268 #[.int .i64 1] w (Ret (.agg #[.int .i64 3,.int .i64 0,.string ⟨#[]⟩]) w):=by
 go_in
 go_wp2;refine bodyPost_ret (v:=.agg #[.int .i64 3,.int .i64 0,.string ⟨#[]⟩]) (by simp[results,Tryz.results268,go_sem]) rfl ⟨rfl, ?_⟩;exact bl
theorem TE(w:World):Calls Tryz.prog 268 #[.int .i64 2] w (Ret (.agg #[.int .i64 3,.int .i64 1,.string ⟨#[]⟩]) w):=by
 go_in
 go_wp2;refine bodyPost_ret (v:=.agg #[.int .i64 3,.int .i64 1,.string ⟨#[]⟩]) (by simp[results,Tryz.results268,go_sem]) rfl ⟨rfl, ?_⟩;exact bl
def bV(b:Bool):V:=⟨3,if b then 1 else 0,[]⟩
end
section
open Go.RowKit
attribute [local go_sem] ByteArray.extract_mk Ak
attribute [local go_sem ↓] Go.wp_at_zero Go.wp_at_succ CY CE Td Tc TZ
def andN(x y:Int):Int:=if x=1\/y=1 then 1 else if x=2/\y=2 then 2 else 0
def orN(x y:Int):Int:=if x=2\/y=2 then 2 else if x=1/\y=1 then 1 else 0
def notN(x:Int):Int:=if x=2 then 1 else if x=1 then 2 else 0
def QE(a b:V):Bool:=!decide ((L8 a.k a.i a.s).k=0)&&decide ((L8 a.k a.i a.s).k=(L8 b.k b.i b.s).k)
def bG(a b:V):V:=if QE a b then bV (veq a b)else V.zero
def lessV(a b:V):V:=if QE a b then bV (decide (cord (L8 a.k a.i a.s) (L8 b.k b.i b.s)<0))else V.zero
def fits(n:Int):Bool:=decide (-9223372036854775808<=n)&&decide (n<=9223372036854775807)
def plusV(a b:V):V:=if QE a b&&decide (a.k=1)&&fits (a.i+b.i)then⟨1,a.i+b.i,[]⟩else V.zero
def ag(a b:V):V:=if QE a b&&decide (a.k=1)&&fits (a.i - b.i)then⟨1,a.i - b.i,[]⟩else V.zero
end
section
open Go
section
variable {P : Program} {ops : Array Oper} {Q : Exit → Act → World → Prop} {md : Region.Mode} {S : World → Prop}
theorem Oj{L:Array Bool}{i:Nat}(d:Bool)(h:i<L.size):(L.setIfInBounds i true).getD i d=true:=by
 simp[Array.getD,h]
theorem JF{L:Array Bool}{i j:Nat}(d:Bool)(h:i≠j):(L.setIfInBounds i true).getD j d=L.getD j d:=by
 simp only[Array.getD,Array.size_setIfInBounds];split
 ·exact Array.getElem_setIfInBounds_ne _ h
 ·rfl
theorem Dv{i:Nat}{o:Oper}{a:Act}{w:World}{K:Act->World->Prop}(ho:ops[i]? = some o)
 (h:∀K':Act->World->Prop,Shut (∀a w,K a w->K' a w)->if Region.wanted o (yielded ops a.tmps)=true then Oper.wp P o a w K' Q else K' (a.put o.dst undef) w):wpOp P ops Q i K a w:=
 wpOp_step ho (λK' hK=>h K' (λa w hk=>hK a w hk))
end
end
section
open Go.RowKit
def Up(L:Array Bool)(i:Nat):Prop:=L.getD i true=true
instance (L:Array Bool) (i:Nat):Decidable (Up L i):=inferInstanceAs (Decidable (_=_))
def YM(L:Array Bool)(i:Nat)(u v:Value):Prop:=Up L i->u=v
def YQ(L:Array Bool)(i:Nat)(B:Nat)(w:World)(u:Value):Prop:=Up L i->∃g,u=.pointer (some ⟨g,0,none⟩)/\B<=g/\Blk w g 27 #[.int .i64 0,.int .i64 0,.string ⟨#[]⟩]
def AHM(L:Array Bool)(i j:Nat)(u v:Value):Prop:=Up L i->Up L j->u≠v
theorem Up.put{L:Array Bool}{i j:Nat}(h:Up (L.setIfInBounds i true) j)(hne:i≠j):Up L j:=by unfold Up at *;rwa [JF true hne]at h
theorem Up.more{L:Array Bool}{i j:Nat}(h:Up L j):Up (L.setIfInBounds i true) j:=by
 unfold Up at *;by_cases e:i=j
 ·subst e;by_cases hlt:i<L.size
  ·exact Oj true hlt
  ·simp[Array.getD,hlt]
 ·rw[JF true e];exact h
theorem YM.put{L:Array Bool}{i j:Nat}{u v:Value}(h:YM L j u v)(hne:i≠j):YM (L.setIfInBounds i true) j u v:=λhu=>h (hu.put hne)
theorem YM.new{L:Array Bool}{i:Nat}{v:Value}:YM L i v v:=λ_=>rfl
theorem YQ.put{L:Array Bool}{i j B:Nat}{w w':World}{u:Value}(h:YQ L j B w u)(hne:i≠j)(hb:Below w.heap.size w w'):YQ (L.setIfInBounds i true) j B w' u:=λhu=>by
 obtain⟨g,e,h1,h2⟩:=h (hu.put hne);exact⟨g,e,h1,h2.below hb h2.lt⟩
theorem YQ.new{L:Array Bool}{i B:Nat}{w:World}(hB:B<=w.heap.size):YQ L i B (w.alloc (.cells #[.int .i64 0,.int .i64 0,.string ⟨#[]⟩] 27)) (.pointer (some ⟨w.heap.size,0,none⟩)):=
 λ_=>⟨_,rfl,hB,Blk.new w _ _⟩
theorem AHM.put{L:Array Bool}{i j k:Nat}{u v:Value}(h:AHM L j k u v)(h1:i≠j)(h2:i≠k):AHM (L.setIfInBounds i true) j k u v:=λa b=>h (a.put h1) (b.put h2)
end
end Go.Proofs.YtchilcchogcibaaGreatDoor
