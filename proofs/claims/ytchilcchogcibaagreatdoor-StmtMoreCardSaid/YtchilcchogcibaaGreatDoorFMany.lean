/- slices.IndexFunc and slices.ContainsFunc at texts, columns, references, values and what an UPDATE sets, by a closure; stmt.many at each. -/
import Derived.Test.YtchilcchogcibaaGreatDoorFFew5a
set_option maxRecDepth 100000
set_option maxHeartbeats 1000000
namespace Go.Proofs.YtchilcchogcibaaGreatDoor
open Go.RowKit
attribute [local go_sem] ByteArray.extract_mk Ak AY
attribute [local go_sem ↓] Go.wp_at_zero Go.wp_at_succ
theorem CQ.at_{l:List Col}{A:Option Addr}{Q:Nat->Prop}{w:World}(h:CQ l A Q w){j:Nat}(hj:j<l.length):∃b off x,A=some ⟨b,off,none⟩/\Q b/\l[j]? = some x/\w.cell? ⟨b,off+j * 3,none⟩=some (.string ⟨x.n.toArray⟩)/\w.cell? ⟨b,off+j * 3+1,none⟩=some (.int .i64 x.t)/\w.cell? ⟨b,off+j * 3+2,none⟩=some (.bool x.b):=by
 obtain⟨b,off,rfl,hb,hr⟩:=h (by omega);obtain⟨c0,c1,c2⟩:=hr j _ (List.getElem?_eq_getElem hj);exact⟨b,off,l[j],rfl,hb,List.getElem?_eq_getElem hj,c0,c1,c2⟩
theorem WQ.at_{l:List V}{A:Option Addr}{Q:Nat->Prop}{w:World}(h:WQ l A Q w){j:Nat}(hj:j<l.length):∃b off x,A=some ⟨b,off,none⟩/\Q b/\l[j]? = some x/\w.cell? ⟨b,off+j * 3,none⟩=some (.int .i64 x.k)/\w.cell? ⟨b,off+j * 3+1,none⟩=some (.int .i64 x.i)/\w.cell? ⟨b,off+j * 3+2,none⟩=some (.string ⟨x.s.toArray⟩):=by
 obtain⟨b,off,rfl,hb,hr⟩:=h (by omega);obtain⟨c0,c1,c2⟩:=hr j _ (List.getElem?_eq_getElem hj);exact⟨b,off,l[j],rfl,hb,List.getElem?_eq_getElem hj,c0,c1,c2⟩
theorem ZQ.read{K n:Nat}{l:List Se}{A:Option Addr}{Q:Nat->Prop}{w:World}(h:ZQ K n l A Q w){j:Nat}(hj:j<l.length):∃b off x A' c',A=some ⟨b,off,none⟩/\Q b/\l[j]? = some x/\w.cell? ⟨b,off+j * 7,none⟩=some (.string ⟨x.n.toArray⟩) ∧
  (w.cell? ⟨b,off+j * 7+1,none⟩=some (.string ⟨x.e.op.toArray⟩)/\w.cell? ⟨b,off+j * 7+2,none⟩=some (.int .i64 x.e.v.k)/\w.cell? ⟨b,off+j * 7+3,none⟩=some (.int .i64 x.e.v.i)/\w.cell? ⟨b,off+j * 7+4,none⟩=some (.string ⟨x.e.v.s.toArray⟩) ∧
   w.cell? ⟨b,off+j * 7+5,none⟩=some (.string ⟨x.e.s.toArray⟩)/\w.cell? ⟨b,off+j * 7+6,none⟩=some (.slice A' x.e.l.length c'))/\x.e.fit K/\x.e.l.length<=c'/\c'<=maxLen/\ExQ K n w Q A' x.e.l:=by
 obtain⟨b,off,x,A',c',h1,h2,h3,h4,h5,h6,h7,h8,h9⟩:=h.at_ hj;exact⟨b,off,x,A',c',h1,h2,h3,h4,h8,h5,h6,h7,h9⟩
theorem WB(x:List UInt8)(f g:Nat)(q:Bool)(eg:∀args (w:World),(callFunc f args).run Tryz.prog w=.ok (.enter f args) w)(w:World)(hf:w.cell? ⟨g,0,none⟩=some (.func (.func f) #[] #[]))
 (hq:∀Z:World,Below w.heap.size w Z->Calls Tryz.prog f #[.string ⟨x.toArray⟩] Z (Ret (.bool q) Z)):Calls Tryz.prog 142 #[.string ⟨x.toArray⟩,.pointer (some ⟨g,0,none⟩)] w (Ret (.bool (!q)) w):=by
 have hg:g<w.heap.size:=Ag hf;have HC:=Lib.hid (hq w (Below.refl _ _));clear hq;go_in
 go_wp2_with fail;refine HC.out.mono ?_;rintro en w1 ⟨rfl,hb1⟩;go_wp2_with fail;go_ret;exact⟨rfl,hb1⟩
theorem Y0(A:Option Addr)(c:Nat)(l:List (List UInt8))(p:(List UInt8)->Bool)(f:Nat)(caps:Array Value)(eg:∀args (w:World),(callFunc f args).run Tryz.prog w=.ok (.enter f args) w)(w:World)(hl:l.length<=1000000) (h:SQ l A (Old w.heap.size) w)
 (hp:∀x∈l,  ∀Z:World,Below w.heap.size w Z->True->Calls Tryz.prog f (#[.string ⟨x.toArray⟩]++caps) Z (Ret (.bool (p x)) Z)):
  Calls Tryz.prog 73 #[.slice A l.length c,.func (.func f) #[] caps] w (Ret (.int .i64 (CW p l 0)) w):=by
 obtain⟨R,hR⟩:∃R,CW p l 0=R:=⟨_,rfl⟩;rw[hR];have HR:Hid (CW p (l.drop 0) 0=R):=hR;have HP:=Lib.hid hp;have HQ:Hid (∀Z:World,Below w.heap.size w Z->SQ l A (Old w.heap.size) Z):=λZ hz=>h.keep λb hb=>⟨hb,λo=>hz.cell (p:=⟨b,o,none⟩) hb⟩
 obtain⟨N,hN⟩:∃N,l.length=N:=⟨_,rfl⟩;have HL:=Lib.hid hN;rw[hN]at hl ⊢;clear hR hp h hN;go_in
 go_wp2;go_loopw [8] (λi wr=>∃j:Nat,j<=N/\i=.int .i64 j/\Hid (CW p (l.drop j) j=R)/\Below w.heap.size w wr) (λi _=>N - (intOf i).toNat)
 case atStart=>exact⟨0,by omega,rfl,HR,Below.refl _ _⟩
 case round=>
  obtain⟨j,hj,rfl,hrest,hbw⟩:=hrel;by_cases hlt:j<N
  ·obtain⟨b,off,x,rfl,hbB,hv,c0⟩:=(HQ.out _ hbw).at_ (j:=j) (by rw[HL.out];exact hlt);have hrest':=hrest.out;have hdr:l.drop j=x::l.drop (j+1):=by
    obtain⟨hj',rfl⟩:=List.getElem?_eq_some_iff.1 hv;exact List.drop_eq_getElem_cons hj'
   rw[hdr,Fv]at hrest';have hzw:=hbw.size;obtain⟨W,rfl⟩:∃W,W=wr:=⟨_,rfl⟩;have HC:=Lib.hid (HP.out x (List.mem_of_getElem? hv)  W hbw trivial);clear hv hrest hdr;cases hq:p x
   ·have HF:Hid (CW p (l.drop (j+1)) (j+1)=R):=by
     show _=_
     rw[<-hrest',hq];rfl
    have HQ2:=Lib.hid hq;clear hrest' hq;go_wp2_with fail;refine HC.out.mono ?_;rintro e w1 ⟨rfl,hb1⟩;rw[HQ2.out];go_wp2_with fail;go_roundw
    case rel=>exact⟨j+1,by omega,by go_num,HF,hbw.trans (hb1.mono hzw)⟩
    case measure=>simp[intOf];omega
   ·have HF:Hid ((j:Int)=R):=by
     show _=_
     rw[<-hrest',hq];rfl
    have HQ2:=Lib.hid hq;clear hrest' hq;go_wp2_with fail;refine HC.out.mono ?_;rintro e w1 ⟨rfl,hb1⟩;rw[HQ2.out];go_wp2_with fail;go_ret;exact⟨by rw[<-HF.out];rfl,hbw.trans (hb1.mono hzw)⟩
  ·have HF:Hid (R = -1):=by
    show _=_
    rw[<-hrest.out,List.drop_of_length_le (by rw[HL.out];omega)];rfl
   clear hrest;go_wp2;go_ret;exact⟨by rw[HF.out];rfl,hbw⟩
theorem ZM(A:Option Addr)(c:Nat)(l:List (List UInt8))(p:(List UInt8)->Bool)(f:Nat)(caps:Array Value)(eg:∀args (w:World),(callFunc f args).run Tryz.prog w=.ok (.enter f args) w)(w:World)(hl:l.length<=1000000) (h:SQ l A (Old w.heap.size) w)
 (hp:∀x∈l,  ∀Z:World,Below w.heap.size w Z->True->Calls Tryz.prog f (#[.string ⟨x.toArray⟩]++caps) Z (Ret (.bool (p x)) Z)):
  Calls Tryz.prog 52 #[.slice A l.length c,.func (.func f) #[] caps] w (Ret (.bool (l.any p)) w):=by
 have HI:=Lib.hid (Y0 A c l p f caps eg w hl  h hp);have HR:=Lib.hid (FW p l 0);obtain⟨R,hR⟩:∃R,l.any p=R:=⟨_,rfl⟩;rw[hR]at HR ⊢;clear hR hp h;go_in
 go_wp2_with fail;refine HI.out.mono ?_;rintro en w1 ⟨rfl,hb1⟩;go_wp2_with fail;go_ret;exact⟨by rw[<-HR.out];rfl,hb1⟩
theorem Xp(A:Option Addr)(c:Nat)(l:List (List UInt8))(lo hi:Int)(q:(List UInt8)->Bool)(f:Nat)(eg:∀args (w:World),(callFunc f args).run Tryz.prog w=.ok (.enter f args) w)(w:World)(hlo:0<=lo)(hhi:0<=hi)(hl:l.length<=1000000) (h:SQ l A (Old w.heap.size) w)
 (hp:∀x∈l,  ∀Z:World,Below w.heap.size w Z->True->Calls Tryz.prog f #[.string ⟨x.toArray⟩] Z (Ret (.bool (q x)) Z)):
  Calls Tryz.prog 82 #[.slice A l.length c,.int .i64 lo,.int .i64 hi,.func (.func f) #[] #[]] w (Ret (.bool (Bh l lo.toNat hi.toNat q)) w):=by
 obtain⟨V,hV⟩:∃V,w.alloc (.cells #[.func (.func f) #[] #[]] 85)=V:=⟨_,rfl⟩;have hbV:Below w.heap.size w V:=by rw[<-hV];exact bl
 have kV:Blk V w.heap.size 85 #[.func (.func f) #[] #[]]:=by rw[<-hV];exact Blk.new _ _ _
 have HC:=Lib.hid (ZM A c l (λx=>!q x) 142 #[.pointer (some ⟨w.heap.size,0,none⟩)] (Go.Proofs.enters_of Tryz.func142 (by kernel_rfl) rfl) V hl  (h.keep (DK hbV hbV.size)) (by
  intro x hx  Z hz hex;exact WB x  f w.heap.size (q x) eg Z ((kV.below hz kV.lt).cell 0) (λY hY=>hp x hx  Y (hbV.trans ((hz.trans (hY.mono hz.size)).mono hbV.size)) trivial)))
 obtain⟨R,hR⟩:∃R,Bh l lo.toNat hi.toNat q=R:=⟨_,rfl⟩;have HR:=Lib.hid hR;obtain⟨N,hN⟩:∃N,l.length=N:=⟨_,rfl⟩;have HL:=Lib.hid hN;have HV:=Lib.hid hV;have HB:=Lib.hid hbV;rw[hR];rw[hN]at HC ⊢;clear hV kV h hp hR hN hbV;by_cases h1:(N:Int)<lo
 ·have HF:Hid (R=false):=by show _=_;rw[<-HR.out];unfold Bh;rw[decide_eq_false (by rw[HL.out];omega)];rfl
  go_in
  go_wp2_with fail;go_ret;exact⟨by rw[HF.out];rfl,by exact bl⟩
 ·by_cases h2:hi<(N:Int)
  ·have HF:Hid (R=false):=by show _=_;rw[<-HR.out];unfold Bh;rw[decide_eq_false (p:=l.length<=_) (by rw[HL.out];omega)];simp
   go_in
   go_wp2_with fail;go_ret;exact⟨by rw[HF.out];rfl,by exact bl⟩
  ·have HF:Hid (R = !(l.any λx=>!q x)):=by
    show _=_
    rw[<-HR.out];unfold Bh;rw[decide_eq_true (by rw[HL.out];omega),decide_eq_true (by rw[HL.out];omega)];rw[Bool.eq_iff_iff];simp
   obtain⟨S,hS⟩:∃S,(l.any λx=>!q x)=S:=⟨_,rfl⟩;rw[hS]at HF HC;clear hS;go_in
   go_upto_region 3 with fail
   rw[show w.alloc _=V from HV.out];go_wp2_with fail;refine HC.out.mono ?_;rintro en w1 ⟨rfl,hb1⟩;go_wp2_with fail;go_ret;exact⟨by rw[HF.out];rfl,HB.out.trans (hb1.mono HB.out.size)⟩
theorem ZA(A:Option Addr)(c:Nat)(l:List Col)(p:Col->Bool)(f:Nat)(caps:Array Value)(eg:∀args (w:World),(callFunc f args).run Tryz.prog w=.ok (.enter f args) w)(w:World)(hl:l.length<=1000000) (h:CQ l A (Old w.heap.size) w)
 (hp:∀x∈l,  ∀Z:World,Below w.heap.size w Z->True->Calls Tryz.prog f (#[.agg #[.string ⟨x.n.toArray⟩,.int .i64 x.t,.bool x.b]]++caps) Z (Ret (.bool (p x)) Z)):
  Calls Tryz.prog 217 #[.slice A l.length c,.func (.func f) #[] caps] w (Ret (.int .i64 (CW p l 0)) w):=by
 obtain⟨R,hR⟩:∃R,CW p l 0=R:=⟨_,rfl⟩;rw[hR];have HR:Hid (CW p (l.drop 0) 0=R):=hR;have HP:=Lib.hid hp;have HQ:Hid (∀Z:World,Below w.heap.size w Z->CQ l A (Old w.heap.size) Z):=λZ hz=>h.keep λb hb=>⟨hb,λo=>hz.cell (p:=⟨b,o,none⟩) hb⟩
 obtain⟨N,hN⟩:∃N,l.length=N:=⟨_,rfl⟩;have HL:=Lib.hid hN;rw[hN]at hl ⊢;clear hR hp h hN;go_in
 go_wp2;go_loopw [8] (λi wr=>∃j:Nat,j<=N/\i=.int .i64 j/\Hid (CW p (l.drop j) j=R)/\Below w.heap.size w wr) (λi _=>N - (intOf i).toNat)
 case atStart=>exact⟨0,by omega,rfl,HR,Below.refl _ _⟩
 case round=>
  obtain⟨j,hj,rfl,hrest,hbw⟩:=hrel;by_cases hlt:j<N
  ·obtain⟨b,off,x,rfl,hbB,hv,c0,c1,c2⟩:=(HQ.out _ hbw).at_ (j:=j) (by rw[HL.out];exact hlt);have hrest':=hrest.out;have hdr:l.drop j=x::l.drop (j+1):=by
    obtain⟨hj',rfl⟩:=List.getElem?_eq_some_iff.1 hv;exact List.drop_eq_getElem_cons hj'
   rw[hdr,Fv]at hrest';have hzw:=hbw.size;obtain⟨W,rfl⟩:∃W,W=wr:=⟨_,rfl⟩;have HC:=Lib.hid (HP.out x (List.mem_of_getElem? hv)  W hbw trivial);clear hv hrest hdr;cases hq:p x
   ·have HF:Hid (CW p (l.drop (j+1)) (j+1)=R):=by
     show _=_
     rw[<-hrest',hq];rfl
    have HQ2:=Lib.hid hq;clear hrest' hq;go_wp2_with fail;refine HC.out.mono ?_;rintro e w1 ⟨rfl,hb1⟩;rw[HQ2.out];go_wp2_with fail;go_roundw
    case rel=>exact⟨j+1,by omega,by go_num,HF,hbw.trans (hb1.mono hzw)⟩
    case measure=>simp[intOf];omega
   ·have HF:Hid ((j:Int)=R):=by
     show _=_
     rw[<-hrest',hq];rfl
    have HQ2:=Lib.hid hq;clear hrest' hq;go_wp2_with fail;refine HC.out.mono ?_;rintro e w1 ⟨rfl,hb1⟩;rw[HQ2.out];go_wp2_with fail;go_ret;exact⟨by rw[<-HF.out];rfl,hbw.trans (hb1.mono hzw)⟩
  ·have HF:Hid (R = -1):=by
    show _=_
    rw[<-hrest.out,List.drop_of_length_le (by rw[HL.out];omega)];rfl
   clear hrest;go_wp2;go_ret;exact⟨by rw[HF.out];rfl,hbw⟩
theorem ZP(A:Option Addr)(c:Nat)(l:List Col)(p:Col->Bool)(f:Nat)(caps:Array Value)(eg:∀args (w:World),(callFunc f args).run Tryz.prog w=.ok (.enter f args) w)(w:World)(hl:l.length<=1000000) (h:CQ l A (Old w.heap.size) w)
 (hp:∀x∈l,  ∀Z:World,Below w.heap.size w Z->True->Calls Tryz.prog f (#[.agg #[.string ⟨x.n.toArray⟩,.int .i64 x.t,.bool x.b]]++caps) Z (Ret (.bool (p x)) Z)):
  Calls Tryz.prog 186 #[.slice A l.length c,.func (.func f) #[] caps] w (Ret (.bool (l.any p)) w):=by
 have HI:=Lib.hid (ZA A c l p f caps eg w hl  h hp);have HR:=Lib.hid (FW p l 0);obtain⟨R,hR⟩:∃R,l.any p=R:=⟨_,rfl⟩;rw[hR]at HR ⊢;clear hR hp h;go_in
 go_wp2_with fail;refine HI.out.mono ?_;rintro en w1 ⟨rfl,hb1⟩;go_wp2_with fail;go_ret;exact⟨by rw[<-HR.out];rfl,hb1⟩
theorem WG (x:Col) (f g:Nat)(q:Bool)(eg:∀args (w:World),(callFunc f args).run Tryz.prog w=.ok (.enter f args) w)(w:World)(hf:w.cell? ⟨g,0,none⟩=some (.func (.func f) #[] #[]))
 (hq:∀Z:World,Below w.heap.size w Z->Calls Tryz.prog f #[.agg #[.string ⟨x.n.toArray⟩,.int .i64 x.t,.bool x.b]] Z (Ret (.bool q) Z)):Calls Tryz.prog 187 #[.agg #[.string ⟨x.n.toArray⟩,.int .i64 x.t,.bool x.b],.pointer (some ⟨g,0,none⟩)] w (Ret (.bool (!q)) w):=by
 have hg:g<w.heap.size:=Ag hf;obtain⟨V,hV⟩:∃V,w.alloc (.cells #[.string ⟨x.n.toArray⟩,.int .i64 x.t,.bool x.b] 96)=V:=⟨_,rfl⟩;have hbV:Below w.heap.size w V:=by rw[<-hV];exact bl
 have HC:=Lib.hid (hq V hbV);have kV:Blk V w.heap.size 96 #[.string ⟨x.n.toArray⟩,.int .i64 x.t,.bool x.b]:=by rw[<-hV];exact Blk.new _ _ _
 have HK:Hid (∀i,V.cell? ⟨w.heap.size,i,none⟩=(#[.string ⟨x.n.toArray⟩,.int .i64 x.t,.bool x.b]:Array Value)[i]?):=λi=>kV.cell i
 have hf2:V.cell? ⟨g,0,none⟩=some (.func (.func f) #[] #[]):=(hbV.cell (p:=⟨g,0,none⟩) hg).trans hf;have HV:=Lib.hid hV;clear hV hq kV hf;go_in
 go_upto_region 1 with fail
 rw[HV.out];have k0:=HK.out 0;have k1:=HK.out 1;have k2:=HK.out 2;have k3:=HK.out 3;have k4:=HK.out 4;have k5:=HK.out 5;have k6:=HK.out 6;have k7:=HK.out 7;simp only[List.getElem?_toArray,List.getElem?_cons_zero,List.getElem?_cons_succ,List.getElem?_nil]at k0 k1 k2 k3 k4 k5 k6 k7;go_wp2_with fail;refine HC.out.mono ?_;rintro en w1 ⟨rfl,hb1⟩;go_wp2_with fail;go_ret;exact⟨rfl,hbV.trans (hb1.mono hbV.size)⟩
theorem Xt(A:Option Addr)(c:Nat)(l:List Col)(lo hi:Int)(q:Col->Bool)(f:Nat)(eg:∀args (w:World),(callFunc f args).run Tryz.prog w=.ok (.enter f args) w)(w:World)(hlo:0<=lo)(hhi:0<=hi)(hl:l.length<=1000000) (h:CQ l A (Old w.heap.size) w)
 (hp:∀x∈l,  ∀Z:World,Below w.heap.size w Z->True->Calls Tryz.prog f #[.agg #[.string ⟨x.n.toArray⟩,.int .i64 x.t,.bool x.b]] Z (Ret (.bool (q x)) Z)):
  Calls Tryz.prog 132 #[.slice A l.length c,.int .i64 lo,.int .i64 hi,.func (.func f) #[] #[]] w (Ret (.bool (Bh l lo.toNat hi.toNat q)) w):=by
 obtain⟨V,hV⟩:∃V,w.alloc (.cells #[.func (.func f) #[] #[]] 150)=V:=⟨_,rfl⟩;have hbV:Below w.heap.size w V:=by rw[<-hV];exact bl
 have kV:Blk V w.heap.size 150 #[.func (.func f) #[] #[]]:=by rw[<-hV];exact Blk.new _ _ _
 have HC:=Lib.hid (ZP A c l (λx=>!q x) 187 #[.pointer (some ⟨w.heap.size,0,none⟩)] (Go.Proofs.enters_of Tryz.func187 (by kernel_rfl) rfl) V hl  (h.keep (DK hbV hbV.size)) (by
  intro x hx  Z hz hex;exact WG x  f w.heap.size (q x) eg Z ((kV.below hz kV.lt).cell 0) (λY hY=>hp x hx  Y (hbV.trans ((hz.trans (hY.mono hz.size)).mono hbV.size)) trivial)))
 obtain⟨R,hR⟩:∃R,Bh l lo.toNat hi.toNat q=R:=⟨_,rfl⟩;have HR:=Lib.hid hR;obtain⟨N,hN⟩:∃N,l.length=N:=⟨_,rfl⟩;have HL:=Lib.hid hN;have HV:=Lib.hid hV;have HB:=Lib.hid hbV;rw[hR];rw[hN]at HC ⊢;clear hV kV h hp hR hN hbV;by_cases h1:(N:Int)<lo
 ·have HF:Hid (R=false):=by show _=_;rw[<-HR.out];unfold Bh;rw[decide_eq_false (by rw[HL.out];omega)];rfl
  go_in
  go_wp2_with fail;go_ret;exact⟨by rw[HF.out];rfl,by exact bl⟩
 ·by_cases h2:hi<(N:Int)
  ·have HF:Hid (R=false):=by show _=_;rw[<-HR.out];unfold Bh;rw[decide_eq_false (p:=l.length<=_) (by rw[HL.out];omega)];simp
   go_in
   go_wp2_with fail;go_ret;exact⟨by rw[HF.out];rfl,by exact bl⟩
  ·have HF:Hid (R = !(l.any λx=>!q x)):=by
    show _=_
    rw[<-HR.out];unfold Bh;rw[decide_eq_true (by rw[HL.out];omega),decide_eq_true (by rw[HL.out];omega)];rw[Bool.eq_iff_iff];simp
   obtain⟨S,hS⟩:∃S,(l.any λx=>!q x)=S:=⟨_,rfl⟩;rw[hS]at HF HC;clear hS;go_in
   go_upto_region 3 with fail
   rw[show w.alloc _=V from HV.out];go_wp2_with fail;refine HC.out.mono ?_;rintro en w1 ⟨rfl,hb1⟩;go_wp2_with fail;go_ret;exact⟨by rw[HF.out];rfl,HB.out.trans (hb1.mono HB.out.size)⟩
theorem Y9(A:Option Addr)(c:Nat)(l:List Rf)(p:Rf->Bool)(f:Nat)(caps:Array Value)(eg:∀args (w:World),(callFunc f args).run Tryz.prog w=.ok (.enter f args) w)(w:World)(hl:l.length<=1000000) (h:XQ l A (Old w.heap.size) w)
 (hp:∀x∈l,  ∀Z:World,Below w.heap.size w Z->True->Calls Tryz.prog f (#[.agg #[.string ⟨x.c.toArray⟩,.string ⟨x.t.toArray⟩]]++caps) Z (Ret (.bool (p x)) Z)):
  Calls Tryz.prog 218 #[.slice A l.length c,.func (.func f) #[] caps] w (Ret (.int .i64 (CW p l 0)) w):=by
 obtain⟨R,hR⟩:∃R,CW p l 0=R:=⟨_,rfl⟩;rw[hR];have HR:Hid (CW p (l.drop 0) 0=R):=hR;have HP:=Lib.hid hp;have HQ:Hid (∀Z:World,Below w.heap.size w Z->XQ l A (Old w.heap.size) Z):=λZ hz=>h.keep λb hb=>⟨hb,λo=>hz.cell (p:=⟨b,o,none⟩) hb⟩
 obtain⟨N,hN⟩:∃N,l.length=N:=⟨_,rfl⟩;have HL:=Lib.hid hN;rw[hN]at hl ⊢;clear hR hp h hN;go_in
 go_wp2;go_loopw [8] (λi wr=>∃j:Nat,j<=N/\i=.int .i64 j/\Hid (CW p (l.drop j) j=R)/\Below w.heap.size w wr) (λi _=>N - (intOf i).toNat)
 case atStart=>exact⟨0,by omega,rfl,HR,Below.refl _ _⟩
 case round=>
  obtain⟨j,hj,rfl,hrest,hbw⟩:=hrel;by_cases hlt:j<N
  ·obtain⟨b,off,x,rfl,hbB,hv,c0,c1⟩:=(HQ.out _ hbw).at_ (j:=j) (by rw[HL.out];exact hlt);have hrest':=hrest.out;have hdr:l.drop j=x::l.drop (j+1):=by
    obtain⟨hj',rfl⟩:=List.getElem?_eq_some_iff.1 hv;exact List.drop_eq_getElem_cons hj'
   rw[hdr,Fv]at hrest';have hzw:=hbw.size;obtain⟨W,rfl⟩:∃W,W=wr:=⟨_,rfl⟩;have HC:=Lib.hid (HP.out x (List.mem_of_getElem? hv)  W hbw trivial);clear hv hrest hdr;cases hq:p x
   ·have HF:Hid (CW p (l.drop (j+1)) (j+1)=R):=by
     show _=_
     rw[<-hrest',hq];rfl
    have HQ2:=Lib.hid hq;clear hrest' hq;go_wp2_with fail;refine HC.out.mono ?_;rintro e w1 ⟨rfl,hb1⟩;rw[HQ2.out];go_wp2_with fail;go_roundw
    case rel=>exact⟨j+1,by omega,by go_num,HF,hbw.trans (hb1.mono hzw)⟩
    case measure=>simp[intOf];omega
   ·have HF:Hid ((j:Int)=R):=by
     show _=_
     rw[<-hrest',hq];rfl
    have HQ2:=Lib.hid hq;clear hrest' hq;go_wp2_with fail;refine HC.out.mono ?_;rintro e w1 ⟨rfl,hb1⟩;rw[HQ2.out];go_wp2_with fail;go_ret;exact⟨by rw[<-HF.out];rfl,hbw.trans (hb1.mono hzw)⟩
  ·have HF:Hid (R = -1):=by
    show _=_
    rw[<-hrest.out,List.drop_of_length_le (by rw[HL.out];omega)];rfl
   clear hrest;go_wp2;go_ret;exact⟨by rw[HF.out];rfl,hbw⟩
theorem ZO(A:Option Addr)(c:Nat)(l:List Rf)(p:Rf->Bool)(f:Nat)(caps:Array Value)(eg:∀args (w:World),(callFunc f args).run Tryz.prog w=.ok (.enter f args) w)(w:World)(hl:l.length<=1000000) (h:XQ l A (Old w.heap.size) w)
 (hp:∀x∈l,  ∀Z:World,Below w.heap.size w Z->True->Calls Tryz.prog f (#[.agg #[.string ⟨x.c.toArray⟩,.string ⟨x.t.toArray⟩]]++caps) Z (Ret (.bool (p x)) Z)):
  Calls Tryz.prog 188 #[.slice A l.length c,.func (.func f) #[] caps] w (Ret (.bool (l.any p)) w):=by
 have HI:=Lib.hid (Y9 A c l p f caps eg w hl  h hp);have HR:=Lib.hid (FW p l 0);obtain⟨R,hR⟩:∃R,l.any p=R:=⟨_,rfl⟩;rw[hR]at HR ⊢;clear hR hp h;go_in
 go_wp2_with fail;refine HI.out.mono ?_;rintro en w1 ⟨rfl,hb1⟩;go_wp2_with fail;go_ret;exact⟨by rw[<-HR.out];rfl,hb1⟩
theorem WE (x:Rf) (f g:Nat)(q:Bool)(eg:∀args (w:World),(callFunc f args).run Tryz.prog w=.ok (.enter f args) w)(w:World)(hf:w.cell? ⟨g,0,none⟩=some (.func (.func f) #[] #[]))
 (hq:∀Z:World,Below w.heap.size w Z->Calls Tryz.prog f #[.agg #[.string ⟨x.c.toArray⟩,.string ⟨x.t.toArray⟩]] Z (Ret (.bool q) Z)):Calls Tryz.prog 189 #[.agg #[.string ⟨x.c.toArray⟩,.string ⟨x.t.toArray⟩],.pointer (some ⟨g,0,none⟩)] w (Ret (.bool (!q)) w):=by
 have hg:g<w.heap.size:=Ag hf;obtain⟨V,hV⟩:∃V,w.alloc (.cells #[.string ⟨x.c.toArray⟩,.string ⟨x.t.toArray⟩] 74)=V:=⟨_,rfl⟩;have hbV:Below w.heap.size w V:=by rw[<-hV];exact bl
 have HC:=Lib.hid (hq V hbV);have kV:Blk V w.heap.size 74 #[.string ⟨x.c.toArray⟩,.string ⟨x.t.toArray⟩]:=by rw[<-hV];exact Blk.new _ _ _
 have HK:Hid (∀i,V.cell? ⟨w.heap.size,i,none⟩=(#[.string ⟨x.c.toArray⟩,.string ⟨x.t.toArray⟩]:Array Value)[i]?):=λi=>kV.cell i
 have hf2:V.cell? ⟨g,0,none⟩=some (.func (.func f) #[] #[]):=(hbV.cell (p:=⟨g,0,none⟩) hg).trans hf;have HV:=Lib.hid hV;clear hV hq kV hf;go_in
 go_upto_region 1 with fail
 rw[HV.out];have k0:=HK.out 0;have k1:=HK.out 1;have k2:=HK.out 2;have k3:=HK.out 3;have k4:=HK.out 4;have k5:=HK.out 5;have k6:=HK.out 6;have k7:=HK.out 7;simp only[List.getElem?_toArray,List.getElem?_cons_zero,List.getElem?_cons_succ,List.getElem?_nil]at k0 k1 k2 k3 k4 k5 k6 k7;go_wp2_with fail;refine HC.out.mono ?_;rintro en w1 ⟨rfl,hb1⟩;go_wp2_with fail;go_ret;exact⟨rfl,hbV.trans (hb1.mono hbV.size)⟩
theorem Xr(A:Option Addr)(c:Nat)(l:List Rf)(lo hi:Int)(q:Rf->Bool)(f:Nat)(eg:∀args (w:World),(callFunc f args).run Tryz.prog w=.ok (.enter f args) w)(w:World)(hlo:0<=lo)(hhi:0<=hi)(hl:l.length<=1000000) (h:XQ l A (Old w.heap.size) w)
 (hp:∀x∈l,  ∀Z:World,Below w.heap.size w Z->True->Calls Tryz.prog f #[.agg #[.string ⟨x.c.toArray⟩,.string ⟨x.t.toArray⟩]] Z (Ret (.bool (q x)) Z)):
  Calls Tryz.prog 133 #[.slice A l.length c,.int .i64 lo,.int .i64 hi,.func (.func f) #[] #[]] w (Ret (.bool (Bh l lo.toNat hi.toNat q)) w):=by
 obtain⟨V,hV⟩:∃V,w.alloc (.cells #[.func (.func f) #[] #[]] 151)=V:=⟨_,rfl⟩;have hbV:Below w.heap.size w V:=by rw[<-hV];exact bl
 have kV:Blk V w.heap.size 151 #[.func (.func f) #[] #[]]:=by rw[<-hV];exact Blk.new _ _ _
 have HC:=Lib.hid (ZO A c l (λx=>!q x) 189 #[.pointer (some ⟨w.heap.size,0,none⟩)] (Go.Proofs.enters_of Tryz.func189 (by kernel_rfl) rfl) V hl  (h.keep (DK hbV hbV.size)) (by
  intro x hx  Z hz hex;exact WE x  f w.heap.size (q x) eg Z ((kV.below hz kV.lt).cell 0) (λY hY=>hp x hx  Y (hbV.trans ((hz.trans (hY.mono hz.size)).mono hbV.size)) trivial)))
 obtain⟨R,hR⟩:∃R,Bh l lo.toNat hi.toNat q=R:=⟨_,rfl⟩;have HR:=Lib.hid hR;obtain⟨N,hN⟩:∃N,l.length=N:=⟨_,rfl⟩;have HL:=Lib.hid hN;have HV:=Lib.hid hV;have HB:=Lib.hid hbV;rw[hR];rw[hN]at HC ⊢;clear hV kV h hp hR hN hbV;by_cases h1:(N:Int)<lo
 ·have HF:Hid (R=false):=by show _=_;rw[<-HR.out];unfold Bh;rw[decide_eq_false (by rw[HL.out];omega)];rfl
  go_in
  go_wp2_with fail;go_ret;exact⟨by rw[HF.out];rfl,by exact bl⟩
 ·by_cases h2:hi<(N:Int)
  ·have HF:Hid (R=false):=by show _=_;rw[<-HR.out];unfold Bh;rw[decide_eq_false (p:=l.length<=_) (by rw[HL.out];omega)];simp
   go_in
   go_wp2_with fail;go_ret;exact⟨by rw[HF.out];rfl,by exact bl⟩
  ·have HF:Hid (R = !(l.any λx=>!q x)):=by
    show _=_
    rw[<-HR.out];unfold Bh;rw[decide_eq_true (by rw[HL.out];omega),decide_eq_true (by rw[HL.out];omega)];rw[Bool.eq_iff_iff];simp
   obtain⟨S,hS⟩:∃S,(l.any λx=>!q x)=S:=⟨_,rfl⟩;rw[hS]at HF HC;clear hS;go_in
   go_upto_region 3 with fail
   rw[show w.alloc _=V from HV.out];go_wp2_with fail;refine HC.out.mono ?_;rintro en w1 ⟨rfl,hb1⟩;go_wp2_with fail;go_ret;exact⟨by rw[HF.out];rfl,HB.out.trans (hb1.mono HB.out.size)⟩
theorem Yz(A:Option Addr)(c:Nat)(l:List V)(p:V->Bool)(f:Nat)(caps:Array Value)(eg:∀args (w:World),(callFunc f args).run Tryz.prog w=.ok (.enter f args) w)(w:World)(hl:l.length<=1000000) (h:WQ l A (Old w.heap.size) w)
 (hp:∀x∈l,  ∀Z:World,Below w.heap.size w Z->True->Calls Tryz.prog f (#[.agg #[.int .i64 x.k,.int .i64 x.i,.string ⟨x.s.toArray⟩]]++caps) Z (Ret (.bool (p x)) Z)):
  Calls Tryz.prog 190 #[.slice A l.length c,.func (.func f) #[] caps] w (Ret (.int .i64 (CW p l 0)) w):=by
 obtain⟨R,hR⟩:∃R,CW p l 0=R:=⟨_,rfl⟩;rw[hR];have HR:Hid (CW p (l.drop 0) 0=R):=hR;have HP:=Lib.hid hp;have HQ:Hid (∀Z:World,Below w.heap.size w Z->WQ l A (Old w.heap.size) Z):=λZ hz=>h.keep λb hb=>⟨hb,λo=>hz.cell (p:=⟨b,o,none⟩) hb⟩
 obtain⟨N,hN⟩:∃N,l.length=N:=⟨_,rfl⟩;have HL:=Lib.hid hN;rw[hN]at hl ⊢;clear hR hp h hN;go_in
 go_wp2;go_loopw [8] (λi wr=>∃j:Nat,j<=N/\i=.int .i64 j/\Hid (CW p (l.drop j) j=R)/\Below w.heap.size w wr) (λi _=>N - (intOf i).toNat)
 case atStart=>exact⟨0,by omega,rfl,HR,Below.refl _ _⟩
 case round=>
  obtain⟨j,hj,rfl,hrest,hbw⟩:=hrel;by_cases hlt:j<N
  ·obtain⟨b,off,x,rfl,hbB,hv,c0,c1,c2⟩:=(HQ.out _ hbw).at_ (j:=j) (by rw[HL.out];exact hlt);have hrest':=hrest.out;have hdr:l.drop j=x::l.drop (j+1):=by
    obtain⟨hj',rfl⟩:=List.getElem?_eq_some_iff.1 hv;exact List.drop_eq_getElem_cons hj'
   rw[hdr,Fv]at hrest';have hzw:=hbw.size;obtain⟨W,rfl⟩:∃W,W=wr:=⟨_,rfl⟩;have HC:=Lib.hid (HP.out x (List.mem_of_getElem? hv)  W hbw trivial);clear hv hrest hdr;cases hq:p x
   ·have HF:Hid (CW p (l.drop (j+1)) (j+1)=R):=by
     show _=_
     rw[<-hrest',hq];rfl
    have HQ2:=Lib.hid hq;clear hrest' hq;go_wp2_with fail;refine HC.out.mono ?_;rintro e w1 ⟨rfl,hb1⟩;rw[HQ2.out];go_wp2_with fail;go_roundw
    case rel=>exact⟨j+1,by omega,by go_num,HF,hbw.trans (hb1.mono hzw)⟩
    case measure=>simp[intOf];omega
   ·have HF:Hid ((j:Int)=R):=by
     show _=_
     rw[<-hrest',hq];rfl
    have HQ2:=Lib.hid hq;clear hrest' hq;go_wp2_with fail;refine HC.out.mono ?_;rintro e w1 ⟨rfl,hb1⟩;rw[HQ2.out];go_wp2_with fail;go_ret;exact⟨by rw[<-HF.out];rfl,hbw.trans (hb1.mono hzw)⟩
  ·have HF:Hid (R = -1):=by
    show _=_
    rw[<-hrest.out,List.drop_of_length_le (by rw[HL.out];omega)];rfl
   clear hrest;go_wp2;go_ret;exact⟨by rw[HF.out];rfl,hbw⟩
theorem ZL(A:Option Addr)(c:Nat)(l:List V)(p:V->Bool)(f:Nat)(caps:Array Value)(eg:∀args (w:World),(callFunc f args).run Tryz.prog w=.ok (.enter f args) w)(w:World)(hl:l.length<=1000000) (h:WQ l A (Old w.heap.size) w)
 (hp:∀x∈l,  ∀Z:World,Below w.heap.size w Z->True->Calls Tryz.prog f (#[.agg #[.int .i64 x.k,.int .i64 x.i,.string ⟨x.s.toArray⟩]]++caps) Z (Ret (.bool (p x)) Z)):
  Calls Tryz.prog 134 #[.slice A l.length c,.func (.func f) #[] caps] w (Ret (.bool (l.any p)) w):=by
 have HI:=Lib.hid (Yz A c l p f caps eg w hl  h hp);have HR:=Lib.hid (FW p l 0);obtain⟨R,hR⟩:∃R,l.any p=R:=⟨_,rfl⟩;rw[hR]at HR ⊢;clear hR hp h;go_in
 go_wp2_with fail;refine HI.out.mono ?_;rintro en w1 ⟨rfl,hb1⟩;go_wp2_with fail;go_ret;exact⟨by rw[<-HR.out];rfl,hb1⟩
theorem V7 (x:V) (f g:Nat)(q:Bool)(eg:∀args (w:World),(callFunc f args).run Tryz.prog w=.ok (.enter f args) w)(w:World)(hf:w.cell? ⟨g,0,none⟩=some (.func (.func f) #[] #[]))
 (hq:∀Z:World,Below w.heap.size w Z->Calls Tryz.prog f #[.agg #[.int .i64 x.k,.int .i64 x.i,.string ⟨x.s.toArray⟩]] Z (Ret (.bool q) Z)):Calls Tryz.prog 135 #[.agg #[.int .i64 x.k,.int .i64 x.i,.string ⟨x.s.toArray⟩],.pointer (some ⟨g,0,none⟩)] w (Ret (.bool (!q)) w):=by
 have hg:g<w.heap.size:=Ag hf;obtain⟨V,hV⟩:∃V,w.alloc (.cells #[.int .i64 x.k,.int .i64 x.i,.string ⟨x.s.toArray⟩] 27)=V:=⟨_,rfl⟩;have hbV:Below w.heap.size w V:=by rw[<-hV];exact bl
 have HC:=Lib.hid (hq V hbV);have kV:Blk V w.heap.size 27 #[.int .i64 x.k,.int .i64 x.i,.string ⟨x.s.toArray⟩]:=by rw[<-hV];exact Blk.new _ _ _
 have HK:Hid (∀i,V.cell? ⟨w.heap.size,i,none⟩=(#[.int .i64 x.k,.int .i64 x.i,.string ⟨x.s.toArray⟩]:Array Value)[i]?):=λi=>kV.cell i
 have hf2:V.cell? ⟨g,0,none⟩=some (.func (.func f) #[] #[]):=(hbV.cell (p:=⟨g,0,none⟩) hg).trans hf;have HV:=Lib.hid hV;clear hV hq kV hf;go_in
 go_upto_region 1 with fail
 rw[HV.out];have k0:=HK.out 0;have k1:=HK.out 1;have k2:=HK.out 2;have k3:=HK.out 3;have k4:=HK.out 4;have k5:=HK.out 5;have k6:=HK.out 6;have k7:=HK.out 7;simp only[List.getElem?_toArray,List.getElem?_cons_zero,List.getElem?_cons_succ,List.getElem?_nil]at k0 k1 k2 k3 k4 k5 k6 k7;go_wp2_with fail;refine HC.out.mono ?_;rintro en w1 ⟨rfl,hb1⟩;go_wp2_with fail;go_ret;exact⟨rfl,hbV.trans (hb1.mono hbV.size)⟩
theorem Xo(A:Option Addr)(c:Nat)(l:List V)(lo hi:Int)(q:V->Bool)(f:Nat)(eg:∀args (w:World),(callFunc f args).run Tryz.prog w=.ok (.enter f args) w)(w:World)(hlo:0<=lo)(hhi:0<=hi)(hl:l.length<=1000000) (h:WQ l A (Old w.heap.size) w)
 (hp:∀x∈l,  ∀Z:World,Below w.heap.size w Z->True->Calls Tryz.prog f #[.agg #[.int .i64 x.k,.int .i64 x.i,.string ⟨x.s.toArray⟩]] Z (Ret (.bool (q x)) Z)):
  Calls Tryz.prog 76 #[.slice A l.length c,.int .i64 lo,.int .i64 hi,.func (.func f) #[] #[]] w (Ret (.bool (Bh l lo.toNat hi.toNat q)) w):=by
 obtain⟨V,hV⟩:∃V,w.alloc (.cells #[.func (.func f) #[] #[]] 115)=V:=⟨_,rfl⟩;have hbV:Below w.heap.size w V:=by rw[<-hV];exact bl
 have kV:Blk V w.heap.size 115 #[.func (.func f) #[] #[]]:=by rw[<-hV];exact Blk.new _ _ _
 have HC:=Lib.hid (ZL A c l (λx=>!q x) 135 #[.pointer (some ⟨w.heap.size,0,none⟩)] (Go.Proofs.enters_of Tryz.func135 (by kernel_rfl) rfl) V hl  (h.keep (DK hbV hbV.size)) (by
  intro x hx  Z hz hex;exact V7 x  f w.heap.size (q x) eg Z ((kV.below hz kV.lt).cell 0) (λY hY=>hp x hx  Y (hbV.trans ((hz.trans (hY.mono hz.size)).mono hbV.size)) trivial)))
 obtain⟨R,hR⟩:∃R,Bh l lo.toNat hi.toNat q=R:=⟨_,rfl⟩;have HR:=Lib.hid hR;obtain⟨N,hN⟩:∃N,l.length=N:=⟨_,rfl⟩;have HL:=Lib.hid hN;have HV:=Lib.hid hV;have HB:=Lib.hid hbV;rw[hR];rw[hN]at HC ⊢;clear hV kV h hp hR hN hbV;by_cases h1:(N:Int)<lo
 ·have HF:Hid (R=false):=by show _=_;rw[<-HR.out];unfold Bh;rw[decide_eq_false (by rw[HL.out];omega)];rfl
  go_in
  go_wp2_with fail;go_ret;exact⟨by rw[HF.out];rfl,by exact bl⟩
 ·by_cases h2:hi<(N:Int)
  ·have HF:Hid (R=false):=by show _=_;rw[<-HR.out];unfold Bh;rw[decide_eq_false (p:=l.length<=_) (by rw[HL.out];omega)];simp
   go_in
   go_wp2_with fail;go_ret;exact⟨by rw[HF.out];rfl,by exact bl⟩
  ·have HF:Hid (R = !(l.any λx=>!q x)):=by
    show _=_
    rw[<-HR.out];unfold Bh;rw[decide_eq_true (by rw[HL.out];omega),decide_eq_true (by rw[HL.out];omega)];rw[Bool.eq_iff_iff];simp
   obtain⟨S,hS⟩:∃S,(l.any λx=>!q x)=S:=⟨_,rfl⟩;rw[hS]at HF HC;clear hS;go_in
   go_upto_region 3 with fail
   rw[show w.alloc _=V from HV.out];go_wp2_with fail;refine HC.out.mono ?_;rintro en w1 ⟨rfl,hb1⟩;go_wp2_with fail;go_ret;exact⟨by rw[HF.out];rfl,HB.out.trans (hb1.mono HB.out.size)⟩
theorem Y8(A:Option Addr)(c:Nat)(l:List Se)(p:Se->Bool)(f:Nat)(caps:Array Value)(eg:∀args (w:World),(callFunc f args).run Tryz.prog w=.ok (.enter f args) w)(w:World)(hl:l.length<=1000000)(K n:Nat)(h:ZQ K n l A (Old w.heap.size) w)
 (hp:∀x∈l,∀(A':Option Addr) (c':Nat),∀Z:World,Below w.heap.size w Z->(x.e.fit K/\x.e.l.length<=c'/\c'<=maxLen/\ExQ K n Z (Old Z.heap.size) A' x.e.l)->Calls Tryz.prog f (#[.agg #[.string ⟨x.n.toArray⟩,.string ⟨x.e.op.toArray⟩,.int .i64 x.e.v.k,.int .i64 x.e.v.i,.string ⟨x.e.v.s.toArray⟩,.string ⟨x.e.s.toArray⟩,.slice A' x.e.l.length c']]++caps) Z (Ret (.bool (p x)) Z)):
  Calls Tryz.prog 193 #[.slice A l.length c,.func (.func f) #[] caps] w (Ret (.int .i64 (CW p l 0)) w):=by
 obtain⟨R,hR⟩:∃R,CW p l 0=R:=⟨_,rfl⟩;rw[hR];have HR:Hid (CW p (l.drop 0) 0=R):=hR;have HP:=Lib.hid hp;have HQ:Hid (∀Z:World,Below w.heap.size w Z->ZQ K n l A (Old w.heap.size) Z):=λZ hz=>h.keep λb hb=>⟨hb,λo=>hz.cell (p:=⟨b,o,none⟩) hb⟩
 obtain⟨N,hN⟩:∃N,l.length=N:=⟨_,rfl⟩;have HL:=Lib.hid hN;rw[hN]at hl ⊢;clear hR hp h hN;go_in
 go_wp2;go_loopw [8] (λi wr=>∃j:Nat,j<=N/\i=.int .i64 j/\Hid (CW p (l.drop j) j=R)/\Below w.heap.size w wr) (λi _=>N - (intOf i).toNat)
 case atStart=>exact⟨0,by omega,rfl,HR,Below.refl _ _⟩
 case round=>
  obtain⟨j,hj,rfl,hrest,hbw⟩:=hrel;by_cases hlt:j<N
  ·obtain⟨b,off,x,A',c',rfl,hbB,hv,c0,⟨d1,d2,d3,d4,d5,d6⟩,hfit,hc1,hc2,hex⟩:=(HQ.out _ hbw).read (j:=j) (by rw[HL.out];exact hlt);have hrest':=hrest.out;have hdr:l.drop j=x::l.drop (j+1):=by
    obtain⟨hj',rfl⟩:=List.getElem?_eq_some_iff.1 hv;exact List.drop_eq_getElem_cons hj'
   rw[hdr,Fv]at hrest';have hzw:=hbw.size;obtain⟨W,rfl⟩:∃W,W=wr:=⟨_,rfl⟩;have HC:=Lib.hid (HP.out x (List.mem_of_getElem? hv) A' c' W hbw ⟨hfit,hc1,hc2,hex.keep (λb hb=>⟨Nat.lt_of_lt_of_le hb hzw,λo=>rfl⟩) n⟩);clear hv hrest hdr;cases hq:p x
   ·have HF:Hid (CW p (l.drop (j+1)) (j+1)=R):=by
     show _=_
     rw[<-hrest',hq];rfl
    have HQ2:=Lib.hid hq;clear hrest' hq;go_wp2_with fail;refine HC.out.mono ?_;rintro e w1 ⟨rfl,hb1⟩;rw[HQ2.out];go_wp2_with fail;go_roundw
    case rel=>exact⟨j+1,by omega,by go_num,HF,hbw.trans (hb1.mono hzw)⟩
    case measure=>simp[intOf];omega
   ·have HF:Hid ((j:Int)=R):=by
     show _=_
     rw[<-hrest',hq];rfl
    have HQ2:=Lib.hid hq;clear hrest' hq;go_wp2_with fail;refine HC.out.mono ?_;rintro e w1 ⟨rfl,hb1⟩;rw[HQ2.out];go_wp2_with fail;go_ret;exact⟨by rw[<-HF.out];rfl,hbw.trans (hb1.mono hzw)⟩
  ·have HF:Hid (R = -1):=by
    show _=_
    rw[<-hrest.out,List.drop_of_length_le (by rw[HL.out];omega)];rfl
   clear hrest;go_wp2;go_ret;exact⟨by rw[HF.out];rfl,hbw⟩
theorem ZN(A:Option Addr)(c:Nat)(l:List Se)(p:Se->Bool)(f:Nat)(caps:Array Value)(eg:∀args (w:World),(callFunc f args).run Tryz.prog w=.ok (.enter f args) w)(w:World)(hl:l.length<=1000000)(K n:Nat)(h:ZQ K n l A (Old w.heap.size) w)
 (hp:∀x∈l,∀(A':Option Addr) (c':Nat),∀Z:World,Below w.heap.size w Z->(x.e.fit K/\x.e.l.length<=c'/\c'<=maxLen/\ExQ K n Z (Old Z.heap.size) A' x.e.l)->Calls Tryz.prog f (#[.agg #[.string ⟨x.n.toArray⟩,.string ⟨x.e.op.toArray⟩,.int .i64 x.e.v.k,.int .i64 x.e.v.i,.string ⟨x.e.v.s.toArray⟩,.string ⟨x.e.s.toArray⟩,.slice A' x.e.l.length c']]++caps) Z (Ret (.bool (p x)) Z)):
  Calls Tryz.prog 139 #[.slice A l.length c,.func (.func f) #[] caps] w (Ret (.bool (l.any p)) w):=by
 have HI:=Lib.hid (Y8 A c l p f caps eg w hl K n h hp);have HR:=Lib.hid (FW p l 0);obtain⟨R,hR⟩:∃R,l.any p=R:=⟨_,rfl⟩;rw[hR]at HR ⊢;clear hR hp h;go_in
 go_wp2_with fail;refine HI.out.mono ?_;rintro en w1 ⟨rfl,hb1⟩;go_wp2_with fail;go_ret;exact⟨by rw[<-HR.out];rfl,hb1⟩
theorem WC (x:Se)(A':Option Addr)(c':Nat)(f g:Nat)(q:Bool)(eg:∀args (w:World),(callFunc f args).run Tryz.prog w=.ok (.enter f args) w)(w:World)(hf:w.cell? ⟨g,0,none⟩=some (.func (.func f) #[] #[]))
 (hq:∀Z:World,Below w.heap.size w Z->Calls Tryz.prog f #[.agg #[.string ⟨x.n.toArray⟩,.string ⟨x.e.op.toArray⟩,.int .i64 x.e.v.k,.int .i64 x.e.v.i,.string ⟨x.e.v.s.toArray⟩,.string ⟨x.e.s.toArray⟩,.slice A' x.e.l.length c']] Z (Ret (.bool q) Z)):Calls Tryz.prog 140 #[.agg #[.string ⟨x.n.toArray⟩,.string ⟨x.e.op.toArray⟩,.int .i64 x.e.v.k,.int .i64 x.e.v.i,.string ⟨x.e.v.s.toArray⟩,.string ⟨x.e.s.toArray⟩,.slice A' x.e.l.length c'],.pointer (some ⟨g,0,none⟩)] w (Ret (.bool (!q)) w):=by
 have hg:g<w.heap.size:=Ag hf;obtain⟨V,hV⟩:∃V,w.alloc (.cells #[.string ⟨x.n.toArray⟩,.string ⟨x.e.op.toArray⟩,.int .i64 x.e.v.k,.int .i64 x.e.v.i,.string ⟨x.e.v.s.toArray⟩,.string ⟨x.e.s.toArray⟩,.slice A' x.e.l.length c'] 76)=V:=⟨_,rfl⟩;have hbV:Below w.heap.size w V:=by rw[<-hV];exact bl
 have HC:=Lib.hid (hq V hbV);have kV:Blk V w.heap.size 76 #[.string ⟨x.n.toArray⟩,.string ⟨x.e.op.toArray⟩,.int .i64 x.e.v.k,.int .i64 x.e.v.i,.string ⟨x.e.v.s.toArray⟩,.string ⟨x.e.s.toArray⟩,.slice A' x.e.l.length c']:=by rw[<-hV];exact Blk.new _ _ _
 have HK:Hid (∀i,V.cell? ⟨w.heap.size,i,none⟩=(#[.string ⟨x.n.toArray⟩,.string ⟨x.e.op.toArray⟩,.int .i64 x.e.v.k,.int .i64 x.e.v.i,.string ⟨x.e.v.s.toArray⟩,.string ⟨x.e.s.toArray⟩,.slice A' x.e.l.length c']:Array Value)[i]?):=λi=>kV.cell i
 have hf2:V.cell? ⟨g,0,none⟩=some (.func (.func f) #[] #[]):=(hbV.cell (p:=⟨g,0,none⟩) hg).trans hf;have HV:=Lib.hid hV;clear hV hq kV hf;go_in
 go_upto_region 1 with fail
 rw[HV.out];have k0:=HK.out 0;have k1:=HK.out 1;have k2:=HK.out 2;have k3:=HK.out 3;have k4:=HK.out 4;have k5:=HK.out 5;have k6:=HK.out 6;have k7:=HK.out 7;simp only[List.getElem?_toArray,List.getElem?_cons_zero,List.getElem?_cons_succ,List.getElem?_nil]at k0 k1 k2 k3 k4 k5 k6 k7;go_wp2_with fail;refine HC.out.mono ?_;rintro en w1 ⟨rfl,hb1⟩;go_wp2_with fail;go_ret;exact⟨rfl,hbV.trans (hb1.mono hbV.size)⟩
theorem Xq(A:Option Addr)(c:Nat)(l:List Se)(lo hi:Int)(q:Se->Bool)(f:Nat)(eg:∀args (w:World),(callFunc f args).run Tryz.prog w=.ok (.enter f args) w)(w:World)(hlo:0<=lo)(hhi:0<=hi)(hl:l.length<=1000000)(K n:Nat)(h:ZQ K n l A (Old w.heap.size) w)
 (hp:∀x∈l,∀(A':Option Addr) (c':Nat),∀Z:World,Below w.heap.size w Z->(x.e.fit K/\x.e.l.length<=c'/\c'<=maxLen/\ExQ K n Z (Old Z.heap.size) A' x.e.l)->Calls Tryz.prog f #[.agg #[.string ⟨x.n.toArray⟩,.string ⟨x.e.op.toArray⟩,.int .i64 x.e.v.k,.int .i64 x.e.v.i,.string ⟨x.e.v.s.toArray⟩,.string ⟨x.e.s.toArray⟩,.slice A' x.e.l.length c']] Z (Ret (.bool (q x)) Z)):
  Calls Tryz.prog 80 #[.slice A l.length c,.int .i64 lo,.int .i64 hi,.func (.func f) #[] #[]] w (Ret (.bool (Bh l lo.toNat hi.toNat q)) w):=by
 obtain⟨V,hV⟩:∃V,w.alloc (.cells #[.func (.func f) #[] #[]] 117)=V:=⟨_,rfl⟩;have hbV:Below w.heap.size w V:=by rw[<-hV];exact bl
 have kV:Blk V w.heap.size 117 #[.func (.func f) #[] #[]]:=by rw[<-hV];exact Blk.new _ _ _
 have HC:=Lib.hid (ZN A c l (λx=>!q x) 140 #[.pointer (some ⟨w.heap.size,0,none⟩)] (Go.Proofs.enters_of Tryz.func140 (by kernel_rfl) rfl) V hl K n (h.keep (DK hbV hbV.size)) (by
  intro x hx A' c' Z hz hex;exact WC x A' c' f w.heap.size (q x) eg Z ((kV.below hz kV.lt).cell 0) (λY hY=>hp x hx A' c' Y (hbV.trans ((hz.trans (hY.mono hz.size)).mono hbV.size)) ⟨hex.1,hex.2.1,hex.2.2.1,hex.2.2.2.keep (DK hY hY.size) n⟩)))
 obtain⟨R,hR⟩:∃R,Bh l lo.toNat hi.toNat q=R:=⟨_,rfl⟩;have HR:=Lib.hid hR;obtain⟨N,hN⟩:∃N,l.length=N:=⟨_,rfl⟩;have HL:=Lib.hid hN;have HV:=Lib.hid hV;have HB:=Lib.hid hbV;rw[hR];rw[hN]at HC ⊢;clear hV kV h hp hR hN hbV;by_cases h1:(N:Int)<lo
 ·have HF:Hid (R=false):=by show _=_;rw[<-HR.out];unfold Bh;rw[decide_eq_false (by rw[HL.out];omega)];rfl
  go_in
  go_wp2_with fail;go_ret;exact⟨by rw[HF.out];rfl,by exact bl⟩
 ·by_cases h2:hi<(N:Int)
  ·have HF:Hid (R=false):=by show _=_;rw[<-HR.out];unfold Bh;rw[decide_eq_false (p:=l.length<=_) (by rw[HL.out];omega)];simp
   go_in
   go_wp2_with fail;go_ret;exact⟨by rw[HF.out];rfl,by exact bl⟩
  ·have HF:Hid (R = !(l.any λx=>!q x)):=by
    show _=_
    rw[<-HR.out];unfold Bh;rw[decide_eq_true (by rw[HL.out];omega),decide_eq_true (by rw[HL.out];omega)];rw[Bool.eq_iff_iff];simp
   obtain⟨S,hS⟩:∃S,(l.any λx=>!q x)=S:=⟨_,rfl⟩;rw[hS]at HF HC;clear hS;go_in
   go_upto_region 3 with fail
   rw[show w.alloc _=V from HV.out];go_wp2_with fail;refine HC.out.mono ?_;rintro en w1 ⟨rfl,hb1⟩;go_wp2_with fail;go_ret;exact⟨by rw[HF.out];rfl,HB.out.trans (hb1.mono HB.out.size)⟩
end Go.Proofs.YtchilcchogcibaaGreatDoor
