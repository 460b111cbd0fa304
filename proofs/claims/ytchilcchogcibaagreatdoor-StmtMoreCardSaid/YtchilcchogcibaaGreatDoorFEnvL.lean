/- How arguments of the laws are opened; How arguments of the laws are opened; How arguments of the laws are opened; How arguments of the laws are opened; What a row's list of variables gives; What a row's list of variables gives; What a row's list of variables gives statements' texts. -/
import Derived.Stop.LaidErr
import Derived.Test.YtchilcchogcibaaGreatDoorFLift
set_option maxRecDepth 100000
namespace Go.Proofs.YtchilcchogcibaaGreatDoor
section
open Go.ChangeShapes Go.WideShapes Go.ChangeAt Go.RowKit Go.Deep Go.Joins
theorem aG{α:Type}{cs:List α}(h:cs.length=6):∃a b c d e f,cs=[a,b,c,d,e,f]:=by
 match cs,h with
 |[a,b,c,d,e,f],_=>exact⟨a,b,c,d,e,f,rfl⟩
theorem QD:Tryz.prog.cellsOf 30=6:=by kernel_rfl
theorem KZ:Tryz.prog.cellsOf 9=1:=by kernel_rfl
theorem Ze:Tryz.prog.cellsOf 28=1:=by kernel_rfl
theorem Zd:Tryz.prog.cellsOf 27=3:=by kernel_rfl
theorem Em{s:ByteArray}(h:s.size<=maxLen):s.data.toList.length<=maxLen:=by
 have hsz:s.data.toList.length=s.size:=by rw[Array.length_toList];rfl
 omega
theorem GN{H:Type}{enc:TypeId×Value->H}{W:World}:∀fuel:Nat,
  (∀(cs:List Value) (x:DataW H×List MemPlace),DataW.trod enc Tryz.prog W 0 (λ_=>true) true fuel 30 cs=some x->
   ∃(e:Ex) (A:Option Addr) (c:Nat),cs=e.cells A c/\e.fit maxLen/\e.l.length<=c/\c<=maxLen/\ExS maxLen fuel W W.heap.size A e.l) ∧
  (∀(cs:List Value) (x:DataW H×List MemPlace),DataW.trod enc Tryz.prog W 0 (λ_=>true) true fuel 28 cs=some x->
   ∃(A:Option Addr) (l:List Ex) (c:Nat),cs=[.slice A l.length c]/\l.length<=c/\c<=maxLen/\ExS maxLen fuel W W.heap.size A l)
 |0=>⟨λcs x h=>by simp[DataW.trod]at h,λcs x h=>by simp[DataW.trod]at h⟩
 |n+1=>by
  obtain⟨ih1,ih2⟩:=GN (enc:=enc) (W:=W) n;refine⟨λcs x h=>?_,λcs x h=>?_⟩
  ·obtain⟨ys,n',hn,_,hcl,hlen,hg⟩:=DataW.trod_struct Tryz.underlying30 h;obtain rfl:n=n':=by omega
   rw[QD]at hcl;obtain⟨c0,c1,c2,c3,c4,c5,rfl⟩:=aG hcl
   match ys,hlen with
   |[y0,y1,y2,y3],_=>
    have t0:DataW.trod enc Tryz.prog W 0 (λ_=>true) true n 9 (([c0,c1,c2,c3,c4,c5].drop 0).take (Tryz.prog.cellsOf 9))=some y0:=hg 0 _ rfl;have t1:DataW.trod enc Tryz.prog W 0 (λ_=>true) true n 27 (([c0,c1,c2,c3,c4,c5].drop 1).take (Tryz.prog.cellsOf 27))=some y1:=hg 1 _ rfl;have t2:DataW.trod enc Tryz.prog W 0 (λ_=>true) true n 9 (([c0,c1,c2,c3,c4,c5].drop 4).take (Tryz.prog.cellsOf 9))=some y2:=hg 2 _ rfl;have t3:DataW.trod enc Tryz.prog W 0 (λ_=>true) true n 28 (([c0,c1,c2,c3,c4,c5].drop 5).take (Tryz.prog.cellsOf 28))=some y3:=hg 3 _ rfl;rw[KZ]at t0 t2;rw[Zd]at t1;rw[Ze]at t3;obtain⟨o,e0,_,w0⟩:=DataW.trod_string Tryz.underlying9 t0;obtain⟨v,e1,e2,e3,hok⟩:=UD t1;obtain⟨s,e4,_,w4⟩:=DataW.trod_string Tryz.underlying9 t2;obtain⟨A,l,c,e5,h1,h2,h3⟩:=ih2 _ _ t3;simp at e0 e4 e5;subst e0 e1 e2 e3 e4 e5;exact⟨.mk o.data.toList v s.data.toList l,A,c,rfl,⟨hok.2.1,Em w0,Em w4,hok.2.2⟩,h1,h2,h3.up n⟩
  ·rcases DataW.trod_slice Tryz.underlying28 h with⟨rfl,_⟩|⟨a,len,cap,elems,rest,n',hn,rfl,_,_,hl,hm,hlen,hel,_,_⟩
   ·exact⟨none,[],0,rfl,Nat.le_refl _,Nat.zero_le _,ExS.nil _⟩
   ·obtain rfl:n=n':=by omega
    rw[QD]at hel;have key:∀i,i<len->∃(e:Ex) (A:Option Addr) (c:Nat),e.fit maxLen/\e.l.length<=c/\c<=maxLen/\ExS maxLen n W W.heap.size A e.l/\∀j,j<6->W.cell? ((a.add (i * 6)).add j)=(e.cells A c)[j]? :=by
     intro i hi;have hb:=hel i hi;rw[List.getElem?_eq_getElem (by omega)]at hb;obtain⟨cs',hc,ht⟩:=Option.bind_eq_some_iff.1 hb;obtain⟨_,_,hat⟩:=World.cells?_some hc;obtain⟨e,A,c,rfl,hf,h1,h2,h3⟩:=ih1 _ _ ht;exact⟨e,A,c,hf,h1,h2,h3,hat⟩
    have key2:∃f:Nat->Ex,∀i,i<len->∃(A:Option Addr) (c:Nat),(f i).fit maxLen/\(f i).l.length<=c/\c<=maxLen/\ExS maxLen n W W.heap.size A (f i).l/\∀j,j<6->W.cell? ((a.add (i * 6)).add j)=((f i).cells A c)[j]? :=by
     refine⟨λi=>if h:i<len then(key i h).choose else .mk [] V.zero [] [],λi h=>?_⟩;simp only[h,dite_true];exact(key i h).choose_spec
    obtain⟨f,hfk⟩:=key2;refine⟨some a,(List.range len).map f,cap,by simp,by simpa using hl,hm, ?_⟩;intro hpos;obtain⟨A0,c0,_,_,_,_,h0⟩:=hfk 0 (by simpa using hpos);have h00:=h0 0 (by omega);have hspot:a.spot=none:=by simpa[Addr.add]using World.cell?_spot (h00.trans (show _=some _ from rfl))
    obtain⟨b,off,spot⟩:=a;simp only at hspot;subst hspot;have hb:b<W.heap.size:=by
     have:=World.block_lt_of_cell? W _ (h00.trans (show _=some _ from rfl));simpa[add_mid]using this
    refine⟨b,off,rfl,hb,λi x hx=>?_⟩;rw[List.getElem?_map]at hx;by_cases hil:i<len
    ·rw[List.getElem?_range hil]at hx;simp at hx;subst hx;obtain⟨A,c,hf,h1,h2,h3,hk⟩:=hfk i hil;have hk':∀j,j<6->W.cell? ⟨b,off+i * 6+j,none⟩=((f i).cells A c)[j]? :=λj hj=>by
      have:=hk j hj;rw[add_mid,add_mid]at this;exact this
     exact⟨A,c,hf,h1,h2,⟨hk' 0 (by omega),hk' 1 (by omega),hk' 2 (by omega),hk' 3 (by omega),hk' 4 (by omega),hk' 5 (by omega)⟩,h3⟩
    ·rw[List.getElem?_eq_none (by simpa using hil)]at hx;simp at hx
theorem Q7{H:Type}{enc:TypeId×Value->H}{W:World}{fuel:Nat}{cs:List Value}{x:DataW H×List MemPlace}
 (hf:DataW.trod enc Tryz.prog W 0 (λ_=>true) true fuel 24 cs=some x):
  ∃(A:Option Addr) (l:List Col) (c:Nat),cs=[.slice A l.length c]/\l.length<=c/\c<=maxLen/\J3 W W.heap.size A l/\∀x∈l,x.n.length<=maxLen:=by
 rcases Gw Tryz.underlying24 Tryz.underlying96 (by kernel_rfl) (by kernel_rfl) hf with⟨hcs,_⟩|⟨a,len0,cap0,m,D,Pl,hcs,_,hl,hm,hmm,_,hi⟩
 ·exact⟨none,[],0,hcs,Nat.le_refl _,Nat.zero_le _,J3.nil,λx hx=>by simp at hx⟩
 ·simp only[if_true]at hmm;have key:∀i,i<len0->∃x:Col,x.n.length<=maxLen/\W.cell? (a.add (i * 3+0))=some (.string ⟨x.n.toArray⟩)/\W.cell? (a.add (i * 3+1))=some (.int .i64 x.t)/\W.cell? (a.add (i * 3+2))=some (.bool x.b):=by
   intro i hilt;obtain⟨ys,n,_,_,_,hfield⟩:=hi i (by omega);obtain⟨c0,y0,hc0,_,t0⟩:=hfield 0 _ rfl;obtain⟨c1,y1,hc1,_,t1⟩:=hfield 1 _ rfl;obtain⟨c2,y2,hc2,_,t2⟩:=hfield 2 _ rfl;obtain⟨s,e0,_,w0⟩:=DataW.trod_string Tryz.underlying9 t0;obtain⟨k,e1,_,w1⟩:=DataW.trod_int Tryz.underlying3 t1;obtain⟨b,e2,_⟩:=DataW.trod_bool Tryz.underlying4 t2;simp at e0 e1 e2;subst e0 e1 e2;exact⟨⟨s.data.toList,k,b⟩,Em w0,hc0,hc1,hc2⟩
  have key2:∃f:Nat->Col,∀i,i<len0->(f i).n.length<=maxLen/\W.cell? (a.add (i * 3+0))=some (.string ⟨(f i).n.toArray⟩)/\W.cell? (a.add (i * 3+1))=some (.int .i64 (f i).t)/\W.cell? (a.add (i * 3+2))=some (.bool (f i).b):=by
   refine⟨λi=>if h:i<len0 then(key i h).choose else⟨[],0,false⟩,λi h=>?_⟩;simp only[h,dite_true];exact(key i h).choose_spec
  obtain⟨f,hfk⟩:=key2;refine⟨some a,(List.range len0).map f,cap0,by simpa using hcs,by simpa using hl,hm, ?_, ?_⟩
  ·intro hpos;have h0:=(hfk 0 (by simpa using hpos)).2.1;have hspot:a.spot=none:=by simpa[Addr.add]using World.cell?_spot h0
   obtain⟨b,off,spot⟩:=a;simp only at hspot;subst hspot;have hb:b<W.heap.size:=by
    have:=World.block_lt_of_cell? W _ h0;simpa[add_mid]using this
   refine⟨b,off,rfl,hb,λi x hx=>?_⟩;rw[List.getElem?_map]at hx;by_cases hil:i<len0
   ·rw[List.getElem?_range hil]at hx;simp at hx;subst hx;have hk:=(hfk i hil).2;rw[add_mid,add_mid,add_mid]at hk;exact hk
   ·rw[List.getElem?_eq_none (by simpa using hil)]at hx;simp at hx
  ·intro x hx;simp only[List.mem_map,List.mem_range]at hx;obtain⟨i,hi',rfl⟩:=hx;exact(hfk i hi').1
theorem Q4{H:Type}{enc:TypeId×Value->H}{W:World}{fuel:Nat}{cs:List Value}{x:DataW H×List MemPlace}
 (hf:DataW.trod enc Tryz.prog W 0 (λ_=>true) true fuel 31 cs=some x):
  ∃(A:Option Addr) (l:List V) (c:Nat),cs=[.slice A l.length c]/\l.length<=c/\c<=maxLen/\VS W W.heap.size A l/\∀x∈l,x.ok:=by
 rcases Gw Tryz.underlying31 Tryz.underlying27 (by kernel_rfl) (by kernel_rfl) hf with⟨hcs,_⟩|⟨a,len0,cap0,m,D,Pl,hcs,_,hl,hm,hmm,_,hi⟩
 ·exact⟨none,[],0,hcs,Nat.le_refl _,Nat.zero_le _,VS.nil,λx hx=>by simp at hx⟩
 ·simp only[if_true]at hmm;have key:∀i,i<len0->∃x:V,x.ok/\W.cell? (a.add (i * 3+0))=some (.int .i64 x.k)/\W.cell? (a.add (i * 3+1))=some (.int .i64 x.i)/\W.cell? (a.add (i * 3+2))=some (.string ⟨x.s.toArray⟩):=by
   intro i hilt;obtain⟨ys,n,_,_,_,hfield⟩:=hi i (by omega);obtain⟨c0,y0,hc0,_,t0⟩:=hfield 0 _ rfl;obtain⟨c1,y1,hc1,_,t1⟩:=hfield 1 _ rfl;obtain⟨c2,y2,hc2,_,t2⟩:=hfield 2 _ rfl;obtain⟨k,e0,_,w0⟩:=DataW.trod_int Tryz.underlying3 t0;obtain⟨j,e1,_,w1⟩:=DataW.trod_int Tryz.underlying2 t1;obtain⟨s,e2,_,w2⟩:=DataW.trod_string Tryz.underlying9 t2;simp at e0 e1 e2;subst e0 e1 e2;refine⟨⟨k,j,s.data.toList⟩,⟨IZ w0,IZ w1, ?_⟩,hc0,hc1,hc2⟩;have hsz:s.data.toList.length=s.size:=by rw[Array.length_toList];rfl
   show s.data.toList.length<=9223372036854775807
   unfold maxLen at w2;omega
  have key2:∃f:Nat->V,∀i,i<len0->(f i).ok/\W.cell? (a.add (i * 3+0))=some (.int .i64 (f i).k)/\W.cell? (a.add (i * 3+1))=some (.int .i64 (f i).i)/\W.cell? (a.add (i * 3+2))=some (.string ⟨(f i).s.toArray⟩):=by
   refine⟨λi=>if h:i<len0 then(key i h).choose else⟨0,0,[]⟩,λi h=>?_⟩;simp only[h,dite_true];exact(key i h).choose_spec
  obtain⟨f,hfk⟩:=key2;refine⟨some a,(List.range len0).map f,cap0,by simpa using hcs,by simpa using hl,hm, ?_, ?_⟩
  ·intro hpos;have h0:=(hfk 0 (by simpa using hpos)).2.1;have hspot:a.spot=none:=by simpa[Addr.add]using World.cell?_spot h0
   obtain⟨b,off,spot⟩:=a;simp only at hspot;subst hspot;have hb:b<W.heap.size:=by
    have:=World.block_lt_of_cell? W _ h0;simpa[add_mid]using this
   refine⟨b,off,rfl,hb,λi x hx=>?_⟩;rw[List.getElem?_map]at hx;by_cases hil:i<len0
   ·rw[List.getElem?_range hil]at hx;simp at hx;subst hx;have hk:=(hfk i hil).2;rw[add_mid,add_mid,add_mid]at hk;exact hk
   ·rw[List.getElem?_eq_none (by simpa using hil)]at hx;simp at hx
  ·intro x hx;simp only[List.mem_map,List.mem_range]at hx;obtain⟨i,hi',rfl⟩:=hx;exact(hfk i hi').1
end
section
open Go.RowKit Go.ChangeShapes Go.WideShapes Go.ChangeAt
theorem open_str{H:Type}{enc:TypeId×Value->H}{W:World}{base:Nat}{v:Value}{d:DataW H}{p:List MemPlace}
 (hv:Value.okWide Tryz.prog W .any base 9 v)(h:DataW.Trod enc Tryz.prog W 0 (λ_=>true) true 9 v d p):
  ∃l:List UInt8,v=.string ⟨l.toArray⟩/\l.length<=maxLen:=by
 obtain⟨s,rfl⟩:=okWide_string Tryz.underlying9 hv;obtain⟨fuel,hf⟩:=h;obtain⟨s',e2,_,w2⟩:=DataW.trod_string Tryz.underlying9 hf;simp[Value.cells]at e2;subst e2;exact⟨s.data.toList,rfl,by rw[Array.length_toList];exact w2⟩
theorem open_u8{H:Type}{enc:TypeId×Value->H}{W:World}{base:Nat}{v:Value}{d:DataW H}{p:List MemPlace}
 (hv:Value.okWide Tryz.prog W .any base 5 v)(h:DataW.Trod enc Tryz.prog W 0 (λ_=>true) true 5 v d p):
  ∃n:Nat,v=.int .u8 (n:Int)/\n<=255:=by
 obtain⟨x,rfl,_,_,wx⟩:=open_int Tryz.underlying5 hv h;have h3:0<=x/\x<=255:=by simpa[Lit.wf,IntKind.min,IntKind.max,IntKind.signed,IntKind.bits]using wx
 exact⟨x.toNat,by congr 1;omega,by omega⟩
end
section
open Go.ChangeShapes Go.WideShapes Go.ChangeAt Go.RowKit Go.Deep Go.Joins
theorem LC{H:Type}{enc:TypeId×Value->H}{W:World}{fuel:Nat}{t e:TypeId}{cs:List Value}{x:DataW H×List MemPlace}{α:Type}(z:α)(k:Nat)(G:α->List Value->Prop)
 (ht:Tryz.prog.underlying t=some (.slice e))(h1:Tryz.prog.cellsOf e=k)(hk:0<k)
 (hG:∀(f:Nat) (v:List Value) (y:DataW H×List MemPlace),v.length=k->DataW.trod enc Tryz.prog W 0 (λ_=>true) true f e v=some y->∃a,G a v)
 (h:DataW.trod enc Tryz.prog W 0 (λ_=>true) true fuel t cs=some x):
  ∃(A:Option Addr) (l:List α) (c:Nat),cs=[.slice A l.length c]/\l.length<=c/\c<=maxLen/\(0<l.length->∃b off,A=some ⟨b,off,none⟩/\b<W.heap.size/\∀i a,l[i]? = some a->∃v:List Value,G a v/\∀j,j<k->W.cell? ⟨b,off+i * k+j,none⟩=v[j]?):=by
 rcases DataW.trod_slice ht h with⟨rfl,_⟩|⟨a,len,cap,elems,rest,n',hn,rfl,_,_,hl,hm,hlen,hel,_,_⟩
 ·exact⟨none,[],0,rfl,Nat.le_refl _,Nat.zero_le _,λh=>absurd h (by simp)⟩
 ·rw[h1]at hel;have key:∀i,i<len->∃(g:α) (v:List Value),v.length=k/\G g v/\∀j,j<k->W.cell? ((a.add (i * k)).add j)=v[j]? :=by
   intro i hi;have hb:=hel i hi;rw[List.getElem?_eq_getElem (by omega)]at hb;obtain⟨cs',hc,ht'⟩:=Option.bind_eq_some_iff.1 hb;obtain⟨_,hcl,hat⟩:=World.cells?_some hc;obtain⟨g,hg⟩:=hG _ _ _ hcl ht';exact⟨g,cs',hcl,hg,hat⟩
  have key2:∃f:Nat->α,∀i,i<len->∃v:List Value,v.length=k/\G (f i) v/\∀j,j<k->W.cell? ((a.add (i * k)).add j)=v[j]? :=by
   refine⟨λi=>if h:i<len then(key i h).choose else z,λi h=>?_⟩;simp only[h,dite_true];exact(key i h).choose_spec
  obtain⟨f,hfk⟩:=key2;refine⟨some a,(List.range len).map f,cap,by simp,by simpa using hl,hm, ?_⟩;intro hpos;obtain⟨v0,hv0,_,h0⟩:=hfk 0 (by simpa using hpos);have h00:=h0 0 hk;rw[List.getElem?_eq_getElem (by omega)]at h00;have hspot:a.spot=none:=by simpa[Addr.add]using World.cell?_spot h00
  obtain⟨b,off,spot⟩:=a;simp only at hspot;subst hspot;have hb:b<W.heap.size:=by
   have:=World.block_lt_of_cell? W _ h00;simpa[add_mid]using this
  refine⟨b,off,rfl,hb,λi x hx=>?_⟩;rw[List.getElem?_map]at hx;by_cases hil:i<len
  ·rw[List.getElem?_range hil]at hx;simp at hx;subst hx;obtain⟨v,_,hg,hv⟩:=hfk i hil;refine⟨v,hg,λj hj=>?_⟩;have:=hv j hj;rw[add_mid,add_mid]at this;exact this
  ·rw[List.getElem?_eq_none (by simpa using hil)]at hx;simp at hx
theorem ZY:Tryz.prog.cellsOf 23=1:=by kernel_rfl
theorem Zc:Tryz.prog.cellsOf 24=1:=by kernel_rfl
theorem Za:Tryz.prog.cellsOf 25=1:=by kernel_rfl
theorem ZW:Tryz.prog.cellsOf 31=1:=by kernel_rfl
theorem Wj:Tryz.prog.cellsOf 32=1:=by kernel_rfl
theorem Zb:Tryz.prog.cellsOf 74=2:=by kernel_rfl
theorem ZZ:Tryz.prog.cellsOf 76=7:=by kernel_rfl
theorem ZX:Tryz.prog.cellsOf 34=23:=by kernel_rfl
theorem Lm{H:Type}{enc:TypeId×Value->H}{W:World}{fuel:Nat}{cs:List Value}{x:DataW H×List MemPlace}(hf:DataW.trod enc Tryz.prog W 0 (λ_=>true) true fuel 23 cs=some x):
  ∃(A:Option Addr) (l:List (List UInt8)) (c:Nat),cs=[.slice A l.length c]/\l.length<=c/\c<=maxLen/\SQ l A (Old W.heap.size) W/\∀s∈l,s.length<=maxLen:=by
 obtain⟨A,l,c,h1,h2,h3,h4⟩:=LC ([]:List UInt8) 1 (λs v=>v=[.string ⟨s.toArray⟩]/\s.length<=maxLen) Tryz.underlying23 KZ (by decide) (λf v y hl h=>by
  obtain⟨s,e,_,ws⟩:=DataW.trod_string Tryz.underlying9 h;exact⟨s.data.toList,e,Em ws⟩) hf
 refine⟨A,l,c,h1,h2,h3,λhl=>?_,λs hs=>?_⟩
 ·obtain⟨b,off,rfl,hb,hr⟩:=h4 hl;refine⟨b,off,rfl,hb,λi n hn=>?_⟩;obtain⟨v,⟨rfl,_⟩,hc⟩:=hr i n hn;have:=hc 0 (by decide);simpa using this
 ·obtain⟨i,hi⟩:=List.mem_iff_getElem?.1 hs;have hpos:0<l.length:=by have:=(List.getElem?_eq_some_iff.1 hi).1;omega
  obtain⟨b,off,_,_,hr⟩:=h4 hpos;obtain⟨v,⟨_,ho⟩,_⟩:=hr i s hi;exact ho
theorem Q6{H:Type}{enc:TypeId×Value->H}{W:World}{fuel:Nat}{cs:List Value}{x:DataW H×List MemPlace}(hf:DataW.trod enc Tryz.prog W 0 (λ_=>true) true fuel 25 cs=some x):
  ∃(A:Option Addr) (l:List Rf) (c:Nat),cs=[.slice A l.length c]/\l.length<=c/\c<=maxLen/\XQ l A (Old W.heap.size) W/\∀s∈l,s.c.length<=maxLen/\s.t.length<=maxLen:=by
 obtain⟨A,l,c,h1,h2,h3,h4⟩:=LC (⟨[],[]⟩:Rf) 2 (λs v=>v=[.string ⟨s.c.toArray⟩,.string ⟨s.t.toArray⟩]/\s.c.length<=maxLen/\s.t.length<=maxLen) Tryz.underlying25 Zb (by decide) (λf v y hl h=>by
  obtain⟨ys,n,_,_,hcl,hlen,hg⟩:=DataW.trod_struct Tryz.underlying74 h
  match v,hl with
  |[c0,c1],_=>
   match ys,hlen with
   |[y0,y1],_=>
    have t0:DataW.trod enc Tryz.prog W 0 (λ_=>true) true n 9 (([c0,c1].drop 0).take (Tryz.prog.cellsOf 9))=some y0:=hg 0 _ rfl;have t1:DataW.trod enc Tryz.prog W 0 (λ_=>true) true n 9 (([c0,c1].drop 1).take (Tryz.prog.cellsOf 9))=some y1:=hg 1 _ rfl;rw[KZ]at t0 t1;obtain⟨s,e0,_,w0⟩:=DataW.trod_string Tryz.underlying9 t0;obtain⟨u,e1,_,w1⟩:=DataW.trod_string Tryz.underlying9 t1;simp at e0 e1;subst e0 e1;exact⟨⟨s.data.toList,u.data.toList⟩,rfl,Em w0,Em w1⟩) hf
 refine⟨A,l,c,h1,h2,h3,λhl=>?_,λs hs=>?_⟩
 ·obtain⟨b,off,rfl,hb,hr⟩:=h4 hl;refine⟨b,off,rfl,hb,λi n hn=>?_⟩;obtain⟨v,⟨rfl,_⟩,hc⟩:=hr i n hn;exact⟨hc 0 (by decide),hc 1 (by decide)⟩
 ·obtain⟨i,hi⟩:=List.mem_iff_getElem?.1 hs;have hpos:0<l.length:=by have:=(List.getElem?_eq_some_iff.1 hi).1;omega
  obtain⟨b,off,_,_,hr⟩:=h4 hpos;obtain⟨v,⟨_,ho⟩,_⟩:=hr i s hi;exact ho
def Se.cells(s:Se)(A:Option Addr)(c:Nat):List Value:=.string ⟨s.n.toArray⟩::s.e.cells A c
theorem Q5{H:Type}{enc:TypeId×Value->H}{W:World}{fuel:Nat}{cs:List Value}{x:DataW H×List MemPlace}(hf:DataW.trod enc Tryz.prog W 0 (λ_=>true) true fuel 32 cs=some x):
  ∃(A:Option Addr) (l:List Se) (c n:Nat),cs=[.slice A l.length c]/\l.length<=c/\c<=maxLen/\ZQ maxLen n l A (Old W.heap.size) W/\∀s∈l,s.n.length<=maxLen:=by
 obtain⟨A,l,c,h1,h2,h3,h4⟩:=LC (⟨[],.mk [] V.zero [] []⟩:Se) 7 (λs v=>∃(A':Option Addr) (c' m:Nat),v=s.cells A' c'/\s.n.length<=maxLen/\s.e.fit maxLen/\s.e.l.length<=c'/\c'<=maxLen/\ExQ maxLen m W (Old W.heap.size) A' s.e.l) Tryz.underlying32 ZZ (by decide) (λf v y hl h=>by
  obtain⟨ys,n,_,_,hcl,hlen,hg⟩:=DataW.trod_struct Tryz.underlying76 h
  match v,hl with
  |[c0,c1,c2,c3,c4,c5,c6],_=>
   match ys,hlen with
   |[y0,y1],_=>
    have t0:DataW.trod enc Tryz.prog W 0 (λ_=>true) true n 9 (([c0,c1,c2,c3,c4,c5,c6].drop 0).take (Tryz.prog.cellsOf 9))=some y0:=hg 0 _ rfl;have t1:DataW.trod enc Tryz.prog W 0 (λ_=>true) true n 30 (([c0,c1,c2,c3,c4,c5,c6].drop 1).take (Tryz.prog.cellsOf 30))=some y1:=hg 1 _ rfl;rw[KZ]at t0;rw[QD]at t1;obtain⟨s,e0,_,w0⟩:=DataW.trod_string Tryz.underlying9 t0;obtain⟨e,A4,k4,e5,f1,f2,f3,f4⟩:=(GN n).1 _ _ t1;simp at e0;subst e0;refine⟨⟨s.data.toList,e⟩,A4,k4,n, ?_,Em w0,f1,f2,f3,f4.toQ n⟩;have e5':[c1,c2,c3,c4,c5,c6]=e.cells A4 k4:=e5;show _=_::_
    rw[<-e5']) hf
 have hall:∀s∈l,∃(A':Option Addr) (c' m:Nat),s.n.length<=maxLen/\s.e.fit maxLen/\s.e.l.length<=c'/\c'<=maxLen/\ExQ maxLen m W (Old W.heap.size) A' s.e.l:=by
  intro s hs;obtain⟨i,hi⟩:=List.mem_iff_getElem?.1 hs;have hpos:0<l.length:=by have:=(List.getElem?_eq_some_iff.1 hi).1;omega
  obtain⟨b,off,_,_,hr⟩:=h4 hpos;obtain⟨v,⟨A',c',m,_,g1,g2,g3,g4,g5⟩,_⟩:=hr i s hi;exact⟨A',c',m,g1,g2,g3,g4,g5⟩
 have hmax:∃n,0<l.length->∃b off,A=some ⟨b,off,none⟩/\b<W.heap.size/\∀i s,l[i]? = some s->∃(A':Option Addr) (c':Nat),s.n.length<=maxLen/\s.e.fit maxLen/\s.e.l.length<=c'/\c'<=maxLen/\ExQ maxLen n W (Old W.heap.size) A' s.e.l/\∀j,j<7->W.cell? ⟨b,off+i * 7+j,none⟩=(s.cells A' c')[j]? :=by
  rcases Nat.eq_zero_or_pos l.length with h0|h0
  ·exact⟨0,λh=>by omega⟩
  obtain⟨b,off,hA,hb,hr⟩:=h4 h0;have hN:∀k,k<=l.length->∃n,∀i s,i<k->l[i]? = some s->∃(A':Option Addr) (c':Nat),s.n.length<=maxLen/\s.e.fit maxLen/\s.e.l.length<=c'/\c'<=maxLen/\ExQ maxLen n W (Old W.heap.size) A' s.e.l/\∀j,j<7->W.cell? ⟨b,off+i * 7+j,none⟩=(s.cells A' c')[j]? :=by
   intro k
   induction k with
   |zero=>intro _;exact⟨0,λi s h=>absurd h (by omega)⟩
   |succ k ih=>
    intro hk;obtain⟨n,hn⟩:=ih (by omega);obtain⟨v,⟨A',c',m,rfl,g1,g2,g3,g4,g5⟩,hc⟩:=hr k _ (List.getElem?_eq_getElem (by omega));refine⟨n+m,λi s hi hs=>?_⟩;by_cases e:i=k
    ·subst e;rw[List.getElem?_eq_getElem (by omega)]at hs
     injection hs with hs
     subst hs;exact⟨A',c',g1,g2,g3,g4,g5.ups (n+m) (by omega),hc⟩
    ·obtain⟨A2,c2,q1,q2,q3,q4,q5,q6⟩:=hn i s (by omega) hs;exact⟨A2,c2,q1,q2,q3,q4,q5.ups (n+m) (by omega),q6⟩
  obtain⟨n,hn⟩:=hN l.length (Nat.le_refl _);exact⟨n,λ_=>⟨b,off,hA,hb,λi s hs=>hn i s (List.getElem?_eq_some_iff.1 hs).1 hs⟩⟩
 obtain⟨n,hn⟩:=hmax;refine⟨A,l,c,n,h1,h2,h3,λhl=>?_,λs hs=>?_⟩
 ·obtain⟨b,off,rfl,hb,hr⟩:=hn hl;refine⟨b,off,rfl,hb,λi s hs=>?_⟩;obtain⟨A',c',q1,q2,q3,q4,q5,q6⟩:=hr i s hs;exact⟨q6 0 (by decide),A',c',q2,q3,q4,⟨q6 1 (by decide),q6 2 (by decide),q6 3 (by decide),q6 4 (by decide),q6 5 (by decide),q6 6 (by decide)⟩,q5⟩
 ·obtain⟨_,_,_,q,_⟩:=hall s hs;exact q
structure St.big (s:St):Prop where
 op:s.op.length<=maxLen
 tb:s.tb.length<=maxLen
 ot:s.ot.length<=maxLen
 key:s.key.length<=maxLen
 role:s.role.length<=maxLen
 nN:s.names.length<=maxLen
 nC:s.cols.length<=maxLen
 nU:s.uniq.length<=maxLen
 nR:s.refs.length<=maxLen
 nW:s.row.length<=maxLen
 nS:s.sets.length<=maxLen
 names:∀x∈s.names,x.length<=maxLen
 cols:∀c∈s.cols,c.n.length<=maxLen
 uniq:∀x∈s.uniq,x.length<=maxLen
 refs:∀x∈s.refs,x.c.length<=maxLen/\x.t.length<=maxLen
 chk:s.chk.fit maxLen
 whr:s.whr.fit maxLen
 chkL:s.chk.l.length<=maxLen
 whrL:s.whr.l.length<=maxLen
 row:∀v∈s.row,v.ok
 sets:∀x∈s.sets,x.n.length<=maxLen
theorem Vq{H:Type}{enc:TypeId×Value->H}{W:World}{fuel:Nat}{cs:List Value}{x:DataW H×List MemPlace}(hf:DataW.trod enc Tryz.prog W 0 (λ_=>true) true fuel 34 cs=some x):
  ∃(s:St) (p:StP),cs=s.cells p/\s.big/\StQ maxLen s p (Old W.heap.size) W:=by
 obtain⟨ys,n,_,_,hcl,hlen,hg⟩:=DataW.trod_struct Tryz.underlying34 hf;rw[ZX]at hcl
 match cs,hcl with
 |[c0,c1,c2,c3,c4,c5,c6,c7,c8,c9,c10,c11,c12,c13,c14,c15,c16,c17,c18,c19,c20,c21,c22],_=>
  match ys,hlen with
  |[y0,y1,y2,y3,y4,y5,y6,y7,y8,y9,y10,y11,y12],_=>
   obtain⟨cs,hcs⟩:∃cs,cs=[c0,c1,c2,c3,c4,c5,c6,c7,c8,c9,c10,c11,c12,c13,c14,c15,c16,c17,c18,c19,c20,c21,c22]:=⟨_,rfl⟩;rw[<-hcs]at hg ⊢;have t0:DataW.trod enc Tryz.prog W 0 (λ_=>true) true n 9 ((cs.drop 0).take (Tryz.prog.cellsOf 9))=some y0:=hg 0 _ rfl;have t1:DataW.trod enc Tryz.prog W 0 (λ_=>true) true n 9 ((cs.drop 1).take (Tryz.prog.cellsOf 9))=some y1:=hg 1 _ rfl;have t2:DataW.trod enc Tryz.prog W 0 (λ_=>true) true n 9 ((cs.drop 2).take (Tryz.prog.cellsOf 9))=some y2:=hg 2 _ rfl;have t3:DataW.trod enc Tryz.prog W 0 (λ_=>true) true n 23 ((cs.drop 3).take (Tryz.prog.cellsOf 23))=some y3:=hg 3 _ rfl;have t4:DataW.trod enc Tryz.prog W 0 (λ_=>true) true n 24 ((cs.drop 4).take (Tryz.prog.cellsOf 24))=some y4:=hg 4 _ rfl;have t5:DataW.trod enc Tryz.prog W 0 (λ_=>true) true n 9 ((cs.drop 5).take (Tryz.prog.cellsOf 9))=some y5:=hg 5 _ rfl;have t6:DataW.trod enc Tryz.prog W 0 (λ_=>true) true n 23 ((cs.drop 6).take (Tryz.prog.cellsOf 23))=some y6:=hg 6 _ rfl;have t7:DataW.trod enc Tryz.prog W 0 (λ_=>true) true n 25 ((cs.drop 7).take (Tryz.prog.cellsOf 25))=some y7:=hg 7 _ rfl;have t8:DataW.trod enc Tryz.prog W 0 (λ_=>true) true n 30 ((cs.drop 8).take (Tryz.prog.cellsOf 30))=some y8:=hg 8 _ rfl;have t9:DataW.trod enc Tryz.prog W 0 (λ_=>true) true n 31 ((cs.drop 14).take (Tryz.prog.cellsOf 31))=some y9:=hg 9 _ rfl;have t10:DataW.trod enc Tryz.prog W 0 (λ_=>true) true n 32 ((cs.drop 15).take (Tryz.prog.cellsOf 32))=some y10:=hg 10 _ rfl;have t11:DataW.trod enc Tryz.prog W 0 (λ_=>true) true n 30 ((cs.drop 16).take (Tryz.prog.cellsOf 30))=some y11:=hg 11 _ rfl;have t12:DataW.trod enc Tryz.prog W 0 (λ_=>true) true n 9 ((cs.drop 22).take (Tryz.prog.cellsOf 9))=some y12:=hg 12 _ rfl;clear hg hf;subst hcs;rw[KZ]at t0 t1 t2 t5 t12;rw[ZY]at t3 t6;rw[Zc]at t4;rw[Za]at t7;rw[QD]at t8 t11;rw[ZW]at t9;rw[Wj]at t10;obtain⟨s0,e0,_,w0⟩:=DataW.trod_string Tryz.underlying9 t0;obtain⟨s1,e1,_,w1⟩:=DataW.trod_string Tryz.underlying9 t1;obtain⟨s2,e2,_,w2⟩:=DataW.trod_string Tryz.underlying9 t2;obtain⟨A3,l3,k3,e3,g3,g3',h3,n3⟩:=Lm t3;obtain⟨A4,l4,k4,e4,g4,g4',h4,n4⟩:=Q7 t4;obtain⟨s5,e5,_,w5⟩:=DataW.trod_string Tryz.underlying9 t5;obtain⟨A6,l6,k6,e6,g6,g6',h6,n6⟩:=Lm t6;obtain⟨A7,l7,k7,e7,g7,g7',h7,n7⟩:=Q6 t7;obtain⟨x8,A8,k8,e8,f8,g8,g8',h8⟩:=(GN n).1 _ _ t8;obtain⟨A9,l9,k9,e9,g9,g9',h9,n9⟩:=Q4 t9;obtain⟨A10,l10,k10,m10,e10,g10,g10',h10,n10⟩:=Q5 t10;obtain⟨x11,A11,k11,e11,f11,g11,g11',h11⟩:=(GN n).1 _ _ t11;obtain⟨s12,e12,_,w12⟩:=DataW.trod_string Tryz.underlying9 t12;clear t0 t1 t2 t3 t4 t5 t6 t7 t8 t9 t10 t11 t12;simp only[List.drop_zero,List.drop_succ_cons,List.take_succ_cons,List.take_zero,List.cons.injEq,and_true]at e0 e1 e2 e3 e4 e5 e6 e7 e9 e10 e12;have e8':[c8,c9,c10,c11,c12,c13]=x8.cells A8 k8:=e8;have e11':[c16,c17,c18,c19,c20,c21]=x11.cells A11 k11:=e11;clear e8 e11;simp only[Ex.cells,List.cons.injEq,and_true]at e8' e11';obtain⟨rfl,rfl,rfl,rfl,rfl,rfl⟩:=e8';obtain⟨rfl,rfl,rfl,rfl,rfl,rfl⟩:=e11';subst e0 e1 e2 e3 e4 e5 e6 e7 e9 e10 e12;exact⟨⟨s0.data.toList,s1.data.toList,s2.data.toList,l3,l4,s5.data.toList,l6,l7,x8,l9,l10,x11,s12.data.toList⟩,⟨⟨A3,k3⟩,⟨A4,k4⟩,⟨A6,k6⟩,⟨A7,k7⟩,⟨A8,k8⟩,⟨A9,k9⟩,⟨A10,k10⟩,⟨A11,k11⟩⟩,rfl,
    ⟨Em w0,Em w1,Em w2,Em w5,Em w12,Nat.le_trans g3 g3',Nat.le_trans g4 g4',Nat.le_trans g6 g6',Nat.le_trans g7 g7',Nat.le_trans g9 g9',Nat.le_trans g10 g10',n3,n4,n6,n7,f8,f11,Nat.le_trans g8 g8',Nat.le_trans g11 g11',n9,n10⟩,
    ⟨h3,h4,h6,h7,⟨n,h8.toQ n⟩,h9,⟨m10,h10⟩,⟨n,h11.toQ n⟩⟩⟩
theorem open_st{H:Type}{enc:TypeId×Value->H}{W:World}{base:Nat}{v:Value}{d:DataW H}{p:List MemPlace}
 (hv:Value.okWide Tryz.prog W .any base 34 v)(h:DataW.Trod enc Tryz.prog W 0 (λ_=>true) true 34 v d p):
  ∃(s:St) (q:StP),v=.agg (s.cells q).toArray/\s.big/\StQ maxLen s q (Old W.heap.size) W:=by
 obtain⟨cs,rfl,_⟩:=okWide_struct Tryz.underlying34 hv;obtain⟨fuel,hf⟩:=h;obtain⟨x,q,hcs,h1,h2⟩:=Vq hf;refine⟨x,q, ?_,h1,h2⟩;have:cs.toList=x.cells q:=by simpa[Value.cells]using hcs
 rw[<-this]
end
section
open Go.RowKit
theorem Tv:Rows.laid_internal_strconv_uint64pow10 (H:=Unit)=Lib.tabData .u64 Lib.pow10Tab:=by kernel_rfl
theorem g10: Tryz.prog.globalNamed "internal/strconv.uint64pow10" = some 5 := by kernel_rfl
theorem t10:(Tryz.prog.globals[5]?).map (·.type)=some 251:=by kernel_rfl
theorem c10:Tryz.prog.cellsOf 228=1:=by kernel_rfl
theorem d10:Tryz.prog.cellsOf 251=20:=by kernel_rfl
theorem XM {W : World} {x y : String × DataW Unit} {rest : List (String × DataW Unit)} (hL : laidMet Tryz.prog (x :: y :: ("internal/strconv.uint64pow10", Rows.laid_internal_strconv_uint64pow10) :: rest) W) : L9 W := by
 have h:=laidMet.tail (laidMet.tail hL);rw[Tv]at h;exact Lib.tabIs_of_head g10 t10 Tryz.underlying251 Tryz.underlying228 c10 d10 h
end
section
open Go.RowKit Go.ChangeShapes Go.WideShapes Go.ChangeAt
theorem star: "*errors.errorString" = "*" ++ "errors.errorString" := by decide
theorem XV (u : TypeId) (h : Tryz.prog.typeName? 3 u = some "*errors.errorString") : u = 287 :=
 typeName_ptr_named (nm := "errors.errorString") (by rw [← star]; kernel_rfl) (by kernel_rfl) (by decide) u (by rw [← star]; exact h)
theorem bF: Tryz.prog.globalNamed "strconv.ErrRange" = some 9 := by kernel_rfl
theorem ZB: Tryz.prog.globalNamed "strconv.ErrSyntax" = some 8 := by kernel_rfl
theorem Z9:(Tryz.prog.globals[9]?).map (·.type)=some 168:=by kernel_rfl
theorem Ya:(Tryz.prog.globals[8]?).map (·.type)=some 168:=by kernel_rfl
theorem cErr:Tryz.prog.cellsOf 289=1:=by kernel_rfl
theorem cStr:Tryz.prog.cellsOf 9=1:=by kernel_rfl
theorem errs_of {W : World} {a b c d : String × DataW Unit} {rest : List (String × DataW Unit)} (hL : laidMet Tryz.prog (a :: b :: c :: d :: ("strconv.ErrRange", Rows.laid_strconv_ErrRange) :: ("strconv.ErrSyntax", Rows.laid_strconv_ErrSyntax) :: rest) W) : JP W := by
 have h:=laidMet.tail (laidMet.tail (laidMet.tail (laidMet.tail hL)));obtain⟨a0,_,h0,_⟩:=laid_sentinel h bF Z9 Tryz.underlying168 XV Tryz.underlying287 Tryz.underlying289 rfl rfl Tryz.underlying9 cErr cStr;obtain⟨a1,_,h1,_⟩:=laid_sentinel h.tail ZB Ya Tryz.underlying168 XV Tryz.underlying287 Tryz.underlying289 rfl rfl Tryz.underlying9 cErr cStr;exact⟨⟨_,_,h1⟩,_,_,h0⟩
end
section
open Go.RowKit Go.Lib
theorem Xy: Tryz.prog.globalNamed "caddis/stmt.types" = some 0 := by kernel_rfl
theorem Z8:(Tryz.prog.globals[0]?).map (·.type)=some 175:=by kernel_rfl
theorem AHD:Tryz.prog.cellsOf 175=3:=by kernel_rfl
theorem bH:Tryz.prog.cellsOf 9=1:=by kernel_rfl
theorem OQ{H:Type}{enc:TypeId×Value->H}{P:Program}{w:World}{base:Nat}{sp:Nat->Bool}{held:Bool}{fuel:Nat}{t e:TypeId}{n:Nat}{cs:List Value}{zs:List (List UInt8)}{p:List MemPlace}
 (ht:P.underlying t=some (.array n e))(he:P.underlying e=some .string)(hce:P.cellsOf e=1)(hct:P.cellsOf t=n)
 (h:DataW.trod enc P w base sp held fuel t cs=some (.agg (zs.map λz=>(DataW.lit (.string z):DataW H)),p)):cs=zs.map λz=>Value.string ⟨z.toArray⟩:=by
 cases fuel with
 |zero=>simp[DataW.trod]at h
 |succ fuel=>
  simp only[DataW.trod,ht,hce,hct,Nat.mul_one]at h;split at h
  ·rename_i hl
   obtain⟨xs,hm,hx⟩:=Option.map_eq_some_iff.1 h;have hxs:xs.map (·.1)=zs.map λz=>(DataW.lit (.string z):DataW H):=by
    have:=congrArg Prod.fst hx;simpa using this
   have hxl:xs.length=n:=by simpa using mapM_length hm
   have hzl:zs.length=n:=by
    have:=congrArg List.length hxs;simp at this;omega
   apply List.ext_getElem?;intro i;by_cases hi:i<n
   ·obtain⟨b,hb,hf⟩:=mapM_at hm i i (by simp[hi]);obtain⟨z,hc,rfl,_⟩:=DataW.trod_string he hf;have h1:cs[i]? = some (.string z):=by
     have:=congrArg (·[0]?) hc;simpa[List.getElem?_take,List.getElem?_drop]using this
    have h2:(xs.map (·.1))[i]? = some (DataW.lit (.string z.data.toList):DataW H):=by simp[hb]
    rw[hxs]at h2;simp only[List.getElem?_map,Option.map_eq_some_iff,DataW.lit.injEq,Lit.string.injEq]at h2;obtain⟨z',hz',rfl⟩:=h2;simp[h1,hz']
   ·rw[List.getElem?_eq_none (by omega),List.getElem?_eq_none (by simp;omega)]
  ·cases h
theorem YV {W : World} {x y z v : String × DataW Unit} {rest : List (String × DataW Unit)} (hL : laidMet Tryz.prog (x :: y :: z :: v :: ("caddis/stmt.types", Rows.laid_caddis_stmt_types) :: rest) W) : OY W := by
 have h:=laidMet.tail (laidMet.tail (laidMet.tail (laidMet.tail hL)));obtain⟨ps,⟨g',t',cs,fuel,p,q,hg',ht',hvar,hd,_,_⟩,_⟩:=h;obtain rfl:=Option.some.inj (Xy.symm.trans hg');obtain rfl:=Option.some.inj (Z8.symm.trans ht');have hc:=OQ (zs:=[[73,78,84],[84,69,88,84],[66,79,79,76]]) Tryz.underlying175 Tryz.underlying9 bH AHD hd;have key:∀i,W.cell? ⟨0,i,none⟩=([[73,78,84],[84,69,88,84],[66,79,79,76]].map λz=>Value.string ⟨z.toArray⟩)[i]? :=λi=>(World.var?_cell Xy hvar i).trans (by rw[<-Array.getElem?_toList,hc])
 exact⟨key 0,key 1,key 2⟩
theorem env0_of {W : World} (hsh : W.ShapedOpen Tryz.prog) {x y v : String × DataW Unit} {rest : List (String × DataW Unit)} (hL : laidMet Tryz.prog (x :: y :: ("internal/strconv.uint64pow10", Rows.laid_internal_strconv_uint64pow10) :: v :: ("caddis/stmt.types", Rows.laid_caddis_stmt_types) :: rest) W) : FY W :=
 ⟨Yy hsh,XM hL,YV hL⟩
end
end Go.Proofs.YtchilcchogcibaaGreatDoor
