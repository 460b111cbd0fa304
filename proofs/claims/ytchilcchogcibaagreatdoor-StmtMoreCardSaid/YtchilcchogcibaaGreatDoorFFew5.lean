/- caddislaw05.Few: a statement of which no more is looked at than may be. -/
import Derived.Test.YtchilcchogcibaaGreatDoorFEnvL
import Derived.Test.YtchilcchogcibaaGreatDoorFOrdersL
import Derived.Test.YtchilcchogcibaaGreatDoorFPs5
set_option maxRecDepth 100000
set_option maxHeartbeats 8000000
namespace Go.Proofs.YtchilcchogcibaaGreatDoor
open Go.RowKit
attribute [local go_sem] ByteArray.extract_mk Ak AY
attribute [local go_sem ↓] Go.wp_at_zero Go.wp_at_succ CY CE
def IG(r:Rf):Rf:=⟨r.c.take 20,r.t.take 20⟩
def JH(x:Se):Se:=⟨x.n.take 20,UQ x.e⟩
def St.few(s:St):St:=⟨s.op.take 20,s.tb.take 20,s.ot.take 20,Jv s.names,FI s.cols,s.key.take 20,Jv s.uniq,(s.refs.take 10).map IG,UQ s.chk,Ny s.row,(s.sets.take 10).map JH,UQ s.whr,s.role.take 20⟩
def Zq(x:St)(w:World)(en:Ending)(w':World):Prop:=
 ∃p:StP,en=.returned (.agg (x.cells p).toArray)/\x.Ok/\StQ 1000 x p (λb=>w.heap.size<=b/\b<w'.heap.size) w'/\Below w.heap.size w w'
def Oq(l:List (List UInt8))(u:Value)(Q:Nat->Prop)(w:World):Prop:=∃A c,u=.slice A l.length c/\SQ l A Q w
def Wu(l:List V)(u:Value)(Q:Nat->Prop)(w:World):Prop:=∃A c,u=.slice A l.length c/\WQ l A Q w
theorem Oq.keeps(l:List (List UInt8))(u:Value):Ph (Oq l u):=λ_ _ _ _ hk ⟨A,c,h1,h2⟩=>⟨A,c,h1,h2.keep hk⟩
theorem Wu.keeps(l:List V)(u:Value):Ph (Wu l u):=λ_ _ _ _ hk ⟨A,c,h1,h2⟩=>⟨A,c,h1,h2.keep hk⟩
def aggV:Value->Array Value
 |.agg a=>a
 |_=>#[]
def UZ(V:Nat->Value):Value:=.agg (#[V 0,V 1,V 2,V 5,V 7,V 3,V 6,.slice none 0 0]++aggV (V 8)++#[V 10,.slice none 0 0]++aggV (V 9)++#[V 4])
def A5(x:St)(j:Nat)(V:Nat->Value)(Q:Nat->Prop)(w:World):Prop:=
 match j with
 |0=>V 0=.string ⟨x.op.toArray⟩
 |1=>V 1=.string ⟨x.tb.toArray⟩
 |2=>V 2=.string ⟨x.ot.toArray⟩
 |3=>V 3=.string ⟨x.key.toArray⟩
 |4=>V 4=.string ⟨x.role.toArray⟩
 |5=>Oq x.names (V 5) Q w
 |6=>Oq x.uniq (V 6) Q w
 |7=>QH x.cols (V 7) Q w
 |8=>Kr x.chk (V 8) Q w
 |9=>Kr x.whr (V 9) Q w
 |10=>Wu x.row (V 10) Q w
 |11=>V 11=UZ V
 |_=>True
theorem A5.keep(x:St)(j:Nat)(V:Nat->Value)(Q Q':Nat->Prop)(w w':World)(hk:∀b,Q b->Q' b/\∀o,w'.cell? ⟨b,o,none⟩=w.cell? ⟨b,o,none⟩)(h:A5 x j V Q w):A5 x j V Q' w':=by
 match j,h with
 |0,h=>exact h
 |1,h=>exact h
 |2,h=>exact h
 |3,h=>exact h
 |4,h=>exact h
 |5,h=>exact Oq.keeps _ _ _ _ _ _ hk h
 |6,h=>exact Oq.keeps _ _ _ _ _ _ hk h
 |7,h=>exact QH.keeps _ _ _ _ _ _ hk h
 |8,h=>exact Kr.keeps _ _ _ _ _ _ hk h
 |9,h=>exact Kr.keeps _ _ _ _ _ _ hk h
 |10,h=>exact Wu.keeps _ _ _ _ _ _ hk h
 |11,h=>exact h
 |_+12,_=>trivial
theorem A5.upd(x:St)(j k:Nat)(V:Nat->Value)(u:Value)(Q:Nat->Prop)(w:World)(hjk:j<k)(h:A5 x j V Q w):A5 x j (Sv V k u) Q w:=by
 have e:∀i,i<=j->Sv V k u i=V i:=λi hi=>Su V u (by omega)
 match j,h with
 |0,h=>unfold A5 at h ⊢;rw[e 0 (Nat.le_refl _)];exact h
 |1,h=>unfold A5 at h ⊢;rw[e 1 (Nat.le_refl _)];exact h
 |2,h=>unfold A5 at h ⊢;rw[e 2 (Nat.le_refl _)];exact h
 |3,h=>unfold A5 at h ⊢;rw[e 3 (Nat.le_refl _)];exact h
 |4,h=>unfold A5 at h ⊢;rw[e 4 (Nat.le_refl _)];exact h
 |5,h=>unfold A5 at h ⊢;rw[e 5 (Nat.le_refl _)];exact h
 |6,h=>unfold A5 at h ⊢;rw[e 6 (Nat.le_refl _)];exact h
 |7,h=>unfold A5 at h ⊢;rw[e 7 (Nat.le_refl _)];exact h
 |8,h=>unfold A5 at h ⊢;rw[e 8 (Nat.le_refl _)];exact h
 |9,h=>unfold A5 at h ⊢;rw[e 9 (Nat.le_refl _)];exact h
 |10,h=>unfold A5 at h ⊢;rw[e 10 (Nat.le_refl _)];exact h
 |11,h=>unfold A5 UZ at h ⊢;rw[e 0 (by omega),e 1 (by omega),e 2 (by omega),e 3 (by omega),e 4 (by omega),e 5 (by omega),e 6 (by omega),e 7 (by omega),e 8 (by omega),e 9 (by omega),e 10 (by omega),e 11 (by omega)];exact h
 |_+12,_=>trivial
def cs5(x:St)(p:StP)(v u:Value):Array Value:=#[.string ⟨x.op.toArray⟩,.string ⟨x.tb.toArray⟩,.string ⟨x.ot.toArray⟩,.slice p.names.a x.names.length p.names.c,.slice p.cols.a x.cols.length p.cols.c,.string ⟨x.key.toArray⟩,.slice p.uniq.a x.uniq.length p.uniq.c,v,
 .string ⟨x.chk.op.toArray⟩,.int .i64 x.chk.v.k,.int .i64 x.chk.v.i,.string ⟨x.chk.v.s.toArray⟩,.string ⟨x.chk.s.toArray⟩,.slice p.chk.a x.chk.l.length p.chk.c,.slice p.row.a x.row.length p.row.c,u,
 .string ⟨x.whr.op.toArray⟩,.int .i64 x.whr.v.k,.int .i64 x.whr.v.i,.string ⟨x.whr.v.s.toArray⟩,.string ⟨x.whr.s.toArray⟩,.slice p.whr.a x.whr.l.length p.whr.c,.string ⟨x.role.toArray⟩]
theorem Yq(x:St)(p:StP)(v u:Value)(hv:v.oneCell'=true)(hu:u.oneCell'=true):(cs5 x p v u).all (·.oneCell')=true:=by
 unfold cs5;simp only[List.all_toArray,List.all_cons,List.all_nil,hv,hu];rfl
def YL(x:St)(p:StP)(Q:Nat->Prop)(w:World):Prop:=SQ x.names p.names.a Q w/\CQ x.cols p.cols.a Q w/\SQ x.uniq p.uniq.a Q w/\ExR Q x.chk p.chk.a p.chk.c w/\WQ x.row p.row.a Q w/\ExR Q x.whr p.whr.a p.whr.c w
theorem YL.keep{x:St}{p:StP}{Q Q':Nat->Prop}{w w':World}(h:YL x p Q w)(hk:∀b,Q b->Q' b/\∀o,w'.cell? ⟨b,o,none⟩=w.cell? ⟨b,o,none⟩):YL x p Q' w':=
 ⟨h.1.keep hk,h.2.1.keep hk,h.2.2.1.keep hk,h.2.2.2.1.keep hk,h.2.2.2.2.1.keep hk,h.2.2.2.2.2.keep hk⟩
def Zr(W:World)(x:St)(s3:Value)(wx:World):Prop:=
 ∃(g:Nat) (p:StP),s3=.pointer (some ⟨g,0,none⟩)/\Blk wx g 34 (cs5 x p (.slice none 0 0) (.slice none 0 0))/\Hid (YL x p (λb=>(W.heap.size<=b/\b<wx.heap.size)/\b≠g) wx)/\W.heap.size<=g/\Below W.heap.size W wx
theorem X6{W wv:World}{g:Nat}{x:St}{old:Array Value}(hb:Below W.heap.size W wv)(m1:W.heap.size<=g)(hk:Blk wv g 34 old){p:StP}
 (hq:YL x p (λb=>(W.heap.size<=b/\b<wv.heap.size)/\b≠g) wv):Zr W x (.pointer (some ⟨g,0,none⟩)) (wv.setRow g (cs5 x p (.slice none 0 0) (.slice none 0 0))):=
 ⟨g,p,rfl,hk.row _,hq.keep λb h=>⟨⟨⟨h.1.1,by rw[Bg];exact h.1.2⟩,h.2⟩,λo=>World.cell?_of_block (a:=⟨b,o,none⟩) (BI wv g b _ h.2)⟩,m1,Df hb m1 _⟩
def Rf.cells(r:Rf):List Value:=[.string ⟨r.c.toArray⟩,.string ⟨r.t.toArray⟩]
theorem rf_at:∀(l:List Rf) (i j:Nat) (v:Rf),l[i]? = some v->j<2->(l.flatMap Rf.cells)[i * 2+j]? = v.cells[j]? :=by
 intro l
 induction l with
 |nil=>intro i j v h;simp at h
 |cons x r ih=>
  intro i j v h hj;cases i with
  |zero=>
   simp at h;subst h;rw[List.flatMap_cons,List.getElem?_append_left (by simp[Rf.cells];omega)];simp
  |succ i=>
   rw[List.flatMap_cons,List.getElem?_append_right (by simp[Rf.cells];omega)];have e:(i+1) * 2+j - x.cells.length=i * 2+j:=by simp[Rf.cells];omega
   rw[e];exact ih i j v (by simpa using h) hj
theorem aP(l:List Rf):(l.flatMap Rf.cells).length=l.length * 2:=by
 induction l with
 |nil=>rfl
 |cons x r ih=>rw[List.flatMap_cons,List.length_append,ih,List.length_cons];simp[Rf.cells];omega
theorem XQ.own{w:World}{base:Nat}{e:TypeId}{sv:Value}{n:Nat}{l:List Rf}(h:w.ownsRow base e 2 sv n (l.flatMap Rf.cells)):
  ∃A c,sv=.slice A l.length c/\XQ l A (λb=>base<=b/\b<w.heap.size) w:=by
 have hn:l.length=n:=by have:=h.1;rw[aP]at this;omega
 rcases h.2 with⟨rfl,h0⟩|⟨g,cap,cur,rfl,hb,hg,hnc,hcm,hcs,htk⟩
 ·exact⟨none,0,by rw[hn,h0],λhl=>absurd hl (by omega)⟩
 ·refine⟨some ⟨g,0,none⟩,cap,by rw[hn],λ_=>⟨g,0,rfl,⟨hb,(Array.getElem?_eq_some_iff.1 hg).1⟩,λi v hv=>?_⟩⟩;have hc:=h.cells (g:=g) rfl;have key:∀j u,j<2->v.cells[j]? = some u->w.cell? ⟨g,0+i * 2+j,none⟩=some u:=by
   intro j u hj hu;have:=hc (i * 2+j) u (by rw[rf_at l i j v hv hj];exact hu);rw[add_mid]at this;rw[Nat.add_assoc];exact this
  exact⟨key 0 _ (by omega) rfl,key 1 _ (by omega) rfl⟩
structure SeC where
 n:List UInt8
 e:Ex
 A:Option Addr
 c:Nat
def SeC.cells(q:SeC):List Value:=.string ⟨q.n.toArray⟩::q.e.cells q.A q.c
def SeC.se(q:SeC):Se:=⟨q.n,q.e⟩
theorem aI:∀(l:List SeC) (i j:Nat) (v:SeC),l[i]? = some v->j<7->(l.flatMap SeC.cells)[i * 7+j]? = v.cells[j]? :=by
 intro l
 induction l with
 |nil=>intro i j v h;simp at h
 |cons x r ih=>
  intro i j v h hj;cases i with
  |zero=>
   simp at h;subst h;rw[List.flatMap_cons,List.getElem?_append_left (by simp[SeC.cells,Ex.cells];omega)];simp
  |succ i=>
   rw[List.flatMap_cons,List.getElem?_append_right (by simp[SeC.cells,Ex.cells];omega)];have e:(i+1) * 7+j - x.cells.length=i * 7+j:=by simp[SeC.cells,Ex.cells];omega
   rw[e];exact ih i j v (by simpa using h) hj
def BP(w:World)(e:TypeId)(lo:Nat)(sv:Value)(l:List Se):Prop:=
 ∃recs:List SeC,recs.map SeC.se=l/\w.ownsRow lo e 7 sv l.length (recs.flatMap SeC.cells)/\∀q∈recs,ExR (λb=>lo<=b/\b<w.heap.size/\some b≠sv.ownBlock) q.e q.A q.c w
section
variable {w w' w1 : World} {e : TypeId} {lo : Nat} {sv : Value} {l : List Se}
theorem BP.nil:BP w e lo (.slice none 0 0) []:=⟨[],rfl,World.ownsRow_nil _ _ _ _,by simp⟩
theorem BP.step{recs:List SeC}{n g cap:Nat}{q0:SeC}(h1:recs.map SeC.se=l)(h3:∀q∈recs,ExR (λb=>lo<=b/\b<w.heap.size/\some b≠sv.ownBlock) q.e q.A q.c w)
 (hr:ExR (λb=>lo<=b/\b<w.heap.size/\some b≠sv.ownBlock) q0.e q0.A q0.c w)(hn:n=l.length)(ho:w'.ownsRow lo e 7 (.slice (some ⟨g,0,none⟩) (n+1) cap) (n+1) (recs.flatMap SeC.cells++q0.cells))
 (hb:Below w.heap.size w w1)(hg:w1.grownBy w' sv.ownBlock)(hor:sv.ownBlock=some g\/g=w1.heap.size):BP w' e lo (.slice (some ⟨g,0,none⟩) (n+1) cap) (l++[q0.se]):=by
 have hk:∀b,(lo<=b/\b<w.heap.size/\some b≠sv.ownBlock)->(lo<=b/\b<w'.heap.size/\some b≠(Value.slice (some ⟨g,0,none⟩) (n+1) cap).ownBlock)/\∀o,w'.cell? ⟨b,o,none⟩=w.cell? ⟨b,o,none⟩:=λb ⟨h1,h2,h3⟩=>by
  have hz1:=hb.size;have hz2:=hg.size;refine⟨⟨h1,by omega,λe1=>?_⟩,λo=>(World.cell?_of_block (a:=⟨b,o,none⟩) (hg.block b (by omega) h3)).trans (hb.cell (p:=⟨b,o,none⟩) h2)⟩;rcases hor with h|h
  ·exact h3 (e1.trans h.symm)
  ·have:b=g:=Option.some.inj e1;omega
 subst hn;refine⟨recs++[q0],by rw[List.map_append,h1];rfl, ?_,λq hq=>?_⟩
 ·rw[List.flatMap_append,List.length_append];simpa using ho
 ·rcases List.mem_append.1 hq with hq|hq
  ·exact(h3 q hq).keep hk
  ·obtain rfl:q=q0:=by simpa using hq
   exact hr.keep hk
theorem VA{Q:Nat->Prop}:∀recs:List SeC,(∀q∈recs,ExR Q q.e q.A q.c w)->∃n,∀q∈recs,q.e.fit 1000/\q.e.l.length<=q.c/\q.c<=maxLen/\ExQ 1000 n w Q q.A q.e.l
 |[],_=>⟨0,λq hq=>by simp at hq⟩
 |x::r,h=>by
  obtain⟨n,hn⟩:=VA r λy hy=>h y (by simp[hy])
  obtain⟨f,c1,c2,m,hm⟩:=h x (by simp);refine⟨max n m,λy hy=>?_⟩;rcases List.mem_cons.1 hy with rfl|hy
  ·exact⟨f,c1,c2,hm.ups _ (Nat.le_max_right _ _)⟩
  ·exact⟨(hn y hy).1,(hn y hy).2.1,(hn y hy).2.2.1,(hn y hy).2.2.2.ups _ (Nat.le_max_left _ _)⟩
theorem BP.out(h:BP w e lo sv l):∃A c n,sv=.slice A l.length c/\ZQ 1000 n l A (λb=>lo<=b/\b<w.heap.size) w:=by
 obtain⟨recs,h1,h2,h3⟩:=h;obtain⟨n,hn⟩:=VA recs h3;have hl:recs.length=l.length:=by rw[<-h1,List.length_map]
 rcases h2.2 with⟨rfl,h0⟩|⟨g,cap,cur,rfl,hb,hg,hnc,hcm,hcs,htk⟩
 ·exact⟨none,0,0,by rw[h0],λhl=>absurd hl (by omega)⟩
 ·refine⟨some ⟨g,0,none⟩,cap,n,rfl,λ_=>⟨g,0,rfl,⟨hb,(Array.getElem?_eq_some_iff.1 hg).1⟩,λi x hx=>?_⟩⟩;rw[<-h1,List.getElem?_map,Option.map_eq_some_iff]at hx;obtain⟨q,hq,rfl⟩:=hx;have hc:=h2.cells (g:=g) rfl;have key:∀j u,j<7->q.cells[j]? = some u->w.cell? ⟨g,0+i * 7+j,none⟩=some u:=by
   intro j u hj hu;have:=hc (i * 7+j) u (by rw[aI recs i j q hq hj];exact hu);rw[add_mid]at this;rw[Nat.add_assoc];exact this
  obtain⟨f,c1,c2,hx⟩:=hn q (List.mem_of_getElem? hq);exact⟨key 0 _ (by omega) rfl,q.A,q.c,f,c1,c2,⟨key 1 _ (by omega) rfl,key 2 _ (by omega) rfl,key 3 _ (by omega) rfl,key 4 _ (by omega) rfl,key 5 _ (by omega) rfl,key 6 _ (by omega) rfl⟩,hx.keep (λb hb'=>⟨⟨hb'.1,hb'.2.1⟩,λ_=>rfl⟩) n⟩
theorem BP.lt(h:BP w e lo sv l):∀k,sv.ownBlock=some k->lo<=k/\k<w.heap.size:=by
 obtain⟨recs,_,h2,_⟩:=h;exact h2.lt
theorem BP.but{p:Nat}(h:BP w e lo sv l)(hb:But p w w')(hp:p<lo):BP w' e lo sv l:=by
 obtain⟨recs,h1,h2,h3⟩:=h;exact⟨recs,h1,Us h2 hb hp,λq hq=>(h3 q hq).keep λb hb'=>⟨⟨hb'.1,Nat.lt_of_lt_of_le hb'.2.1 hb.size,hb'.2.2⟩,λo=>hb.cell hb'.2.1 (by omega) o⟩⟩
theorem Ns{Q:Nat->Prop}{K:Nat}:∀(m n:Nat) (e:Ex) (A:Option Addr),Fq e.v.i->ExQ K n w Q A e.l->D8 m e
 |0,_,_,_,h,_=>h
 |m+1,n,e,A,h,hq=>⟨h,λx hx=>by
  obtain⟨i,hi⟩:=List.mem_iff_getElem?.1 hx;have hl:0<e.l.length:=by have:=(List.getElem?_eq_some_iff.1 hi).1;omega
  cases n with
  |zero=>rw[show e.l=[]from hq]at hl;cases hl
  |succ n=>
   obtain⟨b,off,_,_,hr⟩:=hq hl;obtain⟨A',c',f,_,_,_,hx'⟩:=hr i x hi;exact Ns m n x A' f.1 hx'⟩
theorem Rn{Q:Nat->Prop}{m:Nat}{e:Ex}{A:Option Addr}{c:Nat}(h:ExR Q e A c w):D8 m e:=by
 obtain⟨f,_,_,n,hn⟩:=h;exact Ns m n e A f.1 hn
end
theorem UL(w:World)(p:Addr)(u:Value):w.grownBy (w.setCell p u) (some p.block):=⟨rfl,rfl,rfl,by simp,λk _ hne=>Below.heap_setCell w p u k (λe=>hne (by rw[e]))⟩
theorem But.grown5{p:Nat}{a w w':World}{row:Option Nat}(h:But p a w)(hg:w.grownBy w' row)(hr:∀k,row=some k->a.heap.size<=k):But p a w':=
 ⟨hg.os.trans h.os,hg.tape.trans h.tape,hg.output.trans h.output,Nat.le_trans h.size hg.size,λk hk hp=>(hg.block k (Nat.lt_of_lt_of_le hk h.size) (λe=>by have:=hr k e.symm;omega)).trans (h.block k hk hp)⟩
theorem az:(Tryz.prog.info? 74).map (λi=>(i.zero,i.size,i.bytes))=some (some (.agg #[.string ⟨#[]⟩,.string ⟨#[]⟩]),2,32):=by kernel_rfl
theorem ak:(Tryz.prog.info? 76).map (λi=>(i.zero,i.size,i.bytes))=some (some (.agg #[.string ⟨#[]⟩,.string ⟨#[]⟩,.int .i64 0,.int .i64 0,.string ⟨#[]⟩,.string ⟨#[]⟩,.slice none 0 0]),7,104):=by kernel_rfl
theorem ZG{s:St}(hs:s.big){w:World}{Q:Nat->Prop}{A1 A2 A3:Option Addr}{c1 c2 n:Nat}(hx:ExR Q s.few.chk A1 c1 w)(hy:ExR Q s.few.whr A2 c2 w)(hz:ZQ 1000 n s.few.sets A3 Q w):s.few.Ok:=by
 have t20:∀l:List UInt8,(l.take 20).length<=1000:=λl=>Nat.le_trans (List.length_take_le _ _) (by decide)
 have hsets:∀x∈s.few.sets,x.n.length<=1000/\x.e.fit 1000/\D8 13 x.e:=λx hx=>by
  obtain⟨i,hi⟩:=List.mem_iff_getElem?.1 hx;have hl:0<s.few.sets.length:=by have:=(List.getElem?_eq_some_iff.1 hi).1;omega
  obtain⟨b,off,_,_,hr⟩:=hz hl;obtain⟨_,A',c',f,h1,h2,_,hx'⟩:=hr i x hi;have hx:=hx;unfold St.few at hx;obtain⟨y,_,rfl⟩:=List.mem_map.1 hx;exact⟨t20 _,f,Ns 13 n _ A' f.1 hx'⟩
 have hrow:∀v∈s.few.row,Fq v.i/\v.s.length<=1000:=λv hv=>by
  have hv2:v∈Ny s.row:=hv;unfold Ny at hv2;obtain⟨y,hy,rfl⟩:=List.mem_map.1 hv2;exact⟨(hs.row y (List.mem_of_mem_take hy)).2.1,Nat.le_trans (List.length_take_le _ _) (by decide)⟩
 exact {
  op:=t20 _,tb:=t20 _,ot:=t20 _,key:=t20 _,role:=t20 _
  nN:=by show(Jv s.names).length<=_;unfold Jv;simp;omega
  nC:=by show(FI s.cols).length<=_;unfold FI;simp;omega
  nU:=by show(Jv s.uniq).length<=_;unfold Jv;simp;omega
  nR:=by show((s.refs.take 10).map IG).length<=_;simp;omega
  nW:=by show(Ny s.row).length<=_;unfold Ny;simp;omega
  nS:=by show((s.sets.take 10).map JH).length<=_;simp;omega
  names:=λx hx=>by
   have hx2:x∈Jv s.names:=hx;unfold Jv at hx2;obtain⟨y,_,rfl⟩:=List.mem_map.1 hx2;exact t20 _
  cols:=λx hx=>by
   have hx2:x∈FI s.cols:=hx;unfold FI at hx2;obtain⟨y,_,rfl⟩:=List.mem_map.1 hx2;exact t20 _
  uniq:=λx hx=>by
   have hx2:x∈Jv s.uniq:=hx;unfold Jv at hx2;obtain⟨y,_,rfl⟩:=List.mem_map.1 hx2;exact t20 _
  refs:=λx hx=>by
   have hx2:x∈(s.refs.take 10).map IG:=hx;obtain⟨y,_,rfl⟩:=List.mem_map.1 hx2;exact⟨t20 _,t20 _⟩
  chk:=hx.1
  whr:=hy.1
  row:=hrow
  sets:=λx hx=>⟨(hsets x hx).1,(hsets x hx).2.1⟩
  num:=⟨Rn hx,Rn hy,λv hv=>(hrow v hv).1,λx hx=>(hsets x hx).2.2⟩}
theorem few5_any(s:St)(p:StP)(w:World)(hs:s.big)(hQ:StQ maxLen s p (Old w.heap.size) w):Calls Tryz.prog 14 #[.agg (s.cells p).toArray] w (Zq s.few w):=by
 have hQ9:=hQ;obtain⟨qN,qC,qU,qR,⟨kc,qX⟩,qW,⟨kz,qZ⟩,kw,qY⟩:=hQ;obtain⟨w0,hw0⟩:∃w0,(w.alloc (.cells (s.cells p).toArray 34)).alloc (.cells ((stZ [] []).cells Cj).toArray 34)=w0:=⟨_,rfl⟩;have kt0:Blk w0 w.heap.size 34 (s.cells p).toArray:=by rw[<-hw0];exact(Blk.new _ _ _).alloc _
 have kr0:Blk w0 (w.heap.size+1) 34 ((stZ [] []).cells Cj).toArray:=by rw[<-hw0];exact Blk.new' _ _ _ _ (by simp)
 have hb0:Below w.heap.size w w0:=by rw[<-hw0];exact bl
 have hz0:w0.heap.size=w.heap.size+2:=by rw[<-hw0];simp
 have HW:=Lib.hid hw0;have hwx:∀Y:World,Below w0.heap.size w0 Y->Below w.heap.size w Y:=λY h=>hb0.trans (h.mono hb0.size)
 have HSH:Hid (∀Z:World,Below w0.heap.size w0 Z->Z.cell? ⟨w.heap.size,0,none⟩=some (.string ⟨s.op.toArray⟩)/\Z.cell? ⟨w.heap.size,1,none⟩=some (.string ⟨s.tb.toArray⟩)/\Z.cell? ⟨w.heap.size,2,none⟩=some (.string ⟨s.ot.toArray⟩)/\Z.cell? ⟨w.heap.size,3,none⟩=some (.slice p.names.a s.names.length p.names.c)/\Z.cell? ⟨w.heap.size,4,none⟩=some (.slice p.cols.a s.cols.length p.cols.c)/\Z.cell? ⟨w.heap.size,5,none⟩=some (.string ⟨s.key.toArray⟩)/\Z.cell? ⟨w.heap.size,6,none⟩=some (.slice p.uniq.a s.uniq.length p.uniq.c)/\Z.cell? ⟨w.heap.size,7,none⟩=some (.slice p.refs.a s.refs.length p.refs.c)/\Z.cell? ⟨w.heap.size,8,none⟩=some (.string ⟨s.chk.op.toArray⟩)/\Z.cell? ⟨w.heap.size,9,none⟩=some (.int .i64 s.chk.v.k)/\Z.cell? ⟨w.heap.size,10,none⟩=some (.int .i64 s.chk.v.i)/\Z.cell? ⟨w.heap.size,11,none⟩=some (.string ⟨s.chk.v.s.toArray⟩)/\Z.cell? ⟨w.heap.size,12,none⟩=some (.string ⟨s.chk.s.toArray⟩)/\Z.cell? ⟨w.heap.size,13,none⟩=some (.slice p.chk.a s.chk.l.length p.chk.c)/\Z.cell? ⟨w.heap.size,14,none⟩=some (.slice p.row.a s.row.length p.row.c)/\Z.cell? ⟨w.heap.size,15,none⟩=some (.slice p.sets.a s.sets.length p.sets.c)/\Z.cell? ⟨w.heap.size,16,none⟩=some (.string ⟨s.whr.op.toArray⟩)/\Z.cell? ⟨w.heap.size,17,none⟩=some (.int .i64 s.whr.v.k)/\Z.cell? ⟨w.heap.size,18,none⟩=some (.int .i64 s.whr.v.i)/\Z.cell? ⟨w.heap.size,19,none⟩=some (.string ⟨s.whr.v.s.toArray⟩)/\Z.cell? ⟨w.heap.size,20,none⟩=some (.string ⟨s.whr.s.toArray⟩)/\Z.cell? ⟨w.heap.size,21,none⟩=some (.slice p.whr.a s.whr.l.length p.whr.c)/\Z.cell? ⟨w.heap.size,22,none⟩=some (.string ⟨s.role.toArray⟩)):=λZ h=>(kt0.below h kt0.lt).st
 have hko:∀Y:World,Below w0.heap.size w0 Y->∀b,Old w.heap.size b->Old Y.heap.size b/\∀o,Y.cell? ⟨b,o,none⟩=w.cell? ⟨b,o,none⟩:=λY h=>DK (hwx Y h) (hwx Y h).size
 obtain⟨x,hx⟩:∃x,s.few=x:=⟨_,rfl⟩;have HX:=Lib.hid hx;rw[hx];have HT0:Hid (∀Y:World,Calls Tryz.prog 31 #[.string ⟨s.op.toArray⟩] Y (Ret (.string ⟨x.op.toArray⟩) Y)):=λY=>by rw[<-hx];exact EY s.op Y
 have HT1:Hid (∀Y:World,Calls Tryz.prog 31 #[.string ⟨s.tb.toArray⟩] Y (Ret (.string ⟨x.tb.toArray⟩) Y)):=λY=>by rw[<-hx];exact EY s.tb Y
 have HT2:Hid (∀Y:World,Calls Tryz.prog 31 #[.string ⟨s.ot.toArray⟩] Y (Ret (.string ⟨x.ot.toArray⟩) Y)):=λY=>by rw[<-hx];exact EY s.ot Y
 have HT3:Hid (∀Y:World,Calls Tryz.prog 31 #[.string ⟨s.key.toArray⟩] Y (Ret (.string ⟨x.key.toArray⟩) Y)):=λY=>by rw[<-hx];exact EY s.key Y
 have HT4:Hid (∀Y:World,Calls Tryz.prog 31 #[.string ⟨s.role.toArray⟩] Y (Ret (.string ⟨x.role.toArray⟩) Y)):=λY=>by rw[<-hx];exact EY s.role Y
 have HT5:Hid (∀Y:World,Below w0.heap.size w0 Y->Calls Tryz.prog 32 #[.slice p.names.a s.names.length p.names.c] Y (QG x.names Y)):=λY h=>by rw[<-hx];exact Nc p.names.a p.names.c s.names Y hs.nN (qN.keep (hko Y h))
 have HT6:Hid (∀Y:World,Below w0.heap.size w0 Y->Calls Tryz.prog 32 #[.slice p.uniq.a s.uniq.length p.uniq.c] Y (QG x.uniq Y)):=λY h=>by rw[<-hx];exact Nc p.uniq.a p.uniq.c s.uniq Y hs.nU (qU.keep (hko Y h))
 have HT7:Hid (∀Y:World,Below w0.heap.size w0 Y->Calls Tryz.prog 33 #[.slice p.cols.a s.cols.length p.cols.c] Y (VE x.cols Y)):=λY h=>by rw[<-hx];exact YC p.cols.a p.cols.c s.cols Y hs.nC ((qC.keep (hko Y h)).s (λb h=>h)) hs.cols
 have HT8:Hid (∀Y:World,Below w0.heap.size w0 Y->Calls Tryz.prog 34 #[.agg #[.string ⟨s.chk.op.toArray⟩,.int .i64 s.chk.v.k,.int .i64 s.chk.v.i,.string ⟨s.chk.v.s.toArray⟩,.string ⟨s.chk.s.toArray⟩,.slice p.chk.a s.chk.l.length p.chk.c]] Y (MS x.chk Y)):=λY h=>by rw[<-hx];exact Nw s.chk p.chk.a p.chk.c kc Y hs.chk hs.chkL ((qX.keep (hko Y h) kc).toS (λb h=>h) kc)
 have HT9:Hid (∀Y:World,Below w0.heap.size w0 Y->Calls Tryz.prog 34 #[.agg #[.string ⟨s.whr.op.toArray⟩,.int .i64 s.whr.v.k,.int .i64 s.whr.v.i,.string ⟨s.whr.v.s.toArray⟩,.string ⟨s.whr.s.toArray⟩,.slice p.whr.a s.whr.l.length p.whr.c]] Y (MS x.whr Y)):=λY h=>by rw[<-hx];exact Nw s.whr p.whr.a p.whr.c kw Y hs.whr hs.whrL ((qY.keep (hko Y h) kw).toS (λb h=>h) kw)
 have HT10:Hid (∀Y:World,Below w0.heap.size w0 Y->Calls Tryz.prog 35 #[.slice p.row.a s.row.length p.row.c] Y (Zn x.row Y)):=λY h=>by rw[<-hx];exact ZC p.row.a p.row.c s.row Y hs.nW ((qW.keep (hko Y h)).s (λb h=>h))
 have HR:Hid (∀Y:World,Below w0.heap.size w0 Y->XQ s.refs p.refs.a (Old w.heap.size) Y):=λY h=>qR.keep λb hb=>⟨hb,λo=>(hwx Y h).cell (p:=⟨b,o,none⟩) hb⟩
 have HZ:Hid (∀Y:World,Below w0.heap.size w0 Y->ZQ maxLen kz s.sets p.sets.a (Old w.heap.size) Y):=λY h=>qZ.keep λb hb=>⟨hb,λo=>(hwx Y h).cell (p:=⟨b,o,none⟩) hb⟩
 have HBG:=Lib.hid hs;have HB0:=Lib.hid hb0;have HZ0:=Lib.hid hz0;clear hw0 hx hQ9 qN qC qU qR qX qW qZ qY hs hwx hko;go_in
 go_upto_region 1 with fail
 rw[show World.alloc (World.alloc w _) (.cells #[.string ⟨#[]⟩,.string ⟨#[]⟩,.string ⟨#[]⟩,.slice none 0 0,.slice none 0 0,.string ⟨#[]⟩,.slice none 0 0,.slice none 0 0,.string ⟨#[]⟩,.int .i64 0,.int .i64 0,.string ⟨#[]⟩,.string ⟨#[]⟩,.slice none 0 0,.slice none 0 0,.slice none 0 0,.string ⟨#[]⟩,.int .i64 0,.int .i64 0,.string ⟨#[]⟩,.string ⟨#[]⟩,.slice none 0 0,.string ⟨#[]⟩] 34)=w0 from HW.out];clear HW;go_cut [3] (λs3 wx=>Zr w0 x s3 wx)
 case first=>
  refine rgn HSH λhHeld=>?_
  refine tS [0,1,3,4,6,7,9,10,12,13,15,16,18,19,21,22,24,25,27,28,30,31] ?_;iterate 22(refine tC ?_;refine ap ?_)
  refine tN ?_;refine YE (n:=12) (z:=34) (f0:=1) (sz:=3) (kk:=λj=>[2,5,8,11,14,17,20,23,26,29,32,33].getD j 0) (sl:=λj=>[8,11,14,17,20,23,26,29,32,35,38,39].getD j 0) (Ls:=uptoC #[true,true,false,true,true,false,true,true,false,true,true,false,true,true,false,true,true,false,true,true,false,true,true,false,true,true,false,true,true,false,true,true,false,false,false,false] [2,5,8,11,14,17,20,23,26,29,32,33] 34) (F:=(λV x3=>#[.agg (s.cells p).toArray,.pointer (some ⟨w.heap.size,0,none⟩),.pointer (some ⟨w.heap.size+1,0,none⟩),x3,undef,undef,.pointer (some ⟨w.heap.size,0,none⟩),.string ⟨s.op.toArray⟩,V 0,.pointer (some ⟨w.heap.size,1,none⟩),.string ⟨s.tb.toArray⟩,V 1,.pointer (some ⟨w.heap.size,2,none⟩),.string ⟨s.ot.toArray⟩,V 2,.pointer (some ⟨w.heap.size,5,none⟩),.string ⟨s.key.toArray⟩,V 3,.pointer (some ⟨w.heap.size,22,none⟩),.string ⟨s.role.toArray⟩,V 4,.pointer (some ⟨w.heap.size,3,none⟩),.slice p.names.a s.names.length p.names.c,V 5,.pointer (some ⟨w.heap.size,6,none⟩),.slice p.uniq.a s.uniq.length p.uniq.c,V 6,.pointer (some ⟨w.heap.size,4,none⟩),.slice p.cols.a s.cols.length p.cols.c,V 7,.pointer (some ⟨w.heap.size,8,none⟩),.agg #[.string ⟨s.chk.op.toArray⟩,.int .i64 s.chk.v.k,.int .i64 s.chk.v.i,.string ⟨s.chk.v.s.toArray⟩,.string ⟨s.chk.s.toArray⟩,.slice p.chk.a s.chk.l.length p.chk.c],V 8,.pointer (some ⟨w.heap.size,16,none⟩),.agg #[.string ⟨s.whr.op.toArray⟩,.int .i64 s.whr.v.k,.int .i64 s.whr.v.i,.string ⟨s.whr.v.s.toArray⟩,.string ⟨s.whr.s.toArray⟩,.slice p.whr.a s.whr.l.length p.whr.c],V 9,.pointer (some ⟨w.heap.size,14,none⟩),.slice p.row.a s.row.length p.row.c,V 10,V 11,undef,undef,undef,undef,undef,undef,undef,undef,undef,undef,undef,undef,undef,undef,undef,undef,undef,undef,undef,undef,undef,undef,undef,undef,undef,undef,undef,undef,undef,undef,undef,undef,undef,undef,undef,undef,undef,undef,undef,undef,undef,undef,undef,undef,undef,undef,undef,undef,undef,undef,undef,undef,undef,undef,undef,undef,undef,undef,undef,undef,undef,undef,undef])) (w0:=w0) (t:=34) (zs:=((stZ [] []).cells Cj).toArray) (A:=A5 x)
   (by decide +kernel) (by decide +kernel) (by decide +kernel) (by decide +kernel) (by decide +kernel) ?hput (λV u=>rfl) (A5.keep x) (A5.upd x) ?hstep ?hnew ?hfin _ (by exact bl) hHeld _ rfl _ (by decide +kernel) _ rfl
  case hput=>
   intro j hj V x3 u
   match j,hj with
   |0,_=>rfl
   |1,_=>rfl
   |2,_=>rfl
   |3,_=>rfl
   |4,_=>rfl
   |5,_=>rfl
   |6,_=>rfl
   |7,_=>rfl
   |8,_=>rfl
   |9,_=>rfl
   |10,_=>rfl
   |11,_=>rfl
  case hstep=>
   intro j hj V x3 Qd wv hb hS hans;have hzv:=hb.size
   match j,hj with
   |0,_=>
    clear hans;refine Dv rfl (λK hK=>?_);go_simp;refine(HT0.out _).mono ?_;rintro en w1 ⟨rfl,hb1⟩;have hz1:=hb1.size;go_wp2_with fail;exact hK.out _ _ ⟨HSH.out _ (by exact bl),(.string ⟨x.op.toArray⟩),rfl,rfl,hb1⟩
   |1,_=>
    clear hans;refine Dv rfl (λK hK=>?_);go_simp;refine(HT1.out _).mono ?_;rintro en w1 ⟨rfl,hb1⟩;have hz1:=hb1.size;go_wp2_with fail;exact hK.out _ _ ⟨HSH.out _ (by exact bl),(.string ⟨x.tb.toArray⟩),rfl,rfl,hb1⟩
   |2,_=>
    clear hans;refine Dv rfl (λK hK=>?_);go_simp;refine(HT2.out _).mono ?_;rintro en w1 ⟨rfl,hb1⟩;have hz1:=hb1.size;go_wp2_with fail;exact hK.out _ _ ⟨HSH.out _ (by exact bl),(.string ⟨x.ot.toArray⟩),rfl,rfl,hb1⟩
   |3,_=>
    clear hans;refine Dv rfl (λK hK=>?_);go_simp;refine(HT3.out _).mono ?_;rintro en w1 ⟨rfl,hb1⟩;have hz1:=hb1.size;go_wp2_with fail;exact hK.out _ _ ⟨HSH.out _ (by exact bl),(.string ⟨x.key.toArray⟩),rfl,rfl,hb1⟩
   |4,_=>
    clear hans;refine Dv rfl (λK hK=>?_);go_simp;refine(HT4.out _).mono ?_;rintro en w1 ⟨rfl,hb1⟩;have hz1:=hb1.size;go_wp2_with fail;exact hK.out _ _ ⟨HSH.out _ (by exact bl),(.string ⟨x.role.toArray⟩),rfl,rfl,hb1⟩
   |5,_=>
    clear hans;refine Dv rfl (λK hK=>?_);go_simp;refine(HT5.out _ hb).mono ?_;rintro en w1 ⟨A1,c1,rfl,_,_,hE,hb1⟩;have hz1:=hb1.size;go_wp2_with fail;exact hK.out _ _ ⟨HSH.out _ (by exact bl),(.slice A1 x.names.length c1),rfl,⟨A1,c1,rfl,hE⟩,hb1⟩
   |6,_=>
    clear hans;refine Dv rfl (λK hK=>?_);go_simp;refine(HT6.out _ hb).mono ?_;rintro en w1 ⟨A1,c1,rfl,_,_,hE,hb1⟩;have hz1:=hb1.size;go_wp2_with fail;exact hK.out _ _ ⟨HSH.out _ (by exact bl),(.slice A1 x.uniq.length c1),rfl,⟨A1,c1,rfl,hE⟩,hb1⟩
   |7,_=>
    clear hans;refine Dv rfl (λK hK=>?_);go_simp;refine(HT7.out _ hb).mono ?_;rintro en w1 ⟨A1,c1,rfl,_,_,hE,hb1⟩;have hz1:=hb1.size;go_wp2_with fail;exact hK.out _ _ ⟨HSH.out _ (by exact bl),(.slice A1 x.cols.length c1),rfl,(QH.fresh hE (λb h=>h)),hb1⟩
   |8,_=>
    clear hans;refine Dv rfl (λK hK=>?_);go_simp;refine(HT8.out _ hb).mono ?_;rintro en w1 ⟨A1,c1,rfl,hE,hb1⟩;dsimp only[Ex.cells];have hz1:=hb1.size;go_wp2_with fail;exact hK.out _ _ ⟨HSH.out _ (by exact bl),(.agg #[.string ⟨x.chk.op.toArray⟩,.int .i64 x.chk.v.k,.int .i64 x.chk.v.i,.string ⟨x.chk.v.s.toArray⟩,.string ⟨x.chk.s.toArray⟩,.slice A1 x.chk.l.length c1]),rfl,(Kr.fresh hE (λb h=>h)),hb1⟩
   |9,_=>
    clear hans;refine Dv rfl (λK hK=>?_);go_simp;refine(HT9.out _ hb).mono ?_;rintro en w1 ⟨A1,c1,rfl,hE,hb1⟩;dsimp only[Ex.cells];have hz1:=hb1.size;go_wp2_with fail;exact hK.out _ _ ⟨HSH.out _ (by exact bl),(.agg #[.string ⟨x.whr.op.toArray⟩,.int .i64 x.whr.v.k,.int .i64 x.whr.v.i,.string ⟨x.whr.v.s.toArray⟩,.string ⟨x.whr.s.toArray⟩,.slice A1 x.whr.l.length c1]),rfl,(Kr.fresh hE (λb h=>h)),hb1⟩
   |10,_=>
    clear hans;refine Dv rfl (λK hK=>?_);go_simp;refine(HT10.out _ hb).mono ?_;rintro en w1 ⟨A1,c1,rfl,_,_,hE,hb1⟩;have hz1:=hb1.size;go_wp2_with fail;exact hK.out _ _ ⟨HSH.out _ (by exact bl),(.slice A1 x.row.length c1),rfl,⟨A1,c1,rfl,WQ.ofF hE (λb h1 h2=>⟨h1,h2⟩)⟩,hb1⟩
   |11,_=>
    have e0:V 0=.string ⟨x.op.toArray⟩:=hans 0 (by omega);have e1:V 1=.string ⟨x.tb.toArray⟩:=hans 1 (by omega);have e2:V 2=.string ⟨x.ot.toArray⟩:=hans 2 (by omega);have e3:V 3=.string ⟨x.key.toArray⟩:=hans 3 (by omega);have e4:V 4=.string ⟨x.role.toArray⟩:=hans 4 (by omega);obtain⟨aN,cN,e5,-⟩:Oq x.names (V 5) _ wv:=hans 5 (by omega);obtain⟨aU,cU,e6,-⟩:Oq x.uniq (V 6) _ wv:=hans 6 (by omega);obtain⟨aC,cC,e7,-⟩:QH x.cols (V 7) _ wv:=hans 7 (by omega);obtain⟨aX,cX,e8,-⟩:Kr x.chk (V 8) _ wv:=hans 8 (by omega);obtain⟨aY,cY,e9,-⟩:Kr x.whr (V 9) _ wv:=hans 9 (by omega);obtain⟨aW,cW,e10,-⟩:Wu x.row (V 10) _ wv:=hans 10 (by omega);have eb:UZ V=.agg (cs5 x ⟨⟨aN,cN⟩,⟨aC,cC⟩,⟨aU,cU⟩,slZ,⟨aX,cX⟩,⟨aW,cW⟩,slZ,⟨aY,cY⟩⟩ (.slice none 0 0) (.slice none 0 0)):=by
     unfold UZ;rw[e0,e1,e2,e3,e4,e5,e6,e7,e8,e9,e10];rfl
    have EB:=Lib.hid eb;have EE:=Lib.hid (And.intro e0 (And.intro e1 (And.intro e2 (And.intro e3 (And.intro e4 (And.intro e5 (And.intro e6 (And.intro e7 (And.intro e8 (And.intro e9 e10))))))))));refine Dv rfl (λK hK=>?_);dsimp only;rw[e0,e1,e2,e3,e4,e5,e6,e7,e8,e9,e10];clear hans eb e0 e1 e2 e3 e4 e5 e6 e7 e8 e9 e10;go_simp;refine hK.out _ _ ⟨hS,UZ V, ?_,rfl,Below.refl _ _⟩;obtain⟨e0,e1,e2,e3,e4,e5,e6,e7,e8,e9,e10⟩:=EE.out;dsimp only[Act.put];rw[EB.out,e0,e1,e2,e3,e4,e5,e6,e7,e8,e9,e10];rfl
  case hnew=>
   intro V wv hb hS;have hzv:=hb.size;refine Dv rfl (λK hK=>?_);go_simp;go_wp2_with fail;exact hK.out _ _ ⟨HSH.out _ (by exact bl),rfl,rfl⟩
  case hfin=>
   intro g V wv hb hS m1 hk hans;have e0:V 0=.string ⟨x.op.toArray⟩:=hans 0 (by omega);have e1:V 1=.string ⟨x.tb.toArray⟩:=hans 1 (by omega);have e2:V 2=.string ⟨x.ot.toArray⟩:=hans 2 (by omega);have e3:V 3=.string ⟨x.key.toArray⟩:=hans 3 (by omega);have e4:V 4=.string ⟨x.role.toArray⟩:=hans 4 (by omega);obtain⟨aN,cN,e5,hN⟩:Oq x.names (V 5) _ wv:=hans 5 (by omega);obtain⟨aU,cU,e6,hU⟩:Oq x.uniq (V 6) _ wv:=hans 6 (by omega);obtain⟨aC,cC,e7,hC⟩:QH x.cols (V 7) _ wv:=hans 7 (by omega);obtain⟨aX,cX,e8,hX⟩:Kr x.chk (V 8) _ wv:=hans 8 (by omega);obtain⟨aY,cY,e9,hY⟩:Kr x.whr (V 9) _ wv:=hans 9 (by omega);obtain⟨aW,cW,e10,hW⟩:Wu x.row (V 10) _ wv:=hans 10 (by omega);have e11:V 11=.agg (cs5 x ⟨⟨aN,cN⟩,⟨aC,cC⟩,⟨aU,cU⟩,slZ,⟨aX,cX⟩,⟨aW,cW⟩,slZ,⟨aY,cY⟩⟩ (.slice none 0 0) (.slice none 0 0)):=by
    have h:V 11=UZ V:=hans 11 (by omega);rw[h];unfold UZ;rw[e0,e1,e2,e3,e4,e5,e6,e7,e8,e9,e10];rfl
   clear hans;dsimp only;rw[e11];have hHeld:=hS;refine rdy 35 λK hK=>?_
   refine BL (by rfl) (34) _ _ rfl (g) (cs5 x ⟨⟨aN,cN⟩,⟨aC,cC⟩,⟨aU,cU⟩,slZ,⟨aX,cX⟩,⟨aW,cW⟩,slZ,⟨aY,cY⟩⟩ (.slice none 0 0) (.slice none 0 0)) rfl rfl (34) (⟨((stZ [] []).cells Cj).toArray,rfl,hk⟩) (Au) (Yq _ _ _ _ rfl rfl) ?_;refine hK.out _ _ (HSH.out _ (Df hb m1 _)) (λhHeld=>?_);clear hK K;refine ap ?_;refine wpAnyH_done (by kernel_rfl) ?_ _;go_wp2_with fail;go_meet;exact X6 hb m1 hk ⟨hN,hC,hU,hX,hW,hY⟩
 case rest=>
  obtain⟨g,q,rfl,kx1,hq1,m1,hb1⟩:=hcut;obtain⟨W1,rfl⟩:∃W,W=wc:=⟨_,rfl⟩;have hz0:=HZ0.out;have hz1:=hb1.size;have lg:=kx1.lt;have kt1:=kt0.below hb1 kt0.lt;have kr1:=kr0.below hb1 kr0.lt;have lt1:=kt1.lt;have lr1:=kr1.lt;obtain⟨i0,hi0,zi0,zi1,zi2⟩:=info_parts az;obtain⟨j0,hj0,zj0,zj1,zj2⟩:=info_parts ak;clear HSH HT0 HT1 HT2 HT3 HT4 HT5 HT6 HT7 HT8 HT9 HT10;go_upto_block 0 with fail
  go_cut [4]from 40 to 70 (λ_ wx=>∃v:Value,Blk wx g 34 (cs5 x q v (.slice none 0 0))/\wx.ownsRow W1.heap.size 74 2 v (s.refs.take 10).length (((s.refs.take 10).map IG).flatMap Rf.cells)/\But g W1 wx)
  case first=>
   go_wp2_with fail;go_loopw [4] (λi wr=>∃(j:Nat) (v:Value),j<=s.refs.length/\j<=10/\i=.int .i64 j/\Blk wr g 34 (cs5 x q v (.slice none 0 0))/\wr.ownsRow W1.heap.size 74 2 v j (((s.refs.take j).map IG).flatMap Rf.cells)/\But g W1 wr) (λi _=>s.refs.length - (intOf i).toNat)
   case atStart=>exact⟨0,.slice none 0 0,by omega,by omega,rfl,kx1,World.ownsRow_nil _ _ _ _,But.refl _ _⟩
   case round=>
    obtain⟨j,v,hj1,hj2,rfl,hk,hown,hbut⟩:=hrel;have hb0r:=But.inside hb1 m1 hbut;have hzr:=hbut.size;have ktr:=hbut.blk kt1 (by omega);have lkr:=hk.lt;have ltr:=ktr.lt;have t7:wr.cell? ⟨w.heap.size,7,none⟩=some (.slice p.refs.a s.refs.length p.refs.c):=ktr.cell 7;by_cases hlt:j<s.refs.length/\j<10
    ·obtain⟨hlt,h10⟩:=hlt;obtain⟨b,off,y,hA,hbB,hv,hc0,hc1⟩:=(HR.out wr hb0r).at_ hlt;rw[hA]at t7;have hbB':b<w.heap.size:=hbB;obtain⟨V1,hV1⟩:∃V,y.c.take 20=V:=⟨_,rfl⟩;have HC1:Hid (∀Z:World,Calls Tryz.prog 31 #[.string ⟨y.c.toArray⟩] Z (Ret (.string ⟨V1.toArray⟩) Z)):=λZ=>by rw[<-hV1];exact EY y.c Z
     obtain⟨V2,hV2⟩:∃V,y.t.take 20=V:=⟨_,rfl⟩;have HC2:Hid (∀Z:World,Calls Tryz.prog 31 #[.string ⟨y.t.toArray⟩] Z (Ret (.string ⟨V2.toArray⟩) Z)):=λZ=>by rw[<-hV2];exact EY y.t Z
     have HTK:Hid (((s.refs.take (j+1)).map IG).flatMap Rf.cells=((s.refs.take j).map IG).flatMap Rf.cells++[.string ⟨V1.toArray⟩,.string ⟨V2.toArray⟩]):=by show _=_;rw[List.take_add_one,hv];simp[IG,Rf.cells,hV1,hV2]
     have i1:(0:Int)<=(j:Int):=by omega
     have i2:(j:Int)<(s.refs.length:Int):=by omega
     have lb:b<wr.heap.size:=by omega
     obtain⟨W,rfl⟩:∃W,W=wr:=⟨_,rfl⟩;have lW:w0.heap.size<=W.heap.size:=hb0r.size;have x7:W.cell? ⟨g,7,none⟩=some v:=hk.cell 7;have HS9:Hid (∀Z:World,Below w0.heap.size W Z->(Z.cell? ⟨w.heap.size,7,none⟩=some (.slice (some ⟨b,off,none⟩) s.refs.length p.refs.c)/\Z.cell? ⟨b,off+j * 2,none⟩=some (.string ⟨y.c.toArray⟩)/\Z.cell? ⟨b,off+j * 2+1,none⟩=some (.string ⟨y.t.toArray⟩))):=λZ h=>⟨(h.cell (p:=⟨w.heap.size,7,none⟩) (show w.heap.size<_ by omega)).trans t7,(h.cell (p:=⟨b,off+j * 2,none⟩) (show b<_ by omega)).trans hc0,(h.cell (p:=⟨b,off+j * 2+1,none⟩) (show b<_ by omega)).trans hc1⟩
     have HSX:Hid (∀Z:World,Below W.heap.size W Z->(Z.cell? ⟨w.heap.size,7,none⟩=some (.slice (some ⟨b,off,none⟩) s.refs.length p.refs.c)/\Z.cell? ⟨b,off+j * 2,none⟩=some (.string ⟨y.c.toArray⟩)/\Z.cell? ⟨b,off+j * 2+1,none⟩=some (.string ⟨y.t.toArray⟩))/\Z.cell? ⟨g,7,none⟩=some v):=λZ hz=>⟨HS9.out Z (hz.mono lW),(hk.below hz lkr).cell 7⟩
     have HOW:=Lib.hid hown;have HOL:=Lib.hid hown.lt;clear hv hbB hown hc0 hc1 hV1 hV2;go_wp2_with fail;refine Bl [20] (λZ=>(Z.cell? ⟨w.heap.size,7,none⟩=some (.slice (some ⟨b,off,none⟩) s.refs.length p.refs.c)/\Z.cell? ⟨b,off+j * 2,none⟩=some (.string ⟨y.c.toArray⟩)/\Z.cell? ⟨b,off+j * 2+1,none⟩=some (.string ⟨y.t.toArray⟩))/\Z.cell? ⟨g,7,none⟩=some v) (by kernel_rfl) ?_ (λhHeld=>?_)
     ·try dsimp only
      first|exact⟨HS9.out _ hbw5,hcl5⟩|exact HSX.out _ (by exact bl)
     refine tI 0 20 [20] ?_;refine ap ?_;refine tI 1 20 [20] ?_;refine ap ?_;refine tI 2 20 [20] ?_;refine ap ?_;refine tI 3 20 [20] ?_;refine ap ?_;refine tI 4 20 [20] ?_;refine ap ?_;refine tI 5 20 [20] ?_;refine ap ?_;refine tI 6 20 [20] ?_;refine ap ?_;refine tI 7 20 [20] ?_;refine ap ?_;refine tI 9 20 [20] ?_;refine ap ?_;refine tI 10 20 [20] ?_;refine ap ?_;refine tI 11 20 [20] ?_;refine ap ?_;refine tI 12 20 [20] ?_;refine ap ?_;refine tI 13 20 [20] ?_;refine ap ?_;refine tI 14 20 [20] ?_;refine ap ?_;refine AV (rs:=[8]) (by kernel_rfl) (by simp) ?_;refine AC.consT rfl (λK hK=>?_) AC.nil;go_simp;refine(HC1.out _).mono ?_<;>rintro en w8 ⟨rfl,hb8⟩<;>have hz8:=hb8.size<;>have hbW8:Below W.heap.size W w8:=(by exact bl)<;>have hzW8:=hbW8.size<;>have lg8:g<w8.heap.size:=(by omega)<;>have x78:w8.cell? ⟨g,7,none⟩=some v:=((hk.below hbW8 lkr).cell 7)
     go_wp2_with fail;refine hK.out _ _ ?_ (λhHeld=>?_)
     ·try dsimp only
      first|exact⟨HS9.out _ hbw5,hcl5⟩|exact HSX.out _ (by exact bl)
     clear hK K;refine ap ?_;refine AV (rs:=[15]) (by kernel_rfl) (by simp) ?_;refine AC.consT rfl (λK hK=>?_) AC.nil;go_simp;refine(HC2.out _).mono ?_<;>rintro en w15 ⟨rfl,hb15⟩<;>have hz15:=hb15.size<;>have hbW15:Below W.heap.size W w15:=(by exact bl)<;>have hzW15:=hbW15.size<;>have lg15:g<w15.heap.size:=(by omega)<;>have x715:w15.cell? ⟨g,7,none⟩=some v:=((hk.below hbW15 lkr).cell 7)
     go_wp2_with fail;refine hK.out _ _ ?_ (λhHeld=>?_)
     ·try dsimp only
      first|exact⟨HS9.out _ hbw5,hcl5⟩|exact HSX.out _ (by exact bl)
     clear hK K;refine ap ?_;refine tI 16 20 [20] ?_;refine ap ?_;refine AV (rs:=[17]) (by kernel_rfl) (by simp) ?_;refine AC.consT rfl (λK hK=>?_) AC.nil;go_simp
     skip
     go_wp2_with fail;refine hK.out _ _ ?_ (λhHeld=>?_)
     ·try dsimp only
      first|exact⟨HS9.out _ hbw5,hcl5⟩|exact HSX.out _ (by exact bl)
     clear hK K;refine ap ?_;refine AV (rs:=[18]) (by kernel_rfl) (by simp) ?_;refine AC.consT rfl (λK hK=>?_) AC.nil;refine step_append_lies _ rfl (.tmp 52) (.tmp 68) 25 rfl W1.heap.size 74 i0 _ 2 32 Tryz.underlying25 hi0 zi0 zi1 zi2 rfl (by decide) v j (((s.refs.take j).map IG).flatMap Rf.cells) (by simp[Act.eval]) ((CJ HOW.out hbW15).alloc _) ⟨w15.heap.size,0,none⟩ 1 1 [.string ⟨V1.toArray⟩,.string ⟨V2.toArray⟩] (by simp[Act.eval]) rfl (World.news_of_block (cs:=#[.string ⟨V1.toArray⟩,.string ⟨V2.toArray⟩]) (t:=74) (fr:=(0,0)) (heap_alloc_new w15 _)) (by simp[Value.oneCell']) (by omega) (by unfold maxLen;omega) (by omega) (by have:=hbW15.size;simp;omega) _ rfl ?_;intro g5 cap w5 hown5 hg5 hor5 hl5;have hk5:=((hk.below hbW15 lkr).alloc (.cells #[.string ⟨V1.toArray⟩,.string ⟨V2.toArray⟩] 74)).grown hg5 (λe=>(by have:=(HOL.out _ e.symm).1;omega));have hfr5:=hk5.frozen 7;have hcl5:w5.cell? ⟨g,7,none⟩=some v:=hk5.cell 7;have hbw5:Below w0.heap.size W w5:=((hbW15.mono lW).alloc (by have:=hbW15.size;omega) _).grown hg5 (by have:=hbW15.size;simp;omega) (λk hk=>by have:=(HOL.out k hk).1;omega);refine hK.out _ _ ?_ (λhHeld=>?_)
     ·try dsimp only
      first|exact⟨HS9.out _ hbw5,hcl5⟩|exact HSX.out _ (by exact bl)
     clear hK K;refine ap ?_;refine tI 19 20 [20] ?_;refine ap ?_;refine AV (rs:=[20]) (by kernel_rfl) (by simp) ?_;refine AC.consD rfl (by decide) (λK hK=>?_) AC.nil
     skip
     go_simp;go_wp2_with fail;refine hK.out _ _ ?_;clear hK K;refine ap ?_;refine DI (by kernel_rfl) ?_ _;go_wp2_with fail;go_roundw
     case rel=>exact⟨j+1,.slice (some ⟨g5,0,none⟩) (j+1) cap,by omega,by omega,by go_num,hk5.set_ 7 (.slice (some ⟨g5,0,none⟩) (j+1) cap),by rw[HTK.out];exact hown5.kept (UL w5 ⟨g,7,none⟩ _) (.inr (λe=>by have:=(hown5.lt g5 rfl).1;simp[Value.ownBlock]at e;omega)),(((hbut.after hbW15).alloc _).grown5 hg5 (λk hk=>(HOL.out k hk).1)).set 7 _⟩
     case measure=>simp[intOf];omega
    ·have htk:s.refs.take 10=s.refs.take j:=by
      by_cases h:j<s.refs.length
      ·rw[show j=10 by omega]
      ·rw[List.take_of_length_le (i:=10) (by omega),List.take_of_length_le (by omega)]
     have hl:(s.refs.take j).length=j:=by simp;omega
     have hwi:¬((j:Int)<(s.refs.length:Int))\/(j<s.refs.length/\¬(j:Int)<10):=by omega
     have HEX:Hid (wr.ownsRow W1.heap.size 74 2 v (s.refs.take 10).length (((s.refs.take 10).map IG).flatMap Rf.cells)):=by show wr.ownsRow W1.heap.size 74 2 v (s.refs.take 10).length (((s.refs.take 10).map IG).flatMap Rf.cells);rw[htk,hl];exact hown
     clear htk hl hlt;rcases hwi with h|⟨h,h'⟩
     all_goals
      go_wp2_with fail;go_meet;exact⟨v,hk,HEX.out,hbut⟩
  obtain⟨vR,hk2,hownU,hbut2⟩:=hcut;obtain⟨W2,rfl⟩:∃W,W=wc:=⟨_,rfl⟩;have hz2:=hbut2.size;have HOU:=Lib.hid hownU;have lkU:=hk2.lt;have hb02:=But.inside hb1 m1 hbut2;have kt2:=hbut2.blk kt1 (by omega);have lt2:=kt2.lt;clear hownU hi0 zi0 zi1 zi2;go_upto_block 2 with fail
  go_cut [5]from 71 to 101 (λ_ wx=>∃v:Value,Blk wx g 34 (cs5 x q vR v)/\BP wx 76 W2.heap.size v ((s.sets.take 10).map JH)/\But g W2 wx)
  case first=>
   go_wp2_with fail;go_loopw [5] (λi wr=>∃(j:Nat) (v:Value),j<=s.sets.length/\j<=10/\i=.int .i64 j/\Blk wr g 34 (cs5 x q vR v)/\BP wr 76 W2.heap.size v ((s.sets.take j).map JH)/\But g W2 wr) (λi _=>s.sets.length - (intOf i).toNat)
   case atStart=>exact⟨0,.slice none 0 0,by omega,by omega,rfl,hk2,BP.nil,But.refl _ _⟩
   case round=>
    obtain⟨j,v,hj1,hj2,rfl,hk,hown,hbut⟩:=hrel;have hb0r:=But.inside hb02 m1 hbut;have hzr:=hbut.size;have ktr:=hbut.blk kt2 (by omega);have lkr:=hk.lt;have ltr:=ktr.lt;have t7:wr.cell? ⟨w.heap.size,15,none⟩=some (.slice p.sets.a s.sets.length p.sets.c):=ktr.cell 15;by_cases hlt:j<s.sets.length/\j<10
    ·obtain⟨hlt,h10⟩:=hlt;obtain⟨b,off,y,A6,c6,hA,hbB,hv,hc0,hf6,hl6,hm6,⟨d0,d1,d2,d3,d4,d5⟩,hx6⟩:=(HZ.out wr hb0r).at_ hlt;rw[hA]at t7;have hbB':b<w.heap.size:=hbB;obtain⟨V1,hV1⟩:∃V,y.n.take 20=V:=⟨_,rfl⟩;have HC1:Hid (∀Z:World,Calls Tryz.prog 31 #[.string ⟨y.n.toArray⟩] Z (Ret (.string ⟨V1.toArray⟩) Z)):=λZ=>by rw[<-hV1];exact EY y.n Z
     obtain⟨X,hX⟩:∃X,UQ y.e=X:=⟨_,rfl⟩;have HTK:Hid ((s.sets.take (j+1)).map JH=(s.sets.take j).map JH++[⟨V1,X⟩]):=by show _=_;rw[List.take_add_one,hv];simp[JH,hV1,hX]
     have i1:(0:Int)<=(j:Int):=by omega
     have i2:(j:Int)<(s.sets.length:Int):=by omega
     have lb:b<wr.heap.size:=by omega
     obtain⟨W,rfl⟩:∃W,W=wr:=⟨_,rfl⟩;have lW:w0.heap.size<=W.heap.size:=hb0r.size;have x7:W.cell? ⟨g,15,none⟩=some v:=hk.cell 15;have HS9:Hid (∀Z:World,Below w0.heap.size W Z->(Z.cell? ⟨w.heap.size,15,none⟩=some (.slice (some ⟨b,off,none⟩) s.sets.length p.sets.c)/\Z.cell? ⟨b,off+j * 7,none⟩=some (.string ⟨y.n.toArray⟩)/\Z.cell? ⟨b,off+j * 7+1,none⟩=some (.string ⟨y.e.op.toArray⟩)/\Z.cell? ⟨b,off+j * 7+1+1,none⟩=some (.int .i64 y.e.v.k)/\Z.cell? ⟨b,off+j * 7+1+2,none⟩=some (.int .i64 y.e.v.i)/\Z.cell? ⟨b,off+j * 7+1+3,none⟩=some (.string ⟨y.e.v.s.toArray⟩)/\Z.cell? ⟨b,off+j * 7+1+4,none⟩=some (.string ⟨y.e.s.toArray⟩)/\Z.cell? ⟨b,off+j * 7+1+5,none⟩=some (.slice A6 y.e.l.length c6))):=λZ h=>⟨(h.cell (p:=⟨w.heap.size,15,none⟩) (show w.heap.size<_ by omega)).trans t7,(h.cell (p:=⟨b,off+j * 7,none⟩) (show b<_ by omega)).trans hc0,(h.cell (p:=⟨b,off+j * 7+1,none⟩) (show b<_ by omega)).trans d0,(h.cell (p:=⟨b,off+j * 7+1+1,none⟩) (show b<_ by omega)).trans d1,(h.cell (p:=⟨b,off+j * 7+1+2,none⟩) (show b<_ by omega)).trans d2,(h.cell (p:=⟨b,off+j * 7+1+3,none⟩) (show b<_ by omega)).trans d3,(h.cell (p:=⟨b,off+j * 7+1+4,none⟩) (show b<_ by omega)).trans d4,(h.cell (p:=⟨b,off+j * 7+1+5,none⟩) (show b<_ by omega)).trans d5⟩
     have HSX:Hid (∀Z:World,Below W.heap.size W Z->(Z.cell? ⟨w.heap.size,15,none⟩=some (.slice (some ⟨b,off,none⟩) s.sets.length p.sets.c)/\Z.cell? ⟨b,off+j * 7,none⟩=some (.string ⟨y.n.toArray⟩)/\Z.cell? ⟨b,off+j * 7+1,none⟩=some (.string ⟨y.e.op.toArray⟩)/\Z.cell? ⟨b,off+j * 7+1+1,none⟩=some (.int .i64 y.e.v.k)/\Z.cell? ⟨b,off+j * 7+1+2,none⟩=some (.int .i64 y.e.v.i)/\Z.cell? ⟨b,off+j * 7+1+3,none⟩=some (.string ⟨y.e.v.s.toArray⟩)/\Z.cell? ⟨b,off+j * 7+1+4,none⟩=some (.string ⟨y.e.s.toArray⟩)/\Z.cell? ⟨b,off+j * 7+1+5,none⟩=some (.slice A6 y.e.l.length c6))/\Z.cell? ⟨g,15,none⟩=some v):=λZ hz=>⟨HS9.out Z (hz.mono lW),(hk.below hz lkr).cell 15⟩
     have HC2:Hid (∀Z:World,Below W.heap.size W Z->Calls Tryz.prog 34 #[.agg #[.string ⟨y.e.op.toArray⟩,.int .i64 y.e.v.k,.int .i64 y.e.v.i,.string ⟨y.e.v.s.toArray⟩,.string ⟨y.e.s.toArray⟩,.slice A6 y.e.l.length c6]] Z (MS X Z)):=λZ hz=>by
      rw[<-hX];exact Nw y.e A6 c6 kz Z hf6 (Nat.le_trans hl6 hm6) ((hx6.keep (Q':=Old Z.heap.size) (λb hb=>⟨Nat.lt_of_lt_of_le (show b<W.heap.size by have:b<w.heap.size:=hb;omega) hz.size,λo=>hz.cell (p:=⟨b,o,none⟩) (show b<W.heap.size by have:b<w.heap.size:=hb;omega)⟩) kz).toS (λb h=>h) kz)
     obtain⟨recs,hr1,hro,hr3⟩:=hown;have hln:((s.sets.take j).map JH).length=j:=by simp;omega
     rw[hln]at hro;have HR1:=Lib.hid hr1;have HR3:=Lib.hid hr3;have HLN:=Lib.hid hln;have HOW:=Lib.hid hro;have HOL:=Lib.hid hro.lt;clear hv hbB hr1 hro hr3 hln hc0 d0 d1 d2 d3 d4 d5 hx6 hf6 hl6 hm6 hV1 hX;go_wp2_with fail;refine Bl [20] (λZ=>(Z.cell? ⟨w.heap.size,15,none⟩=some (.slice (some ⟨b,off,none⟩) s.sets.length p.sets.c)/\Z.cell? ⟨b,off+j * 7,none⟩=some (.string ⟨y.n.toArray⟩)/\Z.cell? ⟨b,off+j * 7+1,none⟩=some (.string ⟨y.e.op.toArray⟩)/\Z.cell? ⟨b,off+j * 7+1+1,none⟩=some (.int .i64 y.e.v.k)/\Z.cell? ⟨b,off+j * 7+1+2,none⟩=some (.int .i64 y.e.v.i)/\Z.cell? ⟨b,off+j * 7+1+3,none⟩=some (.string ⟨y.e.v.s.toArray⟩)/\Z.cell? ⟨b,off+j * 7+1+4,none⟩=some (.string ⟨y.e.s.toArray⟩)/\Z.cell? ⟨b,off+j * 7+1+5,none⟩=some (.slice A6 y.e.l.length c6))/\Z.cell? ⟨g,15,none⟩=some v) (by kernel_rfl) ?_ (λhHeld=>?_)
     ·try dsimp only
      first|exact⟨HS9.out _ hbw5,hcl5⟩|exact HSX.out _ (by exact bl)
     refine tI 0 20 [20] ?_;refine ap ?_;refine tI 1 20 [20] ?_;refine ap ?_;refine tI 2 20 [20] ?_;refine ap ?_;refine tI 3 20 [20] ?_;refine ap ?_;refine tI 4 20 [20] ?_;refine ap ?_;refine tI 5 20 [20] ?_;refine ap ?_;refine tI 6 20 [20] ?_;refine ap ?_;refine tI 7 20 [20] ?_;refine ap ?_;refine tI 9 20 [20] ?_;refine ap ?_;refine tI 10 20 [20] ?_;refine ap ?_;refine tI 11 20 [20] ?_;refine ap ?_;refine tI 12 20 [20] ?_;refine ap ?_;refine tI 13 20 [20] ?_;refine ap ?_;refine tI 14 20 [20] ?_;refine ap ?_;refine AV (rs:=[8]) (by kernel_rfl) (by simp) ?_;refine AC.consT rfl (λK hK=>?_) AC.nil;go_simp;refine(HC1.out _).mono ?_<;>rintro en w8 ⟨rfl,hb8⟩<;>have hz8:=hb8.size<;>have hbW8:Below W.heap.size W w8:=(by exact bl)<;>have hzW8:=hbW8.size<;>have lg8:g<w8.heap.size:=(by omega)<;>have x78:w8.cell? ⟨g,15,none⟩=some v:=((hk.below hbW8 lkr).cell 15)
     go_wp2_with fail;refine hK.out _ _ ?_ (λhHeld=>?_)
     ·try dsimp only
      first|exact⟨HS9.out _ hbw5,hcl5⟩|exact HSX.out _ (by exact bl)
     clear hK K;refine ap ?_;refine AV (rs:=[15]) (by kernel_rfl) (by simp) ?_;refine AC.consT rfl (λK hK=>?_) AC.nil;go_simp;refine(HC2.out _ (by exact bl)).mono ?_<;>rintro en w15 ⟨A5x,c5x,rfl,hE5,hb15⟩<;>dsimp only[Ex.cells]<;>have hz15:=hb15.size<;>have hbW15:Below W.heap.size W w15:=(by exact bl)<;>have hzW15:=hbW15.size<;>have lg15:g<w15.heap.size:=(by omega)<;>have x715:w15.cell? ⟨g,15,none⟩=some v:=((hk.below hbW15 lkr).cell 15)
     go_wp2_with fail;refine hK.out _ _ ?_ (λhHeld=>?_)
     ·try dsimp only
      first|exact⟨HS9.out _ hbw5,hcl5⟩|exact HSX.out _ (by exact bl)
     clear hK K;refine ap ?_;refine tI 16 20 [20] ?_;refine ap ?_;refine AV (rs:=[17]) (by kernel_rfl) (by simp) ?_;refine AC.consT rfl (λK hK=>?_) AC.nil;go_simp
     skip
     go_wp2_with fail;refine hK.out _ _ ?_ (λhHeld=>?_)
     ·try dsimp only
      first|exact⟨HS9.out _ hbw5,hcl5⟩|exact HSX.out _ (by exact bl)
     clear hK K;refine ap ?_;refine AV (rs:=[18]) (by kernel_rfl) (by simp) ?_;refine AC.consT rfl (λK hK=>?_) AC.nil;refine step_append_lies _ rfl (.tmp 83) (.tmp 99) 32 rfl W2.heap.size 76 j0 _ 7 104 Tryz.underlying32 hj0 zj0 zj1 zj2 rfl (by decide) v j (recs.flatMap SeC.cells) (by simp[Act.eval]) ((CJ HOW.out hbW15).alloc _) ⟨w15.heap.size,0,none⟩ 1 1 [.string ⟨V1.toArray⟩,.string ⟨X.op.toArray⟩,.int .i64 X.v.k,.int .i64 X.v.i,.string ⟨X.v.s.toArray⟩,.string ⟨X.s.toArray⟩,.slice A5x X.l.length c5x] (by simp[Act.eval]) rfl (World.news_of_block (cs:=#[.string ⟨V1.toArray⟩,.string ⟨X.op.toArray⟩,.int .i64 X.v.k,.int .i64 X.v.i,.string ⟨X.v.s.toArray⟩,.string ⟨X.s.toArray⟩,.slice A5x X.l.length c5x]) (t:=76) (fr:=(0,0)) (heap_alloc_new w15 _)) (by simp[Value.oneCell']) (by omega) (by unfold maxLen;omega) (by omega) (by have:=hbW15.size;simp;omega) _ rfl ?_;intro g5 cap w5 hown5 hg5 hor5 hl5;have hk5:=((hk.below hbW15 lkr).alloc (.cells #[.string ⟨V1.toArray⟩,.string ⟨X.op.toArray⟩,.int .i64 X.v.k,.int .i64 X.v.i,.string ⟨X.v.s.toArray⟩,.string ⟨X.s.toArray⟩,.slice A5x X.l.length c5x] 76)).grown hg5 (λe=>(by have:=(HOL.out _ e.symm).1;omega));have hfr5:=hk5.frozen 15;have hcl5:w5.cell? ⟨g,15,none⟩=some v:=hk5.cell 15;have hbw5:Below w0.heap.size W w5:=((hbW15.mono lW).alloc (by have:=hbW15.size;omega) _).grown hg5 (by have:=hbW15.size;simp;omega) (λk hk=>by have:=(HOL.out k hk).1;omega);refine hK.out _ _ ?_ (λhHeld=>?_)
     ·try dsimp only
      first|exact⟨HS9.out _ hbw5,hcl5⟩|exact HSX.out _ (by exact bl)
     clear hK K;refine ap ?_;refine tI 19 20 [20] ?_;refine ap ?_;refine AV (rs:=[20]) (by kernel_rfl) (by simp) ?_;refine AC.consD rfl (by decide) (λK hK=>?_) AC.nil
     skip
     go_simp;go_wp2_with fail;refine hK.out _ _ ?_;clear hK K;refine ap ?_;refine DI (by kernel_rfl) ?_ _;go_wp2_with fail;go_roundw
     case rel=>exact⟨j+1,.slice (some ⟨g5,0,none⟩) (j+1) cap,by omega,by omega,by go_num,hk5.set_ 15 (.slice (some ⟨g5,0,none⟩) (j+1) cap),by rw[HTK.out];exact(BP.step (q0:=⟨V1,X,A5x,c5x⟩) HR1.out (λq hq=>(HR3.out q hq).keep λb hb=>⟨⟨hb.1,Nat.lt_of_lt_of_le hb.2.1 hzW15,hb.2.2⟩,λo=>hbW15.cell (p:=⟨b,o,none⟩) hb.2.1⟩) (hE5.keep λb hb=>⟨⟨by omega,hb.2,λe=>by have:=(HOL.out b e.symm).2;omega⟩,λo=>rfl⟩) HLN.out.symm hown5 ((Below.refl _ _).alloc (Nat.le_refl _) _) hg5 hor5).but ((But.refl g w5).set 15 _) (by omega),(((hbut.after hbW15).alloc _).grown5 hg5 (λk hk=>(HOL.out k hk).1)).set 15 _⟩
     case measure=>simp[intOf];omega
    ·have htk:s.sets.take 10=s.sets.take j:=by
      by_cases h:j<s.sets.length
      ·rw[show j=10 by omega]
      ·rw[List.take_of_length_le (i:=10) (by omega),List.take_of_length_le (by omega)]
     have hwi:¬((j:Int)<(s.sets.length:Int))\/(j<s.sets.length/\¬(j:Int)<10):=by omega
     have HEX:Hid (BP wr 76 W2.heap.size v ((s.sets.take 10).map JH)):=by show BP wr 76 W2.heap.size v ((s.sets.take 10).map JH);rw[htk];exact hown
     clear htk hlt;rcases hwi with h|⟨h,h'⟩
     all_goals
      go_wp2_with fail;go_meet;exact⟨v,hk,HEX.out,hbut⟩
  obtain⟨vZ,hk3,hownZ,hbut3⟩:=hcut;obtain⟨W3,rfl⟩:∃W,W=wc:=⟨_,rfl⟩;have hz3:=hbut3.size;have hbut23:=hbut2.trans hbut3;have hb03:=But.inside hb1 m1 hbut23;have hbw3:Below w.heap.size w W3:=HB0.out.trans (hb03.mono HB0.out.size);have kr3:=hbut23.blk kr1 (by omega);have hown2:=HOU.out;rw[show(s.refs.take 10).length=((s.refs.take 10).map IG).length by simp]at hown2;obtain⟨AR,cR,rfl,hXQ⟩:=XQ.own hown2;obtain⟨AZ,cZ,nZ,rfl,hZQ⟩:=hownZ.out;have hxr:(s.refs.take 10).map IG=x.refs:=by rw[<-HX.out];rfl
  have hxz:(s.sets.take 10).map JH=x.sets:=by rw[<-HX.out];rfl
  rw[hxr]at hk3 hXQ;rw[hxz]at hk3 hZQ;obtain⟨P,hP⟩:∃P:StP,P=⟨q.names,q.cols,q.uniq,⟨AR,cR⟩,q.chk,q.row,⟨AZ,cZ⟩,q.whr⟩:=⟨_,rfl⟩;have kx3:Blk W3 g 34 (x.cells P).toArray:=by rw[hP];exact hk3
  have hk:∀b,((w0.heap.size<=b/\b<W1.heap.size)/\b≠g)->(w.heap.size+1<b/\b<W3.heap.size)/\∀o,W3.cell? ⟨b,o,none⟩=W1.cell? ⟨b,o,none⟩:=λb h=>⟨⟨by omega,by omega⟩,λo=>hbut23.cell h.1.2 h.2 o⟩
  obtain⟨q1,q2,q3,q4,q5,q6⟩:=hq1.out.keep hk;have hXQ3:XQ x.refs AR (λb=>w.heap.size+1<b/\b<W3.heap.size) W3:=hXQ.keep λb hb=>⟨⟨by omega,by omega⟩,λo=>hbut3.cell hb.2 (by omega) o⟩
  have hZQ3:ZQ 1000 nZ x.sets AZ (λb=>w.heap.size+1<b/\b<W3.heap.size) W3:=hZQ.keep λb hb=>⟨⟨by omega,hb.2⟩,λo=>rfl⟩
  have hok:x.Ok:=by
   have h4:=q4;have h6:=q6;have h7:=hZQ3;rw[<-HX.out]at h4 h6 h7 ⊢;exact ZG HBG.out h4 h6 h7
  obtain⟨_,_,_,n4,h4⟩:=q4;obtain⟨_,_,_,n6,h6⟩:=q6;have hSQ:StQ 1000 x P (λb=>w.heap.size+1<b/\b<W3.heap.size) W3:=by rw[hP];exact⟨q1,q2,q3,hXQ3,⟨n4,h4⟩,q5,⟨nZ,hZQ3⟩,n6,h6⟩
  have hb9:=Df hbw3 (g:=w.heap.size+1) (Nat.le_succ _) (x.cells P).toArray;have hSQ9:StQ 1000 x P (λb=>w.heap.size<=b/\b<(W3.setRow (w.heap.size+1) (x.cells P).toArray).heap.size) (W3.setRow (w.heap.size+1) (x.cells P).toArray):=
   hSQ.keep λb hb=>⟨⟨by omega,by rw[Bg];exact hb.2⟩,λo=>World.cell?_of_block (a:=⟨b,o,none⟩) (BI W3 _ b _ (by omega))⟩
  have hres:(loadVar 34 ⟨w.heap.size+1,0,none⟩).run Tryz.prog (W3.setRow (w.heap.size+1) (x.cells P).toArray)=.ok (.agg (x.cells P).toArray) (W3.setRow (w.heap.size+1) (x.cells P).toArray):=
   run_loadVar_row _ _ 34 34 _ (0,0) _ (kr3.row _) Tryz.underlying34 rfl Au
  have HFIN:Hid (Zq x w (.returned (.agg (x.cells P).toArray)) (W3.setRow (w.heap.size+1) (x.cells P).toArray)):=⟨P,rfl,hok,hSQ9,hb9⟩;have HK3:=Lib.hid kx3;have HKR:=Lib.hid kr3;have HRS:=Lib.hid hres;clear hP hok hSQ hSQ9 hb9 hXQ hZQ hXQ3 hZQ3 q1 q2 q3 h4 q5 h6 hk hq1 hown2 HOU hownZ hk3 hk2 hbut2 hbut3 hbut23 hb03 hxr hxz HR HZ HBG HX hj0 zj0 zj1 zj2 kt0 kr0 kt1 kr1 kt2 kx1 kx3 kr3 hres;go_wp2_with (first|refine wpList_load_row rfl 34 _ rfl g rfl 34 (x.cells P).toArray (0,0) _ HK3.out Tryz.underlying34 rfl Au ?_|refine wpList_store_row rfl 34 _ _ rfl (w.heap.size+1) (x.cells P).toArray rfl rfl 34 _ HKR.out Au rfl (IY x P) ?_);refine bodyPost_ret (v:=.agg (x.cells P).toArray) (by simp[results,Tryz.results14,asAddr,Act.put,HRS.out]) rfl ?_;exact HFIN.out
end Go.Proofs.YtchilcchogcibaaGreatDoor
