/- Plain laws: the tokens of a text without its last octet weigh less than the text's own, or they are without its last bracket. -/
import Derived.Test.YtchilcchogcibaaGreatDoorPsC
namespace Go.Proofs.YtchilcchogcibaaGreatDoor
section
open Go.RowKit
def wgt(t:Tok):Nat:=if t.k=4/\(t.s=[40]\/t.s=[41])then 0 else t.s.length
def Bc(l:List Tok):Nat:=(l.map wgt).sum
theorem AA(t:Tok)(l:List Tok):Bc (t::l)=wgt t+Bc l:=by simp[Bc]
theorem Ba(a b:List Tok):Bc (a++b)=Bc a+Bc b:=by simp[Bc]
theorem BX:Bc []=0:=rfl
def bal(l:List Tok):Int:=(l.map λt=>if t.k=4 then(if t.s=[40]then(1:Int)else if t.s=[41]then -1 else 0)else 0).sum
theorem bP(a b:List Tok):bal (a++b)=bal a+bal b:=by simp[bal]
theorem F6(g:UInt8->Bool)(c:UInt8):∀r:List UInt8,((r++[c]).takeWhile g).length=(r.takeWhile g).length\/((r.takeWhile g).length=r.length/\((r++[c]).takeWhile g).length=r.length+1)
 |[]=>by
  by_cases h:g c=true
  ·right;simp[h]
  ·left;simp[h]
 |d::r=>by
  rw[List.cons_append,List.takeWhile_cons,List.takeWhile_cons];split
  ·rcases F6 g c r with h|⟨h1,h2⟩
   ·left;simp[h]
   ·right;simp[h1,h2]
  ·left;rfl
theorem MV:∀(r:List UInt8) (n k:Nat),DN r n=some k->DN (r++[39]) n=some k\/DN (r++[39]) n=none
 |[],n,k,h=>by simp[DN]at h
 |[c],n,k,h=>by
  unfold DN at h;split at h
  ·rename_i hc
   right
   simp[DN,hc]
  ·cases h
 |c::d::r,n,k,h=>by
  rw[List.cons_append,List.cons_append];unfold DN at h ⊢;by_cases hc:c.toNat=39
  ·rw[if_pos hc]at h ⊢;by_cases hd:d.toNat=39
   ·rw[if_pos hd]at h ⊢;exact MV r (n+2) k h
   ·rw[if_neg hd]at h ⊢;exact .inl h
  ·rw[if_neg hc]at h ⊢;exact MV (d::r) (n+1) k h
theorem V9(d c:UInt8)(r:List UInt8)(hF:EG (Ah (d::r)).1=true)(hG:EG (Ah (d::(r++[c]))).1=true):
  Ah (d::(r++[c]))=Ah (d::r)\/((Ah (d::r)).2=r.length+1/\(Ah (d::(r++[c]))).2=r.length+2/\wgt (Ah (d::r)).1<wgt (Ah (d::(r++[c]))).1):=by
 have run:∀(f g:UInt8->Bool),f d=true->(Aj f g (d::(r++[c]))=Aj f g (d::r)/\Aj f g (d::r)<=r.length+1)\/(Aj f g (d::r)=r.length+1/\Aj f g (d::(r++[c]))=r.length+2):=λf g hf=>by
  unfold Aj;simp only[hf,if_true];have hl:=(List.takeWhile_sublist g (l:=r)).length_le;rcases F6 g c r with h|⟨h1,h2⟩
  ·left;rw[h];exact⟨rfl,by omega⟩
  ·right;rw[h1,h2];omega
 have zero:∀(f g:UInt8->Bool) (q:List UInt8),f d=false->Aj f g (d::q)=0:=λf g q hf=>by unfold Aj;simp[hf]
 have tk:∀m,m<=r.length+1->(d::(r++[c])).take m=(d::r).take m:=λm hm=>by
  rw[<-List.cons_append];exact List.take_append_of_le_length (by simpa using hm)
 have all1:(d::r).take (r.length+1)=d::r:=List.take_of_length_le (by simp);have all2:(d::(r++[c])).take (r.length+2)=d::(r++[c]):=List.take_of_length_le (by simp);cases h1:DV d
 ·cases h2:BA d
  ·have e1:=zero DV BV r h1;have e2:=zero DV BV (r++[c]) h1;have e3:=zero BA BA r h2;have e4:=zero BA BA (r++[c]) h2
   left
   unfold Ah at hF hG ⊢;rw[e1,e3]at hF;rw[e2,e4]at hG ⊢;rw[e1,e3];simp only[Nat.lt_irrefl,if_false]at hF hG ⊢;split
   ·rename_i hq
    rw[if_pos hq]at hF hG;rw[EC]at hF hG;rw[EC,EC];have d1:∀q:List UInt8,(d::q).drop 1=q:=λ_=>rfl
    rw[d1]at hF hG;rw[d1,d1];cases he:DN r 1 with
    |none=>rw[he]at hF;cases hF
    |some k=>
     have hk:=Jc _ _ _ he;have hs:DN (r++[c]) 1=some k:=by
      by_cases hc:c.toNat=39
      ·have hc9:c=39:=UInt8.toNat_inj.1 hc;subst hc9;rcases MV r 1 k he with h|h
       ·exact h
       ·rw[h]at hG;cases hG
      ·exact JJ r [c] 1 k (.inr ⟨c,[],rfl,hc⟩) he
     rw[hs];simp only[FD];rw[tk k (by omega)]
   ·rfl
  ·have e1:=zero DV BV r h1;have e2:=zero DV BV (r++[c]) h1;rcases run BA BA h2 with⟨h,hle⟩|⟨h3,h4⟩
   ·left
    unfold Ah;rw[e1,e2,h,tk _ hle];have hp:0<Aj BA BA (d::r):=by unfold Aj;simp only[h2,if_true];omega
    simp only[Nat.lt_irrefl,if_false,if_pos hp]
   ·right
    unfold Ah;rw[e1,e2,h3,h4,all1,all2];simp[wgt]
 ·rcases run DV BV h1 with⟨h,hle⟩|⟨h3,h4⟩
  ·left
   unfold Ah;have hp:0<Aj DV BV (d::r):=by unfold Aj;simp only[h1,if_true];omega
   rw[h,tk _ hle];simp only[if_pos hp]
  ·right
   unfold Ah;rw[h3,h4,all1,all2];simp[wgt]
def dV(l l':List Tok):Prop:=∃p t,l=p++[t]/\(l'=p\/∃t',l'=p++[t'])
theorem dV.cons{l l':List Tok}(h:dV l l')(x:Tok):dV (x::l) (x::l'):=by
 obtain⟨p,t,rfl,h⟩:=h;rcases h with rfl|⟨t',rfl⟩
 ·exact⟨_::_,t,rfl,.inl rfl⟩
 ·exact⟨x::p,t,rfl,.inr ⟨t',rfl⟩⟩
theorem dV.first{l l':List Tok}(h:dV l l')(hl:2<=l.length):l'[0]? = l[0]? :=by
 obtain⟨p,t,rfl,h⟩:=h;cases p with
 |nil=>simp at hl
 |cons x p=>rcases h with rfl|⟨t',rfl⟩<;>rfl
theorem Lc:∀(n:Nat) (s:List UInt8) (c:UInt8) (l l':List Tok),s.length<=n->CP c=false->DW (s++[c])=some l->DW s=some l'->dV l l'/\((l=l'++[⟨4,[c]⟩]/\(c=40\/c=41))\/Bc l'<Bc l)
 |n,[],c,l,l',_,hc,h,h'=>by
  cases h'
  rw[List.nil_append]at h;cases hm:EG (Ah [c]).1
  ·rw[J6 c [] hc hm]at h;cases h
  ·have hge:=(EN [c] (by simp)).2 hm;rw[E9 c [] hc hm,List.drop_of_length_le (by simpa using hge),QL]at h
   injection h with h
   subst h;refine⟨⟨[],_,rfl,.inl rfl⟩, ?_⟩;simp only[List.nil_append,AA,BX,Nat.add_zero];unfold Ah at hm ⊢;cases h1:DV c
   ·cases h2:BA c
    ·have e1:Aj DV BV [c]=0:=by unfold Aj;simp[h1]
     have e2:Aj BA BA [c]=0:=by unfold Aj;simp[h2]
     rw[e1,e2]at hm ⊢;simp only[Nat.lt_irrefl,if_false]at hm ⊢;split
     ·rename_i hq
      rw[if_pos hq]at hm;exact absurd hm (by simp[Fa,DN,EG])
     ·by_cases hp:c=40\/c=41
      ·exact .inl ⟨rfl,hp⟩
      ·right
       simp[wgt,hp]
    ·have e1:Aj DV BV [c]=0:=by unfold Aj;simp[h1]
     have e2:Aj BA BA [c]=1:=by unfold Aj;simp[h2]
     right
     rw[e1,e2];simp[wgt]
   ·have e1:Aj DV BV [c]=1:=by unfold Aj;simp[h1]
    right
    rw[e1];simp[wgt]
 |0,_::_,_,_,_,hn,_,_,_=>by simp at hn
 |n+1,d::r,c,l,l',hn,hc,h,h'=>by
  simp only[List.length_cons]at hn;rw[List.cons_append]at h;cases hb:CP d
  ·cases hG:EG (Ah (d::(r++[c]))).1
   ·rw[J6 d _ hb hG]at h;cases h
   ·cases hF:EG (Ah (d::r)).1
    ·rw[J6 d _ hb hF]at h';cases h'
    ·rw[E9 d _ hb hG]at h;rw[E9 d _ hb hF]at h';have hge:=(EN (d::r) (by simp)).2 hF;have hle:=(EN (d::r) (by simp)).1;cases hq:DW ((d::r).drop (Ah (d::r)).2)with
     |none=>rw[hq]at h';cases h'
     |some a'=>
      rw[hq]at h'
      injection h' with h'
      subst h';rcases V9 d c r hF hG with hs|⟨s1,s2,s3⟩
      ·rw[hs,<-List.cons_append,List.drop_append_of_le_length hle]at h;cases hq2:DW ((d::r).drop (Ah (d::r)).2++[c])with
       |none=>rw[hq2]at h;cases h
       |some a=>
        rw[hq2]at h
        injection h with h
        subst h;have ih:=Lc n ((d::r).drop (Ah (d::r)).2) c a a' (by rw[List.length_drop,List.length_cons];omega) hc hq2 hq;refine⟨ih.1.cons _, ?_⟩;rcases ih.2 with⟨ih,h4⟩|ih
        ·exact .inl ⟨by rw[ih];rfl,h4⟩
        ·right;rw[AA,AA];omega
      ·rw[s1,List.drop_of_length_le (by simp),QL]at hq
       injection hq with hq
       subst hq;rw[s2,List.drop_of_length_le (by simp),QL]at h
       injection h with h
       subst h;refine⟨⟨[],_,rfl,.inr ⟨_,rfl⟩⟩,.inr ?_⟩;simpa[Bc]using s3
  ·rw[Dq d _ hb]at h h';exact Lc n r c l l' (by omega) hc h h'
end
section
open Go.RowKit
def Hv(l:List Tok)(a b:Nat)(z:Int)(m:Nat):Prop:=∃x,l.drop a=x++l.drop b/\bal x=z/\m<=Bc x
theorem Hv.nil(l:List Tok)(a:Nat):Hv l a a 0 0:=⟨[],rfl,rfl,Nat.zero_le _⟩
theorem Hv.app{l:List Tok}{a b c:Nat}{y z:Int}{m k:Nat}(h:Hv l a b y m)(g:Hv l b c z k):Hv l a c (y+z) (m+k):=by
 obtain⟨x,h1,h2,h3⟩:=h;obtain⟨x',g1,g2,g3⟩:=g;exact⟨x++x',by rw[h1,g1,List.append_assoc],by rw[bP,h2,g2],by rw[Ba];omega⟩
theorem Hv.le{l:List Tok}{a b:Nat}{z:Int}{m k:Nat}(h:Hv l a b z m)(hk:k<=m):Hv l a b z k:=by
 obtain⟨x,h1,h2,h3⟩:=h;exact⟨x,h1,h2,Nat.le_trans hk h3⟩
theorem Hv.to{l:List Tok}{a b:Nat}{z y:Int}{m k:Nat}(h:Hv l a b z m)(hz:z=y)(hk:k<=m):Hv l a b y k:=hz ▸ h.le hk
theorem Hv.off{l:List Tok}{a b c:Nat}{z:Int}{m:Nat}(h:Hv (l.drop a) b c z m):Hv l (a+b) (a+c) z m:=by
 obtain⟨x,h1,h2,h3⟩:=h;rw[List.drop_drop,List.drop_drop]at h1;exact⟨x,h1,h2,h3⟩
theorem Hv.one{l:List Tok}{a:Nat}{t:Tok}(h:l[a]? = some t):Hv l a (a+1) (bal [t]) (wgt t):=by
 obtain⟨ha,hg⟩:=List.getElem?_eq_some_iff.1 h;refine⟨[t], ?_,rfl,by simp[Bc]⟩;rw[List.drop_eq_getElem_cons ha,hg];rfl
theorem PR{l:List Tok}{a:Nat}{w:List UInt8}(h:hit l a w=true):∃t,l[a]? = some t/\t.s=w/\(t.k=1\/t.k=4):=by
 unfold hit at h;cases ht:l[a]? with
 |none=>rw[ht]at h;cases h
 |some t=>
  rw[ht]at h;simp only[isB,Bool.and_eq_true,Bool.or_eq_true,decide_eq_true_eq,beq_iff_eq]at h;exact⟨t,rfl,h.2,h.1⟩
theorem Hv.word{l:List Tok}{a:Nat}{w:List UInt8}(h:hit l a w=true)(hw:¬w=[40]/\¬w=[41]):Hv l a (a+1) 0 w.length:=by
 obtain⟨t,h1,h2,h3⟩:=PR h;have e1:bal [t]=0:=by simp[bal,h2,hw.1,hw.2]
 have e2:wgt t=w.length:=by unfold wgt;rw[if_neg (by rw[h2];simp[hw.1,hw.2]),h2]
 have:=Hv.one h1;rw[e1,e2]at this;exact this
theorem U1{t:Tok}(hm:EG t=true)(hk:t.k=1\/t.k=4){c:UInt8}(hs:t.s=[c])(hc:DV c=false):t.k=4:=by
 rcases hk with hk|hk
 ·exfalso;unfold EG at hm;rw[hk,hs]at hm;simp[GM,Aj,hc]at hm
 ·exact hk
theorem Hv.open_{l:List Tok}(hM:∀t∈l,EG t=true){a:Nat}(h:hit l a [40]=true):Hv l a (a+1) 1 0:=by
 obtain⟨t,h1,h2,h3⟩:=PR h;have hk:=U1 (hM t (List.mem_of_getElem? h1)) h3 h2 (by decide);exact(Hv.one h1).to (by simp[bal,hk,h2]) (Nat.zero_le _)
theorem Hv.close{l:List Tok}(hM:∀t∈l,EG t=true){a:Nat}(h:hit l a [41]=true):Hv l a (a+1) (-1) 0:=by
 obtain⟨t,h1,h2,h3⟩:=PR h;have hk:=U1 (hM t (List.mem_of_getElem? h1)) h3 h2 (by decide);exact(Hv.one h1).to (by simp[bal,hk,h2]) (Nat.zero_le _)
theorem Hv.tok{l:List Tok}{a:Nat}{t:Tok}(h:l[a]? = some t)(hk:¬t.k=4):Hv l a (a+1) 0 t.s.length:=(Hv.one h).to (by simp[bal,hk]) (by simp[wgt,hk])
theorem Hv.name{l:List Tok}{a:Nat}{s:List UInt8}(h:AO l a=some s):Hv l a (a+1) 0 s.length:=by
 unfold AO at h;cases ht:l[a]? with
 |none=>rw[ht]at h;cases h
 |some t=>
  rw[ht]at h;simp only at h;split at h
  ·rename_i h1
   injection h with h
   subst h;exact Hv.tok ht (by rw[h1.1];decide)
  ·cases h
theorem WS(B:Nat):∀(s:List UInt8) (a u:Nat),Lib.parseUintM B a s=.ok u->u<(a+1) * 10 ^ s.length
 |[],a,u,h=>by
  unfold Lib.parseUintM at h
  injection h with h
  subst h;simp
 |c::r,a,u,h=>by
  unfold Lib.parseUintM at h;split at h
  ·rename_i hc
   split at h
   ·cases h
   ·split at h
    ·cases h
    ·have ih:=WS B r _ u h;refine Nat.lt_of_lt_of_le ih ?_;rw[List.length_cons,Nat.pow_succ,Nat.mul_comm (10 ^ r.length) 10,<-Nat.mul_assoc];exact Nat.mul_le_mul_right _ (by omega)
  ·cases h
theorem Tf{s:List UInt8}{u:Nat}(h:Lib.parseUintB 64 s=.ok u):(Lib.decDigits u).length<=s.length:=by
 unfold Lib.parseUintB at h;split at h
 ·cases h
 ·rename_i h0
  have h1:=WS _ s 0 u h;obtain⟨k,hk⟩:∃k,s.length=k+1:=⟨s.length - 1,by have:=List.length_pos_iff.2 h0;omega⟩;rw[hk]at h1 ⊢;exact MR k u (by omega)
theorem bn{s:List UInt8}(hd:∀c r,s=c::r->c.toNat≠43/\c.toNat≠45)(h:(GU s).2=true):0<=(GU s).1/\(Lib.decDigits (GU s).1.toNat).length<=s.length:=by
 unfold GU at h ⊢;cases hp:Lib.parseIntB 64 s with
 |ok v=>
  cases s with
  |nil=>cases hp
  |cons c r=>
   obtain⟨d1,d2⟩:=hd c r rfl;rw[Lib.parseIntB_plain 64 c r d1 d2]at hp;cases hu:Lib.parseUintB 64 (c::r)with
   |ok u=>
    rw[hu]at hp;simp only[Lib.signlessC]at hp;split at hp
    ·cases hp
    ·injection hp with hp
     subst hp;exact⟨Int.natCast_nonneg _,Tf hu⟩
   |_=>rw[hu]at hp;cases hp
 |_=>rw[hp]at h;cases h
theorem Y3{r:List UInt8}(h:(GU (45::r)).2=true):(GU (45::r)).1<=0/\(Lib.decDigits (GU (45::r)).1.natAbs).length<=r.length:=by
 unfold GU at h ⊢;rw[Lib.parseIntB_minus]at h ⊢;cases hu:Lib.parseUintB 64 r with
 |ok u=>
  rw[hu]at h;simp only[Lib.signedC]at h ⊢;by_cases hc:2 ^ (64 - 1)<u
  ·simp only[hc,if_true]at h;cases h
  ·simp only[hc,if_false];exact⟨by omega,by rw[Int.natAbs_neg,Int.natAbs_natCast];exact Tf hu⟩
 |_=>rw[hu]at h;cases h
theorem dN{s:List UInt8}(h:GM 19 BA BA s=true):1<=s.length/\∀c r,s=c::r->c.toNat≠43/\c.toNat≠45:=by
 unfold GM at h;simp only[Bool.and_eq_true,decide_eq_true_eq,beq_iff_eq]at h;refine⟨h.1.1,λc r e=>?_⟩;subst e;have h2:=h.2;unfold Aj at h2;cases hd:BA c
 ·simp[hd]at h2
 ·unfold BA at hd;simp only[Bool.and_eq_true,decide_eq_true_eq]at hd;omega
theorem bI(n:Nat)(v:V){m:Nat}(h:Bc (Ob v)<=m):Bc (DX n (Ee v))<=m:=by
 cases n with
 |zero=>exact Nat.zero_le _
 |succ n=>exact h
theorem dZ{b:Bool}{t:Tok}(hm:EG t=true)(h:(MC b t).2=true)(n:Nat):¬t.k=4/\Bc (DX n (MC b t).1)<=b.toNat+t.s.length:=by
 unfold MC at h ⊢;by_cases h2:t.k=2
 ·rw[if_pos h2]at h ⊢;refine⟨by rw[h2];decide,bI n _ ?_⟩;have hr:GM 19 BA BA t.s=true:=by
   unfold EG at hm;rw[h2]at hm;exact hm
  obtain⟨hr1,hr2⟩:=dN hr;cases b with
  |false=>
   obtain⟨g1,g2⟩:=bn hr2 h;have e:Ob ⟨1,(GU (sgn false t.s)).1,[]⟩=[⟨2,Lib.decDigits (GU t.s).1.toNat⟩]:=by
    unfold Ob;rw[if_pos rfl,if_neg (by show¬(GU t.s).1<0;omega)];rfl
   rw[e];simp[Bc,wgt];exact g2
  |true=>
   obtain⟨g1,g2⟩:=Y3 h;by_cases hz:(GU (45::t.s)).1<0
   ·have e:Ob ⟨1,(GU (sgn true t.s)).1,[]⟩=[sg 45,⟨2,Lib.decDigits (GU (45::t.s)).1.natAbs⟩]:=by
     unfold Ob;rw[if_pos rfl,if_pos (show(GU (sgn true t.s)).1<0 from hz)];rfl
    rw[e];simp[Bc,wgt,sg];omega
   ·have e:Ob ⟨1,(GU (sgn true t.s)).1,[]⟩=[⟨2,Lib.decDigits (GU (45::t.s)).1.toNat⟩]:=by
     unfold Ob;rw[if_pos rfl,if_neg (show¬(GU (sgn true t.s)).1<0 from hz)];rfl
    have e0:(GU (45::t.s)).1.toNat=0:=by omega
    rw[e,e0];have:(Lib.decDigits 0).length=1:=by rw[Lib.decDigits_one (by omega)];rfl
    simp[Bc,wgt,this]
 ·rw[if_neg h2]at h ⊢;cases b with
  |true=>cases h
  |false=>
   simp only[Bool.false_eq_true,if_false]at h ⊢;by_cases h3:t.k=3
   ·rw[if_pos h3];exact⟨by rw[h3];decide,bI n _ (by simp[Ob,Bc,wgt])⟩
   ·rw[if_neg h3]at h ⊢;by_cases h1:t.k=1
    ·rw[if_pos h1]at h ⊢;refine⟨by rw[h1];decide, ?_⟩;by_cases c1:t.s=[84,82,85,69]
     ·rw[if_pos c1,c1];exact bI n _ (by decide)
     rw[if_neg c1]at h ⊢;by_cases c2:t.s=[70,65,76,83,69]
     ·rw[if_pos c2,c2];exact bI n _ (by decide)
     rw[if_neg c2]at h ⊢;by_cases c3:t.s=[78,85,76,76]
     ·rw[if_pos c3,c3];exact bI n _ (by decide)
     rw[if_neg c3];cases n with
     |zero=>exact Nat.zero_le _
     |succ n=>
      show Bc [wd t.s]<=_
      simp[Bc,wgt,wd]
    ·rw[if_neg h1]at h;cases h
def TS(l:List Tok)(F:Nat->Ex×Bool×Nat):Prop:=∀a,(F a).2.1=true->∀n,Hv l a (F a).2.2 0 (Bc (DX n (F a).1))
theorem Ld{l:List Tok}{a:Nat}{x:List UInt8}:∀{ws:List (List UInt8)},Ar l a ws=some x->hit l a x=true
 |[],h=>by cases h
 |y::r,h=>by
  unfold Ar at h;split at h
  ·injection h with h;subst h;assumption
  ·exact Ld h
theorem dY{op:List UInt8}(ho:J5 op=true)(n:Nat)(e f:Ex):Bc (DX n (.mk op V.zero [] [e,f]))<=Bc (DX (n - 1) e)+(wgt (opK op)+Bc (DX (n - 1) f)):=by
 cases n with
 |zero=>exact Nat.zero_le _
 |succ n=>
  obtain⟨n1,n2,n3,n4⟩:=IP ho;rw[QM n1 n2 n3 n4];simp only[AA,Ba,BX,Nat.add_sub_cancel];have:wgt (sg 40)=0:=by decide
  have:wgt (sg 41)=0:=by decide
  omega
def bQ(ws:List (List UInt8)):Prop:=∀x∈ws,J5 (Lib.toLowerA x)=true/\wgt (opK (Lib.toLowerA x))=x.length/\¬x=[40]/\¬x=[41]
theorem MO{l:List Tok}{F:Nat->Ex×Bool×Nat}{ws:List (List UInt8)}(hF:TS l F)(hw:bQ ws)(s0:Nat):∀(n:Nat) (e:Ex) (ok:Bool) (a:Nat),(ok=true->∀m,Hv l s0 a 0 (Bc (DX m e)))->
  (GK F l ws n e ok a).2.1=true->∀m,Hv l s0 (GK F l ws n e ok a).2.2 0 (Bc (DX m (GK F l ws n e ok a).1))
 |0,e,ok,a,h,h2,m=>h h2 m
 |n+1,e,ok,a,h,h2,m=>by
  unfold GK at h2 ⊢;cases ok with
  |false=>cases h2
  |true=>
   simp only[if_true]at h2 ⊢;cases ht:Ar l a ws with
   |none=>exact h rfl m
   |some x=>
    rw[ht]at h2;refine MO hF hw s0 n _ _ _ (λhok k=>?_) h2 m;obtain⟨w1,w2,w3,w4⟩:=hw x (GZ ht).2;refine(((h rfl (k - 1)).app (Hv.word (Ld ht) ⟨w3,w4⟩)).app (hF (a+1) hok (k - 1))).to rfl ?_;have:=dY w1 k e (F (a+1)).1;omega
theorem La{l:List Tok}{F:Nat->Ex×Bool×Nat}{ws:List (List UInt8)}(hF:TS l F)(hw:bQ ws):TS l (D6 F l ws):=λa h n=>
 MO hF hw a _ _ _ _ (λhok m=>hF a hok m) h n
theorem bK{l:List Tok}{F:Nat->Ex×Bool×Nat}(hF:TS l F):TS l (EI l F):=λa h n=>by
 unfold EI at h ⊢;cases h1:(F a).2.1
 ·rw[h1]at h;cases h
 ·rw[h1]at h;simp only[if_true]at h ⊢;cases ht:Ar l (F a).2.2 FK with
  |none=>exact hF a h1 n
  |some x=>
   rw[ht]at h;simp only at h ⊢;have hh:=Ld ht;have hx:=(GZ ht).2;by_cases hi:x=[73,83]
   ·rw[if_pos hi]at h ⊢;simp only at h ⊢;rw[if_pos h];subst hi;refine(((hF a h1 (n - 1)).app (Hv.word hh (by decide))).app (Hv.word h (by decide))).to rfl ?_;cases n with
    |zero=>exact Nat.zero_le _
    |succ n=>
     have e:DX (n+1) (.mk Be V.zero [] [(F a).1])=sg 40::(DX n (F a).1++[wd [73,83],wd [78,85,76,76],sg 41]):=rfl;rw[e];simp only[AA,Ba,BX,Nat.add_sub_cancel];have:wgt (sg 40)=0:=by decide
     have:wgt (sg 41)=0:=by decide
     have:wgt (wd [73,83])=2:=by decide
     have:wgt (wd [78,85,76,76])=4:=by decide
     simp only[List.length_cons,List.length_nil];omega
   ·rw[if_neg hi]at h ⊢;simp only at h ⊢;have ho:(J5 x=true/\wgt (opK x)=x.length)/\¬x=[40]/\¬x=[41]:=by
     simp only[FK,List.mem_cons,List.not_mem_nil,or_false]at hx;rcases hx with rfl|rfl|rfl
     ·decide
     ·decide
     ·exact absurd rfl hi
    refine(((hF a h1 (n - 1)).app (Hv.word hh ho.2)).app (hF _ h (n - 1))).to rfl ?_;have:=dY ho.1.1 n (F a).1 (F ((F a).2.2+1)).1;have:=ho.1.2;omega
theorem dB{l:List Tok}{N C:Nat->Ex×Bool×Nat}(hN:TS l N)(hC:TS l C):TS l (I9 l N C):=λa h n=>by
 unfold I9 at h ⊢;cases hh:hit l a [78,79,84]
 ·rw[hh]at h;exact hC a h n
 ·rw[hh]at h;simp only[if_true]at h ⊢;refine((Hv.word hh (by decide)).app (hN (a+1) h (n - 1))).to rfl ?_;cases n with
  |zero=>exact Nat.zero_le _
  |succ n=>
   have e:DX (n+1) (.mk C9 V.zero [] [(N (a+1)).1])=sg 40::wd [78,79,84]::(DX n (N (a+1)).1++[sg 41]):=rfl;rw[e];simp only[AA,Ba,BX,Nat.add_sub_cancel];have:wgt (sg 40)=0:=by decide
   have:wgt (sg 41)=0:=by decide
   have:wgt (wd [78,79,84])=3:=by decide
   simp only[List.length_cons,List.length_nil];omega
theorem bM{l:List Tok}(hM:∀t∈l,EG t=true){O:Nat->Ex×Bool×Nat}(hO:TS l O):TS l (EK l O):=λa h n=>by
 unfold EK at h ⊢;cases hh:hit l a [40]
 ·rw[hh]at h;simp only[Bool.false_eq_true,if_false]at h ⊢;cases hs:hit l a [45]
  ·rw[hs]at h;simp only[Bool.false_eq_true,if_false]at h ⊢;unfold JO at h ⊢;cases ht:l[a]? with
   |none=>rw[ht]at h;cases h
   |some t=>
    rw[ht]at h;simp only at h ⊢;have hm:=hM t (List.mem_of_getElem? ht);rw[if_pos hm]at h ⊢;obtain⟨g1,g2⟩:=dZ hm h n;exact(Hv.tok ht g1).le (by simpa using g2)
  ·rw[hs]at h;simp only[if_true]at h ⊢;unfold JO at h ⊢;cases ht:l[a+1]? with
   |none=>rw[ht]at h;cases h
   |some t=>
    rw[ht]at h;simp only at h ⊢;have hm:=hM t (List.mem_of_getElem? ht);rw[if_pos hm]at h ⊢;obtain⟨g1,g2⟩:=dZ hm h n;exact((Hv.word hs (by decide)).app (Hv.tok ht g1)).to rfl (by simpa using g2)
 ·rw[hh]at h;simp only[if_true]at h ⊢;rw[if_pos h];simp only[Bool.and_eq_true]at h;exact(((Hv.open_ hM hh).app (hO (a+1) h.1 n)).app (Hv.close hM h.2)).to (by decide) (by omega)
theorem U6{l:List Tok}(hM:∀t∈l,EG t=true){I:Lev}(h1:TS l I.1)(h2:TS l I.2):TS l (lev l I).1/\TS l (lev l I).2:=by
 have hs:TS l (Ir l I):=La (bM hM h2) (λx hx=>by
  simp only[List.mem_cons,List.not_mem_nil,or_false]at hx;rcases hx with rfl|rfl<;>decide)
 have hn:=dB h1 (bK hs);refine⟨hn,La (La hn (λx hx=>?_)) (λx hx=>?_)⟩ <;>
 ·simp only[List.mem_cons,List.not_mem_nil,or_false]at hx;subst hx;decide
theorem MI{l:List Tok}(hM:∀t∈l,EG t=true):∀n,TS l (Hf l n).1/\TS l (Hf l n).2
 |0=>U6 hM (λa h=>by cases h) (λa h=>by cases h)
 |n+1=>U6 hM (MI hM n).1 (MI hM n).2
theorem U7{l:List Tok}(hM:∀t∈l,EG t=true){a b:Nat}{e:Ex}(h:Dc l a=some (e,b))(n:Nat):Hv l a b 0 (Bc (DX n e)):=by
 unfold Dc ED at h;by_cases hk:(((Hf (l.drop a) 65536).2 0).2.1&&E5 ((Hf (l.drop a) 65536).2 0).1)=true
 ·rw[if_pos hk]at h;simp only[if_true]at h
  injection h with h
  injection h with h1 h2
  subst h1 h2;simp only[Bool.and_eq_true]at hk;exact((MI (λt ht=>hM t (List.mem_of_mem_drop ht)) 65536).2 0 hk.1 n).off
 ·rw[if_neg hk]at h;simp at h
end
section
open Go.RowKit
theorem Bq{α β:Type}{o:Option α}{f:α->Option β}{y:β}(h:o.bind f=some y):∃x,o=some x/\f x=some y:=by
 cases o with
 |none=>cases h
 |some x=>exact⟨x,rfl,h⟩
theorem RD{α β:Type}{o:Option α}{f:α->β}{y:β}(h:o.map f=some y):∃x,o=some x/\f x=y:=by
 cases o with
 |none=>cases h
 |some x=>exact⟨x,rfl,by injection h⟩
theorem E8{α:Type}{c:Prop}[Decidable c]{o:Option α}{y:α}(h:(if c then o else none)=some y):c/\o=some y:=by
 split at h
 ·exact⟨by assumption,h⟩
 ·cases h
theorem w40:wgt (sg 40)=0:=by decide
theorem w41:wgt (sg 41)=0:=by decide
theorem w44:wgt (sg 44)=1:=by decide
theorem NK(s:List UInt8):wgt (wd s)=s.length:=by simp[wgt,wd]
theorem WR{l:List Tok}(hM:∀t∈l,EG t=true){a:Nat}{r:Ex×Nat}(h:Dn l a=some r):Hv l a r.2 0 (Bc (Me r.1)):=by
 unfold Dn at h;split at h
 ·rename_i hh
  refine((Hv.word hh (by decide)).app (U7 hM (e:=r.1) (b:=r.2) h 13)).to rfl ?_;unfold Me;split
  ·exact Nat.zero_le _
  ·rw[AA,NK];exact Nat.le_refl _
 ·injection h with h
  subst h;exact(Hv.nil l a).le (by rw[show Me ex0=[]from rfl];exact Nat.le_refl _)
theorem I5{α:Type}{l:List Tok}(hM:∀t∈l,EG t=true){a:Nat}{o:Option (α×Nat)}{r:α×Nat}(h:Ae l a o=some r){m:Nat}(hm:∀c,o=some (r.1,c)->Hv l (a+1) c 0 m):Hv l a r.2 0 m:=by
 unfold Ae at h;obtain⟨h1,h⟩:=E8 h;obtain⟨x,hx,h⟩:=Bq h;obtain⟨h2,h⟩:=E8 h
 injection h with h
 subst h;exact(((Hv.open_ hM h1).app (hm x.2 hx)).app (Hv.close hM h2)).to (by decide) (by omega)
theorem PW{l:List Tok}(hM:∀t∈l,EG t=true){a:Nat}{r:Ex×Nat}(h:Aw l a=some r)(p:List Tok):∃m,Hv l a r.2 0 m/\Bc (JL p r.1)<=Bc p+m/\Bc (JL [] r.1)<=m:=by
 unfold Aw at h;split at h
 ·rename_i hh
  have h2:=I5 hM h (m:=Bc (exK r.1)) (λc hc=>U7 hM hc 13);refine⟨_,(Hv.word hh (by decide)).app h2, ?_, ?_⟩ <;>
  ·unfold JL;split
   ·exact Nat.zero_le _
   ·simp only[List.nil_append,Ba,AA,BX,NK,w40,w41];omega
 ·injection h with h
  subst h;have e:∀p,JL p ex0=[]:=λp=>rfl
  exact⟨0,Hv.nil l a,by rw[e];exact Nat.zero_le _,by rw[e];exact Nat.zero_le _⟩
theorem bJ{α:Type}(K:α->List Tok)(x:α):∀r:List α,Bc (PQ ((x::r).map K))<=Bc (K x)+1+Bc (PQ (r.map K))
 |[]=>by
  have e:PQ ([x].map K)=K x:=rfl;rw[e];omega
 |y::r=>by
  have e:PQ ((x::y::r).map K)=K x++sg 44::PQ ((y::r).map K):=rfl;rw[e,Ba,AA,w44];omega
theorem U5{α:Type}{l:List Tok}{step:Nat->Option (α×Nat)}{K:α->List Tok}(hs:∀b r,step b=some r->Hv l b r.2 0 (Bc (K r.1))):∀(f a:Nat) (r:List α×Nat),Bd l step f a=some r->Hv l a r.2 0 (Bc (PQ (r.1.map K)))
 |0,a,r,h=>by cases h
 |f+1,a,r,h=>by
  unfold Bd at h;obtain⟨x,hx,h⟩:=Bq h;have h1:=hs a x hx;split at h
  ·rename_i hc
   obtain⟨q,hq,h⟩:=RD h;subst h;have ih:=U5 hs f _ q hq;refine((h1.app (Hv.word hc (by decide))).app ih).to rfl ?_;have:=bJ K x.1 q.1;simp only[List.length_cons,List.length_nil]at this ⊢;omega
  ·injection h with h
   subst h;exact h1
theorem OV{l:List Tok}{b:Nat}{r:List UInt8×Nat}(h:Az l b=some r):Hv l b r.2 0 (Bc [wd r.1]):=by
 unfold Az at h;obtain⟨s,hs,h⟩:=RD h;subst h;exact(Hv.name hs).le (by simp[Bc,NK])
theorem dM{l:List Tok}(hM:∀t∈l,EG t=true){a:Nat}{r:V×Nat}(h:Dh l a=some r):Hv l a r.2 0 (Bc (Ob r.1)):=by
 have key:∀n,QK l a n=some r->Hv l a r.2 0 (Bc (Ob r.1)):=λn h=>by
  unfold QK at h;obtain⟨h1,h⟩:=E8 h;obtain⟨⟨h2,h3,h4⟩,h⟩:=E8 h
  injection h with h
  subst h;have hx:Dc ((l.drop a).take n) 0=some ((ED ((l.drop a).take n)).1,n):=by
   unfold Dc;rw[List.drop_zero,if_pos h2,h3,Nat.zero_add]
  obtain⟨x,g1,g2,g3⟩:=U7 (λt ht=>hM t (List.mem_of_mem_drop (List.mem_of_mem_take ht))) hx 13;have e0:((l.drop a).take n).drop n=[]:=List.drop_of_length_le (by rw[List.length_take,List.length_drop];omega);rw[e0,List.append_nil,List.drop_zero]at g1;refine⟨x, ?_,g2, ?_⟩
  ·show l.drop a=x++l.drop (a+n)
   rw[<-g1,<-List.drop_drop,List.take_append_drop]
  ·have e:DX 13 (ED ((l.drop a).take n)).1=Ob (ED ((l.drop a).take n)).1.v:=by
    unfold DX;rw[if_pos (show(ED ((l.drop a).take n)).1.op=CU from h4)]
   rw[e]at g3;exact g3
 unfold Dh at h;split at h
 ·exact key 2 h
 ·exact key 1 h
theorem eH{l:List Tok}(hM:∀t∈l,EG t=true){a:Nat}{r:Se×Nat}(h:QX l a=some r):Hv l a r.2 0 (Bc (aH r.1)):=by
 unfold QX at h;obtain⟨n,hn,h⟩:=Bq h;obtain⟨h1,h⟩:=E8 h;obtain⟨q,hq,h⟩:=RD h;subst h;refine(((Hv.name hn).app (Hv.word h1 (by decide))).app (U7 hM (e:=q.1) (b:=q.2) hq 13)).to rfl ?_;have:wgt (sg 61)=1:=by decide
 simp only[aH,AA,NK,this,exK,List.length_cons,List.length_nil];omega
theorem dX{l:List Tok}{a:Nat}{r:Int×Nat}(h:Ip l a=some r):Hv l a r.2 0 (Ic r.1).length:=by
 unfold Ip at h;split at h
 ·rename_i hh
  injection h with h;subst h
  exact Hv.word hh (w:=[73,78,84]) (by decide)
 ·split at h
  ·rename_i hh
   injection h with h;subst h
   exact Hv.word hh (w:=[84,69,88,84]) (by decide)
  ·obtain⟨hh,h⟩:=E8 h
   injection h with h;subst h
   exact Hv.word hh (w:=[66,79,79,76]) (by decide)
theorem eQ{l:List Tok}{a:Nat}{r:Col×Nat}(h:OE l a=some r):Hv l a r.2 0 (Bc (ZV r.1)+1):=by
 unfold OE at h;obtain⟨n,hn,h⟩:=Bq h;obtain⟨t,ht,h⟩:=Bq h;have h0:=(Hv.name hn).app (dX ht);unfold LG at h;split at h
 ·rename_i h1
  obtain⟨h2,h⟩:=E8 h;obtain⟨h3,h⟩:=E8 h
  injection h with h;subst h
  refine(((h0.app (Hv.word h1 (by decide))).app (Hv.word h2 (by decide))).app (Hv.word h3 (by decide))).to rfl ?_;simp[ZV,AA,BX,NK];omega
 ·obtain⟨h3,h⟩:=E8 h
  injection h with h;subst h
  refine(h0.app (Hv.word h3 (by decide))).to rfl ?_;simp[ZV,AA,BX,NK]
theorem dL{l:List Tok}:∀(f a:Nat) (r:List Col×Nat),Gq l f a=some r->∃m,Hv l a r.2 0 (m+3)/\Bc (PQ (r.1.map ZV))<=m/\(r.1≠[]->Bc (PQ (r.1.map ZV))+1<=m)
 |0,a,r,h=>by cases h
 |f+1,a,r,h=>by
  unfold Gq at h;split at h
  ·rename_i hk
   injection h with h;subst h
   exact⟨0,(Hv.word hk (by decide)).to rfl (by decide),Nat.le_refl _,λh=>absurd rfl h⟩
  ·obtain⟨x,hx,h⟩:=Bq h;obtain⟨q,hq,h⟩:=RD h;subst h;obtain⟨m,h1,h2,h3⟩:=dL f _ q hq;have e:Bc (PQ ((x.1::q.1).map ZV))+1<=Bc (ZV x.1)+1+m:=by
    cases hc:q.1 with
    |nil=>
     have e:PQ ([x.1].map ZV)=ZV x.1:=rfl;rw[e];omega
    |cons y r=>
     have:=h3 (by rw[hc];simp);have h4:=bJ ZV x.1 (y::r);rw[hc]at this;omega
   exact⟨Bc (ZV x.1)+1+m,((eQ hx).app h1).to rfl (by omega),Nat.le_trans (Nat.le_succ _) e,λ_=>e⟩
theorem dW(us:List (List UInt8))(u:List UInt8):Bc (Zi (us++[u]))=Bc (Zi us)+(7+u.length):=by
 unfold Zi;rw[List.flatMap_append,Ba];simp[AA,BX,NK,w40,w41,w44];omega
theorem dh(rs:List Rf)(r:Rf):Bc (Zk (rs++[r]))=Bc (Zk rs)+(11+r.c.length+r.t.length):=by
 unfold Zk;rw[List.flatMap_append,Ba];simp[AA,BX,NK,w40,w41,w44];omega
theorem Y2{l:List Tok}(hM:∀t∈l,EG t=true):∀(f a:Nat) (us:List (List UInt8)) (rs:List Rf) (r:(List (List UInt8)×List Rf×Ex)×Nat),ER l f a us rs=some r->
  ∃m,Hv l a r.2 (-1) m/\Bc (Zi r.1.1)+Bc (Zk r.1.2.1)+Bc (JL [sg 44] r.1.2.2)<=m+(Bc (Zi us)+Bc (Zk rs))
 |0,_,_,_,_,h=>by cases h
 |f+1,a,us,rs,r,h=>by
  unfold ER at h;split at h
  ·rename_i hc
   have k0:=Hv.word hc (by decide);split at h
   ·rename_i hu
    obtain⟨x,hx,h⟩:=Bq h;obtain⟨m,h1,h2⟩:=Y2 hM f _ _ _ r h;have k1:=I5 hM hx (m:=Bc [wd x.1]) (λc hc=>OV hc);refine⟨_,(((k0.app (Hv.word hu.2 (by decide))).app k1).app h1).to (by decide) (Nat.le_refl _), ?_⟩;rw[dW]at h2;simp only[AA,BX,NK,List.length_cons,List.length_nil];omega
   ·split at h
    ·rename_i hr
     obtain⟨x,hx,h⟩:=Bq h;obtain⟨m,h1,h2⟩:=Y2 hM f _ _ _ r h;unfold Je at hx;obtain⟨y,hy,hx⟩:=Bq hx;obtain⟨t,ht,hx⟩:=RD hx;subst hx;have k1:=I5 hM hy (m:=Bc [wd y.1]) (λc hc=>OV hc);refine⟨_,((((k0.app (Hv.word hr (by decide))).app k1).app (Hv.name ht)).app h1).to (by decide) (Nat.le_refl _), ?_⟩;rw[dh]at h2;simp only[AA,BX,NK,List.length_cons,List.length_nil]at h2 ⊢;omega
    ·obtain⟨hk,h⟩:=E8 h;obtain⟨q,hq,h⟩:=Bq h;obtain⟨h3,h⟩:=E8 h
     injection h with h;subst h
     obtain⟨m,c1,c2,-⟩:=PW hM hq [sg 44];refine⟨_,((k0.app c1).app (Hv.close hM h3)).to (by decide) (Nat.le_refl _), ?_⟩;have:Bc [sg 44]=1:=by decide
     simp only[List.length_cons,List.length_nil];omega
  ·obtain⟨h3,h⟩:=E8 h
   injection h with h;subst h
   refine⟨_,Hv.close hM h3, ?_⟩;rw[show JL [sg 44] ex0=[]from rfl,BX];simp only;omega
def Wd(l:List Tok)(r:St×Nat):Prop:=Hv l 0 r.2 0 (Bc (tokS r.1))
theorem dm{l:List Tok}{r:St×Nat}(k0:Hv l 0 1 0 4)(h:N7 l=some r):Wd l r:=by
 unfold N7 at h;obtain⟨h1,h⟩:=E8 h;obtain⟨t,ht,h⟩:=RD h;subst h;refine((k0.app (Hv.word h1 (by decide))).app (Hv.name ht)).to rfl ?_;have e:tokS (stW [100,114,111,112] t ex0)=[wd [68,82,79,80],wd [84,65,66,76,69],wd t]:=rfl;rw[e];simp[AA,BX,NK];omega
theorem WI{l:List Tok}:∀(ws:List (List UInt8)) (a:Nat),(∀x∈ws,¬x=[40]/\¬x=[41])->CV l a ws=ws.length->Hv l a (a+ws.length) 0 (ws.map List.length).sum
 |[],a,_,_=>Hv.nil l a
 |x::r,a,hw,h=>by
  unfold CV at h;split at h
  ·rename_i hh
   have:=WI r (a+1) (λy hy=>hw y (by simp[hy])) (by simpa using h);have e:=(Hv.word hh (hw x (by simp))).app this;rw[show a+1+r.length=a+(x::r).length by simp;omega]at e;exact e.to rfl (by simp)
  ·cases h
theorem dI{l:List Tok}(hM:∀t∈l,EG t=true){op:List UInt8}{ws:List (List UInt8)}{m:Nat}{r:St×Nat}(k0:Hv l 0 1 0 m)(hw:∀x∈ws,¬x=[40]/\¬x=[41])
 (he:∀t e,Bc (tokS (stW op t e))<=m+(ws.map List.length).sum+t.length+Bc (Me e))(h:JG l op ws=some r):Wd l r:=by
 unfold JG at h;obtain⟨h1,h⟩:=E8 h;obtain⟨t,ht,h⟩:=Bq h;obtain⟨q,hq,h⟩:=RD h;subst h;have hq':=WR hM hq;rw[show 2+ws.length=1+ws.length+1 by omega]at hq';exact(((k0.app (WI ws 1 hw h1)).app (Hv.name ht)).app hq').to rfl (he _ _)
theorem cu{l:List Tok}(hM:∀t∈l,EG t=true){r:St×Nat}(k0:Hv l 0 1 0 6)(h:Gy l=some r):Wd l r:=by
 unfold Gy at h;obtain⟨h1,h⟩:=E8 h;obtain⟨t,ht,h⟩:=Bq h;obtain⟨h3,h⟩:=E8 h;obtain⟨h4,h⟩:=E8 h;obtain⟨q,hq,h⟩:=Bq h;obtain⟨h5,h⟩:=E8 h
 injection h with h;subst h
 refine(((((k0.app (Hv.word h1 (by decide))).app (Hv.name ht)).app (Hv.word h3 (by decide))).app (Hv.open_ hM h4)).app ((U5 (K:=Ob) (λb r hr=>dM hM hr) _ _ q hq).app (Hv.close hM h5))).to (by decide) ?_;have e:tokS (stI t q.1)=wd [73,78,83,69,82,84]::wd [73,78,84,79]::wd t::wd [86,65,76,85,69,83]::sg 40::(PQ (q.1.map Ob)++[sg 41]):=rfl;rw[e];simp only[AA,Ba,BX,NK,w40,w41,List.length_cons,List.length_nil];omega
theorem bW{l:List Tok}(hM:∀t∈l,EG t=true){r:St×Nat}(k0:Hv l 0 1 0 6)(h:J4 l=some r):Wd l r:=by
 unfold J4 at h;obtain⟨t,ht,h⟩:=Bq h;obtain⟨h2,h⟩:=E8 h;obtain⟨q,hq,h⟩:=Bq h;obtain⟨x,hx,h⟩:=RD h;subst h;refine((((k0.app (Hv.name ht)).app (Hv.word h2 (by decide))).app (U5 (K:=aH) (λb r hr=>eH hM hr) _ _ q hq)).app (WR hM hx)).to rfl ?_;have e:tokS (stU t q.1 x.1)=wd [85,80,68,65,84,69]::wd t::wd [83,69,84]::(PQ (q.1.map aH)++Me x.1):=rfl;rw[e];simp only[AA,Ba,NK,List.length_cons,List.length_nil];omega
theorem Y1{l:List Tok}{ahead word:List UInt8}{r:St×Nat}{m:Nat}(k0:Hv l 0 1 0 m)(hw:¬word=[40]/\¬word=[41])
 (he:∀t s,Bc (tokS (grS (ahead++[114,101,97,100],t,s)))<=m+4+2+t.length+word.length+s.length/\Bc (tokS (grS (ahead++[119,114,105,116,101],t,s)))<=m+5+2+t.length+word.length+s.length)(h:Iu l ahead word=some r):Wd l r:=by
 unfold Iu Ia at h;obtain⟨g,hg,h⟩:=RD h;subst h;obtain⟨x,hx,hg⟩:=Bq hg;obtain⟨h4,hg⟩:=E8 hg;obtain⟨s,hs,hg⟩:=RD hg;subst hg;unfold Ej at hx;split at hx
 ·rename_i h1
  obtain⟨h2,hx⟩:=E8 hx;obtain⟨t,ht,hx⟩:=RD hx;subst hx;exact(((((k0.app (Hv.word h1 (by decide))).app (Hv.word h2 (by decide))).app (Hv.name ht)).app (Hv.word h4 hw)).app (Hv.name hs)).to rfl (he t s).1
 ·obtain⟨h1,hx⟩:=E8 hx;obtain⟨h2,hx⟩:=E8 hx;obtain⟨t,ht,hx⟩:=RD hx;subst hx;exact(((((k0.app (Hv.word h1 (by decide))).app (Hv.word h2 (by decide))).app (Hv.name ht)).app (Hv.word h4 hw)).app (Hv.name hs)).to rfl (he t s).2
theorem dP{l:List Tok}{t:List UInt8×List UInt8}(h:P7 l=some t):Hv l 2 5 0 (t.1.length+4+t.2.length):=by
 unfold P7 at h;obtain⟨x,hx,h⟩:=Bq h;obtain⟨h3,h⟩:=E8 h;obtain⟨o,ho,h⟩:=RD h;subst h;exact((Hv.name hx).app (Hv.word h3 (by decide))).app (Hv.name ho)
theorem Y7{l:List Tok}(hM:∀t∈l,EG t=true){r:St×Nat}(k0:Hv l 0 1 0 7)(h:JA l=some r):Wd l r:=by
 unfold JA at h;split at h
 ·rename_i h1
  unfold Zm at h;obtain⟨t,ht,h⟩:=Bq h;obtain⟨x,hx,h⟩:=Bq h;obtain⟨q,hq,h⟩:=RD h;subst h;have k1:=I5 hM hx (m:=Bc (PQ (x.1.map λc=>[wd c]))) (λc hc=>U5 (K:=λc=>[wd c]) (λb r hr=>OV hr) _ _ _ hc);obtain⟨m,c1,-,c2⟩:=PW hM hq [];refine((((k0.app (Hv.word h1 (by decide))).app (dP ht)).app k1).app c1).to rfl ?_;have e:tokS (stM [99,111,112,121] t.1 t.2 x.1 [] [] q.1)=wd [77,73,71,82,65,84,69]::wd [67,79,80,89]::wd t.1::wd [70,82,79,77]::wd t.2::sg 40::(PQ (x.1.map λc=>[wd c])++sg 41::JL [] q.1):=rfl;rw[e];simp only[AA,Ba,NK,w40,w41,List.length_cons,List.length_nil];omega
 ·split at h
  ·rename_i h1
   unfold Xv at h;obtain⟨t,ht,h⟩:=Bq h;obtain⟨h5,h⟩:=E8 h;obtain⟨ro,hro,h⟩:=Bq h;obtain⟨h7,h⟩:=E8 h;obtain⟨k,hk,h⟩:=Bq h;obtain⟨q,hq,h⟩:=RD h;subst h;obtain⟨m,c1,-,c2⟩:=PW hM hq [];refine(((((((k0.app (Hv.word h1 (by decide))).app (dP ht)).app (Hv.word h5 (by decide))).app (Hv.name hro)).app (Hv.word h7 (by decide))).app (Hv.name hk)).app c1).to rfl ?_;have e:tokS (stM [106,111,105,110] t.1 t.2 [] k ro q.1)=wd [77,73,71,82,65,84,69]::wd [74,79,73,78]::wd t.1::wd [70,82,79,77]::wd t.2::sg 44::wd ro::wd [79,78]::wd k::JL [] q.1:=rfl;rw[e];simp only[AA,NK,w44,List.length_cons,List.length_nil];omega
  ·obtain⟨h1,h⟩:=E8 h;unfold QB at h;obtain⟨t,ht,h⟩:=Bq h;obtain⟨h5,h⟩:=E8 h;obtain⟨x,hx,h⟩:=Bq h;obtain⟨h7,h⟩:=E8 h;obtain⟨y,hy,h⟩:=Bq h;obtain⟨q,hq,h⟩:=RD h;subst h;obtain⟨m,c1,-,c2⟩:=PW hM hq [];refine(((((((k0.app (Hv.word h1 (by decide))).app (dP ht)).app (Hv.word h5 (by decide))).app (Hv.name hx)).app (Hv.word h7 (by decide))).app (Hv.name hy)).app c1).to rfl ?_;have e:tokS (stM [103,114,111,117,112] t.1 t.2 [x,y] [] [] q.1)=wd [77,73,71,82,65,84,69]::wd [71,82,79,85,80]::wd t.1::wd [70,82,79,77]::wd t.2::wd [66,89]::wd x::wd [83,85,77]::wd y::JL [] q.1:=rfl;rw[e];simp only[AA,NK,List.length_cons,List.length_nil];omega
theorem dD{l:List Tok}(hM:∀t∈l,EG t=true){r:St×Nat}(k0:Hv l 0 1 0 6)(h:KW l=some r)(hne:r.1.cols≠[]):Wd l r:=by
 unfold KW at h;obtain⟨h1,h⟩:=E8 h;obtain⟨t,ht,h⟩:=Bq h;obtain⟨h3,h⟩:=E8 h;obtain⟨q,hq,h⟩:=Bq h;obtain⟨k,hk,h⟩:=Bq h;obtain⟨x,hx,h⟩:=RD h;subst h;obtain⟨m,c1,-,c2⟩:=dL _ _ q hq;have c3:=c2 hne;have k1:=I5 hM hk (m:=Bc [wd k.1]) (λc hc=>OV hc);obtain⟨m2,d1,d2⟩:=Y2 hM _ _ _ _ x hx;refine((((((k0.app (Hv.word h1 (by decide))).app (Hv.name ht)).app (Hv.open_ hM h3)).app c1).app k1).app d1).to (by decide) ?_;have e:tokS (stT t q.1 k.1 x.1.1 x.1.2.1 x.1.2.2)=wd [67,82,69,65,84,69]::wd [84,65,66,76,69]::wd t::sg 40::(PQ (q.1.map ZV)++sg 44::wd [75,69,89]::sg 40::wd k.1::sg 41::(Zi x.1.1++(Zk x.1.2.1++(JL [sg 44] x.1.2.2++[sg 41])))):=rfl;have u0:Bc (Zi [])=0:=rfl;have r0:Bc (Zk [])=0:=rfl;rw[u0,r0]at d2;rw[e];simp only[AA,Ba,BX,NK,w40,w41,w44,List.length_cons,List.length_nil];omega
theorem Wx{l:List Tok}{f:List UInt8}{s:St}(hM:∀t∈l,EG t=true)(h0:l[0]? = some ⟨1,f⟩)(h:stmtP l f=some s):bal l=0/\Bc (tokS s)<=Bc l/\Jf s=true:=by
 unfold stmtP at h;obtain⟨r,hr,h⟩:=Bq h;obtain⟨hm,h⟩:=E8 h
 injection h with h
 subst h;unfold IK at hr;obtain⟨q,hq,hr⟩:=Bq hr;obtain⟨hn,hr⟩:=E8 hr
 injection hr with hr
 subst hr;have k0:Hv l 0 1 0 f.length:=Hv.tok h0 (show¬(1:Int)=4 by decide);have hc:q.1.op=GR->q.1.cols≠[]:=λho=>by
  have hp:=(EF (BF hm).1).1;unfold okD at hp;rw[if_pos ho]at hp;unfold OA at hp;simp only[Bool.and_eq_true]at hp;exact HY hp.1.1.1.1
 have key:Wd l q:=by
  unfold Zf at hq;split at hq
  ·rename_i e;subst e
   have ho:q.1.op=GR:=by
    unfold KW at hq;obtain⟨h1,hq⟩:=E8 hq;obtain⟨t,ht,hq⟩:=Bq hq;obtain⟨h3,hq⟩:=E8 hq;obtain⟨q1,hq1,hq⟩:=Bq hq;obtain⟨k,hk,hq⟩:=Bq hq;obtain⟨x,hx,hq⟩:=RD hq;subst hq;rfl
   exact dD hM k0 hq (hc ho)
  ·split at hq
   ·rename_i e;subst e;exact dm k0 hq
   ·split at hq
    ·rename_i e;subst e;exact cu hM k0 hq
    ·split at hq
     ·rename_i e;subst e;exact bW hM k0 hq
     ·split at hq
      ·rename_i e;subst e
       refine dI hM k0 (by decide) (λt x=>?_) hq;have e:tokS (stW [100,101,108,101,116,101] t x)=wd [68,69,76,69,84,69]::wd [70,82,79,77]::wd t::Me x:=rfl;rw[e];simp[AA,NK];omega
      ·split at hq
       ·rename_i e;subst e
        refine dI hM k0 (by decide) (λt x=>?_) hq;have e:tokS (stW [115,101,108,101,99,116] t x)=wd [83,69,76,69,67,84]::sg 42::wd [70,82,79,77]::wd t::Me x:=rfl;have:wgt (sg 42)=1:=by decide
        rw[e];simp[AA,NK,this];omega
       ·split at hq
        ·rename_i e;subst e
         refine Y1 k0 (by decide) (λt x=>?_) hq;have e1:tokS (grS ([]++[114,101,97,100],t,x))=[wd [71,82,65,78,84],wd [82,69,65,68],wd [79,78],wd t,wd [84,79],wd x]:=rfl;have e2:tokS (grS ([]++[119,114,105,116,101],t,x))=[wd [71,82,65,78,84],wd [87,82,73,84,69],wd [79,78],wd t,wd [84,79],wd x]:=rfl;rw[e1,e2];simp only[AA,BX,NK,List.length_cons,List.length_nil];omega
        ·split at hq
         ·rename_i e;subst e
          refine Y1 k0 (by decide) (λt x=>?_) hq;have e1:tokS (grS ([117,110]++[114,101,97,100],t,x))=[wd [82,69,86,79,75,69],wd [82,69,65,68],wd [79,78],wd t,wd [70,82,79,77],wd x]:=rfl;have e2:tokS (grS ([117,110]++[119,114,105,116,101],t,x))=[wd [82,69,86,79,75,69],wd [87,82,73,84,69],wd [79,78],wd t,wd [70,82,79,77],wd x]:=rfl;rw[e1,e2];simp only[AA,BX,NK,List.length_cons,List.length_nil];omega
         ·split at hq
          ·rename_i e;subst e;exact Y7 hM k0 hq
          ·cases hq
 obtain⟨x,h1,h2,h3⟩:=key;rw[hn,List.drop_zero,List.drop_length,List.append_nil]at h1;subst h1;exact⟨h2,h3,hm⟩
end
section
open Go.RowKit
def DL(t:List UInt8):Prop:=∃p c,t=p++[c]/\CP c=false
theorem DL.app{t:List UInt8}(h:DL t)(a:List UInt8):DL (a++t):=by
 obtain⟨p,c,rfl,hc⟩:=h;exact⟨a++p,c,by rw[List.append_assoc],hc⟩
theorem CO(p:List UInt8)(c:UInt8)(hc:CP c=false:=by decide):DL (p++[c]):=⟨p,c,rfl,hc⟩
theorem SY{t:List UInt8}(h0:t≠[])(h:∀c∈t,CP c=false):DL t:=by
 have:=List.dropLast_concat_getLast h0;exact⟨t.dropLast,t.getLast h0,this.symm,h _ (List.getLast_mem h0)⟩
theorem TN{p:UInt8->Bool}:∀(r:List UInt8),∀x∈r.takeWhile p,p x=true
 |[],x,h=>by simp at h
 |c::r,x,h=>by
  rw[List.takeWhile_cons]at h;split at h
  ·rename_i hc
   rcases List.mem_cons.1 h with rfl|h
   ·exact hc
   ·exact TN r x h
  ·cases h
theorem CB{s:List UInt8}(h:Ai s=true):DL s:=by
 have hb:=Ce h;unfold D9 GM at hb;simp only[Bool.and_eq_true,decide_eq_true_eq,beq_iff_eq]at hb;obtain⟨⟨h1,-⟩,h3⟩:=hb;cases s with
 |nil=>simp at h1
 |cons c r=>
  unfold Aj at h3;cases hc:DV c
  ·simp[hc]at h3
  ·simp only[hc,if_true,List.length_cons]at h3;have part:∀x,BV x=true->CP x=false:=λx hx=>by
    cases hb:CP x
    ·rfl
    ·rw[(FM hb).1]at hx;cases hx
   have hall:∀x∈r,BV x=true:=by
    have e:r.takeWhile BV=r:=(List.takeWhile_sublist BV (l:=r)).eq_of_length (by omega);intro x hx;rw[<-e]at hx;exact TN _ _ hx
   refine SY (by simp) λx hx=>?_
   rcases List.mem_cons.1 hx with rfl|hx
   ·exact part _ (by unfold BV;simp[hc])
   ·exact part _ (hall x hx)
theorem SX(u:Nat):DL (Lib.decDigits u):=by
 obtain⟨c,r,e,_⟩:=N8 u;refine SY (by rw[e];simp) λx hx=>?_
 have:=Jy u u (Nat.le_refl _) x hx;cases hb:CP x
 ·rfl
 ·rcases G6 hb with h|h<;>omega
theorem W9{v:V}(h:D5 v.k v.i v.s=true):DL (DT v.k v.i v.s):=by
 obtain⟨k,i,s⟩:=v;dsimp only at h ⊢;rcases Hy h with⟨rfl,rfl,rfl⟩|⟨rfl,rfl⟩|⟨rfl,rfl,_⟩|⟨rfl,hi,rfl⟩
 ·exact CO [78,85,76] 76
 ·unfold DT;rw[if_pos h,if_pos rfl];unfold Lib.itoa;split
  ·exact(SX _).app [45]
  ·exact SX _
 ·unfold DT;rw[if_pos h,if_neg (by decide),if_pos rfl];exact CO ([39]++Bi s) 39
 ·rcases hi with rfl|rfl
  ·exact CO [70,65,76,83] 69
  ·exact CO [84,82,85] 69
theorem XX{e:Ex}(h:E5 e=true):DL (FB e):=by
 rcases Ew (MM 12 e (IC h))with⟨he,hm⟩|⟨he,hn,hr⟩|⟨a,rfl,ha⟩|⟨a,rfl,ha⟩|⟨op,a,b,rfl,ho,ha,hb⟩
 ·rw[he];exact W9 hm
 ·rw[he];show DL e.s
  exact CB (by unfold Ai;rw[hn,hr];rfl)
 ·exact CO _ 41
 ·show DL (([40]++BJ 12 a)++[32,73,83,32,78,85,76,76,41])
  exact(CO [32,73,83,32,78,85,76,76] 41).app _
 ·obtain⟨n1,n2,n3,n4⟩:=IP ho;show DL (BJ 13 _)
  rw[Hr n1 n2 n3 n4];exact CO _ 41
theorem F7{a:List UInt8}{e:Ex}(h:DL a)(he:Aq e=true):DL (a++DY e):=by
 unfold DY;unfold Aq at he;cases hn:DU e
 ·rw[hn]at he;simp only[Bool.false_eq_true,if_false];exact((XX (by simpa using he)).app _).app a
 ·simp only[if_true,List.append_nil];exact h
theorem F8{a p:List UInt8}{e:Ex}(h:DL a):DL (a++Bz p e):=by
 unfold Bz;split
 ·rw[List.append_nil];exact h
 ·exact(CO (p++[67,72,69,67,75,32,40,32]++FB e++[32]) 41).elim λq hq=>by
   obtain⟨c,h1,h2⟩:=hq;exact⟨a++q,c,by rw[List.append_assoc a,<-h1];simp,h2⟩
theorem F9(a:List UInt8):DL (a++[32,41]):=(CO [32] 41).app a
theorem NW{p:List UInt8->Prop}(h:∀x,p x->DL x):∀l:List (List UInt8),l≠[]->(∀x∈l,p x)->DL (BM BB l)
 |[],h0,_=>absurd rfl h0
 |[x],_,hx=>h x (hx x (by simp))
 |x::y::r,_,hx=>(NW h (y::r) (by simp) (λz hz=>hx z (by simp at hz ⊢;exact .inr hz))).app (x++BB)
theorem TT{s:St}(hp:Am s=true):DL (Dk s):=by
 obtain⟨ho,hT,-⟩:=EF hp;unfold okD at ho;unfold Dk;by_cases o1:s.op=GR
 ·rw[if_pos o1];exact F9 _
 rw[if_neg o1]at ho ⊢;by_cases o2:s.op=Lp
 ·rw[if_pos o2];exact(CB hT).app _
 rw[if_neg o2]at ho ⊢;by_cases o3:s.op=Ff
 ·rw[if_pos o3];exact F9 _
 rw[if_neg o3]at ho ⊢;by_cases o4:s.op=Fe
 ·rw[if_pos o4]at ho ⊢;simp only[Bool.and_eq_true]at ho;refine F7 ?_ ho.2;refine DL.app ?_ _;refine NW (p:=DL) (λ_ h=>h) _ (λh=>HY ho.1 (List.map_eq_nil_iff.1 h)) (λx hx=>?_);obtain⟨y,hy,rfl⟩:=List.mem_map.1 hx;have h:=(BO ho.1).2.2 y hy;unfold GG at h;simp only[Bool.and_eq_true]at h;exact(XX h.2).app _
 rw[if_neg o4]at ho ⊢;by_cases o5:s.op=Eo
 ·rw[if_pos o5];rw[if_pos (.inl o5)]at ho;exact F7 ((CB hT).app _) ho
 rw[if_neg o5];by_cases o6:s.op=FH
 ·rw[if_pos o6];rw[if_pos (.inr o6)]at ho;exact F7 ((CB hT).app _) ho
 rw[if_neg o6];rw[if_neg (by rintro(h|h);exact o5 h;exact o6 h)]at ho;by_cases o7:s.op=Hw\/s.op=FV
 ·rw[if_pos o7];rw[if_pos (by rcases o7 with h|h;exact .inl h;exact .inr (.inl h))]at ho;exact(CB ho).app _
 rw[if_neg o7];by_cases o8:s.op=EZ\/s.op=Dy
 ·rw[if_pos o8];rw[if_pos (.inr (.inr o8))]at ho;exact(CB ho).app _
 rw[if_neg o8];rw[if_neg (by rintro(h|h|h);exact o7 (.inl h);exact o7 (.inr h);exact o8 h)]at ho;by_cases o9:s.op=Gx
 ·rw[if_pos o9];exact F8 (F9 _)
 rw[if_neg o9]at ho ⊢;by_cases o10:s.op=I8
 ·rw[if_pos o10]at ho ⊢;simp only[Bool.and_eq_true]at ho;exact F8 ((CB ho.1.1.2).app _)
 rw[if_neg o10]at ho ⊢;by_cases o11:s.op=GH
 ·rw[if_pos o11]at ho;simp only[Bool.and_eq_true]at ho;exact F8 ((CB (KN (d:=([]:List UInt8)) (BO ho.1.2).2.2 (k:=1) (by have:=(BO ho.1.2).1;omega))).app _)
 ·rw[if_neg o11]at ho;cases ho
theorem bz{o:Option (List Tok)}{l:List Tok}(h:lim o=some l):o=some l/\l.length<=990:=by
 cases o with
 |none=>cases h
 |some t=>
  unfold lim at h;simp only[Option.bind_some]at h;split at h
  ·injection h with h;subst h;exact⟨rfl,by omega⟩
  ·cases h
theorem NF{t:List UInt8}{l:List Tok}(h:Ii t=some l):DW t=some l/\l.length<=990/\∀x∈l,EG x=true:=by
 rw[cutT_toks]at h;obtain⟨h1,h2⟩:=bz h;exact⟨h1,h2,toks_may _ _ _ (Nat.le_refl _) h1⟩
theorem cO{s:St}(h:Jf s=true)(hf:fitS s){p:List UInt8}{c:UInt8}(e:Dk s=p++[c]){l:List Tok}{f:List UInt8}(hc:Ii p=some l)(h0:l[0]? = some ⟨1,f⟩):stmtP l f≠some s:=λhs=>by
 have hp:=(BF h).1;have k:=(tk_S s hp hf).out;have hm:=toks_may _ _ _ (Nat.le_refl _) k;obtain⟨k1,-,k3⟩:=NF hc;obtain⟨b1,b2,-⟩:=Wx k3 h0 hs;obtain⟨g,g0,-,g2⟩:=U4 h hf;obtain⟨b3,-,-⟩:=Wx hm g0 g2;obtain⟨q,d,e2,hd⟩:=TT hp;rw[e]at e2 k;have hcd:c=d:=by
  have:=congrArg List.getLast? e2;simpa using this
 subst hcd;rcases(Lc _ p c _ _ (Nat.le_refl _) hd k k1).2 with⟨e3,e4⟩|hlt
 ·rw[e3,bP,b1]at b3;rcases e4 with rfl|rfl<;>(simp[bal]at b3)
 ·omega
theorem bf(s:St):2<=(tokS s).length:=by
 have key:∀(c:Prop) [Decidable c] (a b:List Tok),2<=a.length->2<=b.length->2<=(if c then a else b).length:=by
  intro c _ a b h1 h2;split<;>assumption
 unfold tokS Yu
 repeat'(refine key _ _ _ ?_ ?_)
 all_goals(simp<;>omega)
theorem V8{s:St}(h:Jf s=true)(hf:fitS s){p:List UInt8}{c:UInt8}(e:Dk s=p++[c]){l:List Tok}(hc:Ii p=some l):l[0]? = (tokS s)[0]? :=by
 have hp:=(BF h).1;have k:=(tk_S s hp hf).out;obtain⟨k1,-,-⟩:=NF hc;obtain⟨q,d,e2,hd⟩:=TT hp;rw[e]at e2 k;have hcd:c=d:=by
  have:=congrArg List.getLast? e2;simpa using this
 subst hcd;exact(Lc _ p c _ _ (Nat.le_refl _) hd k k1).1.first (bf s)
theorem bg{s:St}(h:Am s=true):Aq s.chk=true/\Aq s.whr=true/\∀x∈s.sets,E5 x.e=true:=by
 obtain⟨ho,-,hw⟩:=EF h;have z:∀t:St,ownS s=t->s.chk=t.chk/\s.whr=t.whr/\s.sets=t.sets:=λt ht=>by rw[<-ht,hw];exact⟨rfl,rfl,rfl⟩
 have no:∀t:St,ownS s=t->t.sets=[]->∀x∈s.sets,E5 x.e=true:=λt ht he x hx=>by
  rw[(z t ht).2.2,he]at hx;cases hx
 have nw:∀t:St,ownS s=t->t.whr=ex0->Aq s.whr=true:=λt ht he=>by rw[(z t ht).2.1,he];rfl
 have nc:∀t:St,ownS s=t->t.chk=ex0->Aq s.chk=true:=λt ht he=>by rw[(z t ht).1,he];rfl
 unfold okD at ho;by_cases o1:s.op=GR
 ·rw[if_pos o1]at ho;unfold OA at ho;simp only[Bool.and_eq_true]at ho;have e:ownS s=Xu ⟨false,false,true,true,true,true,true,false,false,false,false⟩ s:=by unfold ownS;rw[if_pos o1];rfl
  exact⟨ho.2,nw _ e rfl,no _ e rfl⟩
 rw[if_neg o1]at ho;by_cases o2:s.op=Lp
 ·have e:ownS s=stZ s.op s.tb:=by unfold ownS;rw[o2];rfl
  exact⟨nc _ e rfl,nw _ e rfl,no _ e rfl⟩
 rw[if_neg o2]at ho;by_cases o3:s.op=Ff
 ·have e:ownS s=Xu ⟨false,false,false,false,false,false,false,true,false,false,false⟩ s:=by unfold ownS;rw[if_neg o1,if_pos o3];rfl
  exact⟨nc _ e rfl,nw _ e rfl,no _ e rfl⟩
 rw[if_neg o3]at ho;by_cases o4:s.op=Fe
 ·rw[if_pos o4]at ho;simp only[Bool.and_eq_true]at ho;have e:ownS s=Xu ⟨false,false,false,false,false,false,false,false,true,true,false⟩ s:=by unfold ownS;rw[if_neg o1,if_neg o3,if_pos o4];rfl
  exact⟨nc _ e rfl,ho.2,λx hx=>by have h:=(BO ho.1).2.2 x hx;unfold GG at h;simp only[Bool.and_eq_true]at h;exact h.2⟩
 rw[if_neg o4]at ho;by_cases o5:s.op=Eo\/s.op=FH
 ·rw[if_pos o5]at ho;have e:ownS s=Xu ⟨false,false,false,false,false,false,false,false,false,true,false⟩ s:=by unfold ownS;rw[if_neg o1,if_neg o3,if_neg o4,if_pos o5];rfl
  exact⟨nc _ e rfl,ho,no _ e rfl⟩
 rw[if_neg o5]at ho;by_cases o6:s.op=Hw\/s.op=FV\/s.op=EZ\/s.op=Dy
 ·have e:ownS s=Xu ⟨false,false,false,false,false,false,false,false,false,false,true⟩ s:=by unfold ownS;rw[if_neg o1,if_neg o3,if_neg o4,if_neg o5,if_pos o6];rfl
  exact⟨nc _ e rfl,nw _ e rfl,no _ e rfl⟩
 rw[if_neg o6]at ho;by_cases o7:s.op=Gx
 ·rw[if_pos o7]at ho;simp only[Bool.and_eq_true]at ho;have e:ownS s=Xu ⟨true,true,false,false,false,false,true,false,false,false,false⟩ s:=by unfold ownS;rw[if_neg o1,if_neg o3,if_neg o4,if_neg o5,if_neg o6,if_pos (.inl o7)];rfl
  exact⟨ho.2,nw _ e rfl,no _ e rfl⟩
 rw[if_neg o7]at ho;by_cases o8:s.op=I8
 ·rw[if_pos o8]at ho;simp only[Bool.and_eq_true]at ho;have e:ownS s=Xu ⟨true,false,false,true,false,false,true,false,false,false,true⟩ s:=by unfold ownS;rw[if_neg o1,if_neg o3,if_neg o4,if_neg o5,if_neg o6,if_neg (by rintro(h|h);exact o7 h;rw[o8]at h;exact absurd h (by decide)),if_pos o8];rfl
  exact⟨ho.2,nw _ e rfl,no _ e rfl⟩
 rw[if_neg o8]at ho;by_cases o9:s.op=GH
 ·rw[if_pos o9]at ho;simp only[Bool.and_eq_true]at ho;have e:ownS s=Xu ⟨true,true,false,false,false,false,true,false,false,false,false⟩ s:=by unfold ownS;rw[if_neg o1,if_neg o3,if_neg o4,if_neg o5,if_neg o6,if_pos (.inr o9)];rfl
  exact⟨ho.2,nw _ e rfl,no _ e rfl⟩
 rw[if_neg o9]at ho;cases ho
theorem dG{e:Ex}(h:E5 e=true):e.l.length<=1000:=by
 rcases Ew (MM 12 e (IC h))with⟨he,hm⟩|⟨he,hn,hr⟩|⟨a,rfl,ha⟩|⟨a,rfl,ha⟩|⟨op,a,b,rfl,ho,ha,hb⟩
 ·rw[he];exact Nat.zero_le _
 ·rw[he];exact Nat.zero_le _
 ·exact(by decide:1<=1000)
 ·exact(by decide:1<=1000)
 ·exact(by decide:2<=1000)
theorem TC{e:Ex}(h:Aq e=true):e.l.length<=1000:=by
 unfold Aq at h;rw[Bool.or_eq_true]at h;rcases h with h|h
 ·rw[IB h];exact Nat.zero_le _
 ·exact dG h
def IV(k:Nat):List UInt8:=match k with|0=>[32,120]|1=>[32,41]|2=>[32,53]|3=>[32,44]|_=>[32,39,120,39]
def NL(k:Nat):Tok:=match k with|0=>wd [120]|1=>sg 41|2=>⟨2,[53]⟩|3=>sg 44|_=>⟨3,[120]⟩
theorem TF(k:Nat):DW (IV k)=some [NL k]/\Ub (IV k):=by
 match k with
 |0=>exact⟨by rfl,.inr ⟨32,_,rfl,by decide,by decide⟩⟩
 |1=>exact⟨by rfl,.inr ⟨32,_,rfl,by decide,by decide⟩⟩
 |2=>exact⟨by rfl,.inr ⟨32,_,rfl,by decide,by decide⟩⟩
 |3=>exact⟨by rfl,.inr ⟨32,_,rfl,by decide,by decide⟩⟩
 |_+4=>exact⟨by show DW [32,39,120,39]=some [⟨3,[120]⟩];rfl,.inr ⟨32,_,rfl,by decide,by decide⟩⟩
theorem Y5(k:Nat):QQ [NL k]:=by
 have key:∀t:Tok,YK t=true->isB t.k t.s [87,72,69,82,69]=false->isB t.k t.s [67,72,69,67,75]=false->QQ [t]:=λt h1 h2 h3=>
  ⟨.inr ⟨t,[],rfl,h1⟩,λl b hb=>by rw[AU hb,AU hb];exact⟨h2,h3⟩⟩
 match k with
 |0=>exact key _ (by decide) (by decide) (by decide)
 |1=>exact key _ (by decide) (by decide) (by decide)
 |2=>exact key _ (by decide) (by decide) (by decide)
 |3=>exact key _ (by decide) (by decide) (by decide)
 |_+4=>exact key ⟨3,[120]⟩ (by decide) (by decide) (by decide)
theorem VT(k:Nat)(hk:¬k=3):NG [NL k]:=λl b hb=>by
 rw[AU hb]
 match k,hk with
 |0,_=>decide
 |1,_=>decide
 |2,_=>decide
 |3,h=>exact absurd rfl h
 |_+4,_=>rfl
theorem NT{α:Type}{l:List Tok}{step:Nat->Option (α×Nat)}{K:α->List Tok}(hn:∀b,l.drop b=[]->step b=none):∀(xs:List α) (f a:Nat),xs≠[]->l.drop a=PQ (xs.map K)++[sg 44]->(∀x∈xs,∀b q,l.drop b=K x++sg 44::q->step b=some (x,b+(K x).length))->Bd l step f a=none
 |[],_,_,h,_,_=>absurd rfl h
 |_::_,0,_,_,_,_=>rfl
 |[x],f+1,a,_,h,hs=>by
  have h1:l.drop a=K x++[sg 44]:=h;have h2:=KR h1;unfold Bd;rw[hs x (by simp) a [] h1];simp only[Option.bind_some];rw[AU h2,if_pos (show isB _ _ _=true from by rfl)];have h3:Bd l step f (a+(K x).length+1)=none:=by
   cases f with
   |zero=>rfl
   |succ f=>
    unfold Bd;rw[hn _ (Dj h2).2];rfl
  rw[h3];rfl
 |x::y::t,f+1,a,_,h,hs=>by
  have h1:l.drop a=K x++(sg 44::(PQ ((y::t).map K)++[sg 44])):=by
   rw[h];simp[PQ]
  have h2:=KR h1;have ih:=NT hn (y::t) f (a+(K x).length+1) (by simp) (Dj h2).2 (λz hz=>hs z (by simp at hz ⊢;exact .inr hz));unfold Bd;rw[hs x (by simp) a _ h1];simp only[Option.bind_some];rw[AU h2,if_pos (show isB _ _ _=true from by rfl),ih];rfl
theorem RS{tb:List UInt8}{xs:List Se}(hs:Ai tb=true)(hne:xs≠[])(hx:∀x∈xs,Ai x.n=true/\E5 x.e=true/\D8 13 x.e):
  J4 (wd [85,80,68,65,84,69]::wd tb::wd [83,69,84]::(PQ (xs.map aH)++[sg 44]))=none:=by
 obtain⟨l,hl⟩:∃l,wd [85,80,68,65,84,69]::wd tb::wd [83,69,84]::(PQ (xs.map aH)++[sg 44])=l:=⟨_,rfl⟩;have d1:l.drop 1=wd tb::wd [83,69,84]::(PQ (xs.map aH)++[sg 44]):=by rw[<-hl];rfl
 have d2:=(Dj d1).2;have d3:=(Dj d2).2;have hn:∀b,l.drop b=[]->QX l b=none:=λb hb=>by
  unfold QX AO;have:l[b]? = none:=by
   have:=congrArg (·[0]?) hb;simpa using this
  rw[this];rfl
 have h3:=NT (step:=QX l) (K:=aH) hn xs (l.length+1) 3 hne d3 λx h b q hb=>by
  obtain⟨g1,g2,g3⟩:=hx x h;have hb':l.drop b=wd x.n::sg 61::(exK x.e++sg 44::q):=by simpa[aH]using hb
  have e1:=(Dj hb').2;have e2:=(Dj e1).2;unfold QX;rw[AX hb' g1];simp only[Option.bind_some];rw[AU e1,if_pos (show isB _ _ _=true from by rfl),show b+2=b+1+1 from rfl,LW e2 g2 g3 (NS q)];simp only[Option.map_some,aH,List.length_cons];congr 2;omega
 rw[hl];unfold J4;rw[AX d1 hs];simp only[Option.bind_some];rw[AU d2,if_pos (show isB _ _ _=true from by rfl),h3];rfl
theorem Y6{s:St}(h:Jf s=true)(hf:fitS s)(k:Nat):∃f,(tokS s++[NL k])[0]? = some ⟨1,f⟩/\f∈X3/\stmtP (tokS s++[NL k]) f=none:=by
 have hp:=(BF h).1;have key:(s.op=Fe->DU s.whr=true->NG [NL k])->∃f,(tokS s++[NL k])[0]? = some ⟨1,f⟩/\f∈X3/\stmtP (tokS s++[NL k]) f=none:=λhc=>by
  obtain⟨f,h0,h1,h2⟩:=H9 hp hf (Y5 k) hc;refine⟨f,h0,h1, ?_⟩;unfold stmtP IK;rw[h2];simp
 by_cases hk:k=3
 ·by_cases ho:s.op=Fe/\DU s.whr=true
  ·obtain⟨o4,hn⟩:=ho;obtain⟨h1,hT,-⟩:=EF hp;have e:tokS s=wd [85,80,68,65,84,69]::wd s.tb::wd [83,69,84]::(PQ (s.sets.map aH)++[]):=by
    unfold tokS;rw[o4];have:Me s.whr=[]:=by unfold Me;rw[hn];rfl
    rw[this];rfl
   unfold okD at h1;rw[o4,if_neg (by decide),if_neg (by decide),if_neg (by decide),if_pos rfl]at h1;simp only[Bool.and_eq_true]at h1;refine⟨[85,80,68,65,84,69],by rw[e];rfl,by simp[X3], ?_⟩;have hu:=RS hT (HY h1.1) (λx hx=>by have h:=(BO h1.1).2.2 x hx;unfold GG at h;simp only[Bool.and_eq_true]at h;exact⟨h.1,h.2,hf.2.2.2 x hx⟩);have hb:Zf (tokS s++[NL k]) [85,80,68,65,84,69]=none:=by
    rw[e,hk,List.append_nil];exact hu
   unfold stmtP IK;rw[hb];rfl
  ·exact key λh1 h2=>absurd ⟨h1,h2⟩ ho
 ·exact key λ_ _=>VT k hk
theorem bu{s:St}(h:Jf s=true)(hf:fitS s)(k:Nat){l:List Tok}(hc:Ii (Dk s++IV k)=some l):l=tokS s++[NL k]:=by
 have k1:=(tk_S s (BF h).1 hf) (IV k) (TF k).2;rw[(TF k).1]at k1;obtain⟨k2,-,-⟩:=NF hc;rw[k1]at k2
 injection k2 with k2
 exact k2.symm
end
end Go.Proofs.YtchilcchogcibaaGreatDoor
