/- Plain laws; The parser's atom as a plain function; Grants as sets that rise; grant.name, stmt.name, cmp.Or of two, grant.order as plain functions; caddislaw09.text, caddislaw05.text and names. -/
import Derived.Shelf.Small.Strs
import Derived.Test.YtchilcchogcibaaGreatDoorFChain
import Derived.Test.YtchilcchogcibaaGreatDoorFParse4
set_option maxRecDepth 100000
set_option maxHeartbeats 2000000
namespace Go.Proofs.YtchilcchogcibaaGreatDoor
section
open Go.RowKit
def wd(s:List UInt8):Tok:=⟨1,s⟩
def sg(c:UInt8):Tok:=⟨4,[c]⟩
def Ob(v:V):List Tok:=
 if v.k=1 then(if v.i<0 then[sg 45,⟨2,Lib.decDigits v.i.natAbs⟩]else[⟨2,Lib.decDigits v.i.toNat⟩])
 else if v.k=2 then[⟨3,v.s⟩]else if v.k=3 then(if v.i=1 then[wd [84,82,85,69]]else[wd [70,65,76,83,69]])else[wd [78,85,76,76]]
def opK(op:List UInt8):Tok:=if op=PH then wd [65,78,68]else if op=Vr then wd [79,82]else⟨4,op⟩
def DX:Nat->Ex->List Tok
 |0,_=>[]
 |n+1,e=>
  if e.op=CU then Ob e.v else if e.op=DC then[wd e.s]
  else if e.op=C9 then sg 40::wd [78,79,84]::(DX n (e.l.getD 0 AL)++[sg 41])
  else if e.op=Be then sg 40::(DX n (e.l.getD 0 AL)++[wd [73,83],wd [78,85,76,76],sg 41])
  else sg 40::(DX n (e.l.getD 0 AL)++opK e.op::(DX n (e.l.getD 1 AL)++[sg 41]))
def D8:Nat->Ex->Prop
 |0,e=>Fq e.v.i
 |n+1,e=>Fq e.v.i/\∀x∈e.l,D8 n x
theorem Nr{n:Nat}{e:Ex}(h:D8 n e):Fq e.v.i:=by cases n with|zero=>exact h|succ n=>exact h.1
theorem MR:∀(k u:Nat),u<10 ^ (k+1)->(Lib.decDigits u).length<=k+1
 |0,u,h=>by
  rw[Lib.decDigits_one (by omega)];simp
 |k+1,u,h=>by
  by_cases hu:u<10
  ·rw[Lib.decDigits_one hu];simp
  ·rw[Lib.decDigits,dif_neg hu,List.length_append];have:=MR k (u / 10) (by rw[Nat.pow_succ]at h;omega);simp only[List.length_cons,List.length_nil];omega
theorem ZK{c:UInt8}(h:48<=c.toNat/\c.toNat<=57):BA c=true:=by unfold BA;simp[h]
theorem Jh:∀(l:List UInt8),(∀c∈l,BA c=true)->(l.takeWhile BA).length=l.length
 |[],_=>rfl
 |c::r,h=>by rw[List.takeWhile_cons,if_pos (h c (by simp)),List.length_cons,Jh r (λx hx=>h x (by simp[hx])),List.length_cons]
theorem MQ(u:Nat)(h:u<=9223372036854775808):GM 19 BA BA (Lib.decDigits u)=true:=by
 have h1:=MR 18 u (by omega);obtain⟨c,r,e,_⟩:=N8 u;have h2:∀x∈Lib.decDigits u,BA x=true:=λx hx=>ZK (Jy u u (Nat.le_refl _) x hx)
 rw[e]at h1 h2 ⊢;have h3:Aj BA BA (c::r)=(c::r).length:=by
  show(if BA c then 1+(r.takeWhile BA).length else 0)=_
  rw[h2 c (by simp),if_pos rfl,Jh r (λx hx=>h2 x (by simp[hx])),List.length_cons];omega
 unfold GM;rw[h3];simp only[List.length_cons]at h1 ⊢;simp;omega
theorem XH(v:V)(hm:D5 v.k v.i v.s=true)(hf:Fq v.i):Tk (DT v.k v.i v.s) (Ob v):=by
 obtain⟨k,i,s⟩:=v;dsimp only at hm hf ⊢;unfold Fq at hf;unfold Ob;rcases Hy hm with⟨rfl,rfl,rfl⟩|⟨rfl,rfl⟩|⟨rfl,rfl,_⟩|⟨rfl,hi,rfl⟩
 ·exact Tk.wr (t:=wd [78,85,76,76]) (by decide)
 ·unfold DT;rw[hm];simp only[if_true];unfold Lib.itoa;by_cases hn:i<0
  ·rw[if_pos hn,if_pos hn];have:=Tk.sign (c:=45) (by decide) (Tk.num (MQ i.natAbs (by omega)) Tk.nil (.inl rfl));rw[List.append_nil]at this;exact this
  ·rw[if_neg hn,if_neg hn];have:=Tk.num (MQ i.toNat (by omega)) Tk.nil (.inl rfl);rw[List.append_nil]at this;exact this
 ·have:Tk (wrT ⟨3,s⟩) [⟨3,s⟩]:=Tk.wr (show EG ⟨3,s⟩=true from hm);exact this
 ·rcases hi with rfl|rfl
  ·exact Tk.wr (t:=wd [70,65,76,83,69]) (by decide)
  ·exact Tk.wr (t:=wd [84,82,85,69]) (by decide)
theorem Ew{n:Nat}{e:Ex}(h:Cc (n+1) e=true):
  (e=.mk CU e.v [] []/\D5 e.v.k e.v.i e.v.s=true)\/(e=.mk DC V.zero e.s []/\D9 e.s=true/\CZ e.s=false) ∨
  (∃a,e=.mk C9 V.zero [] [a]/\Cc n a=true)\/(∃a,e=.mk Be V.zero [] [a]/\Cc n a=true)\/∃op a b,e=.mk op V.zero [] [a,b]/\J5 op=true/\Cc n a=true/\Cc n b=true:=by
 have hz:∀v:V,veq v V.zero=true->v=V.zero:=λv h=>by
  obtain⟨k,i,s⟩:=v;simp only[veq,Bool.and_eq_true,beq_iff_eq,decide_eq_true_eq]at h;obtain⟨h1,h2,h3⟩:=h;show V.mk k i s=V.mk 0 0 []
  rw[show k=0 from h1,show i=0 from h2,show s=[]from h3]
 by_cases hl:e.op=CU
 ·rw[Np hl]at h;simp only[Bool.and_eq_true,beq_iff_eq,decide_eq_true_eq]at h;obtain⟨h1,h2,h3⟩:=h;refine .inl ⟨?_,h1⟩;rw[<-hl]
  conv=>lhs;rw[Ex.eta e]
  rw[h2,List.eq_nil_of_length_eq_zero h3]
 ·by_cases hc:e.op=DC
  ·rw[Nq hl hc]at h;simp only[Bool.and_eq_true,Bool.not_eq_true',decide_eq_true_eq]at h;obtain⟨h1,h2,h3,h4⟩:=h;refine .inr (.inl ⟨?_,h2,h3⟩);rw[<-hc]
   conv=>lhs;rw[Ex.eta e]
   rw[hz _ h1,List.eq_nil_of_length_eq_zero h4]
  ·by_cases ho:e.op=C9\/e.op=Be
   ·rw[KO hl hc ho]at h;obtain⟨op,v,s,l⟩:=e;simp only[Bool.and_eq_true,beq_iff_eq,Ex.v,Ex.s,Ex.l]at h;obtain⟨h1,h2,h3,h4⟩:=h
    match l,h3,h4 with
    |[a],_,h4=>
     rcases ho with ho|ho
     ·exact .inr (.inr (.inl ⟨a,by rw[hz v h1,h2,show op=C9 from ho],h4⟩))
     ·exact .inr (.inr (.inr (.inl ⟨a,by rw[hz v h1,h2,show op=Be from ho],h4⟩)))
   ·by_cases ht:J5 e.op=true
    ·rw[Nl hl hc ho ht]at h;obtain⟨op,v,s,l⟩:=e;simp only[Bool.and_eq_true,beq_iff_eq,Ex.v,Ex.s,Ex.l]at h;obtain⟨h1,h2,h3,h4,h5⟩:=h
     match l,h3,h4,h5 with
     |[a,b],_,h4,h5=>exact .inr (.inr (.inr (.inr ⟨op,a,b,by rw[hz v h1,h2],ht,h4,h5⟩)))
    ·rw[Uz hl hc ho ht]at h;cases h
theorem Zw(op:List UInt8)(h:J5 op=true){s:List UInt8}{a:List Tok}(k:Tk s a)(e:s=[]\/BG s):Tk (upperB op++s) (opK op::a):=by
 rw[Hq]at h;rcases h with rfl|rfl|rfl|rfl|rfl|rfl
 ·exact Tk.word (x:=[65,78,68]) (by decide) k e
 ·exact Tk.word (x:=[79,82]) (by decide) k e
 ·exact Tk.sign (c:=61) (by decide) k
 ·exact Tk.sign (c:=60) (by decide) k
 ·exact Tk.sign (c:=43) (by decide) k
 ·exact Tk.sign (c:=45) (by decide) k
theorem IP{op:List UInt8}(h:J5 op=true):¬op=CU/\¬op=DC/\¬op=C9/\¬op=Be:=by
 rw[Hq]at h;rcases h with rfl|rfl|rfl|rfl|rfl|rfl<;>decide
theorem tk_X:∀(n:Nat) (e:Ex),Cc n e=true->D8 n e->Tk (BJ n e) (DX n e):=by
 intro n
 induction n with
 |zero=>intro e h;simp[Cc]at h
 |succ n ih=>
  intro e h hf;rcases Ew h with⟨he,hm⟩|⟨he,hn,_⟩|⟨a,rfl,ha⟩|⟨a,rfl,ha⟩|⟨op,a,b,rfl,ho,ha,hb⟩
  ·have hv:=Nr hf;have h1:BJ (n+1) e=DT e.v.k e.v.i e.v.s:=by rw[he];rfl
   have h2:DX (n+1) e=Ob e.v:=by rw[he];rfl
   rw[h1,h2];exact XH _ hm hv
  ·have h1:BJ (n+1) e=e.s:=by rw[he];rfl
   have h2:DX (n+1) e=[wd e.s]:=by rw[he];rfl
   rw[h1,h2];exact Tk.wr (t:=wd e.s) hn
  ·have hk:=ih a ha (hf.2 a (by simp[Ex.l]));have h1:BJ (n+1) (.mk C9 V.zero [] [a])=40::([78,79,84]++(32::(BJ n a++[41]))):=by
    show([40,78,79,84,32]++BJ n a)++[41]=_
    simp
   have h2:DX (n+1) (.mk C9 V.zero [] [a])=sg 40::wd [78,79,84]::(DX n a++[sg 41]):=rfl;rw[h1,h2];exact Tk.sign (by decide) (Tk.word (by decide) (Tk.blank (hk.app (Tk.sign (by decide) Tk.nil) (.inr (BG.mk _ _)))) (.inr (BG.mk _ _)))
  ·have hk:=ih a ha (hf.2 a (by simp[Ex.l]));have h1:BJ (n+1) (.mk Be V.zero [] [a])=40::(BJ n a++(32::([73,83]++(32::([78,85,76,76]++[41]))))):=by
    show([40]++BJ n a)++[32,73,83,32,78,85,76,76,41]=_
    simp
   have h2:DX (n+1) (.mk Be V.zero [] [a])=sg 40::(DX n a++[wd [73,83],wd [78,85,76,76],sg 41]):=rfl;rw[h1,h2];exact Tk.sign (by decide) (hk.app (Tk.blank (Tk.word (by decide) (Tk.blank (Tk.word (by decide) (Tk.sign (by decide) Tk.nil) (.inr (BG.mk _ _)))) (.inr (BG.mk _ _)))) (.inr (BG.mk _ _)))
  ·have hk:=ih a ha (hf.2 a (by simp[Ex.l]));have hq:=ih b hb (hf.2 b (by simp[Ex.l]));obtain⟨n1,n2,n3,n4⟩:=IP ho;have h1:BJ (n+1) (.mk op V.zero [] [a,b])=40::(BJ n a++(32::(upperB op++(32::(BJ n b++[41]))))):=by
    conv=>lhs;unfold BJ
    rw[if_neg (c:=(Ex.mk op V.zero [] [a,b]).op=CU) n1,if_neg (c:=(Ex.mk op V.zero [] [a,b]).op=DC) n2,if_neg (c:=(Ex.mk op V.zero [] [a,b]).op=C9) n3,if_neg (c:=(Ex.mk op V.zero [] [a,b]).op=Be) n4];show((([40]++BJ n a)++[32])++upperB op)++[32]++BJ n b++[41]=_
    simp
   have h2:DX (n+1) (.mk op V.zero [] [a,b])=sg 40::(DX n a++opK op::(DX n b++[sg 41])):=by
    conv=>lhs;unfold DX
    rw[if_neg (c:=(Ex.mk op V.zero [] [a,b]).op=CU) n1,if_neg (c:=(Ex.mk op V.zero [] [a,b]).op=DC) n2,if_neg (c:=(Ex.mk op V.zero [] [a,b]).op=C9) n3,if_neg (c:=(Ex.mk op V.zero [] [a,b]).op=Be) n4];rfl
   rw[h1,h2];exact Tk.sign (by decide) (hk.app (Tk.blank (Zw op ho (Tk.blank (hq.app (Tk.sign (by decide) Tk.nil) (.inr (BG.mk _ _)))) (.inr (BG.mk _ _)))) (.inr (BG.mk _ _)))
theorem IC{e:Ex}(h:E5 e=true):Cc 12 e=true:=by
 have:=(RJ 12 1 0 e (by omega) (by omega)).1;unfold E5 may at h;rw[this]at h;simp only[Bool.and_eq_true]at h;exact h.1
end
section
open Go.RowKit
attribute [local go_sem] ByteArray.extract_mk Ak AY
attribute [local go_sem ↓] Go.wp_at_zero Go.wp_at_succ CY CE
theorem G7.drew{R:Ex×Bool×Nat}{p:Nat}{A:Option Addr}{c:Nat}{l:List Tok}{deep:Nat}{w w':World}{en:Ending}(h:G7 R p A c l deep w en w'):G7 R p A c l deep w en w'.drew:=by
 obtain⟨A',c',h1,h2,h3,h4⟩:=h;exact⟨A',c',h1,h2.keep λb hb=>⟨hb,λo=>rfl⟩,h3.but (Below.drew (Below.refl _ _)),h4.drew⟩
theorem Ua(p:Nat)(A:Option Addr)(c:Nat)(l:List Tok)(deep a:Nat)(e1:Ex)(ok1:Bool)(a1:Nat)(ha:a<=1000)(ha1:a1<=1000)(hh:hit l a [40]=true)(hC:InC 230 p A c l deep (a+1) (e1,ok1,a1)):
  AtC 263 p A c l deep a (e1,ok1&&hit l a1 [41],if ok1&&hit l a1 [41]then a1+1 else a1):=by
 obtain⟨R,hR⟩:∃R:Ex×Bool×Nat,(e1,ok1&&hit l a1 [41],if ok1&&hit l a1 [41]then a1+1 else a1)=R:=⟨_,rfl⟩;rw[hR];have HR:=Lib.hid hR;clear hR;intro w hP;have lp:=hP.1.lt;have HC:=Lib.hid hC;have HH:=Lib.hid hh;obtain⟨w0,hw0⟩:∃w0,w.alloc (.cells (AL.cells none 0).toArray 30)=w0:=⟨_,rfl⟩;have kR0:Blk w0 w.heap.size 30 (AL.cells none 0).toArray:=by rw[<-hw0];exact Blk.new _ _ _
 have hb0:Below w.heap.size w w0:=by rw[<-hw0];exact bl
 have hs0:w0.heap.size=w.heap.size+1:=by rw[<-hw0];simp
 have HW:=Lib.hid hw0;have HP0:=Lib.hid (hP.but hb0);clear hw0 hP hC hh;go_in
 go_upto_region 1 with fail
 rw[show w.alloc (.cells #[.string ⟨#[]⟩,.int .i64 0,.int .i64 0,.string ⟨#[]⟩,.string ⟨#[]⟩,.slice none 0 0] 30)=w0 from HW.out];clear HW;go_wp2_with fail;refine(Fg p A c l a deep [40] w0 ha HP0.out).mono ?_;rw[HH.out];rintro en w1 ⟨rfl,hP1,hb1⟩;have hz1:=hb1.size;have HP1:Hid (PSt p A c l (a+1) deep w1):=hP1;clear hP1;go_wp2_with fail;refine(HC.out w1 HP1.out).mono ?_;rintro en w2 ⟨A2,c2,rfl,hE2,hP2,hb2⟩;dsimp only[Ex.cells];have hz2:=hb2.size;obtain⟨w3,hw3⟩:∃w3,w2.alloc (.cells (e1.cells A2 c2).toArray 30)=w3:=⟨_,rfl⟩;have kB3:Blk w3 w2.heap.size 30 (e1.cells A2 c2).toArray:=by rw[<-hw3];exact Blk.new _ _ _
 have hb3:Below w2.heap.size w2 w3:=by rw[<-hw3];exact bl
 have hs3:w3.heap.size=w2.heap.size+1:=by rw[<-hw3];simp
 have HW3:=Lib.hid hw3;clear hw3;have kR3:=(hb2.blk (hb1.blk kR0 (by omega)) (by omega)).below hb3 (by omega);have lR3:=kR3.lt;have lB3:=kB3.lt;have HE3:Hid (ExR (λx=>w.heap.size<=x/\x<w2.heap.size/\x≠w.heap.size) e1 A2 c2 w3):=hE2.keep λx hx=>⟨⟨by omega,by omega,by omega⟩,λo=>hb3.cell (p:=⟨x,o,none⟩) hx.2⟩
 have HP3:=Lib.hid (hP2.but hb3);have hbw3:=(((But.of_below (p:=p) hb0).trans hb1).trans hb2).after hb3;clear hE2 hP2;go_upto_region 3 with fail
 rw[show w2.alloc (.cells #[.string ⟨e1.op.toArray⟩,.int .i64 e1.v.k,.int .i64 e1.v.i,.string ⟨e1.v.s.toArray⟩,.string ⟨e1.s.toArray⟩,.slice A2 e1.l.length c2] 30)=w3 from HW3.out];clear HW3;obtain⟨G,hG⟩:∃G,w2.heap.size=G:=⟨_,rfl⟩;rw[hG]at kB3 lB3 HE3 hb3 hs3 hz2 ⊢;have hGw:w.heap.size<G:=by omega
 have hpG:p<G:=by omega
 clear hG hs0 hz1 hz2;cases ok1
 ·obtain⟨z0,z1,z2,z3,z4,z5⟩:=kR3.sixF;obtain⟨r0,r1,r2,r3,r4,r5⟩:=kR3.six;obtain⟨q0,q1,q2,q3,q4,q5⟩:=kB3.six;have HSH:Hid (∀w':World,Below w3.heap.size w3 w'->(w'.cell? ⟨G,0,none⟩=some (.string ⟨e1.op.toArray⟩)/\w'.cell? ⟨G,1,none⟩=some (.int .i64 e1.v.k)/\w'.cell? ⟨G,2,none⟩=some (.int .i64 e1.v.i)/\w'.cell? ⟨G,3,none⟩=some (.string ⟨e1.v.s.toArray⟩)/\w'.cell? ⟨G,4,none⟩=some (.string ⟨e1.s.toArray⟩)/\w'.cell? ⟨G,5,none⟩=some (.slice A2 e1.l.length c2))):=
   λw' h=>(kB3.below h lB3).six
  clear q0 q1 q2 q3 q4 q5;refine wp_region_held_drew (S:=(λw'=>w'.cell? ⟨G,0,none⟩=some (.string ⟨e1.op.toArray⟩)/\w'.cell? ⟨G,1,none⟩=some (.int .i64 e1.v.k)/\w'.cell? ⟨G,2,none⟩=some (.int .i64 e1.v.i)/\w'.cell? ⟨G,3,none⟩=some (.string ⟨e1.v.s.toArray⟩)/\w'.cell? ⟨G,4,none⟩=some (.string ⟨e1.s.toArray⟩)/\w'.cell? ⟨G,5,none⟩=some (.slice A2 e1.l.length c2))) (by kernel_rfl) ?_ (λhHeld=>?_)
  ·try dsimp only
   exact Blk.six (t:=30) (by((repeat'(first|with_reducible assumption|with_reducible refine Blk.drew ?_|with_reducible refine Blk.drewN ?_ _|with_reducible refine Blk.set3 ?_ _ _ _|with_reducible refine Blk.far ?_ ?_ _|((with_reducible refine Blk.new' _ _ _ _ ?_)<;>(first|(simp;done)|(simp;omega)|omega)<;>done)|with_reducible refine Blk.alloc ?_ _|with_reducible refine BD.drew ?_|with_reducible refine BD.drewN ?_ _|((with_reducible refine BD.new' _ _ _ _ _ _ ?_)<;>(first|(simp;done)|(simp;omega)|omega)<;>done)|with_reducible refine BD.alloc ?_ _|with_reducible refine BD.far ?_ ?_ _|with_reducible refine BD.below ?_ (by assumption) ?_|with_reducible refine Blk.below ?_ (by assumption) ?_))<;>(first|(simp;done)|(simp;omega)|omega)))
  refine tS [0,1,2] ?_;iterate 3(refine tC ?_;refine ap ?_)
  refine tN ?_;refine tS [3,4] ?_;iterate 2(refine tX ?_;refine ap ?_)
  refine tN ?_;refine tS [5] (tC ?_);refine ap (tN ?_);refine rdy 6 λK hK=>?_
  go_simp
  skip
  go_wp2_with fail;refine hK.out _ _ (Blk.six (t:=30) (by((repeat'(first|with_reducible assumption|with_reducible refine Blk.drew ?_|with_reducible refine Blk.drewN ?_ _|with_reducible refine Blk.set3 ?_ _ _ _|with_reducible refine Blk.far ?_ ?_ _|((with_reducible refine Blk.new' _ _ _ _ ?_)<;>(first|(simp;done)|(simp;omega)|omega)<;>done)|with_reducible refine Blk.alloc ?_ _|with_reducible refine BD.drew ?_|with_reducible refine BD.drewN ?_ _|((with_reducible refine BD.new' _ _ _ _ _ _ ?_)<;>(first|(simp;done)|(simp;omega)|omega)<;>done)|with_reducible refine BD.alloc ?_ _|with_reducible refine BD.far ?_ ?_ _|with_reducible refine BD.below ?_ (by assumption) ?_|with_reducible refine Blk.below ?_ (by assumption) ?_))<;>(first|(simp;done)|(simp;omega)|omega)))) λhHeld=>?_
  clear hK K;refine ap ?_;refine tS [7] (tC ?_);refine ap (tN ?_);refine wpAnyH_done (by kernel_rfl) ?_ _;go_wp2_with fail;refine bodyPost_ret (v:=.tuple #[.agg (e1.cells A2 c2).toArray,.bool false]) (by simp[results,Tryz.results263,go_sem, *,Ex.cells]) rfl ?_;exact(DR HR.out.symm (Nat.le_refl _) lp (HE3.out.keep λx hx=>⟨⟨hx.1,by omega,hx.2.2⟩,λo=>rfl⟩) HP3.out hbw3 _ _ _ _ _ _).drew
 ·obtain⟨B,hB⟩:∃B,hit l a1 [41]=B:=⟨_,rfl⟩;have hR:=HR.out;rw[hB]at hR;have HR2:Hid ((e1,B,if B then a1+1 else a1)=R):=by show _=_;rw[<-hR];rfl
  have HTK:Hid (∀X:World,PSt p A c l a1 deep X->Calls Tryz.prog 258 #[.pointer (some ⟨p,0,none⟩),.string ⟨#[41]⟩] X (QF B p A c l a1 deep X)):=λX hX=>by
   have:=Fg p A c l a1 deep [41] X (by omega) hX;rw[hB]at this;exact this
  clear hB hR HR;obtain⟨z0,z1,z2,z3,z4,z5⟩:=kR3.sixF;obtain⟨r0,r1,r2,r3,r4,r5⟩:=kR3.six;clear z0 z1 z2 z3 z4 z5 r0 r1 r2 r3 r4 r5;refine wp_region_held_drew (S:=(λw'=>w'.cell? ⟨G,0,none⟩=some (.string ⟨e1.op.toArray⟩)/\w'.cell? ⟨G,1,none⟩=some (.int .i64 e1.v.k)/\w'.cell? ⟨G,2,none⟩=some (.int .i64 e1.v.i)/\w'.cell? ⟨G,3,none⟩=some (.string ⟨e1.v.s.toArray⟩)/\w'.cell? ⟨G,4,none⟩=some (.string ⟨e1.s.toArray⟩)/\w'.cell? ⟨G,5,none⟩=some (.slice A2 e1.l.length c2))) (by kernel_rfl) ?_ (λhHeld=>?_)
  ·try dsimp only
   exact Blk.six (t:=30) (by((repeat'(first|with_reducible assumption|with_reducible refine Blk.drew ?_|with_reducible refine Blk.drewN ?_ _|with_reducible refine Blk.set3 ?_ _ _ _|with_reducible refine Blk.far ?_ ?_ _|((with_reducible refine Blk.new' _ _ _ _ ?_)<;>(first|(simp;done)|(simp;omega)|omega)<;>done)|with_reducible refine Blk.alloc ?_ _|with_reducible refine BD.drew ?_|with_reducible refine BD.drewN ?_ _|((with_reducible refine BD.new' _ _ _ _ _ _ ?_)<;>(first|(simp;done)|(simp;omega)|omega)<;>done)|with_reducible refine BD.alloc ?_ _|with_reducible refine BD.far ?_ ?_ _|with_reducible refine BD.below ?_ (by assumption) ?_|with_reducible refine Blk.below ?_ (by assumption) ?_))<;>(first|(simp;done)|(simp;omega)|omega)))
  refine tS [0,1,2,3] ?_;iterate 4(refine tC ?_;refine ap ?_)
  refine tN ?_;refine rdy 4 λK hK=>?_
  go_simp;refine(HTK.out _ (HP3.out.but (by exact bl))).mono ?_<;>rintro en w6 ⟨rfl,hP6,hb6⟩<;>have HP6:=Lib.hid hP6<;>clear hP6<;>have hb36:But p w3 w6:=But.trans (But.of_below (by exact bl)) hb6<;>have hz6:=hb36.size<;>have lG6:G<w6.heap.size:=(by omega)<;>have lR6:w.heap.size<w6.heap.size:=(by omega)<;>have kB6:=hb36.blk kB3 (Nat.ne_of_gt hpG)<;>have kR6:=hb36.blk kR3 (Nat.ne_of_gt lp)<;>obtain⟨v0,v1,v2,v3,v4,v5⟩:=kR6.sixF<;>obtain⟨x0,x1,x2,x3,x4,x5⟩:=kR6.six
  go_wp2_with fail;refine hK.out _ _ (Blk.six (t:=30) (by((repeat'(first|with_reducible assumption|with_reducible refine Blk.drew ?_|with_reducible refine Blk.drewN ?_ _|with_reducible refine Blk.set3 ?_ _ _ _|with_reducible refine Blk.far ?_ ?_ _|((with_reducible refine Blk.new' _ _ _ _ ?_)<;>(first|(simp;done)|(simp;omega)|omega)<;>done)|with_reducible refine Blk.alloc ?_ _|with_reducible refine BD.drew ?_|with_reducible refine BD.drewN ?_ _|((with_reducible refine BD.new' _ _ _ _ _ _ ?_)<;>(first|(simp;done)|(simp;omega)|omega)<;>done)|with_reducible refine BD.alloc ?_ _|with_reducible refine BD.far ?_ ?_ _|with_reducible refine BD.below ?_ (by assumption) ?_|with_reducible refine Blk.below ?_ (by assumption) ?_))<;>(first|(simp;done)|(simp;omega)|omega)))) λhHeld=>?_
  clear hK K;refine ap ?_;refine tS [5] (tC ?_);refine ap (tN ?_);refine rdy 6 λK hK=>?_
  go_simp
  skip
  go_wp2_with fail;refine hK.out _ _ (Blk.six (t:=30) (by((repeat'(first|with_reducible assumption|with_reducible refine Blk.drew ?_|with_reducible refine Blk.drewN ?_ _|with_reducible refine Blk.set3 ?_ _ _ _|with_reducible refine Blk.far ?_ ?_ _|((with_reducible refine Blk.new' _ _ _ _ ?_)<;>(first|(simp;done)|(simp;omega)|omega)<;>done)|with_reducible refine Blk.alloc ?_ _|with_reducible refine BD.drew ?_|with_reducible refine BD.drewN ?_ _|((with_reducible refine BD.new' _ _ _ _ _ _ ?_)<;>(first|(simp;done)|(simp;omega)|omega)<;>done)|with_reducible refine BD.alloc ?_ _|with_reducible refine BD.far ?_ ?_ _|with_reducible refine BD.below ?_ (by assumption) ?_|with_reducible refine Blk.below ?_ (by assumption) ?_))<;>(first|(simp;done)|(simp;omega)|omega)))) λhHeld=>?_
  clear hK K;refine ap ?_;refine tS [7] (tC ?_);refine ap (tN ?_);refine wpAnyH_done (by kernel_rfl) ?_ _;go_wp2_with fail;refine bodyPost_ret (v:=.tuple #[.agg (e1.cells A2 c2).toArray,.bool B]) (by simp[results,Tryz.results263,go_sem, *,Ex.cells]) rfl ?_;exact DR HR2.out.symm (Nat.le_refl _) lp (HE3.out.keep λx hx=>⟨⟨hx.1,by omega,hx.2.2⟩,λo=>hb36.cell (by omega) (by omega) o⟩) HP6.out (hbw3.trans hb36) _ _ _ _ _ _
end
section
open Go.RowKit
instance grDec:DecidableEq Gr:=λa b=>
 if h:a.r=b.r/\a.t=b.t/\a.w=b.w then isTrue (by cases a;cases b;simp_all)else isFalse (by rintro rfl;simp at h)
end
section
open Go.RowKit
attribute [local go_sem] ByteArray.extract_mk Ak AY
attribute [local go_sem ↓] Go.wp_at_zero Go.wp_at_succ CY CE
theorem UE(s:List UInt8)(w:World)(hs:s.length<=1000000):Calls Tryz.prog 74 #[.string ⟨s.toArray⟩] w (Ret (.bool (Ai s)) w):=by
 obtain⟨B,hB⟩:∃B,D9 s=B:=⟨_,rfl⟩;obtain⟨R,hR⟩:∃R,CZ s=R:=⟨_,rfl⟩;have HN:Hid (Ai s=(B&&!R)):=by show _=_;unfold Ai;rw[hB,hR]
 have h1:=PN s w hs;rw[hB]at h1;have H1:=Lib.hid h1;have H2:Hid (∀Z:World,Calls Tryz.prog 67 #[.string ⟨s.toArray⟩] Z (YP R Z)):=λZ=>by have:=IW s Z;rw[hR]at this;exact this
 rw[HN.out];clear h1 hB hR;cases B
 ·go_in
  go_wp2_with fail;refine H1.out.mono ?_;rintro en w1 ⟨rfl,hb1⟩;go_wp2_with fail;go_ret;exact⟨rfl,hb1⟩
 ·go_in
  go_wp2_with fail;refine H1.out.mono ?_;rintro en w1 ⟨rfl,hb1⟩;go_wp2_with fail;refine(H2.out _).mono ?_;rintro en w2 ⟨rfl,rfl⟩;go_wp2_with fail;go_ret;exact⟨by cases R<;>rfl,hb1⟩
def Gr.val(g:Gr):Value:=.agg #[.string ⟨g.r.toArray⟩,.string ⟨g.t.toArray⟩,.bool g.w]
end
section
open Go.RowKit
attribute [local go_sem] ByteArray.extract_mk Ak AY
attribute [local go_sem ↓] Go.wp_at_zero Go.wp_at_succ
theorem EY(s:List UInt8)(w:World):Calls Tryz.prog 31 #[.string ⟨s.toArray⟩] w (Ret (.string ⟨(s.take 20).toArray⟩) w):=by
 by_cases hk:s.length<=20
 ·have HT:Hid (s.take 20=s):=List.take_of_length_le hk;rw[HT.out];go_in
  go_wp2_with fail;go_ret;exact⟨rfl,Below.refl _ _⟩
 ·go_in
  go_wp2_with fail;go_ret;exact⟨rfl,Below.refl _ _⟩
theorem ay:(Tryz.prog.info? 9).map (λi=>(i.zero,i.size,i.bytes))=some (some (.string ⟨#[]⟩),1,16):=by kernel_rfl
def IR(s:List UInt8):Value:=.string ⟨s.toArray⟩
theorem SQ.own{w:World}{base:Nat}{e:TypeId}{sv:Value}{n:Nat}{l:List (List UInt8)}(h:w.ownsRow base e 1 sv n (l.map IR)):
  ∃A c,sv=.slice A l.length c/\l.length<=c/\c<=maxLen/\SQ l A (λb=>base<=b/\b<w.heap.size) w:=by
 have hn:l.length=n:=by have:=h.1;rw[List.length_map]at this;omega
 rcases h.2 with⟨rfl,h0⟩|⟨g,cap,cur,rfl,hb,hg,hnc,hcm,hcs,htk⟩
 ·exact⟨none,0,by rw[hn,h0],by omega,Nat.zero_le _,λhl=>absurd hl (by omega)⟩
 ·refine⟨some ⟨g,0,none⟩,cap,by rw[hn],by omega,hcm,λ_=>⟨g,0,rfl,⟨hb,(Array.getElem?_eq_some_iff.1 hg).1⟩,λi v hv=>?_⟩⟩;have:=h.cells (g:=g) rfl i (IR v) (by rw[List.getElem?_map,hv];rfl);rw[add_mid]at this;exact this
def Jv(l:List (List UInt8)):List (List UInt8):=(l.take 10).map λs=>s.take 20
theorem WP(l:List (List UInt8))(j:Nat)(v:List UInt8)(h:l[j]? = some v):((l.take (j+1)).map λs=>s.take 20)=((l.take j).map λs=>s.take 20)++[v.take 20]:=by
 rw[List.take_add_one,h];simp
def QG(l:List (List UInt8))(w:World)(e:Ending)(w':World):Prop:=
 ∃A c,e=.returned (.slice A l.length c)/\l.length<=c/\c<=maxLen/\SQ l A (λb=>w.heap.size<=b/\b<w'.heap.size) w'/\Below w.heap.size w w'
theorem Nc(A:Option Addr)(c:Nat)(l:List (List UInt8))(w:World)(hl:l.length<=maxLen)(h:SQ l A (Old w.heap.size) w):
  Calls Tryz.prog 32 #[.slice A l.length c] w (QG (Jv l) w):=by
 unfold maxLen at hl;obtain⟨i0,hi0,zi0,zi1,zi2⟩:=info_parts ay;go_in
 go_wp2;go_loopw [3,4] (λv i wr=>∃j:Nat,j<=l.length/\j<=10/\i=.int .i64 j/\wr.ownsRow w.heap.size 9 1 v j (((l.take j).map λs=>s.take 20).map IR)/\Below w.heap.size w wr) (λ_ i _=>l.length - (intOf i).toNat)
 case atStart=>exact⟨0,by omega,by omega,rfl,World.ownsRow_nil _ _ _ _,Below.refl _ _⟩
 case round=>
  obtain⟨j,hj1,hj2,rfl,hown,hbw⟩:=hrel;have hzw:=hbw.size;by_cases hlt:j<l.length
  ·by_cases h14:j<10
   ·obtain⟨b,off,x,hA,hbB,hx,c0⟩:=(h.keep (DK hbw hzw)).at_ hlt;subst hA;have HX:=Lib.hid hx;clear hx;have HOW:=Lib.hid hown;have HLT:=Lib.hid hown.lt;clear hown;have i1:(0:Int)<=(j:Int):=by omega
    have i2:(j:Int)<(l.length:Int):=by omega
    obtain⟨V,hV⟩:∃V,x.take 20=V:=⟨_,rfl⟩;have HT:Hid (∀Z:World,Calls Tryz.prog 31 #[.string ⟨x.toArray⟩] Z (Ret (.string ⟨V.toArray⟩) Z)):=λZ=>by rw[<-hV];exact EY x Z
    have HVV:=Lib.hid hV;clear hV;go_wp2_with fail;refine(HT.out _).mono ?_;rintro en w1 ⟨rfl,hb1⟩;have hz1:=hb1.size;have HO1:=Lib.hid (CJ HOW.out hb1);have hc1:=hbw.trans (hb1.mono hzw);clear HOW;go_wp2_with (at_builtin;refine wpList_append_own _ rfl _ _ 23 rfl w.heap.size 9 i0 _ 1 16 Tryz.underlying23 hi0 zi0 zi1 zi2 rfl (by decide) _ _ _ rfl (HO1.out.alloc _) ⟨w1.heap.size,0,none⟩ 1 1 [.string ⟨V.toArray⟩] rfl rfl ?c1 ?c2 ?c3 ?c4 ?c5 ?_)
    case c1=>exact World.news_of_block (cs:=#[.string ⟨V.toArray⟩]) (t:=9) (fr:=(0,0)) (Blk.new _ _ _)
    case c2=>exactλu hu=>by simp at hu;subst hu;rfl
    case c3=>unfold maxLen;omega
    case c4=>omega
    case c5=>simp;omega
    intro v' w2 hown2 hg2 _;go_wp2;go_roundw
    case rel=>
     refine⟨j+1,by omega,by omega,by go_num, ?_, ?_⟩
     ·rw[WP l j x HX.out,List.map_append,HVV.out];simpa[IR]using hown2
     ·exact Below.grown (hc1.alloc (by omega) _) hg2 (by simp;omega) (λk hk=>(HLT.out k hk).1)
    case measure=>simp[intOf];omega
   ·go_wp2;go_ret;obtain⟨A',c',rfl,hc1,hc2,hv⟩:=SQ.own hown;have e:Jv l=(l.take j).map λs=>s.take 20:=by unfold Jv;rw[show j=10 by omega]
    exact⟨A',c',by rw[e];rfl,by rw[e];exact hc1,hc2,by rw[e];exact hv,hbw⟩
  ·go_wp2;go_ret;obtain⟨A',c',rfl,hc1,hc2,hv⟩:=SQ.own hown;have e:Jv l=(l.take j).map λs=>s.take 20:=by unfold Jv;rw[List.take_of_length_le (i:=10) (by omega),List.take_of_length_le (by omega)]
   exact⟨A',c',by rw[e];rfl,by rw[e];exact hc1,hc2,by rw[e];exact hv,hbw⟩
end
end Go.Proofs.YtchilcchogcibaaGreatDoor
