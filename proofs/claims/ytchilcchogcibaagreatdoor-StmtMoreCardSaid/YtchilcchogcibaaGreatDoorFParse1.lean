/- Plain law; Plain laws on parsing; Contracts of the library at this dump, as the kit's tool writes them in plain words (lay-plain); value.Parse as a plain function; lexer.Is, and the parser's take and taken, as plain functions. -/
import Derived.Lib.ItoaNum
import Derived.Lib.AtoiAllCases
import Derived.Lib.ParseIntBTie
import Derived.Shelf.Strconv.ParseIntPublic10
import Derived.Shelf.Strconv.ErrVarParseInt
import Derived.Test.YtchilcchogcibaaGreatDoorFSix
set_option maxRecDepth 100000
set_option maxHeartbeats 2000000
namespace Go.Proofs.YtchilcchogcibaaGreatDoor
open Go.RowKit
def YT(l:List UInt8):Nat:=l.foldl (λn c=>10 * n+(c.toNat - 48)) 0
theorem VI(l:List UInt8)(c:UInt8):YT (l++[c])=10 * YT l+(c.toNat - 48):=by
 unfold YT;rw[List.foldl_append];rfl
theorem MP(d:Nat)(h:d<10):(UInt8.ofNat (48+d)).toNat=48+d:=by
 rw[UInt8.toNat_ofNat'];omega
theorem Wy:∀(n u:Nat),u<=n->YT (Lib.decDigits u)=u:=by
 intro n
 induction n with
 |zero=>
  intro u h;obtain rfl:u=0:=by omega
  rw[Lib.decDigits_one (by omega)];rfl
 |succ n ih=>
  intro u h;by_cases hu:u<10
  ·rw[Lib.decDigits_one hu];show 10 * 0+((UInt8.ofNat (48+u)).toNat - 48)=u
   rw[MP u hu];omega
  ·rw[Lib.decDigits,dif_neg hu,VI,ih (u / 10) (by omega),MP _ (by omega)];omega
theorem Jy:∀(n u:Nat),u<=n->∀c∈Lib.decDigits u,48<=c.toNat/\c.toNat<=57:=by
 intro n
 induction n with
 |zero=>
  intro u h c hc;obtain rfl:u=0:=by omega
  rw[Lib.decDigits_one (by omega)]at hc;simp at hc;subst hc;decide
 |succ n ih=>
  intro u h c hc;by_cases hu:u<10
  ·rw[Lib.decDigits_one hu]at hc;simp only[List.mem_singleton]at hc;subst hc;rw[MP u hu];omega
  ·rw[Lib.decDigits,dif_neg hu,List.mem_append]at hc;rcases hc with hc|hc
   ·exact ih (u / 10) (by omega) c hc
   ·simp only[List.mem_singleton]at hc;subst hc;rw[MP _ (by omega)];omega
theorem N8(u:Nat):∃c r,Lib.decDigits u=c::r/\48<=c.toNat/\c.toNat<=57:=by
 cases h:Lib.decDigits u with
 |nil=>
  exfalso;rw[Lib.decDigits]at h;split at h
  ·cases h
  ·simp at h
 |cons c r=>exact⟨c,r,rfl,Jy u u (Nat.le_refl _) c (by rw[h];simp)⟩
theorem U0:∀(l:List UInt8) (acc:Nat),acc<=l.foldl (λn c=>10 * n+(c.toNat - 48)) acc
 |[],_=>Nat.le_refl _
 |c::r,acc=>by
  have:=U0 r (10 * acc+(c.toNat - 48));simp only[List.foldl_cons];omega
theorem Hu:∀(l:List UInt8) (acc:Nat),(∀c∈l,48<=c.toNat/\c.toNat<=57)->l.foldl (λn c=>10 * n+(c.toNat - 48)) acc<18446744073709551616->
  Lib.parseUint10 acc l=.ok (l.foldl (λn c=>10 * n+(c.toNat - 48)) acc)
 |[],acc,_,_=>rfl
 |c::r,acc,h,hb=>by
  have hc:=h c (by simp);have hge:=U0 r (10 * acc+(c.toNat - 48));simp only[List.foldl_cons]at hb ⊢;unfold Lib.parseUint10;rw[if_pos hc,if_neg (by omega),if_neg (by omega),Nat.mul_comm acc 10];exact Hu r _ (λd hd=>h d (by simp[hd])) hb
theorem KF(u:Nat)(hu:u<18446744073709551616):Lib.parseMag (Lib.decDigits u)=.ok u:=by
 obtain⟨c,r,e,_⟩:=N8 u;unfold Lib.parseMag;rw[if_neg (by rw[e];simp)];have hv:(Lib.decDigits u).foldl (λn c=>10 * n+(c.toNat - 48)) 0=u:=Wy u u (Nat.le_refl _);have:=Hu (Lib.decDigits u) 0 (Jy u u (Nat.le_refl _)) (by rw[hv];exact hu);rw[hv]at this;exact this
theorem UC(i:Int)(h1:-9223372036854775808<=i)(h2:i<=9223372036854775807):Lib.parseIntB 64 (Lib.itoa i)=.ok i:=by
 rw[Lib.parseIntB_64];unfold Lib.itoa;by_cases hn:i<0
 ·rw[if_pos hn,Lib.atoiAll_minus,KF _ (by omega)];show(if 9223372036854775808<i.natAbs then _ else _)=_
  rw[if_neg (by omega)];have:-(i.natAbs:Int)=i:=by omega
  rw[this]
 ·rw[if_neg hn];obtain⟨c,r,e,h3,h4⟩:=N8 i.toNat;have hp:=KF i.toNat (by omega);rw[e]at hp ⊢;rw[Lib.atoiAll_plain c r (by omega) (by omega),hp];show(if 9223372036854775808<=i.toNat then _ else _)=_
  rw[if_neg (by omega)];have:((i.toNat:Nat):Int)=i:=by omega
  rw[this]
def aS(s:List UInt8)(v:V):Prop:=v.may=true/\(-9223372036854775808<=v.i/\v.i<=9223372036854775807)/\DT v.k v.i v.s=s
instance (s:List UInt8) (v:V):Decidable (aS s v):=inferInstanceAs (Decidable (_/\_/\_))
end Go.Proofs.YtchilcchogcibaaGreatDoor
namespace Go.Proofs
open Go.Shelf
def Tryz.laysC174_ren:Go.Shelf.Ren:=⟨fun|174=>264|247=>266|245=>267|287=>269|279=>270|280=>271|281=>272|282=>273|321=>274|322=>275|316=>276|171=>278|205=>277|243=>279|246=>201|283=>224|284=>225|285=>226|286=>227|129=>237|317=>236|318=>238|319=>239|320=>240|337=>251|338=>252|n=>n,fun|9=>9|3=>3|2=>2|75=>168|85=>271|4=>4|167=>277|5=>5|53=>228|175=>278|46=>241|168=>280|37=>163|0=>0|210=>285|21=>21|127=>204|145=>289|143=>287|171=>227|173=>231|212=>251|51=>245|20=>20|213=>252|232=>268|233=>269|80=>145|n=>n,fun|15=>8|16=>9|17=>5|18=>6|19=>7|n=>n⟩
theorem Tryz.laysC174:Go.Proofs.LaysC.n174 Tryz.prog Tryz.laysC174_ren:={
 mixed:=by kernel_rfl
 f129:=Tryz.func237.trans (congrArg some (by kernel_rfl))
 f171:=Tryz.func278.trans (congrArg some (by kernel_rfl))
 f174:=Tryz.func264.trans (congrArg some (by kernel_rfl))
 f205:=Tryz.func277.trans (congrArg some (by kernel_rfl))
 f243:=Tryz.func279.trans (congrArg some (by kernel_rfl))
 f245:=Tryz.func267.trans (congrArg some (by kernel_rfl))
 f246:=Tryz.func201.trans (congrArg some (by kernel_rfl))
 f247:=Tryz.func266.trans (congrArg some (by kernel_rfl))
 f279:=Tryz.func270.trans (congrArg some (by kernel_rfl))
 f280:=Tryz.func271.trans (congrArg some (by kernel_rfl))
 f281:=Tryz.func272.trans (congrArg some (by kernel_rfl))
 f282:=Tryz.func273.trans (congrArg some (by kernel_rfl))
 f283:=Tryz.func224.trans (congrArg some (by kernel_rfl))
 f284:=Tryz.func225.trans (congrArg some (by kernel_rfl))
 f285:=Tryz.func226.trans (congrArg some (by kernel_rfl))
 f286:=Tryz.func227.trans (congrArg some (by kernel_rfl))
 f287:=Tryz.func269.trans (congrArg some (by kernel_rfl))
 f316:=Tryz.func276.trans (congrArg some (by kernel_rfl))
 f317:=Tryz.func236.trans (congrArg some (by kernel_rfl))
 f318:=Tryz.func238.trans (congrArg some (by kernel_rfl))
 f319:=Tryz.func239.trans (congrArg some (by kernel_rfl))
 f320:=Tryz.func240.trans (congrArg some (by kernel_rfl))
 f321:=Tryz.func274.trans (congrArg some (by kernel_rfl))
 f322:=Tryz.func275.trans (congrArg some (by kernel_rfl))
 f337:=Tryz.func251.trans (congrArg some (by kernel_rfl))
 f338:=Tryz.func252.trans (congrArg some (by kernel_rfl))
 t0:=Tryz.underlying0
 a0:=Tryz.isAgg0
 z0:=Tryz.sizeOf0
 v0:=Tryz.zeroValue0
 t2:=Tryz.underlying2
 a2:=Tryz.isAgg2
 z2:=Tryz.sizeOf2
 v2:=Tryz.zeroValue2
 t3:=Tryz.underlying3
 a3:=Tryz.isAgg3
 z3:=Tryz.sizeOf3
 v3:=Tryz.zeroValue3
 t4:=Tryz.underlying4
 a4:=Tryz.isAgg4
 z4:=Tryz.sizeOf4
 v4:=Tryz.zeroValue4
 t5:=Tryz.underlying5
 a5:=Tryz.isAgg5
 z5:=Tryz.sizeOf5
 v5:=Tryz.zeroValue5
 t9:=Tryz.underlying9
 a9:=Tryz.isAgg9
 z9:=Tryz.sizeOf9
 v9:=Tryz.zeroValue9
 t20:=Tryz.underlying20
 a20:=Tryz.isAgg20
 z20:=Tryz.sizeOf20
 v20:=Tryz.zeroValue20
 t21:=Tryz.underlying21
 a21:=Tryz.isAgg21
 z21:=Tryz.sizeOf21
 v21:=Tryz.zeroValue21
 t37:=Tryz.underlying163
 a37:=Tryz.isAgg163
 z37:=Tryz.sizeOf163
 v37:=Tryz.zeroValue163
 t46:=Tryz.underlying241
 a46:=Tryz.isAgg241
 z46:=Tryz.sizeOf241
 v46:=Tryz.zeroValue241
 t51:=Tryz.underlying245
 a51:=Tryz.isAgg245
 z51:=Tryz.sizeOf245
 v51:=Tryz.zeroValue245
 t53:=Tryz.underlying228
 a53:=Tryz.isAgg228
 z53:=Tryz.sizeOf228
 v53:=Tryz.zeroValue228
 t75:=Tryz.underlying168
 a75:=Tryz.isAgg168
 z75:=Tryz.sizeOf168
 v75:=Tryz.zeroValue168
 t85:=Tryz.underlying271
 a85:=Tryz.isAgg271
 z85:=Tryz.sizeOf271
 v85:=Tryz.zeroValue271
 t127:=Tryz.underlying204
 a127:=Tryz.isAgg204
 z127:=Tryz.sizeOf204
 v127:=Tryz.zeroValue204
 t143:=Tryz.underlying287
 a143:=Tryz.isAgg287
 z143:=Tryz.sizeOf287
 v143:=Tryz.zeroValue287
 t145:=Tryz.underlying289
 a145:=Tryz.isAgg289
 z145:=Tryz.sizeOf289
 v145:=Tryz.zeroValue289
 t167:=Tryz.underlying277
 a167:=Tryz.isAgg277
 z167:=Tryz.sizeOf277
 v167:=Tryz.zeroValue277
 t168:=Tryz.underlying280
 a168:=Tryz.isAgg280
 z168:=Tryz.sizeOf280
 v168:=Tryz.zeroValue280
 t171:=Tryz.underlying227
 a171:=Tryz.isAgg227
 z171:=Tryz.sizeOf227
 v171:=Tryz.zeroValue227
 t173:=Tryz.underlying231
 a173:=Tryz.isAgg231
 z173:=Tryz.sizeOf231
 v173:=Tryz.zeroValue231
 t175:=Tryz.underlying278
 a175:=Tryz.isAgg278
 z175:=Tryz.sizeOf278
 v175:=Tryz.zeroValue278
 t210:=Tryz.underlying285
 a210:=Tryz.isAgg285
 z210:=Tryz.sizeOf285
 v210:=Tryz.zeroValue285
 t212:=Tryz.underlying251
 a212:=Tryz.isAgg251
 z212:=Tryz.sizeOf251
 v212:=Tryz.zeroValue251
 t213:=Tryz.underlying252
 a213:=Tryz.isAgg252
 z213:=Tryz.sizeOf252
 t232:=Tryz.underlying268
 a232:=Tryz.isAgg268
 z232:=Tryz.sizeOf268
 v232:=Tryz.zeroValue268
 t233:=Tryz.underlying269
 a233:=Tryz.isAgg269
 z233:=Tryz.sizeOf269
 v233:=Tryz.zeroValue269
 g15:=by kernel_rfl
 g16:=by kernel_rfl
 g17:=by kernel_rfl
 g18:=by kernel_rfl
 g19:=by kernel_rfl
 t80:=Tryz.underlying145
 a80:=Tryz.isAgg145
 z80:=Tryz.sizeOf145
 v80:=Tryz.zeroValue145
 i0:=by kernel_rfl
 i2:=by kernel_rfl
 i3:=by kernel_rfl
 i4:=by kernel_rfl
 i5:=by kernel_rfl
 i9:=by kernel_rfl
 i20:=by kernel_rfl
 i21:=by kernel_rfl
 i37:=by kernel_rfl
 i46:=by kernel_rfl
 i51:=by kernel_rfl
 i53:=by kernel_rfl
 i75:=by kernel_rfl
 i80:=by kernel_rfl
 i85:=by kernel_rfl
 i127:=by kernel_rfl
 i143:=by kernel_rfl
 i145:=by kernel_rfl
 i167:=by kernel_rfl
 i168:=by kernel_rfl
 i171:=by kernel_rfl
 i173:=by kernel_rfl
 i175:=by kernel_rfl
 i210:=by kernel_rfl
 i212:=by kernel_rfl
 i232:=by kernel_rfl
 i233:=by kernel_rfl
 m15:=by kernel_rfl
 m16:=by kernel_rfl
 m17:=by kernel_rfl
 m18:=by kernel_rfl
 m19:=by kernel_rfl
 c0:=by kernel_rfl
 c2:=by kernel_rfl
 c3:=by kernel_rfl
 c4:=by kernel_rfl
 c5:=by kernel_rfl
 c9:=by kernel_rfl
 c20:=by kernel_rfl
 c21:=by kernel_rfl
 c37:=by kernel_rfl
 c46:=by kernel_rfl
 c51:=by kernel_rfl
 c53:=by kernel_rfl
 c75:=by kernel_rfl
 c80:=by kernel_rfl
 c85:=by kernel_rfl
 c127:=by kernel_rfl
 c143:=by kernel_rfl
 c145:=by kernel_rfl
 c167:=by kernel_rfl
 c168:=by kernel_rfl
 c171:=by kernel_rfl
 c173:=by kernel_rfl
 c175:=by kernel_rfl
 c210:=by kernel_rfl
 c212:=by kernel_rfl
 c213:=by kernel_rfl
 c232:=by kernel_rfl
 c233:=by kernel_rfl}
open Go.RowKit in
theorem Tryz.strconv_ParseInt_10_at64_ok(s:ByteArray)(hmax:s.size<=9223372036854775806)(v:Int)(h:Lib.parseIntB 64 s.data.toList=.ok v)(w:World):
  Calls Tryz.prog 264 #[.string s,.int .i64 10,.int .i64 64] w λe w'=>e=.returned (.tuple #[.int .i64 v,.nilIface])/\(w'=w\/∃t,w'=Lib.bytesWorld w 5 t):=Any.strconv_ParseInt_10_at64_ok Tryz.laysC174 s hmax v h w
end Go.Proofs
namespace Go.Proofs.YtchilcchogcibaaGreatDoor
open Go.RowKit
attribute [local go_sem] ByteArray.extract_mk Ak AY
attribute [local go_sem ↓] Go.wp_at_zero Go.wp_at_succ
def JP(w : World): Prop := (∃ tp p, w.var? Tryz.prog "strconv.ErrSyntax" = some #[.iface tp p]) ∧ (∃ tp p, w.var? Tryz.prog "strconv.ErrRange" = some #[.iface tp p])
theorem JP.below{B:Nat}{w w':World}(h:JP w)(hb:Below B w w')(hB:B=w.heap.size):JP w':=by
 obtain⟨⟨t1,p1,h1⟩,t2,p2,h2⟩:=h;exact⟨⟨t1,p1,Kw h1 hb hB⟩,t2,p2,Kw h2 hb hB⟩
theorem Q3(s:List UInt8)(n:Int)(w:World)(hs:s.length<=1000000)(h:Lib.parseIntB 64 s=.ok n):
  Calls Tryz.prog 264 #[.string ⟨s.toArray⟩,.int .i64 10,.int .i64 64] w (Ret (.tuple #[.int .i64 n,.nilIface]) w):=
 (Tryz.strconv_ParseInt_10_at64_ok ⟨s.toArray⟩ (by show s.length<=_;omega) n h w).mono λe w' ⟨he,hw⟩=>⟨he,by
  rcases hw with rfl|⟨t,rfl⟩
  ·exact Below.refl _ _
  ·exact Lib.bytesWorld_below _ _ _⟩
theorem UB(w:World):Calls Tryz.prog 265 #[.string ⟨#[78,85,76,76]⟩] w (Ret (.tuple #[.agg #[.int .i64 0,.int .i64 0,.string ⟨#[]⟩],.int .i64 0]) w):=by
 have l0:w.heap.size<w.heap.size+1+1:=by omega
 go_in
 go_wp2_with fail;refine(Oy _).mono ?_;rintro e w1 ⟨rfl,hb1⟩;have hz1:=hb1.size;obtain⟨hc1,hf1⟩:=EJ hb1;simp at hz1 hc1 hf1;have l1:w.heap.size<w1.heap.size:=by omega
 have l2:w.heap.size+1<w1.heap.size:=by omega
 go_wp2_with fail;refine bodyPost_ret (v:=.tuple #[.agg #[.int .i64 0,.int .i64 0,.string ⟨#[]⟩],.int .i64 0]) (by simp[results,Tryz.results265,go_sem, *]) rfl ⟨rfl, ?_⟩;exact bl
theorem UA(w:World):Calls Tryz.prog 265 #[.string ⟨#[84,82,85,69]⟩] w (Ret (.tuple #[.agg #[.int .i64 3,.int .i64 1,.string ⟨#[]⟩],.int .i64 0]) w):=by
 have l0:w.heap.size<w.heap.size+1+1:=by omega
 go_in
 go_wp2_with fail;refine(TE _).mono ?_;rintro e w0 ⟨rfl,hb0⟩;have hz0:=hb0.size;obtain⟨hc0,hf0⟩:=EJ hb0;simp at hz0 hc0 hf0;have k1:w.heap.size<w0.heap.size:=by omega
 have k2:w.heap.size+1<w0.heap.size:=by omega
 go_wp2_with fail;refine(JU true _).mono ?_;rintro e w1 ⟨rfl,hb1⟩;have hz1:=hb1.size;obtain⟨hc1,hf1⟩:=EJ hb1;simp at hz1 hc1 hf1;have l1:w.heap.size<w1.heap.size:=by omega
 have l2:w.heap.size+1<w1.heap.size:=by omega
 go_wp2_with fail;refine bodyPost_ret (v:=.tuple #[.agg #[.int .i64 3,.int .i64 1,.string ⟨#[]⟩],.int .i64 0]) (by simp[results,Tryz.results265,go_sem, *]) rfl ⟨rfl, ?_⟩;exact bl
theorem Qz(w:World):Calls Tryz.prog 265 #[.string ⟨#[70,65,76,83,69]⟩] w (Ret (.tuple #[.agg #[.int .i64 3,.int .i64 0,.string ⟨#[]⟩],.int .i64 0]) w):=by
 have l0:w.heap.size<w.heap.size+1+1:=by omega
 go_in
 go_wp2_with fail;refine(TG _).mono ?_;rintro e w0 ⟨rfl,hb0⟩;have hz0:=hb0.size;obtain⟨hc0,hf0⟩:=EJ hb0;simp at hz0 hc0 hf0;have k1:w.heap.size<w0.heap.size:=by omega
 have k2:w.heap.size+1<w0.heap.size:=by omega
 go_wp2_with fail;refine(JU false _).mono ?_;rintro e w1 ⟨rfl,hb1⟩;have hz1:=hb1.size;obtain⟨hc1,hf1⟩:=EJ hb1;simp at hz1 hc1 hf1;have l1:w.heap.size<w1.heap.size:=by omega
 have l2:w.heap.size+1<w1.heap.size:=by omega
 go_wp2_with fail;refine bodyPost_ret (v:=.tuple #[.agg #[.int .i64 3,.int .i64 0,.string ⟨#[]⟩],.int .i64 0]) (by simp[results,Tryz.results265,go_sem, *]) rfl ⟨rfl, ?_⟩;exact bl
end Go.Proofs.YtchilcchogcibaaGreatDoor
namespace Go.Proofs.YtchilcchogcibaaGreatDoor
open Go.RowKit
attribute [local go_sem] ByteArray.extract_mk Ak AY
attribute [local go_sem ↓] Go.wp_at_zero Go.wp_at_succ CY CE
def isB(k:Int)(s word:List UInt8):Bool:=(decide (k=1)||decide (k=4))&&s==word
def hit(l:List Tok)(a:Nat)(word:List UInt8):Bool:=match l[a]? with|none=>false|some t=>isB t.k t.s word
def Oa(p:Nat)(w:World):Prop:=∃W0:World,JP W0/\W0.heap.size<=p/\Below W0.heap.size W0 w
theorem Oa.below{p:Nat}{w w':World}(h:Oa p w)(hb:Below p w w'):Oa p w':=by
 obtain⟨W0,h1,h2,h3⟩:=h;exact⟨W0,h1,h2,h3.trans (hb.mono h2)⟩
theorem Oa.more{p q:Nat}{w:World}(h:Oa p w)(hq:p<=q):Oa q w:=by
 obtain⟨W0,h1,h2,h3⟩:=h;exact⟨W0,h1,Nat.le_trans h2 hq,h3⟩
theorem Oa.errs{p:Nat}{w:World}(h:Oa p w):JP w:=by
 obtain⟨W0,h1,h2,h3⟩:=h;exact h1.below h3 rfl
theorem Oa.of{w:World}(h:JP w):Oa w.heap.size w:=⟨w,h,Nat.le_refl _,Below.refl _ _⟩
def TkE(w:World)(p:Nat)(A:Option Addr)(l:List Tok):Prop:=TkS w p A l/\Oa p w
theorem TkE.below{w w':World}{p:Nat}{A:Option Addr}{l:List Tok}(h:TkE w p A l)(hb:Below p w w'):TkE w' p A l:=⟨h.1.below hb,h.2.below hb⟩
theorem TkE.at_{w:World}{p:Nat}{A:Option Addr}{l:List Tok}(h:TkE w p A l){j:Nat}(hj:j<l.length):
  ∃b off v,A=some ⟨b,off,none⟩/\b<p/\l[j]? = some v/\w.cell? ⟨b,off+j * 2,none⟩=some (.int .i64 v.k)/\w.cell? ⟨b,off+j * 2+1,none⟩=some (.string ⟨v.s.toArray⟩):=h.1.at_ hj
def PSt(p:Nat)(A:Option Addr)(c:Nat)(l:List Tok)(a deep:Nat)(w:World):Prop:=
 Blk w p 235 #[.slice A l.length c,.int .i64 (a:Nat),.int .i64 (deep:Nat)]/\TkE w p A l
theorem PSt.but{p:Nat}{A:Option Addr}{c:Nat}{l:List Tok}{a deep:Nat}{w w':World}(h:PSt p A c l a deep w)(hb:Below w.heap.size w w'):PSt p A c l a deep w':=
 ⟨h.1.below hb h.1.lt,h.2.below (hb.mono (Nat.le_of_lt h.1.lt))⟩
theorem Uw(k:Int)(s word:List UInt8)(w:World):Calls Tryz.prog 211 #[.agg #[.int .i64 k,.string ⟨s.toArray⟩],.string ⟨word.toArray⟩] w (Ret (.bool (isB k s word)) w):=by
 by_cases h1:k=1
 ·subst h1;go_in
  go_wp2;go_ret;exact⟨by simp[isB],by exact bl⟩
 ·have e1:(k==1)=false:=by simpa using h1
  by_cases h4:k=4
  ·subst h4;go_in
   go_wp2;go_ret;exact⟨by simp[isB],by exact bl⟩
  ·have e4:(k==4)=false:=by simpa using h4
   have HF:Hid (isB k s word=false):=by show _=_;simp[isB,h1,h4]
   clear h1 h4;go_in
   go_wp2;go_ret;exact⟨by rw[HF.out];rfl,by exact bl⟩
def QF(b:Bool)(p:Nat)(A:Option Addr)(c:Nat)(l:List Tok)(a deep:Nat)(w:World)(en:Ending)(w':World):Prop:=
 en=.returned (.bool b)/\PSt p A c l (if b then a+1 else a) deep w'/\But p w w'
theorem Fg(p:Nat)(A:Option Addr)(c:Nat)(l:List Tok)(a deep:Nat)(word:List UInt8)(w:World)(ha:a<=1000)(h:PSt p A c l a deep w):
  Calls Tryz.prog 258 #[.pointer (some ⟨p,0,none⟩),.string ⟨word.toArray⟩] w (QF (hit l a word) p A c l a deep w):=by
 have lp:=h.1.lt;have HP:=Lib.hid h;by_cases hlt:a<l.length
 ·obtain⟨b1,o1,t,rfl,hbB,hv,c0,c1⟩:=h.2.at_ hlt;have hit1:hit l a word=isB t.k t.s word:=by unfold hit;rw[hv]
  rw[hit1];have b0:¬(l.length:Int)<=(a:Int):=by omega
  have i1:(0:Int)<=(a:Int):=by omega
  have i2:(a:Int)<(l.length:Int):=by omega
  have HSH:Hid (∀w':World,Below w.heap.size w w'->(w'.cell? ⟨p,0,none⟩=some (.slice (some ⟨b1,o1,none⟩) l.length c)/\w'.cell? ⟨p,1,none⟩=some (.int .i64 (a:Nat))/\w'.cell? ⟨b1,o1+a * 2,none⟩=some (.int .i64 t.k)/\w'.cell? ⟨b1,o1+a * 2+1,none⟩=some (.string ⟨t.s.toArray⟩))):=
   λw' hb=>⟨(h.1.below hb lp).cell 0,(h.1.below hb lp).cell 1,(hb.cell (p:=⟨b1,o1+a * 2,none⟩) (show b1<_ by omega)).trans c0,(hb.cell (p:=⟨b1,o1+a * 2+1,none⟩) (show b1<_ by omega)).trans c1⟩
  clear c0 c1 hv hit1 h;obtain⟨B,hB⟩:∃B,isB t.k t.s word=B:=⟨_,rfl⟩;rw[hB];have HB:=Lib.hid hB;clear hB;go_in
  go_upto_region 1 with fail
  refine rgn HSH λhHeld=>?_
  refine tS [0,1,2,3,4,5,6,7,8,9,10,11,12,13,14,15,16,17,18,19,20,21] ?_;iterate 22(refine tC ?_;refine ap ?_)
  refine tN ?_;refine rdy 22 λK hK=>?_
  go_simp;refine(Uw t.k t.s word _).mono ?_<;>rw[HB.out]<;>rintro en w5 ⟨rfl,hb5⟩<;>have hz5:=hb5.size<;>have hb15:Below w.heap.size w w5:=(Below.drew (Below.refl _ w)).trans hb5
  go_wp2_with fail;refine hK.out _ _ (HSH.out _ (by exact bl)) λhHeld=>?_
  clear hK K;refine ap ?_;refine tS [23,24] ?_;iterate 2(refine tC ?_;refine ap ?_)
  refine tN ?_;refine wpAnyH_done (by kernel_rfl) ?_ _;have hP5:=HP.out.but hb15;have lp5:=hP5.1.lt;have d1:w5.cell? ⟨p,1,none⟩=some (.int .i64 (a:Nat)):=hP5.1.cell 1;have f1:=hP5.1.frozen 1;cases B
  ·go_wp2_with fail;go_ret;exact⟨rfl,hP5,But.of_below hb15⟩
  ·go_wp2_with fail;go_ret;exact⟨rfl,⟨hP5.1.set_ 1 _,hP5.2.below (by exact bl)⟩,(But.of_below hb15).set 1 _⟩
 ·have hit1:hit l a word=false:=by unfold hit;rw[List.getElem?_eq_none (by omega)]
  rw[hit1];have b0:(l.length:Int)<=(a:Int):=by omega
  have HSH:Hid (∀w':World,Below w.heap.size w w'->(w'.cell? ⟨p,0,none⟩=some (.slice A l.length c)/\w'.cell? ⟨p,1,none⟩=some (.int .i64 (a:Nat)))):=
   λw' hb=>⟨(h.1.below hb lp).cell 0,(h.1.below hb lp).cell 1⟩
  clear hit1 h;go_in
  go_upto_region 1 with fail
  refine rgn HSH λhHeld=>?_
  refine tS [0,1,2,3,4,5,6,7,8,9,10] ?_;iterate 11(refine tC ?_;refine ap ?_)
  refine tN ?_;refine tS [11,12,13,14,15,16,17,18,19,20,21,22,23] ?_;iterate 13(refine tX ?_;refine ap ?_)
  refine tN ?_;refine tS [24] (tC ?_);refine ap (tN ?_);refine wpAnyH_done (by kernel_rfl) ?_ _;go_wp2_with fail;go_ret;exact⟨rfl,HP.out.but (Below.drew (Below.refl _ w)),(But.refl _ _).drew⟩
def Ar(l:List Tok)(a:Nat):List (List UInt8)->Option (List UInt8)
 |[]=>none
 |x::r=>if hit l a x then some x else Ar l a r
def MF(s:List UInt8):Value:=.string ⟨s.toArray⟩
def YN(o:Option (List UInt8))(p:Nat)(A:Option Addr)(c:Nat)(l:List Tok)(a deep:Nat)(w:World)(en:Ending)(w':World):Prop:=
 en=.returned (.string ⟨(o.getD []).toArray⟩)/\PSt p A c l (if o.isSome then a+1 else a) deep w'/\But p w w'
theorem JV(p:Nat)(A:Option Addr)(c:Nat)(l:List Tok)(a deep g:Nat)(ws:List (List UInt8))(w:World)(ha:a<=1000)(hw:ws.length<=1000)(hg:g≠p)(h:PSt p A c l a deep w)(kg:Blk w g 9 (ws.map MF).toArray)(cg:Nat):
  Calls Tryz.prog 255 #[.pointer (some ⟨p,0,none⟩),.slice (some ⟨g,0,none⟩) ws.length cg] w (YN (Ar l a ws) p A c l a deep w):=by
 obtain⟨R,hR⟩:∃R,Ar l a ws=R:=⟨_,rfl⟩;rw[hR];have HR:Hid (Ar l a (ws.drop 0)=R):=hR;clear hR;go_in
 go_wp2;go_loopw [9] (λi wr=>∃j:Nat,j<=ws.length/\i=.int .i64 j/\Hid (Ar l a (ws.drop j)=R)/\Hid (PSt p A c l a deep wr)/\Blk wr g 9 (ws.map MF).toArray/\But p w wr) (λi _=>ws.length - (intOf i).toNat)
 case atStart=>exact⟨0,by omega,rfl,HR,h,kg,But.refl _ _⟩
 case round=>
  obtain⟨j,hj,rfl,HJ,HPr,kgr,hbr⟩:=hrel;have lg:=kgr.lt;by_cases hlt:j<ws.length
  ·obtain⟨x,hx⟩:∃x,ws[j]? = some x:=⟨_,List.getElem?_eq_getElem hlt⟩;have hdr:ws.drop j=x::ws.drop (j+1):=by
    obtain⟨hj',rfl⟩:=List.getElem?_eq_some_iff.1 hx;exact List.drop_eq_getElem_cons hj'
   have hJ:=HJ.out;rw[hdr]at hJ;unfold Ar at hJ;have c0:wr.cell? ⟨g,j,none⟩=some (.string ⟨x.toArray⟩):=by rw[kgr.cell];simp[hx,MF]
   have i1:(0:Int)<=(j:Int):=by omega
   have i2:(j:Int)<(ws.length:Int):=by omega
   clear hdr hx HJ;cases hh:hit l a x
   ·have HF:Hid (Ar l a (ws.drop (j+1))=R):=by show _=_;rw[<-hJ,hh];rfl
    have HH:=Lib.hid hh;clear hJ hh;go_wp2_with fail;refine(Fg p A c l a deep x wr ha HPr.out).mono ?_;rw[HH.out];rintro en w5 ⟨rfl,hP5,hb5⟩;have HP5:=Lib.hid hP5;clear hP5;go_wp2_with fail;go_roundw
    case rel=>exact⟨j+1,by omega,by go_num,HF,HP5,hb5.blk kgr hg,hbr.trans hb5⟩
    case measure=>simp[intOf];omega
   ·have HF:Hid (R=some x):=by show _=_;rw[<-hJ,hh];rfl
    have HH:=Lib.hid hh;clear hJ hh;go_wp2_with fail;refine(Fg p A c l a deep x wr ha HPr.out).mono ?_;rw[HH.out];rintro en w5 ⟨rfl,hP5,hb5⟩;have HP5:=Lib.hid hP5;clear hP5;go_wp2_with fail;go_ret;exact⟨by rw[HF.out];rfl,by rw[HF.out];exact HP5.out,hbr.trans hb5⟩
  ·have HF:Hid (R=none):=by
    show _=_
    rw[<-HJ.out,List.drop_of_length_le (by omega)];rfl
   obtain rfl:j=ws.length:=by omega
   have b0:¬((ws.length:Int)<(ws.length:Int)):=by omega
   clear HJ;go_wp2_with fail;go_ret;exact⟨by rw[HF.out];rfl,by rw[HF.out];exact HPr.out,hbr⟩
end Go.Proofs.YtchilcchogcibaaGreatDoor
