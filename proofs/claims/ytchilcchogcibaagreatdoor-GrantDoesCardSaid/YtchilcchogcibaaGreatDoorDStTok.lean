/- slices.Clone at grants; The document's Without of grants as a plain function; caddislaw09.Few; A drawn region in which calls stand in a chain, and one new variable may be made ahead of, among, or behind them; Plain laws; Plain law; Plain laws. -/
import Derived.Test.YtchilcchogcibaaGreatDoorDR4d
set_option maxRecDepth 100000
set_option maxHeartbeats 2000000
namespace Go.Proofs.YtchilcchogcibaaGreatDoor
open Go.RowKit
attribute [local go_sem] ByteArray.extract_mk ba_get
attribute [local go_sem ↓] Go.wp_at_zero Go.wp_at_succ
theorem run_nil_grs (A : Option Addr) (n c : Nat) (w : World) : (binOp .eql 22 (.slice A n c) (.slice none 0 0)).run Tryz.prog w = .ok (.bool A.isNone) w := Lib.run_eql_slice_nil w _ _ A n c 0 0 Tryz.underlying22
theorem info_grs : (Tryz.prog.info? 54).map (fun i => (i.zero, i.size, i.bytes)) = some (some (.agg #[.string ⟨#[]⟩, .string ⟨#[]⟩, .bool false]), 3, 40) := by kernel_rfl
attribute [local go_sem ↓] run_nil_grs
theorem clone_grs (A : Option Addr) (c n : Nat) (cs : List Value) (w : World) (hl : n ≤ 1000000) (h : Reads w w.heap.size 3 A n cs) (h1 : ∀ u ∈ cs, u.oneCell' = true) :
  Calls Tryz.prog 40 #[.slice A n c] w (RetOwn 54 3 n cs w) := by
 obtain ⟨i0, hi0, zi0, zi1, zi2⟩ := info_parts info_grs
 rcases A with _ | a
 ·have e : n = 0 := by
   rcases Nat.eq_zero_or_pos n with h0 | h0
   ·exact h0
   ·obtain ⟨ad, he, _⟩ := h.2 h0; cases he
  have hn : cs = [] := List.eq_nil_of_length_eq_zero (by have := h.1; rw [e] at this; simpa using this)
  have HE := Lib.hid e
  have HN := Lib.hid hn
  clear e hn h h1
  go_in
  go_wp2
  go_ret
  exact ⟨_, rfl, by rw [HE.out, HN.out]; exact World.ownsRow_nil _ _ _ _, Below.refl _ _⟩
 ·have hown0 : (w.alloc (.cells #[] 54)).ownsRow w.heap.size 54 3 (.slice (some ⟨w.heap.size, 0, none⟩) 0 0) 0 [] := World.ownsRow_made w #[] 0 (Nat.le_refl _) (Nat.zero_le _) rfl
  have hba : Below w.heap.size w (w.alloc (.cells #[] 54)) := (Below.refl _ _).alloc (Nat.le_refl _) _
  have hva : Reads (w.alloc (.cells #[] 54)) w.heap.size 3 (some a) n cs := ⟨h.1, fun h0 => by
   obtain ⟨ad, e1, e2, e3⟩ := h.2 h0
   exact ⟨ad, e1, e2, fun j u hu => (hba.cell (p := ad.add j) (by rw [World.addr_add_block]; exact e2)).trans (e3 j u hu)⟩⟩
  have HV := Lib.hid hva
  have H1 := Lib.hid h1
  clear hva h h1
  go_in
  go_wp2_with (at_builtin; refine wpList_append_any _ rfl (.tmp 5) (.tmp 6) 22 rfl w.heap.size 54 i0 _ 3 40 Tryz.underlying22 hi0 zi0 zi1 zi2 rfl (by decide) _ _ _ rfl hown0 w.heap.size (some a) n c _ rfl HV.out H1.out ?c1 ?c2 ?c3 ?_)
  case c1 => unfold maxLen; omega
  case c2 => omega
  case c3 => simp
  intro v5 w5 hown5 hg5 hat5
  have hb5 : Below w.heap.size w w5 := hba.grown hg5 (by simp) (by simp [Value.ownBlock])
  have HO : Hid (w5.ownsRow w.heap.size 54 3 v5 n cs) := by first | exact hown5 | (simp only [Nat.zero_add, List.nil_append] at hown5; exact hown5) | (have := hown5; simp at this; exact this)
  clear hown5 hg5 hat5
  go_wp2
  go_ret
  exact ⟨_, rfl, HO.out, hb5⟩
def Gr.cells (g : Gr) : List Value := [.string ⟨g.r.toArray⟩, .string ⟨g.t.toArray⟩, .bool g.w]
def gcs (l : List Gr) : List Value := l.flatMap Gr.cells
theorem gcs_len (l : List Gr) : (gcs l).length = l.length * 3 := by
 induction l with
 | nil => rfl
 | cons x r ih => unfold gcs at *; rw [List.flatMap_cons, List.length_append, ih, List.length_cons]; simp [Gr.cells]; omega
theorem gcs_app (a b : List Gr) : gcs (a ++ b) = gcs a ++ gcs b := by unfold gcs; simp
theorem gcs_at : ∀ (l : List Gr) (i j : Nat) (v : Gr), l[i]? = some v → j < 3 → (gcs l)[i * 3 + j]? = v.cells[j]? := by
 intro l
 induction l with
 | nil => intro i j v h; simp at h
 | cons x r ih =>
  intro i j v h hj
  unfold gcs at *
  cases i with
  | zero =>
   simp at h; subst h
   rw [List.flatMap_cons, List.getElem?_append_left (by simp [Gr.cells]; omega)]
   simp
  | succ i =>
   rw [List.flatMap_cons, List.getElem?_append_right (by simp [Gr.cells]; omega)]
   have e : (i + 1) * 3 + j - x.cells.length = i * 3 + j := by simp [Gr.cells]; omega
   rw [e]
   exact ih i j v (by simpa using h) hj
theorem gcs_one (l : List Gr) : ∀ u ∈ gcs l, u.oneCell' = true := by
 intro u hu
 unfold gcs at hu
 rw [List.mem_flatMap] at hu
 obtain ⟨x, _, h⟩ := hu
 simp only [Gr.cells, List.mem_cons, List.not_mem_nil, or_false] at h
 rcases h with rfl | rfl | rfl <;> rfl
theorem GQ.reads {l : List Gr} {A : Option Addr} {w : World} (h : GQ l A (Old w.heap.size) w) : Reads w w.heap.size 3 A l.length (gcs l) := by
 refine ⟨gcs_len l, fun hn => ?_⟩
 obtain ⟨b, off, rfl, hb, hr⟩ := h hn
 refine ⟨⟨b, off, none⟩, rfl, hb, fun j u hu => ?_⟩
 have hj : j < (gcs l).length := (List.getElem?_eq_some_iff.1 hu).1
 rw [gcs_len] at hj
 obtain ⟨i, k, hk, rfl⟩ : ∃ i k, k < 3 ∧ j = i * 3 + k := ⟨j / 3, j % 3, Nat.mod_lt _ (by omega), by omega⟩
 have hi : i < l.length := by omega
 rw [gcs_at l i k l[i] (List.getElem?_eq_getElem hi) hk] at hu
 obtain ⟨c0, c1, c2⟩ := hr i l[i] (List.getElem?_eq_getElem hi)
 rw [add_mid]
 match k, hk with
 | 0, _ => simp [Gr.cells] at hu; subst hu; exact c0
 | 1, _ => simp [Gr.cells] at hu; subst hu; rw [← Nat.add_assoc]; exact c1
 | 2, _ => simp [Gr.cells] at hu; subst hu; rw [← Nat.add_assoc]; exact c2
theorem GQ.own {w : World} {base : Nat} {e : TypeId} {sv : Value} {n : Nat} {l : List Gr} (h : w.ownsRow base e 3 sv n (gcs l)) :
  ∃ A c, sv = .slice A l.length c ∧ l.length ≤ c ∧ c ≤ maxLen ∧ GQ l A (fun b => base ≤ b ∧ b < w.heap.size) w := by
 have hn : l.length = n := by have := h.1; rw [gcs_len] at this; omega
 rcases h.2 with ⟨rfl, h0⟩ | ⟨g, cap, cur, rfl, hb, hg, hnc, hcm, hcs, htk⟩
 ·exact ⟨none, 0, by rw [hn, h0], by omega, Nat.zero_le _, fun hl => absurd hl (by omega)⟩
 ·refine ⟨some ⟨g, 0, none⟩, cap, by rw [hn], by omega, hcm, fun _ => ⟨g, 0, rfl, ⟨hb, (Array.getElem?_eq_some_iff.1 hg).1⟩, fun i v hv => ?_⟩⟩
  have hc := h.cells (g := g) rfl
  have key : ∀ j u, j < 3 → v.cells[j]? = some u → w.cell? ⟨g, 0 + i * 3 + j, none⟩ = some u := by
   intro j u hj hu
   have := hc (i * 3 + j) u (by rw [gcs_at l i j v hv hj]; exact hu)
   rw [add_mid] at this
   rw [Nat.add_assoc]
   exact this
  exact ⟨key 0 _ (by omega) rfl, key 1 _ (by omega) rfl, key 2 _ (by omega) rfl⟩
end Go.Proofs.YtchilcchogcibaaGreatDoor
namespace Go.Proofs.YtchilcchogcibaaGreatDoor
open Go.RowKit
attribute [local go_sem] ByteArray.extract_mk ba_get ba_append
attribute [local go_sem ↓] Go.wp_at_zero Go.wp_at_succ run_eql_G
def RetGs (l : List Gr) (w : World) (en : Ending) (w' : World) : Prop := ∃ sv, en = .returned sv ∧ w'.ownsRow w.heap.size 54 3 sv l.length (gcs l) ∧ Below w.heap.size w w'
theorem gcs_snoc (l : List Gr) (x : Gr) : gcs (l ++ [x]) = gcs l ++ [.string ⟨x.r.toArray⟩, .string ⟨x.t.toArray⟩, .bool x.w] := by rw [gcs_app]; rfl
theorem infoGr : (Tryz.prog.info? 54).map (fun i => (i.zero, i.size, i.bytes)) = some (some (.agg #[.string ⟨#[]⟩, .string ⟨#[]⟩, .bool false]), 3, 40) := by kernel_rfl
end Go.Proofs.YtchilcchogcibaaGreatDoor
namespace Go.Proofs.YtchilcchogcibaaGreatDoor
open Go.RowKit
attribute [local go_sem] ByteArray.extract_mk ba_get ba_append
attribute [local go_sem ↓] Go.wp_at_zero Go.wp_at_succ
def fewGr (g : Gr) : Gr := ⟨g.r.take 20, g.t.take 20, g.w⟩
def fewG (l : List Gr) : List Gr := (l.take 61).map fewGr
theorem fewG_snoc (l : List Gr) (j : Nat) (v : Gr) (h : l[j]? = some v) : (l.take (j + 1)).map fewGr = (l.take j).map fewGr ++ [fewGr v] := by
 rw [List.take_add_one, h]; simp
theorem fewG_len (l : List Gr) : (fewG l).length ≤ 61 := by unfold fewG; simp; omega
theorem fewG_short (l : List Gr) : ∀ g ∈ fewG l, g.r.length ≤ 20 ∧ g.t.length ≤ 20 := by
 intro g hg
 unfold fewG at hg
 obtain ⟨x, _, rfl⟩ := List.mem_map.1 hg
 exact ⟨List.length_take_le _ _, List.length_take_le _ _⟩
theorem few9_any (A : Option Addr) (c : Nat) (l : List Gr) (w : World) (hl : l.length ≤ maxLen) (h : GQ l A (Old w.heap.size) w) :
  Calls Tryz.prog 12 #[.slice A l.length c] w (RetGs (fewG l) w) := by
 unfold maxLen at hl
 obtain ⟨i0, hi0, zi0, zi1, zi2⟩ := info_parts infoGr
 go_in
 go_wp2
 go_loopw [3, 4] (fun v i wr => ∃ j : Nat, j ≤ l.length ∧ j ≤ 61 ∧ i = .int .i64 j ∧ wr.ownsRow w.heap.size 54 3 v j (gcs ((l.take j).map fewGr)) ∧ Below w.heap.size w wr) (fun _ i _ => l.length - (intOf i).toNat)
 case atStart => exact ⟨0, by omega, by omega, rfl, World.ownsRow_nil _ _ _ _, Below.refl _ _⟩
 case round =>
  obtain ⟨j, hj1, hj2, rfl, hown, hbw⟩ := hrel
  have hzw := hbw.size
  by_cases hlt : j < l.length
  ·by_cases h14 : j < 61
   ·obtain ⟨b, off, x, hA, hbB, hx, c0, c1, c2⟩ := h.at_ hlt
    subst hA
    have hbB2 : b < w.heap.size := hbB
    obtain ⟨W, rfl⟩ : ∃ W, W = wr := ⟨_, rfl⟩
    have HX := Lib.hid hx
    have HOW := Lib.hid hown
    have HLT := Lib.hid hown.lt
    have i1 : (0 : Int) ≤ (j : Int) := by omega
    have i2 : (j : Int) < (l.length : Int) := by omega
    obtain ⟨xr, xt, xw⟩ := x
    dsimp only at c0 c1 c2
    obtain ⟨VR, hR⟩ : ∃ V, xr.take 20 = V := ⟨_, rfl⟩
    obtain ⟨VT, hT⟩ : ∃ V, xt.take 20 = V := ⟨_, rfl⟩
    have HT1 : Hid (∀ Z : World, Calls Tryz.prog 13 #[.string ⟨xr.toArray⟩] Z (Ret (.string ⟨VR.toArray⟩) Z)) := fun Z => by rw [← hR]; exact text9_any xr Z
    have HT2 : Hid (∀ Z : World, Calls Tryz.prog 13 #[.string ⟨xt.toArray⟩] Z (Ret (.string ⟨VT.toArray⟩) Z)) := fun Z => by rw [← hT]; exact text9_any xt Z
    have HG : Hid (fewGr ⟨xr, xt, xw⟩ = ⟨VR, VT, xw⟩) := by show _ = _; rw [← hR, ← hT]; rfl
    have HS : Hid (∀ Z : World, Below w.heap.size w Z → Z.cell? ⟨b, off + j * 3, none⟩ = some (.string ⟨xr.toArray⟩) ∧ Z.cell? ⟨b, off + j * 3 + 1, none⟩ = some (.string ⟨xt.toArray⟩) ∧ Z.cell? ⟨b, off + j * 3 + 2, none⟩ = some (.bool xw)) := fun Z hz =>
     ⟨(hz.cell (p := ⟨b, off + j * 3, none⟩) hbB2).trans c0, (hz.cell (p := ⟨b, off + j * 3 + 1, none⟩) hbB2).trans c1, (hz.cell (p := ⟨b, off + j * 3 + 2, none⟩) hbB2).trans c2⟩
    clear hx hown hR hT c0 c1 c2
    go_upto_region 5 with fail
    refine wp_region_held_drew (S := (fun Z => Z.cell? ⟨b, off + j * 3, none⟩ = some (.string ⟨xr.toArray⟩) ∧ Z.cell? ⟨b, off + j * 3 + 1, none⟩ = some (.string ⟨xt.toArray⟩) ∧ Z.cell? ⟨b, off + j * 3 + 2, none⟩ = some (.bool xw))) (by kernel_rfl) ?_ (fun hHeld => ?_)
    ·try dsimp only
     first | exact HS.out _ (by assumption) | exact HS.out _ (by ((with_reducible repeat' (first | exact bwR | assumption | refine bwD ?_ | refine bwN ?_ | refine bwS ?_ ?_ | refine bwA ?_ ?_ | refine bwT ?_ (by assumption) ?_)) <;> first | (simp; done) | (simp; omega) | omega))
    refine tS [0, 1, 2, 3, 4, 5, 7, 8, 9, 10, 11, 13, 14, 15, 16, 17] ?_
    iterate 16 (refine tC ?_; refine ap ?_)
    refine tN ?_
    refine rdy 6 fun K hK => ?_
    go_simp
    (refine (HT1.out _).mono ?_) <;> rintro en w6 ⟨rfl, hb6⟩ <;> have hz6 := hb6.size <;> (try simp at hz6)
    go_wp2_with fail
    refine hK.out _ _ ?_ (fun hHeld => ?_)
    ·try dsimp only
     first | exact HS.out _ (by assumption) | exact HS.out _ (by ((with_reducible repeat' (first | exact bwR | assumption | refine bwD ?_ | refine bwN ?_ | refine bwS ?_ ?_ | refine bwA ?_ ?_ | refine bwT ?_ (by assumption) ?_)) <;> first | (simp; done) | (simp; omega) | omega))
    clear hK K
    refine ap ?_
    refine rdy 12 fun K hK => ?_
    go_simp
    (refine (HT2.out _).mono ?_) <;> rintro en w12 ⟨rfl, hb12⟩ <;> have hz12 := hb12.size <;> (try simp at hz12)
    go_wp2_with fail
    refine hK.out _ _ ?_ (fun hHeld => ?_)
    ·try dsimp only
     first | exact HS.out _ (by assumption) | exact HS.out _ (by ((with_reducible repeat' (first | exact bwR | assumption | refine bwD ?_ | refine bwN ?_ | refine bwS ?_ ?_ | refine bwA ?_ ?_ | refine bwT ?_ (by assumption) ?_)) <;> first | (simp; done) | (simp; omega) | omega))
    clear hK K
    refine ap ?_
    refine tS [18] (tC ?_)
    refine ap (tN ?_)
    refine rdy 19 fun K hK => ?_
    go_simp
    skip
    go_wp2_with fail
    refine hK.out _ _ ?_ (fun hHeld => ?_)
    ·try dsimp only
     first | exact HS.out _ (by assumption) | exact HS.out _ (by ((with_reducible repeat' (first | exact bwR | assumption | refine bwD ?_ | refine bwN ?_ | refine bwS ?_ ?_ | refine bwA ?_ ?_ | refine bwT ?_ (by assumption) ?_)) <;> first | (simp; done) | (simp; omega) | omega))
    clear hK K
    refine ap ?_
    refine rdy 20 fun K hK => ?_
    have hb12' : Below W.heap.size W w12 := (by ((with_reducible repeat' (first | exact bwR | assumption | refine bwD ?_ | refine bwN ?_ | refine bwS ?_ ?_ | refine bwA ?_ ?_ | refine bwT ?_ (by assumption) ?_)) <;> first | (simp; done) | (simp; omega) | omega)); refine step_append_lies _ rfl (.tmp 15) (.tmp 34) 22 rfl w.heap.size 54 i0 _ 3 40 Tryz.underlying22 hi0 zi0 zi1 zi2 rfl (by decide) u3 j (gcs ((l.take j).map fewGr)) (by simp [Act.eval]) ((own_below HOW.out hb12').alloc _) ⟨w12.heap.size, 0, none⟩ 1 1 [.string ⟨VR.toArray⟩, .string ⟨VT.toArray⟩, .bool xw] (by simp [Act.eval]) rfl (World.news_of_block (cs := #[.string ⟨VR.toArray⟩, .string ⟨VT.toArray⟩, .bool xw]) (t := 54) (fr := (0, 0)) (heap_alloc_new w12 _)) (by simp [Value.oneCell']) (by omega) (by unfold maxLen; omega) (by omega) (by simp; omega) _ rfl ?_; intro g5 cap w20 hown20 hg20 hor20 hl20; have hb20w : Below w.heap.size w w20 := Below.grown ((hbw.trans (hb12'.mono hzw)).alloc (by omega) _) hg20 (by simp; omega) (fun k hk => (HLT.out k hk).1)
    refine hK.out _ _ ?_ (fun hHeld => ?_)
    ·try dsimp only
     first | exact HS.out _ (by assumption) | exact HS.out _ (by ((with_reducible repeat' (first | exact bwR | assumption | refine bwD ?_ | refine bwN ?_ | refine bwS ?_ ?_ | refine bwA ?_ ?_ | refine bwT ?_ (by assumption) ?_)) <;> first | (simp; done) | (simp; omega) | omega))
    clear hK K
    refine ap ?_
    refine tS [21] (tC ?_)
    refine ap (tN ?_)
    refine wpAnyH_done (by kernel_rfl) ?_ _
    go_wp2_with fail
    go_roundw
    case rel => exact ⟨j + 1, by omega, by omega, by go_num, by rw [fewG_snoc l j _ HX.out, gcs_app, HG.out]; exact hown20, hb20w⟩
    case measure => simp [intOf]; omega
   ·have e : fewG l = (l.take j).map fewGr := by unfold fewG; rw [show j = 61 by omega]
    have hn : (fewG l).length = j := by rw [e]; simp; omega
    go_wp2
    go_ret
    exact ⟨_, rfl, by rw [hn, e]; exact hown, hbw⟩
  ·have e : fewG l = (l.take j).map fewGr := by unfold fewG; rw [List.take_of_length_le (i := 61) (by omega), List.take_of_length_le (by omega)]
   have hn : (fewG l).length = j := by rw [e]; simp; omega
   have HE := Lib.hid (And.intro e hn)
   clear e hn
   go_wp2
   go_ret
   exact ⟨_, rfl, by rw [HE.out.2, HE.out.1]; exact hown, hbw⟩
end Go.Proofs.YtchilcchogcibaaGreatDoor
namespace Go.Proofs.YtchilcchogcibaaGreatDoor
open Go Go.RowKit
section
variable {P : Program} {ops : Array Oper} {Q : Exit → Act → World → Prop} {md : Region.Mode} {S : World → Prop}
def uptoC (base : Array Bool) (ks : List Nat) (z j : Nat) (d : Bool) : Array Bool :=
 if d then ((ks.take j).foldl (fun L i => L.setIfInBounds i true) base).setIfInBounds z true else (ks.take j).foldl (fun L i => L.setIfInBounds i true) base
theorem chain_new {n z f0 : Nat} {kk : Nat → Nat} {Ls : Nat → Bool → Array Bool} (I : Nat → Option Nat → Act → World → Prop)
  (hL : ∀ j, j < n → ∀ d, (Ls j d).setIfInBounds (kk j) true = Ls (j + 1) d) (hZ : ∀ j, j < n + 1 → (Ls j false).setIfInBounds z true = Ls j true)
  (hr1 : ∀ j, j < n → Region.ready md ops (Ls j true) = [kk j]) (hr2 : ∀ j, j < n → (Region.ready md ops (Ls j false)).all (fun i => i == kk j || i == z) = true ∧ (Region.ready md ops (Ls j false)).isEmpty = false) (hr3 : Region.ready md ops (Ls n false) = [z])
  (hcall : ∀ j d a w, j < n → I j d a w → wpOp P ops Q (kk j) (fun a' w' => S w' ∧ I (j + 1) d a' w') a w)
  (hnew : ∀ j a w, j < n + 1 → I j none a w → wpOp P ops Q z (fun a' w' => S w' ∧ ∃ g, I j (some g) a' w') a w)
  (hfin : ∀ g a w, I n (some g) a w → wpAnyH P md ops Q S f0 (Ls n true) a w) :
  ∀ (m j : Nat) (d : Option Nat) (a : Act) (w : World), m = (n - j) + (if d.isSome then 0 else 1) → j ≤ n → I j d a w → wpAnyH P md ops Q S (m + f0) (Ls j d.isSome) a w := by
 intro m
 induction m with
 | zero =>
  intro j d a w hm hj hI
  cases d with
  | none => simp at hm
  | some g =>
   simp at hm
   obtain rfl : j = n := by omega
   rw [Nat.zero_add]
   exact hfin g a w hI
 | succ m ih =>
  intro j d a w hm hj hI
  rw [show m + 1 + f0 = (m + f0) + 1 by omega]
  have call : j < n → wpOp P ops Q (kk j) (fun a' w' => S w' ∧ wpAnyH P md ops Q S (m + f0) ((Ls j d.isSome).setIfInBounds (kk j) true) a' w') a w := fun hlt => by
   refine wpOp_mono (fun a' w' h => ⟨h.1, ?_⟩) (hcall j d a w hlt hI)
   rw [hL j hlt]
   refine ih (j + 1) d a' w' ?_ (by omega) h.2
   cases d <;> simp at hm ⊢ <;> omega
  cases d with
  | some g =>
   have hlt : j < n := by simp at hm; omega
   refine ⟨fun h => ?_, fun i hi => ?_⟩
   ·rw [show (some g).isSome = true from rfl, hr1 j hlt] at h; cases h
   ·rw [show (some g).isSome = true from rfl, hr1 j hlt] at hi
    obtain rfl := List.mem_singleton.1 hi
    exact call hlt
  | none =>
   have new : wpOp P ops Q z (fun a' w' => S w' ∧ wpAnyH P md ops Q S (m + f0) ((Ls j (none : Option Nat).isSome).setIfInBounds z true) a' w') a w := by
    refine wpOp_mono (fun a' w' h => ⟨h.1, ?_⟩) (hnew j a w (by omega) hI)
    obtain ⟨_, g, hg⟩ := h
    rw [show (none : Option Nat).isSome = false from rfl, hZ j (by omega)]
    exact ih j (some g) a' w' (by simp at hm ⊢; omega) hj hg
   by_cases hlt : j < n
   ·obtain ⟨h1, h2⟩ := hr2 j hlt
    refine ⟨fun h => ?_, fun i hi => ?_⟩
    ·rw [show (none : Option Nat).isSome = false from rfl] at h
     rw [h] at h2; cases h2
    ·have := List.all_eq_true.1 h1 i hi
     simp only [Bool.or_eq_true, beq_iff_eq] at this
     rcases this with rfl | rfl
     ·exact call hlt
     ·exact new
   ·obtain rfl : j = n := by omega
    refine ⟨fun h => ?_, fun i hi => ?_⟩
    ·rw [show (none : Option Nat).isSome = false from rfl, hr3] at h; cases h
    ·rw [show (none : Option Nat).isSome = false from rfl, hr3] at hi
     obtain rfl := List.mem_singleton.1 hi
     exact new
def updV (V : Nat → Value) (j : Nat) (u : Value) : Nat → Value := fun i => if i = j then u else V i
theorem updV_other (V : Nat → Value) {i j : Nat} (u : Value) (h : i ≠ j) : updV V j u i = V i := if_neg h
def ptrV : Option Nat → Value
 | some g => .pointer (some ⟨g, 0, none⟩)
 | none => undef
def ChainI (F : (Nat → Value) → Value → Array Value) (w0 : World) (t : TypeId) (zs : Array Value) (A : Nat → (Nat → Value) → (Nat → Prop) → World → Prop) (S : World → Prop) (j : Nat) (d : Option Nat) (a : Act) (w : World) : Prop :=
 ∃ V : Nat → Value, a = ⟨F V (ptrV d), []⟩ ∧ Below w0.heap.size w0 w ∧ S w ∧ (∀ i, i < j → A i V (fun b => (w0.heap.size ≤ b ∧ b < w.heap.size) ∧ d ≠ some b) w) ∧ ∀ g, d = some g → w0.heap.size ≤ g ∧ Blk w g t zs
theorem chain_go {n z f0 sz : Nat} {kk sl : Nat → Nat} {Ls : Nat → Bool → Array Bool} {F : (Nat → Value) → Value → Array Value} {w0 : World} {t : TypeId} {zs : Array Value} {A : Nat → (Nat → Value) → (Nat → Prop) → World → Prop}
  (hL : ∀ j, j < n → ∀ d, (Ls j d).setIfInBounds (kk j) true = Ls (j + 1) d) (hZ : ∀ j, j < n + 1 → (Ls j false).setIfInBounds z true = Ls j true)
  (hr1 : ∀ j, j < n → Region.ready md ops (Ls j true) = [kk j]) (hr2 : ∀ j, j < n → (Region.ready md ops (Ls j false)).all (fun i => i == kk j || i == z) = true ∧ (Region.ready md ops (Ls j false)).isEmpty = false) (hr3 : Region.ready md ops (Ls n false) = [z])
  (hput : ∀ j, j < n → ∀ V x u, (Act.mk (F V x) []).put (some (sl j)) u = ⟨F (updV V j u) x, []⟩) (hputz : ∀ V u, (Act.mk (F V undef) []).put (some sz) u = ⟨F V u, []⟩)
  (hA : ∀ (j : Nat) (V : Nat → Value) (Q Q' : Nat → Prop) (w w' : World), (∀ b, Q b → Q' b ∧ ∀ o, w'.cell? ⟨b, o, none⟩ = w.cell? ⟨b, o, none⟩) → A j V Q w → A j V Q' w') (hE : ∀ (j k : Nat) (V : Nat → Value) (u : Value) (Q : Nat → Prop) (w : World), j < k → A j V Q w → A j (updV V k u) Q w)
  (hstep : ∀ j, j < n → ∀ (V : Nat → Value) (x : Value) (Qd : Nat → Prop) (w : World), Below w0.heap.size w0 w → S w → (∀ i, i < j → A i V Qd w) →
   wpOp P ops Q (kk j) (fun a' w' => S w' ∧ ∃ u, a' = (Act.mk (F V x) []).put (some (sl j)) u ∧ A j (updV V j u) (fun b => w.heap.size ≤ b ∧ b < w'.heap.size) w' ∧ Below w.heap.size w w') ⟨F V x, []⟩ w)
  (hnew : ∀ (V : Nat → Value) (w : World), Below w0.heap.size w0 w → S w →
   wpOp P ops Q z (fun a' w' => S w' ∧ a' = (Act.mk (F V undef) []).put (some sz) (.pointer (some ⟨w.heap.size, 0, none⟩)) ∧ w' = w.alloc (.cells zs t)) ⟨F V undef, []⟩ w)
  (hfin : ∀ (g : Nat) (V : Nat → Value) (w : World), Below w0.heap.size w0 w → S w → w0.heap.size ≤ g → Blk w g t zs → (∀ i, i < n → A i V (fun b => (w0.heap.size ≤ b ∧ b < w.heap.size) ∧ b ≠ g) w) → wpAnyH P md ops Q S f0 (Ls n true) ⟨F V (.pointer (some ⟨g, 0, none⟩)), []⟩ w)
  (w : World) (hw : Below w0.heap.size w0 w) (hS : S w) (a : Act) (ha : a = ⟨F (fun _ => undef) undef, []⟩) (Ln : Array Bool) (hLn : Ln = Ls 0 false) (fuel : Nat) (hf : fuel = n + 1 + f0) : wpAnyH P md ops Q S fuel Ln a w := by
 subst ha hLn hf
 refine chain_new (n := n) (z := z) (f0 := f0) (kk := kk) (Ls := Ls) (ChainI F w0 t zs A S) hL hZ hr1 hr2 hr3 ?_ ?_ ?_ (n + 1) 0 none _ w (by simp) (Nat.zero_le _) ⟨fun _ => undef, rfl, hw, hS, fun i h => absurd h (Nat.not_lt_zero _), fun g h => by cases h⟩
 ·rintro j d a w hj ⟨V, rfl, hb, hs, hans, hg⟩
  refine wpOp_mono ?_ (hstep j hj V (ptrV d) _ w hb hs hans)
  rintro a' w' ⟨hs', u, rfl, hu, hb'⟩
  have hz := hb'.size
  refine ⟨hs', updV V j u, hput j hj V _ u, hb.trans (hb'.mono hb.size), hs', fun i hi => ?_, fun g e => ?_⟩
  ·rcases Nat.lt_or_ge i j with h | h
   ·refine hA _ _ _ _ _ _ (fun b hb2 => ⟨⟨⟨hb2.1.1, Nat.lt_of_lt_of_le hb2.1.2 hz⟩, hb2.2⟩, fun o => hb'.cell (p := ⟨b, o, none⟩) hb2.1.2⟩) (hE i j V u _ w h (hans i h))
   ·obtain rfl : i = j := by omega
    refine hA _ _ _ _ _ _ (fun b hb2 => ⟨⟨⟨Nat.le_trans hb.size hb2.1, hb2.2⟩, fun e => ?_⟩, fun o => rfl⟩) hu
    have := (hg b e).2.lt
    omega
  ·obtain ⟨h1, h2⟩ := hg g e
   exact ⟨h1, h2.below hb' h2.lt⟩
 ·rintro j a w hj ⟨V, rfl, hb, hs, hans, _⟩
  refine wpOp_mono ?_ (hnew V w hb hs)
  rintro a' w' ⟨hs', rfl, rfl⟩
  have hbn : Below w.heap.size w (w.alloc (.cells zs t)) := (Below.refl _ _).alloc (Nat.le_refl _) _
  refine ⟨hs', w.heap.size, V, hputz V _, hb.trans (hbn.mono hb.size), hs', fun i hi => ?_, fun g e => ?_⟩
  ·refine hA _ _ _ _ _ _ (fun b hb2 => ⟨⟨⟨hb2.1.1, Nat.lt_of_lt_of_le hb2.1.2 hbn.size⟩, fun e => ?_⟩, fun o => hbn.cell (p := ⟨b, o, none⟩) hb2.1.2⟩) (hans i hi)
   injection e with e
   have := hb2.1.2
   omega
  ·injection e with e
   subst e
   exact ⟨hb.size, Blk.new w _ _⟩
 ·rintro g a w ⟨V, rfl, hb, hs, hans, hg⟩
  obtain ⟨h1, h2⟩ := hg g rfl
  exact hfin g V w hb hs h1 h2 fun i hi => hA _ _ _ _ _ _ (fun b hb2 => ⟨⟨hb2.1, fun e => hb2.2 (by rw [e])⟩, fun o => rfl⟩) (hans i hi)
end
end Go.Proofs.YtchilcchogcibaaGreatDoor
namespace Go.Proofs.YtchilcchogcibaaGreatDoor
open Go.RowKit
def wd (s : List UInt8) : Tok := ⟨1, s⟩
def sg (c : UInt8) : Tok := ⟨4, [c]⟩
def valK (v : V) : List Tok :=
 if v.k = 1 then (if v.i < 0 then [sg 45, ⟨2, Lib.decDigits v.i.natAbs⟩] else [⟨2, Lib.decDigits v.i.toNat⟩])
 else if v.k = 2 then [⟨3, v.s⟩] else if v.k = 3 then (if v.i = 1 then [wd [84, 82, 85, 69]] else [wd [70, 65, 76, 83, 69]]) else [wd [78, 85, 76, 76]]
def opK (op : List UInt8) : Tok := if op = opAnd then wd [65, 78, 68] else if op = opOr then wd [79, 82] else ⟨4, op⟩
def tokX : Nat → Ex → List Tok
 | 0, _ => []
 | n + 1, e =>
  if e.op = opLit then valK e.v else if e.op = opCol then [wd e.s]
  else if e.op = opNot then sg 40 :: wd [78, 79, 84] :: (tokX n (e.l.getD 0 exZero) ++ [sg 41])
  else if e.op = opNull then sg 40 :: (tokX n (e.l.getD 0 exZero) ++ [wd [73, 83], wd [78, 85, 76, 76], sg 41])
  else sg 40 :: (tokX n (e.l.getD 0 exZero) ++ opK e.op :: (tokX n (e.l.getD 1 exZero) ++ [sg 41]))
def fitE : Nat → Ex → Prop
 | 0, e => fitI e.v.i
 | n + 1, e => fitI e.v.i ∧ ∀ x ∈ e.l, fitE n x
theorem fitE_v {n : Nat} {e : Ex} (h : fitE n e) : fitI e.v.i := by cases n with | zero => exact h | succ n => exact h.1
theorem dec_len : ∀ (k u : Nat), u < 10 ^ (k + 1) → (Lib.decDigits u).length ≤ k + 1
 | 0, u, h => by
  rw [Lib.decDigits_one (by omega)]
  simp
 | k + 1, u, h => by
  by_cases hu : u < 10
  ·rw [Lib.decDigits_one hu]; simp
  ·rw [Lib.decDigits, dif_neg hu, List.length_append]
   have := dec_len k (u / 10) (by rw [Nat.pow_succ] at h; omega)
   simp only [List.length_cons, List.length_nil]
   omega
theorem form_cases {n : Nat} {e : Ex} (h : formE (n + 1) e = true) :
  (e = .mk opLit e.v [] [] ∧ mayB e.v.k e.v.i e.v.s = true) ∨ (e = .mk opCol V.zero e.s [] ∧ nameB e.s = true ∧ reserved e.s = false) ∨
  (∃ a, e = .mk opNot V.zero [] [a] ∧ formE n a = true) ∨ (∃ a, e = .mk opNull V.zero [] [a] ∧ formE n a = true) ∨ ∃ op a b, e = .mk op V.zero [] [a, b] ∧ twoB op = true ∧ formE n a = true ∧ formE n b = true := by
 have hz : ∀ v : V, veq v V.zero = true → v = V.zero := fun v h => by
  obtain ⟨k, i, s⟩ := v
  simp only [veq, Bool.and_eq_true, beq_iff_eq, decide_eq_true_eq] at h
  obtain ⟨h1, h2, h3⟩ := h
  show V.mk k i s = V.mk 0 0 []
  rw [show k = 0 from h1, show i = 0 from h2, show s = [] from h3]
 by_cases hl : e.op = opLit
 ·rw [form_lit hl] at h
  simp only [Bool.and_eq_true, beq_iff_eq, decide_eq_true_eq] at h
  obtain ⟨h1, h2, h3⟩ := h
  refine .inl ⟨?_, h1⟩
  rw [← hl]
  conv => lhs; rw [Ex.eta e]
  rw [h2, List.eq_nil_of_length_eq_zero h3]
 ·by_cases hc : e.op = opCol
  ·rw [form_col hl hc] at h
   simp only [Bool.and_eq_true, Bool.not_eq_true', decide_eq_true_eq] at h
   obtain ⟨h1, h2, h3, h4⟩ := h
   refine .inr (.inl ⟨?_, h2, h3⟩)
   rw [← hc]
   conv => lhs; rw [Ex.eta e]
   rw [hz _ h1, List.eq_nil_of_length_eq_zero h4]
  ·by_cases ho : e.op = opNot ∨ e.op = opNull
   ·rw [form_one hl hc ho] at h
    obtain ⟨op, v, s, l⟩ := e
    simp only [Bool.and_eq_true, beq_iff_eq, Ex.v, Ex.s, Ex.l] at h
    obtain ⟨h1, h2, h3, h4⟩ := h
    match l, h3, h4 with
    | [a], _, h4 =>
     rcases ho with ho | ho
     ·exact .inr (.inr (.inl ⟨a, by rw [hz v h1, h2, show op = opNot from ho], h4⟩))
     ·exact .inr (.inr (.inr (.inl ⟨a, by rw [hz v h1, h2, show op = opNull from ho], h4⟩)))
   ·by_cases ht : twoB e.op = true
    ·rw [form_two hl hc ho ht] at h
     obtain ⟨op, v, s, l⟩ := e
     simp only [Bool.and_eq_true, beq_iff_eq, Ex.v, Ex.s, Ex.l] at h
     obtain ⟨h1, h2, h3, h4, h5⟩ := h
     match l, h3, h4, h5 with
     | [a, b], _, h4, h5 => exact .inr (.inr (.inr (.inr ⟨op, a, b, by rw [hz v h1, h2], ht, h4, h5⟩)))
    ·rw [form_no hl hc ho ht] at h
     cases h
theorem twoB_ne {op : List UInt8} (h : twoB op = true) : ¬ op = opLit ∧ ¬ op = opCol ∧ ¬ op = opNot ∧ ¬ op = opNull := by
 rw [twoB_iff] at h
 rcases h with rfl | rfl | rfl | rfl | rfl | rfl <;> decide
theorem mayX_form {e : Ex} (h : mayX e = true) : formE 12 e = true := by
 have := (may_form 12 1 0 e (by omega) (by omega)).1
 unfold mayX may at h
 rw [this] at h
 simp only [Bool.and_eq_true] at h
 exact h.1
theorem form_up : ∀ (n : Nat) (e : Ex), formE n e = true → formE (n + 1) e = true := by
 intro n
 induction n with
 | zero => intro e h; simp [formE] at h
 | succ n ih =>
  intro e h
  rcases form_cases h with ⟨he, hm⟩ | ⟨he, hn, hr⟩ | ⟨a, rfl, ha⟩ | ⟨a, rfl, ha⟩ | ⟨op, a, b, rfl, ho, ha, hb⟩
  ·have hop : e.op = opLit := by rw [he]; rfl
   rw [form_lit hop] at h ⊢
   exact h
  ·have hop : e.op = opCol := by rw [he]; rfl
   have hne : ¬ e.op = opLit := by rw [hop]; decide
   rw [form_col hne hop] at h ⊢
   exact h
  ·rw [form_one (e := .mk opNot V.zero [] [a]) (show ¬ opNot = opLit by decide) (show ¬ opNot = opCol by decide) (.inl rfl)] at h ⊢
   simp only [Bool.and_eq_true] at h ⊢
   exact ⟨h.1, h.2.1, h.2.2.1, ih _ h.2.2.2⟩
  ·rw [form_one (e := .mk opNull V.zero [] [a]) (show ¬ opNull = opLit by decide) (show ¬ opNull = opCol by decide) (.inr rfl)] at h ⊢
   simp only [Bool.and_eq_true] at h ⊢
   exact ⟨h.1, h.2.1, h.2.2.1, ih _ h.2.2.2⟩
  ·obtain ⟨n1, n2, n3, n4⟩ := twoB_ne ho
   rw [form_two (e := .mk op V.zero [] [a, b]) n1 n2 (by rintro (h | h); exact n3 h; exact n4 h) ho] at h ⊢
   simp only [Bool.and_eq_true] at h ⊢
   exact ⟨h.1, h.2.1, h.2.2.1, ih _ h.2.2.2.1, ih _ h.2.2.2.2⟩
theorem tokX_two {n : Nat} {op : List UInt8} {a b : Ex} (n1 : ¬ op = opLit) (n2 : ¬ op = opCol) (n3 : ¬ op = opNot) (n4 : ¬ op = opNull) : tokX (n + 1) (.mk op V.zero [] [a, b]) = sg 40 :: (tokX n a ++ opK op :: (tokX n b ++ [sg 41])) := by
 conv => lhs; unfold tokX
 rw [if_neg (c := (Ex.mk op V.zero [] [a, b]).op = opLit) n1, if_neg (c := (Ex.mk op V.zero [] [a, b]).op = opCol) n2, if_neg (c := (Ex.mk op V.zero [] [a, b]).op = opNot) n3, if_neg (c := (Ex.mk op V.zero [] [a, b]).op = opNull) n4]
 rfl
theorem textN_two {n : Nat} {op : List UInt8} {a b : Ex} (n1 : ¬ op = opLit) (n2 : ¬ op = opCol) (n3 : ¬ op = opNot) (n4 : ¬ op = opNull) : textN (n + 1) (.mk op V.zero [] [a, b]) = ((([40] ++ textN n a) ++ [32]) ++ upperB op) ++ [32] ++ textN n b ++ [41] := by
 conv => lhs; unfold textN
 rw [if_neg (c := (Ex.mk op V.zero [] [a, b]).op = opLit) n1, if_neg (c := (Ex.mk op V.zero [] [a, b]).op = opCol) n2, if_neg (c := (Ex.mk op V.zero [] [a, b]).op = opNot) n3, if_neg (c := (Ex.mk op V.zero [] [a, b]).op = opNull) n4]
 rfl
theorem tok_up : ∀ (n : Nat) (e : Ex), formE n e = true → tokX (n + 1) e = tokX n e ∧ textN (n + 1) e = textN n e := by
 intro n
 induction n with
 | zero => intro e h; simp [formE] at h
 | succ n ih =>
  intro e h
  rcases form_cases h with ⟨he, hm⟩ | ⟨he, hn, hr⟩ | ⟨a, rfl, ha⟩ | ⟨a, rfl, ha⟩ | ⟨op, a, b, rfl, ho, ha, hb⟩
  ·rw [he]; exact ⟨rfl, rfl⟩
  ·rw [he]; exact ⟨rfl, rfl⟩
  ·obtain ⟨h1, h2⟩ := ih a ha
   refine ⟨?_, ?_⟩
   ·show sg 40 :: wd [78, 79, 84] :: (tokX (n + 1) a ++ [sg 41]) = sg 40 :: wd [78, 79, 84] :: (tokX n a ++ [sg 41])
    rw [h1]
   ·show ([40, 78, 79, 84, 32] ++ textN (n + 1) a) ++ [41] = ([40, 78, 79, 84, 32] ++ textN n a) ++ [41]
    rw [h2]
  ·obtain ⟨h1, h2⟩ := ih a ha
   refine ⟨?_, ?_⟩
   ·show sg 40 :: (tokX (n + 1) a ++ [wd [73, 83], wd [78, 85, 76, 76], sg 41]) = sg 40 :: (tokX n a ++ [wd [73, 83], wd [78, 85, 76, 76], sg 41])
    rw [h1]
   ·show ([40] ++ textN (n + 1) a) ++ [32, 73, 83, 32, 78, 85, 76, 76, 41] = ([40] ++ textN n a) ++ [32, 73, 83, 32, 78, 85, 76, 76, 41]
    rw [h2]
  ·obtain ⟨h1, h2⟩ := ih a ha
   obtain ⟨h3, h4⟩ := ih b hb
   obtain ⟨n1, n2, n3, n4⟩ := twoB_ne ho
   refine ⟨?_, ?_⟩
   ·rw [tokX_two n1 n2 n3 n4, tokX_two n1 n2 n3 n4, h1, h3]
   ·rw [textN_two n1 n2 n3 n4, textN_two n1 n2 n3 n4, h2, h4]
theorem nameG_B {s : List UInt8} (h : nameG s = true) : nameB s = true := by unfold nameG at h; simp only [Bool.and_eq_true] at h; exact h.1
def fitS (s : St) : Prop := fitE 13 s.chk ∧ fitE 13 s.whr ∧ (∀ v ∈ s.row, fitI v.i) ∧ ∀ x ∈ s.sets, fitE 13 x.e
theorem many_all {α : Type} {l : List α} {lo hi : Nat} {p : α → Bool} (h : manyB l lo hi p = true) : lo ≤ l.length ∧ l.length ≤ hi ∧ ∀ x ∈ l, p x = true := by
 unfold manyB at h
 simp only [Bool.and_eq_true, decide_eq_true_eq, List.all_eq_true] at h
 exact ⟨h.1.1, h.1.2, h.2⟩
theorem getD_all {α : Type} {l : List α} {p : α → Bool} {d : α} (h : ∀ x ∈ l, p x = true) {k : Nat} (hk : k < l.length) : p (l.getD k d) = true := by
 have e : l.getD k d = l[k] := by simp [List.getD, List.getElem?_eq_getElem hk]
 rw [e]
 exact h _ (List.getElem_mem _)
end Go.Proofs.YtchilcchogcibaaGreatDoor
