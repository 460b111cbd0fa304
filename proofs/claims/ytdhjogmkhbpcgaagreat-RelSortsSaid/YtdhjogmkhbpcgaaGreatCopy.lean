/- rel.Copy: a table with rows in memory of its own. Condition: a table with rows that reads as one, of the sizes that are looked at. -/
import Derived.Test.YtdhjogmkhbpcgaaGreatCopiedM
import Derived.Test.YtdhjogmkhbpcgaaGreatSomeM
import Derived.Test.YtdhjogmkhbpcgaaGreatSortAM
import Derived.Test.YtdhjogmkhbpcgaaGreatRowsM
namespace Go.Proofs.YtdhjogmkhbpcgaaGreat
open Go.RowKit

attribute [local go_sem] ByteArray.extract_mk ba_get ba_append
attribute [local go_sem ↓] Go.wp_at_zero Go.wp_at_succ run_eql_V run_neq_V

/-- A table with rows that a call answers, all in memory of its own, the row of rows in a block that nothing else lies in. -/
def RetCopy (x : Rl) (w : World) (en : Ending) (w' : World) : Prop := ∃ (p' : RlP), en = .returned (.agg (x.cells p').toArray) ∧ x.rows.length ≤ p'.rows.c ∧ p'.rows.c ≤ maxLen ∧ Below w.heap.size w w' ∧ ∃ (g : Nat) (rcs : List Rc), w.heap.size ≤ g ∧ rcs.map Rc.r = x.rows ∧
  (0 < x.rows.length → p'.rows.a = some ⟨g, 0, none⟩ ∧ w.heap.size ≤ g ∧ g < w'.heap.size ∧ Arr w' g 43 rcs) ∧ (∀ q ∈ rcs, WQ q.r q.s.a (fun b => w.heap.size ≤ b ∧ b < w'.heap.size ∧ b ≠ g) w') ∧ TbQ 1000 x.t p'.t (fun b => w.heap.size ≤ b ∧ b < w'.heap.size ∧ b ≠ g) w'
theorem rows_own {w : World} {ty : TypeId} {rcs : List Rc} {base n : Nat} {sv : Value} (h : w.ownsRow base ty 1 sv n (rcs.map Rc.cell)) : rcs.length = n ∧ ∃ A c, sv = .slice A n c ∧ n ≤ c ∧ c ≤ maxLen ∧ (0 < n → ∃ g, A = some ⟨g, 0, none⟩ ∧ base ≤ g ∧ g < w.heap.size ∧ Arr w g ty rcs) := by
  have hn : rcs.length = n := by have := h.1; rw [List.length_map] at this; omega
  refine ⟨hn, ?_⟩
  rcases h.2 with ⟨rfl, h0⟩ | ⟨g, cap, cur, rfl, hb, hg, hnc, hcm, hcs, htk⟩
  · exact ⟨none, 0, by rw [h0], by omega, Nat.zero_le _, fun h1 => absurd h1 (by omega)⟩
  · refine ⟨_, cap, rfl, hnc, hcm, fun _ => ⟨g, rfl, hb, (Array.getElem?_eq_some_iff.1 hg).1, cur, hg, fun i r hr => ?_⟩⟩
    have hk : Blk w g ty cur := hg
    have := h.cells (g := g) rfl i r.cell (by rw [List.getElem?_map, hr]; rfl)
    rw [add_mid, Nat.zero_add] at this
    exact (hk.cell _).symm.trans this
theorem cqs_reads {w : World} {B : Nat} {A : Option Addr} {l : List Col} {Q : Nat → Prop} (h : CQ l A Q w) (hq : ∀ b, Q b → b < B) : Reads w B 3 A l.length (l.flatMap Col.cells) := by
  refine ⟨col_len l, fun h0 => ?_⟩
  obtain ⟨b, off, rfl, hb, hr⟩ := h h0
  refine ⟨_, rfl, hq b hb, fun j u hu => ?_⟩
  have hj := (List.getElem?_eq_some_iff.1 hu).1
  rw [col_len] at hj
  have hx : l[j / 3]? = some l[j / 3] := List.getElem?_eq_getElem (by omega)
  obtain ⟨s0, s1, s2⟩ := hr (j / 3) _ hx
  have e : j / 3 * 3 + j % 3 = j := by omega
  have hm : j % 3 < 3 := by omega
  rw [← e, col_at l (j / 3) (j % 3) _ hx hm] at hu
  rw [add_mid, ← e, ← Nat.add_assoc]
  generalize hd : j % 3 = d at hu hm ⊢
  match d, hm, hu with
  | 0, _, hu => simp [Col.cells] at hu; subst hu; exact s0
  | 1, _, hu => simp [Col.cells] at hu; subst hu; exact s1
  | 2, _, hu => simp [Col.cells] at hu; subst hu; exact s2
theorem fqs_reads {w : World} {B : Nat} {A : Option Addr} {l : List Fr} {Q : Nat → Prop} (h : FQ l A Q w) (hq : ∀ b, Q b → b < B) : Reads w B 2 A l.length (l.flatMap Fr.cells) := by
  refine ⟨fr_len l, fun h0 => ?_⟩
  obtain ⟨b, off, rfl, hb, hr⟩ := h h0
  refine ⟨_, rfl, hq b hb, fun j u hu => ?_⟩
  have hj := (List.getElem?_eq_some_iff.1 hu).1
  rw [fr_len] at hj
  have hx : l[j / 2]? = some l[j / 2] := List.getElem?_eq_getElem (by omega)
  obtain ⟨s0, s1⟩ := hr (j / 2) _ hx
  have e : j / 2 * 2 + j % 2 = j := by omega
  have hm : j % 2 < 2 := by omega
  rw [← e, fr_at l (j / 2) (j % 2) _ hx hm] at hu
  rw [add_mid, ← e, ← Nat.add_assoc]
  generalize hd : j % 2 = d at hu hm ⊢
  match d, hm, hu with
  | 0, _, hu => simp [Fr.cells] at hu; subst hu; exact s0
  | 1, _, hu => simp [Fr.cells] at hu; subst hu; exact s1
theorem iqs_reads {w : World} {B : Nat} {A : Option Addr} {l : List Int} {Q : Nat → Prop} (h : IQ l A Q w) (hq : ∀ b, Q b → b < B) : Reads w B 1 A l.length (l.map fun x => (.int .i64 x : Value)) := by
  refine ⟨by simp, fun h0 => ?_⟩
  obtain ⟨b, off, rfl, hb, hr⟩ := h h0
  refine ⟨_, rfl, hq b hb, fun j u hu => ?_⟩
  rw [List.getElem?_map, Option.map_eq_some_iff] at hu
  obtain ⟨v, hv, rfl⟩ := hu
  rw [add_mid]
  exact hr j v hv
theorem fr_one (l : List Fr) : ∀ u ∈ l.flatMap Fr.cells, u.oneCell' = true := by
  intro u hu
  rw [List.mem_flatMap] at hu
  obtain ⟨v, _, hv⟩ := hu
  simp only [Fr.cells, List.mem_cons, List.not_mem_nil, or_false] at hv
  rcases hv with rfl | rfl <;> rfl
theorem rqs_pick {w : World} {Q : Nat → Prop} : ∀ (l : List (List V)) (A : Option Addr), RQ l A Q w → ∃ rcs : List Rc, rcs.map Rc.r = l ∧ (∀ q ∈ rcs, WQ q.r q.s.a Q w) ∧ (0 < l.length → ∃ b off, A = some ⟨b, off, none⟩ ∧ Q b ∧ ∀ j u, (rcs.map Rc.cell)[j]? = some u → w.cell? ⟨b, off + j, none⟩ = some u) := by
  intro l A h
  rcases Nat.eq_zero_or_pos l.length with h0 | h0
  · have : l = [] := List.eq_nil_of_length_eq_zero h0
    subst this
    exact ⟨[], rfl, by simp, fun h => absurd h (by simp)⟩
  · obtain ⟨b, off, rfl, hb, hr⟩ := h h0
    have pick : ∀ (m : List (List V)) (k : Nat), (∀ i r, m[i]? = some r → ∃ A' c', w.cell? ⟨b, off + (k + i), none⟩ = some (.slice A' r.length c') ∧ WQ r A' Q w) → ∃ rcs : List Rc, rcs.map Rc.r = m ∧ (∀ q ∈ rcs, WQ q.r q.s.a Q w) ∧ ∀ j u, (rcs.map Rc.cell)[j]? = some u → w.cell? ⟨b, off + (k + j), none⟩ = some u := by
      intro m
      induction m with
      | nil => intro k _; exact ⟨[], rfl, by simp, fun j u h => by simp at h⟩
      | cons x r ih =>
        intro k hk
        obtain ⟨A', c', h1, h2⟩ := hk 0 x rfl
        obtain ⟨rs, e1, e2, e3⟩ := ih (k + 1) (fun i e he => by
          have := hk (i + 1) e (by simpa using he)
          rw [show k + 1 + i = k + (i + 1) by omega]
          exact this)
        refine ⟨⟨⟨A', c'⟩, x⟩ :: rs, by rw [List.map_cons, e1], fun q hq => ?_, fun j u hu => ?_⟩
        · rcases List.mem_cons.1 hq with rfl | hq
          · exact h2
          · exact e2 q hq
        · cases j with
          | zero => simp [Rc.cell] at hu; subst hu; exact h1
          | succ j =>
            have := e3 j u (by simpa using hu)
            rw [show k + 1 + j = k + (j + 1) by omega] at this
            exact this
    obtain ⟨rs, e1, e2, e3⟩ := pick l 0 (fun i e he => by rw [Nat.zero_add]; exact hr i e he)
    exact ⟨rs, e1, e2, fun _ => ⟨b, off, rfl, hb, fun j u hu => by have := e3 j u hu; rw [Nat.zero_add] at this; exact this⟩⟩
/-- The rows so far: those ahead of k lie in new memory, the others where they were. -/
def RowsPart (w0 : World) (B : Nat) (k : Nat) (rs : List Rc) (w : World) : Prop := ∀ i r, rs[i]? = some r → (i < k → WQ r.r r.s.a (fun b => B ≤ b ∧ b < w.heap.size) w) ∧ (k ≤ i → WQ r.r r.s.a (Old w0.heap.size) w)
theorem rowsPart_step {w wr w8 W : World} {B Z0 k g : Nat} {rs : List Rc} {r : Rc} {s' : Sl} (hP : RowsPart w B k rs wr) (hk : rs[k]? = some r) (h8 : Below wr.heap.size wr w8) (hW : But g w8 W) (hg : g < B) (hg2 : w.heap.size ≤ g) (hBr : B ≤ wr.heap.size) (hZ : B ≤ Z0) (hE : WQ r.r s'.a (fun b => Z0 ≤ b ∧ b < w8.heap.size) w8) :
    RowsPart w B (k + 1) (rs.set k ⟨s', r.r⟩) W := by
  intro i q hq
  have hz8 := h8.size
  have new8 : ∀ b, (B ≤ b ∧ b < wr.heap.size) → (B ≤ b ∧ b < W.heap.size) ∧ ∀ o, W.cell? ⟨b, o, none⟩ = wr.cell? ⟨b, o, none⟩ := fun b hb =>
    ⟨⟨hb.1, by have := hW.size; omega⟩, fun o => (hW.cell (by omega) (by omega) o).trans (h8.cell (p := ⟨b, o, none⟩) hb.2)⟩
  rw [List.getElem?_set] at hq
  by_cases hik : k = i
  · subst hik
    have hkl := (List.getElem?_eq_some_iff.1 hk).1
    rw [if_pos rfl, if_pos hkl] at hq
    cases hq
    exact ⟨fun _ => hE.keep fun b hb => ⟨⟨by omega, Nat.lt_of_lt_of_le hb.2 hW.size⟩, fun o => hW.cell hb.2 (by omega) o⟩, fun h => absurd h (by omega)⟩
  · rw [if_neg hik] at hq
    obtain ⟨h1, h2⟩ := hP i q hq
    exact ⟨fun h => (h1 (by omega)).keep new8, fun h => (h2 (by omega)).keep fun b hb => ⟨hb, fun o => by
      have hb' : b < w.heap.size := hb
      exact (hW.cell (by omega) (by omega) o).trans (h8.cell (p := ⟨b, o, none⟩) (show b < wr.heap.size by omega))⟩⟩

set_option maxRecDepth 100000 in
set_option maxHeartbeats 32000000 in
theorem copy_any (x : Rl) (p : RlP) (w : World) (hsm : x.small) (hfit : x.t.chk.fit 1000) (hsl : x.t.chk.slim) (hun : x.t.uniq.length ≤ 1000) (hrn : x.t.refs.length ≤ 1000) (hQ : RlQ 1000 x p (Old w.heap.size) w) :
    Calls Tryz.prog 34 #[.agg (x.cells p).toArray] w (RetCopy x w) := by
  obtain ⟨⟨⟨a1, k1⟩, ⟨a2, k2⟩, ⟨a3, k3⟩, ⟨a4, k4⟩⟩, ⟨a5, k5⟩⟩ := p
  obtain ⟨⟨hQ1, hQ2, hQ3, nE, hQ4⟩, hQ5⟩ := hQ
  obtain ⟨hn1, hn5, hrows⟩ := hsm
  obtain ⟨rcs, hrs, hrE, hrA⟩ := rqs_pick x.rows a5 hQ5
  obtain ⟨w0, hw0⟩ : ∃ w0, (w.alloc (.cells #[.string ⟨x.t.n.toArray⟩, .slice a1 x.t.cols.length k1, .int .i64 x.t.key, .slice a2 x.t.uniq.length k2, .slice a3 x.t.refs.length k3, .string ⟨x.t.chk.op.toArray⟩, .int .i64 x.t.chk.v.k, .int .i64 x.t.chk.v.i, .string ⟨x.t.chk.v.s.toArray⟩, .string ⟨x.t.chk.s.toArray⟩, .slice a4 x.t.chk.l.length k4, .slice a5 x.rows.length k5] 34)).alloc (.cells #[.string ⟨#[]⟩, .slice none 0 0, .int .i64 0, .slice none 0 0, .slice none 0 0, .string ⟨#[]⟩, .int .i64 0, .int .i64 0, .string ⟨#[]⟩, .string ⟨#[]⟩, .slice none 0 0, .slice none 0 0] 34) = w0 := ⟨_, rfl⟩
  have kE : Blk w0 w.heap.size 34 #[.string ⟨x.t.n.toArray⟩, .slice a1 x.t.cols.length k1, .int .i64 x.t.key, .slice a2 x.t.uniq.length k2, .slice a3 x.t.refs.length k3, .string ⟨x.t.chk.op.toArray⟩, .int .i64 x.t.chk.v.k, .int .i64 x.t.chk.v.i, .string ⟨x.t.chk.v.s.toArray⟩, .string ⟨x.t.chk.s.toArray⟩, .slice a4 x.t.chk.l.length k4, .slice a5 x.rows.length k5] := by rw [← hw0]; exact (Blk.new _ _ _).alloc _
  have kR : Blk w0 (w.heap.size + 1) 34 #[.string ⟨#[]⟩, .slice none 0 0, .int .i64 0, .slice none 0 0, .slice none 0 0, .string ⟨#[]⟩, .int .i64 0, .int .i64 0, .string ⟨#[]⟩, .string ⟨#[]⟩, .slice none 0 0, .slice none 0 0] := by rw [← hw0]; exact Blk.new' _ _ _ _ (by simp)
  have hb0 : Below w.heap.size w w0 := by rw [← hw0]; exact bl
  have hs0 : w0.heap.size = w.heap.size + 1 + 1 := by rw [← hw0]; simp
  have hok : ∀ Z : World, Below w.heap.size w Z → ∀ b, Old w.heap.size b → Old Z.heap.size b ∧ ∀ o, Z.cell? ⟨b, o, none⟩ = w.cell? ⟨b, o, none⟩ := fun Z hz => old_keep hz hz.size
  have HC1 : Hid (∀ Z : World, Below w.heap.size w Z → Calls Tryz.prog 61 #[.slice a1 x.t.cols.length k1] Z (RetOwn 77 3 x.t.cols.length (x.t.cols.flatMap Col.cells) Z)) := fun Z hz =>
    clone_cols a1 k1 _ _ Z (by omega) (cqs_reads (hQ1.keep (hok Z hz)) (fun _ h => h)) (col_one _)
  have HC2 : Hid (∀ Z : World, Below w.heap.size w Z → Calls Tryz.prog 62 #[.slice a2 x.t.uniq.length k2] Z (RetOwn 3 1 x.t.uniq.length (x.t.uniq.map fun x => (.int .i64 x : Value)) Z)) := fun Z hz =>
    clone_ints a2 k2 _ _ Z (by omega) (iqs_reads (hQ2.keep (hok Z hz)) (fun _ h => h)) (int_one _)
  have HC3 : Hid (∀ Z : World, Below w.heap.size w Z → Calls Tryz.prog 63 #[.slice a3 x.t.refs.length k3] Z (RetOwn 80 2 x.t.refs.length (x.t.refs.flatMap Fr.cells) Z)) := fun Z hz =>
    clone_refs a3 k3 _ _ Z (by omega) (fqs_reads (hQ3.keep (hok Z hz)) (fun _ h => h)) (fr_one _)
  have HC4 : Hid (∀ Z : World, Below w.heap.size w Z → Calls Tryz.prog 64 #[.agg #[.string ⟨x.t.chk.op.toArray⟩, .int .i64 x.t.chk.v.k, .int .i64 x.t.chk.v.i, .string ⟨x.t.chk.v.s.toArray⟩, .string ⟨x.t.chk.s.toArray⟩, .slice a4 x.t.chk.l.length k4]] Z (RetFewX x.t.chk Z)) := fun Z hz =>
    copied_any x.t.chk hsl a4 k4 Z hfit ⟨nE, hQ4.keep (hok Z hz) nE⟩
  have HC5 : Hid (∀ Z : World, Below w.heap.size w Z → Calls Tryz.prog 65 #[.slice a5 x.rows.length k5] Z (RetOwn 43 1 x.rows.length (rcs.map Rc.cell) Z)) := fun Z hz =>
    clone_rows a5 k5 _ _ Z (by omega) ⟨by rw [← hrs]; simp, fun h0 => by
      obtain ⟨b, off, e1, e2, e3⟩ := hrA h0
      exact ⟨_, e1, ((hok Z hz) b e2).1, fun j u hu => by rw [add_mid]; exact (((hok Z hz) b e2).2 _).trans (e3 j u hu)⟩⟩ (rc_one _)
  have HROW : Hid (∀ (Z : World) (q : Rc), Below w.heap.size w Z → q.r ∈ x.rows → WQ q.r q.s.a (Old w.heap.size) Z → Calls Tryz.prog 25 #[q.cell] Z (RetVS q.r Z)) := fun Z q hz hq hw =>
    clone_any q.s.a q.s.c q.r Z (by have := (hrows q.r hq).1; omega) ((hw.keep (Q' := Old Z.heap.size) fun b hb => ⟨Nat.lt_of_lt_of_le hb hz.size, fun _ => rfl⟩).s fun b h => h)
  have HW := Lib.hid hw0
  have HB0 := Lib.hid hb0
  have HS0 := Lib.hid hs0
  have HRE := Lib.hid hrE
  have HRS := Lib.hid hrs
  have HLR : Hid (rcs.length = x.rows.length) := by show _ = _; rw [← hrs]; simp
  have hn5' : x.rows.length ≤ 1000 := hn5
  obtain ⟨q0, q1, q2, q3, q4, q5, q6, q7, q8, q9, q10, q11⟩ : w0.cell? ⟨w.heap.size, 0, none⟩ = some (.string ⟨x.t.n.toArray⟩) ∧ w0.cell? ⟨w.heap.size, 1, none⟩ = some (.slice a1 x.t.cols.length k1) ∧ w0.cell? ⟨w.heap.size, 2, none⟩ = some (.int .i64 x.t.key) ∧ w0.cell? ⟨w.heap.size, 3, none⟩ = some (.slice a2 x.t.uniq.length k2) ∧ w0.cell? ⟨w.heap.size, 4, none⟩ = some (.slice a3 x.t.refs.length k3) ∧ w0.cell? ⟨w.heap.size, 5, none⟩ = some (.string ⟨x.t.chk.op.toArray⟩) ∧ w0.cell? ⟨w.heap.size, 6, none⟩ = some (.int .i64 x.t.chk.v.k) ∧ w0.cell? ⟨w.heap.size, 7, none⟩ = some (.int .i64 x.t.chk.v.i) ∧ w0.cell? ⟨w.heap.size, 8, none⟩ = some (.string ⟨x.t.chk.v.s.toArray⟩) ∧ w0.cell? ⟨w.heap.size, 9, none⟩ = some (.string ⟨x.t.chk.s.toArray⟩) ∧ w0.cell? ⟨w.heap.size, 10, none⟩ = some (.slice a4 x.t.chk.l.length k4) ∧ w0.cell? ⟨w.heap.size, 11, none⟩ = some (.slice a5 x.rows.length k5) := ⟨kE.cell 0, kE.cell 1, kE.cell 2, kE.cell 3, kE.cell 4, kE.cell 5, kE.cell 6, kE.cell 7, kE.cell 8, kE.cell 9, kE.cell 10, kE.cell 11⟩
  dsimp only [Rl.cells]
  clear hw0 hQ1 hQ2 hQ3 hQ4 hQ5 hrows hrE hrA hrs hok hfit hsl hun hrn hn1 hn5
  go_enter Tryz.func34, Tryz.ntmps34
  go_upto_region 1 with fail
  rw [HW.out]
  clear HW
  go_wp2_with fail
  refine (HC1.out w0 HB0.out).mono ?_
  rintro en w1 ⟨sv, rfl, hown, hb1⟩
  obtain ⟨A1, c1, rfl, hcc1, hcm1, hF1⟩ := ColF.own hown
  clear hown
  have hz1 := hb1.size
  have kE1w := kE.below hb1 kE.lt
  have kR1w := kR.below hb1 kR.lt
  have hbW1 : Below w.heap.size w w1 := (HB0.out).trans (hb1.mono (HB0.out).size)
  obtain ⟨Z1, hZ1⟩ : ∃ Z, (w1.setCell ⟨w.heap.size, 1, none⟩ (.slice A1 x.t.cols.length c1)) = Z := ⟨_, rfl⟩
  have hbt1 : But w.heap.size w1 Z1 := by rw [← hZ1]; exact ((But.refl w.heap.size w1).set 1 _)
  have kE1 : Blk Z1 w.heap.size 34 #[.string ⟨x.t.n.toArray⟩, .slice A1 x.t.cols.length c1, .int .i64 x.t.key, .slice a2 x.t.uniq.length k2, .slice a3 x.t.refs.length k3, .string ⟨x.t.chk.op.toArray⟩, .int .i64 x.t.chk.v.k, .int .i64 x.t.chk.v.i, .string ⟨x.t.chk.v.s.toArray⟩, .string ⟨x.t.chk.s.toArray⟩, .slice a4 x.t.chk.l.length k4, .slice a5 x.rows.length k5] := by rw [← hZ1]; exact (kE1w.set_ 1 (.slice A1 x.t.cols.length c1))
  have kR1 : Blk Z1 (w.heap.size + 1) 34 #[.string ⟨#[]⟩, .slice none 0 0, .int .i64 0, .slice none 0 0, .slice none 0 0, .string ⟨#[]⟩, .int .i64 0, .int .i64 0, .string ⟨#[]⟩, .string ⟨#[]⟩, .slice none 0 0, .slice none 0 0] := hbt1.blk kR1w (by omega)
  have HBZ1 : Hid (Below w.heap.size w Z1) := But.inside hbW1 (Nat.le_refl _) hbt1
  have hzz1 := hbt1.size
  clear q0 q1 q2 q3 q4 q5 q6 q7 q8 q9 q10 q11
  obtain ⟨q0, q1, q2, q3, q4, q5, q6, q7, q8, q9, q10, q11⟩ : w1.cell? ⟨w.heap.size, 0, none⟩ = some (.string ⟨x.t.n.toArray⟩) ∧ w1.cell? ⟨w.heap.size, 1, none⟩ = some (.slice a1 x.t.cols.length k1) ∧ w1.cell? ⟨w.heap.size, 2, none⟩ = some (.int .i64 x.t.key) ∧ w1.cell? ⟨w.heap.size, 3, none⟩ = some (.slice a2 x.t.uniq.length k2) ∧ w1.cell? ⟨w.heap.size, 4, none⟩ = some (.slice a3 x.t.refs.length k3) ∧ w1.cell? ⟨w.heap.size, 5, none⟩ = some (.string ⟨x.t.chk.op.toArray⟩) ∧ w1.cell? ⟨w.heap.size, 6, none⟩ = some (.int .i64 x.t.chk.v.k) ∧ w1.cell? ⟨w.heap.size, 7, none⟩ = some (.int .i64 x.t.chk.v.i) ∧ w1.cell? ⟨w.heap.size, 8, none⟩ = some (.string ⟨x.t.chk.v.s.toArray⟩) ∧ w1.cell? ⟨w.heap.size, 9, none⟩ = some (.string ⟨x.t.chk.s.toArray⟩) ∧ w1.cell? ⟨w.heap.size, 10, none⟩ = some (.slice a4 x.t.chk.l.length k4) ∧ w1.cell? ⟨w.heap.size, 11, none⟩ = some (.slice a5 x.rows.length k5) := ⟨kE1w.cell 0, kE1w.cell 1, kE1w.cell 2, kE1w.cell 3, kE1w.cell 4, kE1w.cell 5, kE1w.cell 6, kE1w.cell 7, kE1w.cell 8, kE1w.cell 9, kE1w.cell 10, kE1w.cell 11⟩
  have hfz1 := fun i => kE1w.frozen i
  have HVZ1 := Lib.hid hZ1
  clear hZ1
  have HP1 : Hid (CQ x.t.cols A1 (fun b => w0.heap.size ≤ b ∧ b < Z1.heap.size) Z1) := (CQ.ofF (Q := fun b => w0.heap.size ≤ b ∧ b < w1.heap.size) hF1 (fun b h1 h2 => ⟨h1, h2⟩)).keep fun b hb => ⟨⟨hb.1, by omega⟩, fun o => hbt1.cell hb.2 (by have := HS0.out; omega) o⟩
  clear hF1
  go_wp2_with fail
  rw [HVZ1.out]
  clear HVZ1
  refine (HC2.out Z1 HBZ1.out).mono ?_
  rintro en w2 ⟨sv, rfl, hown, hb2⟩
  obtain ⟨A2, c2, rfl, hcc2, hcm2, hF2⟩ := IF.own hown
  clear hown
  have hz2 := hb2.size
  have kE2w := kE1.below hb2 kE1.lt
  have kR2w := kR1.below hb2 kR1.lt
  have hbW2 : Below w.heap.size w w2 := (HBZ1.out).trans (hb2.mono (HBZ1.out).size)
  obtain ⟨Z2, hZ2⟩ : ∃ Z, (w2.setCell ⟨w.heap.size, 3, none⟩ (.slice A2 x.t.uniq.length c2)) = Z := ⟨_, rfl⟩
  have hbt2 : But w.heap.size w2 Z2 := by rw [← hZ2]; exact ((But.refl w.heap.size w2).set 3 _)
  have kE2 : Blk Z2 w.heap.size 34 #[.string ⟨x.t.n.toArray⟩, .slice A1 x.t.cols.length c1, .int .i64 x.t.key, .slice A2 x.t.uniq.length c2, .slice a3 x.t.refs.length k3, .string ⟨x.t.chk.op.toArray⟩, .int .i64 x.t.chk.v.k, .int .i64 x.t.chk.v.i, .string ⟨x.t.chk.v.s.toArray⟩, .string ⟨x.t.chk.s.toArray⟩, .slice a4 x.t.chk.l.length k4, .slice a5 x.rows.length k5] := by rw [← hZ2]; exact (kE2w.set_ 3 (.slice A2 x.t.uniq.length c2))
  have kR2 : Blk Z2 (w.heap.size + 1) 34 #[.string ⟨#[]⟩, .slice none 0 0, .int .i64 0, .slice none 0 0, .slice none 0 0, .string ⟨#[]⟩, .int .i64 0, .int .i64 0, .string ⟨#[]⟩, .string ⟨#[]⟩, .slice none 0 0, .slice none 0 0] := hbt2.blk kR2w (by omega)
  have HBZ2 : Hid (Below w.heap.size w Z2) := But.inside hbW2 (Nat.le_refl _) hbt2
  have hzz2 := hbt2.size
  clear q0 q1 q2 q3 q4 q5 q6 q7 q8 q9 q10 q11 hfz1
  obtain ⟨q0, q1, q2, q3, q4, q5, q6, q7, q8, q9, q10, q11⟩ : w2.cell? ⟨w.heap.size, 0, none⟩ = some (.string ⟨x.t.n.toArray⟩) ∧ w2.cell? ⟨w.heap.size, 1, none⟩ = some (.slice A1 x.t.cols.length c1) ∧ w2.cell? ⟨w.heap.size, 2, none⟩ = some (.int .i64 x.t.key) ∧ w2.cell? ⟨w.heap.size, 3, none⟩ = some (.slice a2 x.t.uniq.length k2) ∧ w2.cell? ⟨w.heap.size, 4, none⟩ = some (.slice a3 x.t.refs.length k3) ∧ w2.cell? ⟨w.heap.size, 5, none⟩ = some (.string ⟨x.t.chk.op.toArray⟩) ∧ w2.cell? ⟨w.heap.size, 6, none⟩ = some (.int .i64 x.t.chk.v.k) ∧ w2.cell? ⟨w.heap.size, 7, none⟩ = some (.int .i64 x.t.chk.v.i) ∧ w2.cell? ⟨w.heap.size, 8, none⟩ = some (.string ⟨x.t.chk.v.s.toArray⟩) ∧ w2.cell? ⟨w.heap.size, 9, none⟩ = some (.string ⟨x.t.chk.s.toArray⟩) ∧ w2.cell? ⟨w.heap.size, 10, none⟩ = some (.slice a4 x.t.chk.l.length k4) ∧ w2.cell? ⟨w.heap.size, 11, none⟩ = some (.slice a5 x.rows.length k5) := ⟨kE2w.cell 0, kE2w.cell 1, kE2w.cell 2, kE2w.cell 3, kE2w.cell 4, kE2w.cell 5, kE2w.cell 6, kE2w.cell 7, kE2w.cell 8, kE2w.cell 9, kE2w.cell 10, kE2w.cell 11⟩
  have hfz2 := fun i => kE2w.frozen i
  have HVZ2 := Lib.hid hZ2
  clear hZ2
  have HP2 : Hid (CQ x.t.cols A1 (fun b => w0.heap.size ≤ b ∧ b < Z2.heap.size) Z2 ∧ IQ x.t.uniq A2 (fun b => w0.heap.size ≤ b ∧ b < Z2.heap.size) Z2) := ⟨HP1.out.keep fun b hb => ⟨⟨hb.1, by omega⟩, fun o => (hbt2.cell (by omega) (by have := HS0.out; omega) o).trans (hb2.cell (p := ⟨b, o, none⟩) hb.2)⟩, (IQ.ofF (Q := fun b => w0.heap.size ≤ b ∧ b < w2.heap.size) hF2 (fun b h1 h2 => ⟨by omega, h2⟩)).keep fun b hb => ⟨⟨hb.1, by omega⟩, fun o => hbt2.cell hb.2 (by have := HS0.out; omega) o⟩⟩
  clear hF2 HP1
  go_wp2_with fail
  rw [HVZ2.out]
  clear HVZ2
  refine (HC3.out Z2 HBZ2.out).mono ?_
  rintro en w3 ⟨sv, rfl, hown, hb3⟩
  obtain ⟨A3, c3, rfl, hF3⟩ := FQ.own hown
  clear hown
  have hz3 := hb3.size
  have kE3w := kE2.below hb3 kE2.lt
  have kR3w := kR2.below hb3 kR2.lt
  have hbW3 : Below w.heap.size w w3 := (HBZ2.out).trans (hb3.mono (HBZ2.out).size)
  obtain ⟨Z3, hZ3⟩ : ∃ Z, (w3.setCell ⟨w.heap.size, 4, none⟩ (.slice A3 x.t.refs.length c3)) = Z := ⟨_, rfl⟩
  have hbt3 : But w.heap.size w3 Z3 := by rw [← hZ3]; exact ((But.refl w.heap.size w3).set 4 _)
  have kE3 : Blk Z3 w.heap.size 34 #[.string ⟨x.t.n.toArray⟩, .slice A1 x.t.cols.length c1, .int .i64 x.t.key, .slice A2 x.t.uniq.length c2, .slice A3 x.t.refs.length c3, .string ⟨x.t.chk.op.toArray⟩, .int .i64 x.t.chk.v.k, .int .i64 x.t.chk.v.i, .string ⟨x.t.chk.v.s.toArray⟩, .string ⟨x.t.chk.s.toArray⟩, .slice a4 x.t.chk.l.length k4, .slice a5 x.rows.length k5] := by rw [← hZ3]; exact (kE3w.set_ 4 (.slice A3 x.t.refs.length c3))
  have kR3 : Blk Z3 (w.heap.size + 1) 34 #[.string ⟨#[]⟩, .slice none 0 0, .int .i64 0, .slice none 0 0, .slice none 0 0, .string ⟨#[]⟩, .int .i64 0, .int .i64 0, .string ⟨#[]⟩, .string ⟨#[]⟩, .slice none 0 0, .slice none 0 0] := hbt3.blk kR3w (by omega)
  have HBZ3 : Hid (Below w.heap.size w Z3) := But.inside hbW3 (Nat.le_refl _) hbt3
  have hzz3 := hbt3.size
  clear q0 q1 q2 q3 q4 q5 q6 q7 q8 q9 q10 q11 hfz2
  obtain ⟨q0, q1, q2, q3, q4, q5, q6, q7, q8, q9, q10, q11⟩ : w3.cell? ⟨w.heap.size, 0, none⟩ = some (.string ⟨x.t.n.toArray⟩) ∧ w3.cell? ⟨w.heap.size, 1, none⟩ = some (.slice A1 x.t.cols.length c1) ∧ w3.cell? ⟨w.heap.size, 2, none⟩ = some (.int .i64 x.t.key) ∧ w3.cell? ⟨w.heap.size, 3, none⟩ = some (.slice A2 x.t.uniq.length c2) ∧ w3.cell? ⟨w.heap.size, 4, none⟩ = some (.slice a3 x.t.refs.length k3) ∧ w3.cell? ⟨w.heap.size, 5, none⟩ = some (.string ⟨x.t.chk.op.toArray⟩) ∧ w3.cell? ⟨w.heap.size, 6, none⟩ = some (.int .i64 x.t.chk.v.k) ∧ w3.cell? ⟨w.heap.size, 7, none⟩ = some (.int .i64 x.t.chk.v.i) ∧ w3.cell? ⟨w.heap.size, 8, none⟩ = some (.string ⟨x.t.chk.v.s.toArray⟩) ∧ w3.cell? ⟨w.heap.size, 9, none⟩ = some (.string ⟨x.t.chk.s.toArray⟩) ∧ w3.cell? ⟨w.heap.size, 10, none⟩ = some (.slice a4 x.t.chk.l.length k4) ∧ w3.cell? ⟨w.heap.size, 11, none⟩ = some (.slice a5 x.rows.length k5) := ⟨kE3w.cell 0, kE3w.cell 1, kE3w.cell 2, kE3w.cell 3, kE3w.cell 4, kE3w.cell 5, kE3w.cell 6, kE3w.cell 7, kE3w.cell 8, kE3w.cell 9, kE3w.cell 10, kE3w.cell 11⟩
  have hfz3 := fun i => kE3w.frozen i
  have HVZ3 := Lib.hid hZ3
  clear hZ3
  have HP3 : Hid (CQ x.t.cols A1 (fun b => w0.heap.size ≤ b ∧ b < Z3.heap.size) Z3 ∧ IQ x.t.uniq A2 (fun b => w0.heap.size ≤ b ∧ b < Z3.heap.size) Z3 ∧ FQ x.t.refs A3 (fun b => w0.heap.size ≤ b ∧ b < Z3.heap.size) Z3) := ⟨HP2.out.1.keep fun b hb => ⟨⟨hb.1, by omega⟩, fun o => (hbt3.cell (by omega) (by have := HS0.out; omega) o).trans (hb3.cell (p := ⟨b, o, none⟩) hb.2)⟩, HP2.out.2.keep fun b hb => ⟨⟨hb.1, by omega⟩, fun o => (hbt3.cell (by omega) (by have := HS0.out; omega) o).trans (hb3.cell (p := ⟨b, o, none⟩) hb.2)⟩, hF3.keep fun b hb => ⟨⟨by omega, by omega⟩, fun o => hbt3.cell hb.2 (by have := HS0.out; omega) o⟩⟩
  clear hF3 HP2
  go_wp2_with fail
  rw [HVZ3.out]
  clear HVZ3
  refine (HC4.out Z3 HBZ3.out).mono ?_
  rintro en w4 ⟨A4, c4, rfl, hF4, hb4⟩
  dsimp only [Ex.cells]
  have hz4 := hb4.size
  have kE4w := kE3.below hb4 kE3.lt
  have kR4w := kR3.below hb4 kR3.lt
  have hbW4 : Below w.heap.size w w4 := (HBZ3.out).trans (hb4.mono (HBZ3.out).size)
  obtain ⟨Z4, hZ4⟩ : ∃ Z, ((((((w4.setCell ⟨w.heap.size, 5, none⟩ (.string ⟨x.t.chk.op.toArray⟩)).setCell ⟨w.heap.size, 6, none⟩ (.int .i64 x.t.chk.v.k)).setCell ⟨w.heap.size, 7, none⟩ (.int .i64 x.t.chk.v.i)).setCell ⟨w.heap.size, 8, none⟩ (.string ⟨x.t.chk.v.s.toArray⟩)).setCell ⟨w.heap.size, 9, none⟩ (.string ⟨x.t.chk.s.toArray⟩)).setCell ⟨w.heap.size, 10, none⟩ (.slice A4 x.t.chk.l.length c4)) = Z := ⟨_, rfl⟩
  have hbt4 : But w.heap.size w4 Z4 := by rw [← hZ4]; exact (((((((But.refl w.heap.size w4).set 5 _).set 6 _).set 7 _).set 8 _).set 9 _).set 10 _)
  have kE4 : Blk Z4 w.heap.size 34 #[.string ⟨x.t.n.toArray⟩, .slice A1 x.t.cols.length c1, .int .i64 x.t.key, .slice A2 x.t.uniq.length c2, .slice A3 x.t.refs.length c3, .string ⟨x.t.chk.op.toArray⟩, .int .i64 x.t.chk.v.k, .int .i64 x.t.chk.v.i, .string ⟨x.t.chk.v.s.toArray⟩, .string ⟨x.t.chk.s.toArray⟩, .slice A4 x.t.chk.l.length c4, .slice a5 x.rows.length k5] := by rw [← hZ4]; exact ((((((kE4w.set_ 5 (.string ⟨x.t.chk.op.toArray⟩)).set_ 6 (.int .i64 x.t.chk.v.k)).set_ 7 (.int .i64 x.t.chk.v.i)).set_ 8 (.string ⟨x.t.chk.v.s.toArray⟩)).set_ 9 (.string ⟨x.t.chk.s.toArray⟩)).set_ 10 (.slice A4 x.t.chk.l.length c4))
  have kR4 : Blk Z4 (w.heap.size + 1) 34 #[.string ⟨#[]⟩, .slice none 0 0, .int .i64 0, .slice none 0 0, .slice none 0 0, .string ⟨#[]⟩, .int .i64 0, .int .i64 0, .string ⟨#[]⟩, .string ⟨#[]⟩, .slice none 0 0, .slice none 0 0] := hbt4.blk kR4w (by omega)
  have HBZ4 : Hid (Below w.heap.size w Z4) := But.inside hbW4 (Nat.le_refl _) hbt4
  have hzz4 := hbt4.size
  clear q0 q1 q2 q3 q4 q5 q6 q7 q8 q9 q10 q11 hfz3
  obtain ⟨q0, q1, q2, q3, q4, q5, q6, q7, q8, q9, q10, q11⟩ : w4.cell? ⟨w.heap.size, 0, none⟩ = some (.string ⟨x.t.n.toArray⟩) ∧ w4.cell? ⟨w.heap.size, 1, none⟩ = some (.slice A1 x.t.cols.length c1) ∧ w4.cell? ⟨w.heap.size, 2, none⟩ = some (.int .i64 x.t.key) ∧ w4.cell? ⟨w.heap.size, 3, none⟩ = some (.slice A2 x.t.uniq.length c2) ∧ w4.cell? ⟨w.heap.size, 4, none⟩ = some (.slice A3 x.t.refs.length c3) ∧ w4.cell? ⟨w.heap.size, 5, none⟩ = some (.string ⟨x.t.chk.op.toArray⟩) ∧ w4.cell? ⟨w.heap.size, 6, none⟩ = some (.int .i64 x.t.chk.v.k) ∧ w4.cell? ⟨w.heap.size, 7, none⟩ = some (.int .i64 x.t.chk.v.i) ∧ w4.cell? ⟨w.heap.size, 8, none⟩ = some (.string ⟨x.t.chk.v.s.toArray⟩) ∧ w4.cell? ⟨w.heap.size, 9, none⟩ = some (.string ⟨x.t.chk.s.toArray⟩) ∧ w4.cell? ⟨w.heap.size, 10, none⟩ = some (.slice a4 x.t.chk.l.length k4) ∧ w4.cell? ⟨w.heap.size, 11, none⟩ = some (.slice a5 x.rows.length k5) := ⟨kE4w.cell 0, kE4w.cell 1, kE4w.cell 2, kE4w.cell 3, kE4w.cell 4, kE4w.cell 5, kE4w.cell 6, kE4w.cell 7, kE4w.cell 8, kE4w.cell 9, kE4w.cell 10, kE4w.cell 11⟩
  have hfz4 := fun i => kE4w.frozen i
  have HVZ4 := Lib.hid hZ4
  clear hZ4
  have HP4 : Hid (TbQ 1000 x.t ⟨⟨A1, c1⟩, ⟨A2, c2⟩, ⟨A3, c3⟩, ⟨A4, c4⟩⟩ (fun b => w0.heap.size ≤ b ∧ b < Z4.heap.size) Z4) := by
    obtain ⟨m4, hm4⟩ := hF4.2.2.2
    exact ⟨HP3.out.1.keep fun b hb => ⟨⟨hb.1, by omega⟩, fun o => (hbt4.cell (by omega) (by have := HS0.out; omega) o).trans (hb4.cell (p := ⟨b, o, none⟩) hb.2)⟩, HP3.out.2.1.keep fun b hb => ⟨⟨hb.1, by omega⟩, fun o => (hbt4.cell (by omega) (by have := HS0.out; omega) o).trans (hb4.cell (p := ⟨b, o, none⟩) hb.2)⟩, HP3.out.2.2.keep fun b hb => ⟨⟨hb.1, by omega⟩, fun o => (hbt4.cell (by omega) (by have := HS0.out; omega) o).trans (hb4.cell (p := ⟨b, o, none⟩) hb.2)⟩, m4, hm4.keep (fun b hb => ⟨⟨by omega, by omega⟩, fun o => hbt4.cell hb.2 (by have := HS0.out; omega) o⟩) m4⟩
  clear hF4 HP3
  go_wp2_with fail
  rw [HVZ4.out]
  clear HVZ4
  refine (HC5.out Z4 HBZ4.out).mono ?_
  rintro en w5 ⟨sv, rfl, hown, hb5⟩
  obtain ⟨_, A5, c5, rfl, hcc5, hcm5, hF5⟩ := rows_own hown
  clear hown
  have hz5 := hb5.size
  have kE5w := kE4.below hb5 kE4.lt
  have kR5w := kR4.below hb5 kR4.lt
  have hbW5 : Below w.heap.size w w5 := (HBZ4.out).trans (hb5.mono (HBZ4.out).size)
  obtain ⟨Z5, hZ5⟩ : ∃ Z, (w5.setCell ⟨w.heap.size, 11, none⟩ (.slice A5 x.rows.length c5)) = Z := ⟨_, rfl⟩
  have hbt5 : But w.heap.size w5 Z5 := by rw [← hZ5]; exact ((But.refl w.heap.size w5).set 11 _)
  have kE5 : Blk Z5 w.heap.size 34 #[.string ⟨x.t.n.toArray⟩, .slice A1 x.t.cols.length c1, .int .i64 x.t.key, .slice A2 x.t.uniq.length c2, .slice A3 x.t.refs.length c3, .string ⟨x.t.chk.op.toArray⟩, .int .i64 x.t.chk.v.k, .int .i64 x.t.chk.v.i, .string ⟨x.t.chk.v.s.toArray⟩, .string ⟨x.t.chk.s.toArray⟩, .slice A4 x.t.chk.l.length c4, .slice A5 x.rows.length c5] := by rw [← hZ5]; exact (kE5w.set_ 11 (.slice A5 x.rows.length c5))
  have kR5 : Blk Z5 (w.heap.size + 1) 34 #[.string ⟨#[]⟩, .slice none 0 0, .int .i64 0, .slice none 0 0, .slice none 0 0, .string ⟨#[]⟩, .int .i64 0, .int .i64 0, .string ⟨#[]⟩, .string ⟨#[]⟩, .slice none 0 0, .slice none 0 0] := hbt5.blk kR5w (by omega)
  have HBZ5 : Hid (Below w.heap.size w Z5) := But.inside hbW5 (Nat.le_refl _) hbt5
  have hzz5 := hbt5.size
  clear q0 q1 q2 q3 q4 q5 q6 q7 q8 q9 q10 q11 hfz4
  obtain ⟨q0, q1, q2, q3, q4, q5, q6, q7, q8, q9, q10, q11⟩ : w5.cell? ⟨w.heap.size, 0, none⟩ = some (.string ⟨x.t.n.toArray⟩) ∧ w5.cell? ⟨w.heap.size, 1, none⟩ = some (.slice A1 x.t.cols.length c1) ∧ w5.cell? ⟨w.heap.size, 2, none⟩ = some (.int .i64 x.t.key) ∧ w5.cell? ⟨w.heap.size, 3, none⟩ = some (.slice A2 x.t.uniq.length c2) ∧ w5.cell? ⟨w.heap.size, 4, none⟩ = some (.slice A3 x.t.refs.length c3) ∧ w5.cell? ⟨w.heap.size, 5, none⟩ = some (.string ⟨x.t.chk.op.toArray⟩) ∧ w5.cell? ⟨w.heap.size, 6, none⟩ = some (.int .i64 x.t.chk.v.k) ∧ w5.cell? ⟨w.heap.size, 7, none⟩ = some (.int .i64 x.t.chk.v.i) ∧ w5.cell? ⟨w.heap.size, 8, none⟩ = some (.string ⟨x.t.chk.v.s.toArray⟩) ∧ w5.cell? ⟨w.heap.size, 9, none⟩ = some (.string ⟨x.t.chk.s.toArray⟩) ∧ w5.cell? ⟨w.heap.size, 10, none⟩ = some (.slice A4 x.t.chk.l.length c4) ∧ w5.cell? ⟨w.heap.size, 11, none⟩ = some (.slice a5 x.rows.length k5) := ⟨kE5w.cell 0, kE5w.cell 1, kE5w.cell 2, kE5w.cell 3, kE5w.cell 4, kE5w.cell 5, kE5w.cell 6, kE5w.cell 7, kE5w.cell 8, kE5w.cell 9, kE5w.cell 10, kE5w.cell 11⟩
  have hfz5 := fun i => kE5w.frozen i
  have HVZ5 := Lib.hid hZ5
  clear hZ5
  obtain ⟨B4, hB4⟩ : ∃ n, Z4.heap.size = n := ⟨_, rfl⟩
  obtain ⟨B5, hB5⟩ : ∃ n, w5.heap.size = n := ⟨_, rfl⟩
  have hw05 : w0.heap.size ≤ B4 := by omega
  have hB45 : B4 ≤ B5 := by omega
  have HP5 : Hid (TbQ 1000 x.t ⟨⟨A1, c1⟩, ⟨A2, c2⟩, ⟨A3, c3⟩, ⟨A4, c4⟩⟩ (fun b => w0.heap.size ≤ b ∧ b < B4) Z5) := HP4.out.keep fun b hb => ⟨⟨hb.1, by omega⟩, fun o => (hbt5.cell (by omega) (by have := HS0.out; omega) o).trans (hb5.cell (p := ⟨b, o, none⟩) hb.2)⟩
  have HA5 : Hid (0 < x.rows.length → ∃ g, A5 = some ⟨g, 0, none⟩ ∧ B4 ≤ g ∧ g < B5 ∧ Arr Z5 g 43 rcs) := fun h0 => by
    obtain ⟨g, e1, e2, e3, cur, hcur, hcc⟩ := hF5 h0
    exact ⟨g, e1, by omega, by omega, cur, hbt5.blk hcur (by have := HS0.out; omega), hcc⟩
  have HR5 : Hid (rcs.map Rc.r = x.rows ∧ RowsPart w B5 0 rcs Z5) := ⟨HRS.out, fun i r hr => ⟨fun h => absurd h (by omega), fun _ => (HRE.out r (List.mem_of_getElem? hr)).keep fun b hb => ⟨hb, fun o => HBZ5.out.cell (p := ⟨b, o, none⟩) hb⟩⟩⟩
  have HK5 := Lib.hid kE5
  have HKR5 := Lib.hid kR5
  have HZ5 : Hid (B5 ≤ Z5.heap.size) := by show _ ≤ _; omega
  have HNC : Hid (x.rows.length ≤ c5 ∧ c5 ≤ maxLen) := ⟨hcc5, hcm5⟩
  have hs2 : w.heap.size + 1 < w0.heap.size := by have := HS0.out; omega
  clear HP4 hF5 kE5 kR5 hbt5 hbt4 hbt3 hbt2 hbt1 hB4 hB5 hcc5 hcm5 hz1 hz2 hz3 hz4 hz5 hzz1 hzz2 hzz3 hzz4 hzz5 hb1 hb2 hb3 hb4 hb5 hbW1 hbW2 hbW3 hbW4 hbW5 kE kR kE1 kR1 kE2 kR2 kE3 kR3 kE4 kR4 kE1w kR1w kE2w kR2w kE3w kR3w kE4w kR4w kE5w kR5w HC1 HC2 HC3 HC4 HC5 HBZ1 HBZ2 HBZ3 HBZ4
  go_upto_block 0 with fail
  rw [HVZ5.out]
  clear HVZ5 hfz5
  go_cut [] (fun wx => ∃ (rs : List Rc), Hid (rs.map Rc.r = x.rows ∧ RowsPart w B5 x.rows.length rs wx) ∧ Blk wx w.heap.size 34 #[.string ⟨x.t.n.toArray⟩, .slice A1 x.t.cols.length c1, .int .i64 x.t.key, .slice A2 x.t.uniq.length c2, .slice A3 x.t.refs.length c3, .string ⟨x.t.chk.op.toArray⟩, .int .i64 x.t.chk.v.k, .int .i64 x.t.chk.v.i, .string ⟨x.t.chk.v.s.toArray⟩, .string ⟨x.t.chk.s.toArray⟩, .slice A4 x.t.chk.l.length c4, .slice A5 x.rows.length c5] ∧ Blk wx (w.heap.size + 1) 34 #[.string ⟨#[]⟩, .slice none 0 0, .int .i64 0, .slice none 0 0, .slice none 0 0, .string ⟨#[]⟩, .int .i64 0, .int .i64 0, .string ⟨#[]⟩, .string ⟨#[]⟩, .slice none 0 0, .slice none 0 0] ∧ Hid (0 < x.rows.length → ∃ g, A5 = some ⟨g, 0, none⟩ ∧ B4 ≤ g ∧ g < B5 ∧ Arr wx g 43 rs) ∧ Hid (TbQ 1000 x.t ⟨⟨A1, c1⟩, ⟨A2, c2⟩, ⟨A3, c3⟩, ⟨A4, c4⟩⟩ (fun b => w0.heap.size ≤ b ∧ b < B4) wx) ∧ B5 ≤ wx.heap.size ∧ Below w.heap.size w wx)
  case first => as_aux_lemma =>
    go_wp2_with fail
    go_loopw [35] (fun iv wr => ∃ (k : Nat) (rs : List Rc), k ≤ x.rows.length ∧ iv = .int .i64 k ∧ Hid (rs.map Rc.r = x.rows ∧ RowsPart w B5 k rs wr) ∧ Blk wr w.heap.size 34 #[.string ⟨x.t.n.toArray⟩, .slice A1 x.t.cols.length c1, .int .i64 x.t.key, .slice A2 x.t.uniq.length c2, .slice A3 x.t.refs.length c3, .string ⟨x.t.chk.op.toArray⟩, .int .i64 x.t.chk.v.k, .int .i64 x.t.chk.v.i, .string ⟨x.t.chk.v.s.toArray⟩, .string ⟨x.t.chk.s.toArray⟩, .slice A4 x.t.chk.l.length c4, .slice A5 x.rows.length c5] ∧ Blk wr (w.heap.size + 1) 34 #[.string ⟨#[]⟩, .slice none 0 0, .int .i64 0, .slice none 0 0, .slice none 0 0, .string ⟨#[]⟩, .int .i64 0, .int .i64 0, .string ⟨#[]⟩, .string ⟨#[]⟩, .slice none 0 0, .slice none 0 0] ∧ Hid (0 < x.rows.length → ∃ g, A5 = some ⟨g, 0, none⟩ ∧ B4 ≤ g ∧ g < B5 ∧ Arr wr g 43 rs) ∧ Hid (TbQ 1000 x.t ⟨⟨A1, c1⟩, ⟨A2, c2⟩, ⟨A3, c3⟩, ⟨A4, c4⟩⟩ (fun b => w0.heap.size ≤ b ∧ b < B4) wr) ∧ B5 ≤ wr.heap.size ∧ Below w.heap.size w wr) (fun iv _ => x.rows.length - (intOf iv).toNat)
    case atStart => exact ⟨0, rcs, by omega, by go_num, HR5.out, HK5.out, HKR5.out, HA5.out, HP5.out, HZ5.out, HBZ5.out⟩
    case round =>
      obtain ⟨k, rs, hk, rfl, HP, kE, kR, HAR, HTB, hB5, hbw⟩ := hrel
      obtain ⟨wk, rfl⟩ : ∃ wk : World, wk = wr := ⟨_, rfl⟩
      by_cases hlt : k < x.rows.length
      · as_aux_lemma =>
        obtain ⟨g, hg0, hg1, hg2, hgA⟩ := HAR.out (by omega)
        have hrl : rs.length = x.rows.length := by have := HP.out.1; rw [← this, List.length_map]
        obtain ⟨r, hr⟩ : ∃ r, rs[k]? = some r := ⟨_, List.getElem?_eq_getElem (by omega)⟩
        have hre : r.r ∈ x.rows := by rw [← HP.out.1]; exact List.mem_map_of_mem (List.mem_of_getElem? hr)
        have hrq := (HP.out.2 k r hr).2 (Nat.le_refl _)
        obtain ⟨rA, rn, rc, hrc⟩ : ∃ A n c, r.cell = .slice A n c := ⟨_, _, _, rfl⟩
        have hrn : r.r.length = rn := by unfold Rc.cell at hrc; injection hrc
        have HCALL : Hid (∀ Z : World, Below wk.heap.size wk Z → Calls Tryz.prog 25 #[.slice rA rn rc] Z (RetVS r.r Z)) := fun Z hz => by
          rw [← hrc]
          exact HROW.out Z r (hbw.trans (hz.mono hbw.size)) hre (hrq.keep fun b hb => ⟨hb, fun o' => hz.cell (p := ⟨b, o', none⟩) (by have hb' : b < w.heap.size := hb; show b < _; omega)⟩)
        have HSH : Hid (∀ Z : World, Below wk.heap.size wk Z → Z.cell? ⟨w.heap.size, 11, none⟩ = some (.slice (some ⟨g, 0, none⟩) x.rows.length c5) ∧ Z.cell? ⟨g, k, none⟩ = some (.slice rA rn rc)) := fun Z hz =>
          ⟨by rw [← hg0]; exact (kE.below hz kE.lt).cell 11, by rw [← hrc]; exact (hgA.below hz).cell hr⟩
        have HFZ : Hid (∀ Z : World, Below wk.heap.size wk Z → ∀ i, Z.frozen? ⟨g, i, none⟩ = false) := fun Z hz i => (hgA.below hz).frozen i
        have HFIN : Hid (∀ (w8 : World) (Z0 : Nat) (A' : Option Addr) (c' : Nat), Below wk.heap.size wk w8 → wk.heap.size ≤ Z0 → VF w8 Z0 w8.heap.size A' r.r → ∃ rs' : List Rc, ∀ W : World, W = w8.setCell ⟨g, k, none⟩ (.slice A' rn c') →
            Hid (rs'.map Rc.r = x.rows ∧ RowsPart w B5 (k + 1) rs' W) ∧ Blk W w.heap.size 34 #[.string ⟨x.t.n.toArray⟩, .slice A1 x.t.cols.length c1, .int .i64 x.t.key, .slice A2 x.t.uniq.length c2, .slice A3 x.t.refs.length c3, .string ⟨x.t.chk.op.toArray⟩, .int .i64 x.t.chk.v.k, .int .i64 x.t.chk.v.i, .string ⟨x.t.chk.v.s.toArray⟩, .string ⟨x.t.chk.s.toArray⟩, .slice A4 x.t.chk.l.length c4, .slice A5 x.rows.length c5] ∧ Blk W (w.heap.size + 1) 34 #[.string ⟨#[]⟩, .slice none 0 0, .int .i64 0, .slice none 0 0, .slice none 0 0, .string ⟨#[]⟩, .int .i64 0, .int .i64 0, .string ⟨#[]⟩, .string ⟨#[]⟩, .slice none 0 0, .slice none 0 0] ∧ Hid (0 < x.rows.length → ∃ g, A5 = some ⟨g, 0, none⟩ ∧ B4 ≤ g ∧ g < B5 ∧ Arr W g 43 rs') ∧ Hid (TbQ 1000 x.t ⟨⟨A1, c1⟩, ⟨A2, c2⟩, ⟨A3, c3⟩, ⟨A4, c4⟩⟩ (fun b => w0.heap.size ≤ b ∧ b < B4) W) ∧ B5 ≤ W.heap.size ∧ Below w.heap.size w W) := fun w8 Z0 A' c' h8 hZ hE8 => by
          refine ⟨rs.set k ⟨⟨A', c'⟩, r.r⟩, fun W hW => ?_⟩
          have hbut : But g w8 W := by rw [hW]; exact (But.refl _ _).set _ _
          have hAW : Arr W g 43 (rs.set k ⟨⟨A', c'⟩, r.r⟩) := by
            have := (hgA.below h8).set (i := k) (by omega) ⟨⟨A', c'⟩, r.r⟩
            rw [hW]
            unfold Rc.cell at this
            rw [hrn] at this
            exact this
          have hs0 := HS0.out
          have hz8 := h8.size
          have hzW := hbut.size
          refine ⟨⟨?_, rowsPart_step HP.out.2 hr h8 hbut hg2 (by omega) hB5 (by omega) (WQ.ofF hE8 fun b h1 h2 => ⟨h1, h2⟩)⟩, hbut.blk (kE.below h8 kE.lt) (by omega), hbut.blk (kR.below h8 kR.lt) (by omega), fun _ => ⟨g, hg0, hg1, hg2, hAW⟩, HTB.out.keep fun b hb => ⟨hb, fun o => (hbut.cell (by omega) (by omega) o).trans (h8.cell (p := ⟨b, o, none⟩) (show b < wk.heap.size by omega))⟩, by omega, But.inside (hbw.trans (h8.mono hbw.size)) (by omega) hbut⟩
          rw [← HP.out.1]
          refine List.ext_getElem? fun i => ?_
          rw [List.getElem?_map, List.getElem?_map, List.getElem?_set]
          by_cases hik : k = i
          · subst hik
            rw [if_pos rfl, if_pos (by omega), hr]
            rfl
          · rw [if_neg hik]
        have HRN := Lib.hid hrn
        have x5 := (HSH.out wk (Below.refl _ _)).1
        have j1 : (0 : Int) ≤ (k : Int) := by omega
        have j2 : (k : Int) < (x.rows.length : Int) := by omega
        have i1 : IntKind.i64.wrap ((k : Int) + 1) = (k : Int) + 1 := IntWalk.i64_in _ (by omega)
        have hbkk : Hid (Below w.heap.size w wk) := hbw
        have gd : decide (k < x.rows.length) = true := decide_eq_true hlt
        subst hg0
        clear HP kE kR HAR HTB hgA hrl hr hre hrq hbw hg1 hrn hrc
        go_wp2_with fail
        refine wp_region_till [10] (fun Z => Z.cell? ⟨w.heap.size, 11, none⟩ = some (.slice (some ⟨g, 0, none⟩) x.rows.length c5) ∧ Z.cell? ⟨g, k, none⟩ = some (.slice rA rn rc)) (by kernel_rfl) ?_ (fun hHeld => ?_)
        · try dsimp only
          exact HSH.out _ (by exact bl)
        refine wpAnyI_take (i := 0) (v := ?_) 10 [10] rfl (by decide) (by decide) (by decide) (by kernel_rfl) (by kernel_rfl) (by kernel_rfl) (by kernel_rfl) (by kernel_rfl) (fun _ _ _ h => h) (Or.inl ⟨by rfl, ?_⟩) (by assumption) ?_
        rotate_left
        · intro wq hSw
          try dsimp only at hSw
          go_simp
          try with_reducible rfl
        try simp only [Act.put, List.getElem_toArray, List.getElem_cons_zero, List.setIfInBounds_toArray, List.set_cons_zero, List.set_cons_succ]
        refine wpAnyI_take (i := 1) (v := ?_) 10 [10] rfl (by decide) (by decide) (by decide) (by kernel_rfl) (by kernel_rfl) (by kernel_rfl) (by kernel_rfl) (by kernel_rfl) (fun _ _ _ h => h) (Or.inl ⟨by rfl, ?_⟩) (by assumption) ?_
        rotate_left
        · intro wq hSw
          try dsimp only at hSw
          go_simp
          try with_reducible rfl
        try simp only [Act.put, List.getElem_toArray, List.getElem_cons_zero, List.getElem_cons_succ, List.setIfInBounds_toArray, List.set_cons_zero, List.set_cons_succ]
        refine wpAnyI_take (i := 2) (v := ?_) 10 [10] rfl (by decide) (by decide) (by decide) (by kernel_rfl) (by kernel_rfl) (by kernel_rfl) (by kernel_rfl) (by kernel_rfl) (fun _ _ _ h => h) (Or.inl ⟨by rfl, ?_⟩) (by assumption) ?_
        rotate_left
        · intro wq hSw
          try dsimp only at hSw
          go_simp
          try with_reducible rfl
        try simp only [Act.put, List.getElem_toArray, List.getElem_cons_zero, List.getElem_cons_succ, List.setIfInBounds_toArray, List.set_cons_zero, List.set_cons_succ]
        refine wpAnyI_take (i := 3) (v := ?_) 10 [10] rfl (by decide) (by decide) (by decide) (by kernel_rfl) (by kernel_rfl) (by kernel_rfl) (by kernel_rfl) (by kernel_rfl) (fun _ _ _ h => h) (Or.inl ⟨by rfl, ?_⟩) (by assumption) ?_
        rotate_left
        · intro wq hSw
          try dsimp only at hSw
          go_simp
          try with_reducible rfl
        try simp only [Act.put, List.getElem_toArray, List.getElem_cons_zero, List.getElem_cons_succ, List.setIfInBounds_toArray, List.set_cons_zero, List.set_cons_succ]
        refine wpAnyI_take (i := 4) (v := ?_) 10 [10] rfl (by decide) (by decide) (by decide) (by kernel_rfl) (by kernel_rfl) (by kernel_rfl) (by kernel_rfl) (by kernel_rfl) (fun _ _ _ h => h) (Or.inl ⟨by rfl, ?_⟩) (by assumption) ?_
        rotate_left
        · intro wq hSw
          try dsimp only at hSw
          go_simp
          try with_reducible rfl
        try simp only [Act.put, List.getElem_toArray, List.getElem_cons_zero, List.getElem_cons_succ, List.setIfInBounds_toArray, List.set_cons_zero, List.set_cons_succ]
        refine wpAnyI_take (i := 5) (v := ?_) 10 [10] rfl (by decide) (by decide) (by decide) (by kernel_rfl) (by kernel_rfl) (by kernel_rfl) (by kernel_rfl) (by kernel_rfl) (fun _ _ _ h => h) (Or.inl ⟨by rfl, ?_⟩) (by assumption) ?_
        rotate_left
        · intro wq hSw
          try dsimp only at hSw
          go_simp
          try with_reducible rfl
        try simp only [Act.put, List.getElem_toArray, List.getElem_cons_zero, List.getElem_cons_succ, List.setIfInBounds_toArray, List.set_cons_zero, List.set_cons_succ]
        refine wpAnyI_take (i := 6) (v := ?_) 10 [10] rfl (by decide) (by decide) (by decide) (by kernel_rfl) (by kernel_rfl) (by kernel_rfl) (by kernel_rfl) (by kernel_rfl) (fun _ _ _ h => h) (Or.inl ⟨by rfl, ?_⟩) (by assumption) ?_
        rotate_left
        · intro wq hSw
          try dsimp only at hSw
          go_simp
          try with_reducible rfl
        try simp only [Act.put, List.getElem_toArray, List.getElem_cons_zero, List.getElem_cons_succ, List.setIfInBounds_toArray, List.set_cons_zero, List.set_cons_succ]
        refine wpAnyI_take (i := 7) (v := ?_) 10 [10] rfl (by decide) (by decide) (by decide) (by kernel_rfl) (by kernel_rfl) (by kernel_rfl) (by kernel_rfl) (by kernel_rfl) (fun _ _ _ h => h) (Or.inl ⟨by rfl, ?_⟩) (by assumption) ?_
        rotate_left
        · intro wq hSw
          try dsimp only at hSw
          go_simp
          try with_reducible rfl
        try simp only [Act.put, List.getElem_toArray, List.getElem_cons_zero, List.getElem_cons_succ, List.setIfInBounds_toArray, List.set_cons_zero, List.set_cons_succ]
        refine wpAnyI_ready (rs := [8]) (by kernel_rfl) (by simp) ?_
        refine AllReadyI.consT rfl (fun K hK => ?_) AllReadyI.nil
        go_simp
        (refine (HCALL.out _ (by exact bl)).mono ?_) <;> rintro en w8 ⟨A8, c8, rfl, _, _, hE8, hb8⟩ <;> have hz8 := hb8.size <;> (try simp at hz8) <;> rw [HRN.out] <;> have hfz := HFZ.out w8 (by exact bl)
        go_wp2_with fail
        refine hK.out _ _ ?_ (fun hHeld => ?_)
        · try dsimp only
          exact HSH.out _ (by exact bl)
        clear hK K
        try simp only [Act.put, List.getElem_toArray, List.getElem_cons_zero, List.getElem_cons_succ, List.setIfInBounds_toArray, List.set_cons_zero, List.set_cons_succ]
        refine wpAnyI_take (i := 9) (v := ?_) 10 [10] rfl (by decide) (by decide) (by decide) (by kernel_rfl) (by kernel_rfl) (by kernel_rfl) (by kernel_rfl) (by kernel_rfl) (fun _ _ _ h => h) (Or.inl ⟨by rfl, ?_⟩) (by assumption) ?_
        rotate_left
        · intro wq hSw
          try dsimp only at hSw
          go_simp
          try with_reducible rfl
        try simp only [Act.put, List.getElem_toArray, List.getElem_cons_zero, List.getElem_cons_succ, List.setIfInBounds_toArray, List.set_cons_zero, List.set_cons_succ]
        refine wpAnyI_ready (rs := [10]) (by kernel_rfl) (by simp) ?_
        refine AllReadyI.consD rfl (by decide) (fun K hK => ?_) AllReadyI.nil
        (obtain ⟨y0, y1⟩ := hHeld)
        go_simp
        go_wp2_with fail
        refine hK.out _ _ ?_
        clear hK K
        try simp only [Act.put, List.getElem_toArray, List.getElem_cons_zero, List.getElem_cons_succ, List.setIfInBounds_toArray, List.set_cons_zero, List.set_cons_succ]
        refine wpAnyI_done (by kernel_rfl) ?_ _
        obtain ⟨rs9, hfin9⟩ := HFIN.out w8 _ A8 c8 (by exact bl) (by first | (simp; done) | (simp; omega) | omega) hE8
        have HF9 := Lib.hid hfin9
        clear hfin9 HFIN hE8 HCALL HSH
        go_wp2_with fail
        go_roundw
        case rel =>
          obtain ⟨z1, z2, z3, z4, z5, z6, z7⟩ := HF9.out _ rfl
          exact ⟨k + 1, rs9, by omega, by go_num, z1.out, z2, z3, z4.out, z5.out, z6, z7⟩
        case measure => simp [intOf]; omega
      · obtain rfl : k = x.rows.length := by omega
        have HKE := Lib.hid kE
        have HKR := Lib.hid kR
        have HBW9 := Lib.hid hbw
        clear kE kR hbw
        go_wp2_with fail
        go_meet
        exact ⟨rs, HP.out, HKE.out, HKR.out, HAR.out, HTB.out, hB5, HBW9.out⟩
  obtain ⟨rs, HP, kE, kR, HAR, HTB, hB5, hbw⟩ := hcut
  obtain ⟨wk, rfl⟩ : ∃ wk : World, wk = wc := ⟨_, rfl⟩
  obtain ⟨q0, q1, q2, q3, q4, q5, q6, q7, q8, q9, q10, q11⟩ : wk.cell? ⟨w.heap.size, 0, none⟩ = some (.string ⟨x.t.n.toArray⟩) ∧ wk.cell? ⟨w.heap.size, 1, none⟩ = some (.slice A1 x.t.cols.length c1) ∧ wk.cell? ⟨w.heap.size, 2, none⟩ = some (.int .i64 x.t.key) ∧ wk.cell? ⟨w.heap.size, 3, none⟩ = some (.slice A2 x.t.uniq.length c2) ∧ wk.cell? ⟨w.heap.size, 4, none⟩ = some (.slice A3 x.t.refs.length c3) ∧ wk.cell? ⟨w.heap.size, 5, none⟩ = some (.string ⟨x.t.chk.op.toArray⟩) ∧ wk.cell? ⟨w.heap.size, 6, none⟩ = some (.int .i64 x.t.chk.v.k) ∧ wk.cell? ⟨w.heap.size, 7, none⟩ = some (.int .i64 x.t.chk.v.i) ∧ wk.cell? ⟨w.heap.size, 8, none⟩ = some (.string ⟨x.t.chk.v.s.toArray⟩) ∧ wk.cell? ⟨w.heap.size, 9, none⟩ = some (.string ⟨x.t.chk.s.toArray⟩) ∧ wk.cell? ⟨w.heap.size, 10, none⟩ = some (.slice A4 x.t.chk.l.length c4) ∧ wk.cell? ⟨w.heap.size, 11, none⟩ = some (.slice A5 x.rows.length c5) := ⟨kE.cell 0, kE.cell 1, kE.cell 2, kE.cell 3, kE.cell 4, kE.cell 5, kE.cell 6, kE.cell 7, kE.cell 8, kE.cell 9, kE.cell 10, kE.cell 11⟩
  obtain ⟨p0, p1, p2, p3, p4, p5, p6, p7, p8, p9, p10, p11⟩ : wk.cell? ⟨w.heap.size + 1, 0, none⟩ = some (.string ⟨#[]⟩) ∧ wk.cell? ⟨w.heap.size + 1, 1, none⟩ = some (.slice none 0 0) ∧ wk.cell? ⟨w.heap.size + 1, 2, none⟩ = some (.int .i64 0) ∧ wk.cell? ⟨w.heap.size + 1, 3, none⟩ = some (.slice none 0 0) ∧ wk.cell? ⟨w.heap.size + 1, 4, none⟩ = some (.slice none 0 0) ∧ wk.cell? ⟨w.heap.size + 1, 5, none⟩ = some (.string ⟨#[]⟩) ∧ wk.cell? ⟨w.heap.size + 1, 6, none⟩ = some (.int .i64 0) ∧ wk.cell? ⟨w.heap.size + 1, 7, none⟩ = some (.int .i64 0) ∧ wk.cell? ⟨w.heap.size + 1, 8, none⟩ = some (.string ⟨#[]⟩) ∧ wk.cell? ⟨w.heap.size + 1, 9, none⟩ = some (.string ⟨#[]⟩) ∧ wk.cell? ⟨w.heap.size + 1, 10, none⟩ = some (.slice none 0 0) ∧ wk.cell? ⟨w.heap.size + 1, 11, none⟩ = some (.slice none 0 0) := ⟨kR.cell 0, kR.cell 1, kR.cell 2, kR.cell 3, kR.cell 4, kR.cell 5, kR.cell 6, kR.cell 7, kR.cell 8, kR.cell 9, kR.cell 10, kR.cell 11⟩
  obtain ⟨f0, f1, f2, f3, f4, f5, f6, f7, f8, f9, f10, f11⟩ : wk.frozen? ⟨w.heap.size + 1, 0, none⟩ = false ∧ wk.frozen? ⟨w.heap.size + 1, 1, none⟩ = false ∧ wk.frozen? ⟨w.heap.size + 1, 2, none⟩ = false ∧ wk.frozen? ⟨w.heap.size + 1, 3, none⟩ = false ∧ wk.frozen? ⟨w.heap.size + 1, 4, none⟩ = false ∧ wk.frozen? ⟨w.heap.size + 1, 5, none⟩ = false ∧ wk.frozen? ⟨w.heap.size + 1, 6, none⟩ = false ∧ wk.frozen? ⟨w.heap.size + 1, 7, none⟩ = false ∧ wk.frozen? ⟨w.heap.size + 1, 8, none⟩ = false ∧ wk.frozen? ⟨w.heap.size + 1, 9, none⟩ = false ∧ wk.frozen? ⟨w.heap.size + 1, 10, none⟩ = false ∧ wk.frozen? ⟨w.heap.size + 1, 11, none⟩ = false := ⟨kR.frozen 0, kR.frozen 1, kR.frozen 2, kR.frozen 3, kR.frozen 4, kR.frozen 5, kR.frozen 6, kR.frozen 7, kR.frozen 8, kR.frozen 9, kR.frozen 10, kR.frozen 11⟩
  have HFIN : Hid (∀ W : World, But (w.heap.size + 1) wk W → RetCopy x w (.returned (.agg #[.string ⟨x.t.n.toArray⟩, .slice A1 x.t.cols.length c1, .int .i64 x.t.key, .slice A2 x.t.uniq.length c2, .slice A3 x.t.refs.length c3, .string ⟨x.t.chk.op.toArray⟩, .int .i64 x.t.chk.v.k, .int .i64 x.t.chk.v.i, .string ⟨x.t.chk.v.s.toArray⟩, .string ⟨x.t.chk.s.toArray⟩, .slice A4 x.t.chk.l.length c4, .slice A5 x.rows.length c5])) W) := fun W hW => by
    have hzW := hW.size
    refine ⟨⟨⟨⟨A1, c1⟩, ⟨A2, c2⟩, ⟨A3, c3⟩, ⟨A4, c4⟩⟩, ⟨A5, c5⟩⟩, rfl, HNC.out.1, HNC.out.2, But.inside hbw (by omega) hW, ?_⟩
    rcases Nat.eq_zero_or_pos x.rows.length with h0 | h0
    · have hr0 : x.rows = [] := List.eq_nil_of_length_eq_zero h0
      exact ⟨W.heap.size, [], by omega, by rw [hr0]; rfl, fun h => absurd h (by omega), by simp, HTB.out.keep fun b hb => ⟨⟨by omega, by omega, by omega⟩, fun o => hW.cell (by omega) (by omega) o⟩⟩
    · obtain ⟨g, e1, e2, e3, e4⟩ := HAR.out h0
      refine ⟨g, rs, by omega, HP.out.1, fun _ => ⟨e1, by omega, by omega, ?_⟩, fun q hq => ?_, HTB.out.keep fun b hb => ⟨⟨by omega, by omega, by omega⟩, fun o => hW.cell (by omega) (by omega) o⟩⟩
      · obtain ⟨cur, hcur, hcc⟩ := e4
        exact ⟨cur, hW.blk hcur (by omega), hcc⟩
      · obtain ⟨i, hi⟩ := List.getElem?_of_mem hq
        have hil : i < x.rows.length := by
          have := (List.getElem?_eq_some_iff.1 hi).1
          rw [← HP.out.1, List.length_map]
          exact this
        exact ((HP.out.2 i q hi).1 hil).keep fun b hb => ⟨⟨by omega, by omega, by omega⟩, fun o => hW.cell (by omega) (by omega) o⟩
  have ne1 : ¬ (w.heap.size = w.heap.size + 1) := by omega
  clear HP kE kR HAR HTB hbw hB5
  go_wp2_with fail
  refine bodyPost_ret (v := .agg #[.string ⟨x.t.n.toArray⟩, .slice A1 x.t.cols.length c1, .int .i64 x.t.key, .slice A2 x.t.uniq.length c2, .slice A3 x.t.refs.length c3, .string ⟨x.t.chk.op.toArray⟩, .int .i64 x.t.chk.v.k, .int .i64 x.t.chk.v.i, .string ⟨x.t.chk.v.s.toArray⟩, .string ⟨x.t.chk.s.toArray⟩, .slice A4 x.t.chk.l.length c4, .slice A5 x.rows.length c5]) (by simp [results, Tryz.results34, go_sem, *]) rfl (HFIN.out _ ?_)
  exact ((((((((((((But.refl _ _).set _ _).set _ _).set _ _).set _ _).set _ _).set _ _).set _ _).set _ _).set _ _).set _ _).set _ _).set _ _

end Go.Proofs.YtdhjogmkhbpcgaaGreat
