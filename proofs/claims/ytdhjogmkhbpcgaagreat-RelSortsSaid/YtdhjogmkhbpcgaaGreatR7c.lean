/- The document's Sort: rows put in one by one behind all that are not above. Condition: a table with rows that reads as one, of the sizes that are looked at. -/
import Derived.Test.YtdhjogmkhbpcgaaGreatTake
import Derived.Test.YtdhjogmkhbpcgaaGreatR7a
import Derived.Test.YtdhjogmkhbpcgaaGreatRef1Order
import Derived.Test.YtdhjogmkhbpcgaaGreatSort489M
import Derived.Test.YtdhjogmkhbpcgaaGreatFew67M
import Derived.Test.YtdhjogmkhbpcgaaGreatRowsM
import Derived.Deep.CutBlock
import Derived.Deep.DeepCutAuto
import Derived.IntWalk
namespace Go.Proofs.YtdhjogmkhbpcgaaGreat
open Go.RowKit

attribute [local go_sem] ByteArray.extract_mk ba_get ba_append
attribute [local go_sem ↓] Go.wp_at_zero Go.wp_at_succ run_eql_V run_neq_V

/-- The order of values, as the document says it. -/
def ordD (a b : V) : Int := vord (goodV a.k a.i a.s) (goodV b.k b.i b.s)
theorem keyT_d {t : Tb} {r : List V} (h : ∀ v ∈ r, v.s.length ≤ 1000) : (keyT t r).s.length ≤ 140737488351232 := by
  unfold keyT
  split
  · unfold atV
    rw [List.getD_eq_getElem?_getD]
    cases hv : r[t.key.toNat]? with
    | none => simp [V.zero]
    | some v => have := h v (List.mem_of_getElem? hv); simp only [Option.getD_some]; omega
  · simp [V.zero]
/-- What the document's Sort answers. -/
def RetOldSorted (x : Rl) (w : World) (en : Ending) (w' : World) : Prop :=
  ∃ rows', SortedOf (ofF x.t) x.rows rows' ∧ ∃ p : RlP, en = .returned (.agg ((⟨x.t, rows'⟩ : Rl).cells p).toArray) ∧ RlQ 1000 ⟨x.t, rows'⟩ p (Old w'.heap.size) w' ∧ Below w.heap.size w w'
theorem keyT_key (t : Tb) (r : List V) : keyT t r = keyAt (ofF t) r := by
  unfold keyT keyAt ofF
  cases h : mayTb t
  · simp
  · have := may_key h
    by_cases hl : t.key < r.length
    · simp [hl]
      intro h2; omega
    · simp [hl]
theorem ordR_key (t : Tb) (r r' : List V) : ordD (keyT t r) (keyT t r') = cmpR (ofF t) r r' := by
  unfold ordD cmpR
  rw [ordV_eq, keyT_key, keyT_key]
theorem own_reads {w : World} {base : Nat} {e : TypeId} {v : Value} {n : Nat} {xs : List Value} (h : w.ownsRow base e 1 v n xs) :
    ∃ A c, v = .slice A n c ∧ n ≤ c ∧ c ≤ maxLen ∧ (0 < n → ∃ g, A = some ⟨g, 0, none⟩ ∧ g < w.heap.size ∧ ∀ i u, xs[i]? = some u → w.cell? ⟨g, i, none⟩ = some u) ∧ (n = 0 → xs = []) := by
  have h0 := h.1
  rcases h.2 with ⟨rfl, h0⟩ | ⟨g, cap, cur, rfl, hb, hg, hnc, hcm, hcs, htk⟩
  · rw [h0]
    exact ⟨none, 0, rfl, by omega, Nat.zero_le _, fun hl => absurd hl (by omega), fun _ => List.eq_nil_of_length_eq_zero (by omega)⟩
  · refine ⟨some ⟨g, 0, none⟩, cap, rfl, by omega, hcm, fun _ => ⟨g, rfl, (Array.getElem?_eq_some_iff.1 hg).1, fun i u hu => ?_⟩, fun hn => List.eq_nil_of_length_eq_zero (by omega)⟩
    have hc := h.cells (g := g) rfl i u hu
    rw [add_mid] at hc
    simpa using hc
theorem reads_own {w : World} {g off n B : Nat} {xs : List Value} {A : Option Addr} (hl : xs.length = n) (hA : 0 < n → A = some ⟨g, off, none⟩ ∧ g < B ∧ ∀ i u, xs[i]? = some u → w.cell? ⟨g, off + i, none⟩ = some u) : Reads w B 1 A n xs := by
  refine ⟨by omega, fun hn => ?_⟩
  obtain ⟨rfl, hg, hc⟩ := hA hn
  exact ⟨_, rfl, hg, fun i u hu => by rw [add_mid]; exact hc i u hu⟩
theorem rows_out {w : World} {base n : Nat} {e : TypeId} {sv : Value} {H : List Rc} {Q : Nat → Prop} (h : w.ownsRow base e 1 sv n (H.map Rc.cell)) (hq : ∀ q ∈ H, WQ q.r q.s.a Q w) (hQ : ∀ b, base ≤ b → b < w.heap.size → Q b) :
    ∃ A c, sv = .slice A n c ∧ RQ (H.map Rc.r) A Q w := by
  have hn : H.length = n := by have := h.1; rw [List.length_map] at this; omega
  have hlt := h.lt
  obtain ⟨A, c, rfl, _, _, hA, _⟩ := own_reads h
  refine ⟨A, c, rfl, fun hl => ?_⟩
  rw [List.length_map, hn] at hl
  obtain ⟨g, rfl, hg, hc⟩ := hA hl
  refine ⟨g, 0, rfl, hQ g (hlt g rfl).1 hg, fun i r hr => ?_⟩
  rw [List.getElem?_map, Option.map_eq_some_iff] at hr
  obtain ⟨q, hq', rfl⟩ := hr
  have := hc i q.cell (by rw [List.getElem?_map, hq']; rfl)
  rw [Nat.zero_add]
  exact ⟨q.s.a, q.s.c, this, hq q (List.mem_of_getElem? hq')⟩
/-- Does one go on downwards from a place: is the row ahead of it above? -/
def upB (a : Int) (H : List Rc) (r : List V) : Nat → Bool
  | 0 => false
  | m + 1 => match H[m]? with
    | some q => decide (0 < cmpR a q.r r)
    | none => false
theorem sorted_put {a : Int} {l : List (List V)} {H : List Rc} {n : Rc} {r : List V} {k : Nat} (hr : n.r = r) (hk : k ≤ H.length) (h : SortedOf a l (H.map Rc.r)) (hd : ∀ q ∈ H.drop k, 0 < cmpR a q.r r) (hu : upB a H r k = false) :
    SortedOf a (l ++ [r]) ((H.take k ++ n :: H.drop k).map Rc.r) := by
  subst hr
  have h1 : Rise (cmpR a) (((H.take k).map Rc.r) ++ ((H.drop k).map Rc.r)) := by rw [← List.map_append, List.take_append_drop]; exact h.1
  have h2 := put_in (cmpR_pre a) (x := n.r) h1 ?_ ?_
  · rw [List.map_append, List.map_cons]
    refine ⟨h2.1, Stab.trans ?_ h2.2⟩
    rw [← List.map_append, List.take_append_drop]
    exact h.2.app (Stab.refl _)
  · cases k with
    | zero => exact .inl (by simp)
    | succ m =>
      have hm : m < H.length := by omega
      have e1 : H[m]? = some H[m] := List.getElem?_eq_getElem hm
      refine .inr ⟨H[m].r, ?_, ?_⟩
      · rw [List.take_add_one, e1, List.map_append, Option.toList_some, List.map_cons, List.map_nil, List.getLast?_concat]
      · have hu' : decide (0 < cmpR a H[m].r n.r) = false := by
          have := hu
          simp only [upB, e1] at this
          exact this
        have := of_decide_eq_false hu'
        omega
  · intro y hy
    obtain ⟨q, hq, rfl⟩ := List.mem_map.1 hy
    exact hd q hq
theorem own_lo {w : World} {base base' s n : Nat} {e : TypeId} {v : Value} {xs : List Value} (h : w.ownsRow base e s v n xs) (hb : base' ≤ base) : w.ownsRow base' e s v n xs :=
  ⟨h.1, h.2.imp id fun ⟨g, cap, cur, e1, e2, e3⟩ => ⟨g, cap, cur, e1, Nat.le_trans hb e2, e3⟩⟩
theorem kj1 {k j : Nat} (h : k ≤ j) : k + 1 + (j - k) = j + 1 := by omega
theorem infoR7 : (Tryz.prog.info? 43).map (fun i => (i.zero, i.size, i.bytes)) = some (some (.slice none 0 0), 1, 24) := by kernel_rfl
set_option maxRecDepth 100000 in
set_option maxHeartbeats 32000000 in
theorem sort7_any (x : Rl) (p : RlP) (w : World) (hs : x.t.small) (hrl : x.rows.length ≤ 1000) (hrw : ∀ r ∈ x.rows, r.length ≤ 1000 ∧ ∀ v ∈ r, fitI v.i ∧ v.s.length ≤ 1000) (hQ : RlQ 1000 x p (Old w.heap.size) w) :
    Calls Tryz.prog 16 #[.agg (x.cells p).toArray] w (RetOldSorted x w) := by
  obtain ⟨⟨⟨a1, k1⟩, ⟨a2, k2⟩, ⟨a3, k3⟩, ⟨a4, k4⟩⟩, ⟨a5, k5⟩⟩ := p
  obtain ⟨N, hN⟩ : ∃ N, x.rows.length = N := ⟨_, rfl⟩
  obtain ⟨w1, hw1⟩ : ∃ w0, ((w.alloc (.cells #[.string ⟨x.t.n.toArray⟩, .slice a1 x.t.cols.length k1, .int .i64 x.t.key, .slice a2 x.t.uniq.length k2, .slice a3 x.t.refs.length k3, .string ⟨x.t.chk.op.toArray⟩, .int .i64 x.t.chk.v.k, .int .i64 x.t.chk.v.i, .string ⟨x.t.chk.v.s.toArray⟩, .string ⟨x.t.chk.s.toArray⟩, .slice a4 x.t.chk.l.length k4, .slice a5 N k5] 34)).alloc (.cells #[.string ⟨#[]⟩, .slice none 0 0, .int .i64 0, .slice none 0 0, .slice none 0 0, .string ⟨#[]⟩, .int .i64 0, .int .i64 0, .string ⟨#[]⟩, .string ⟨#[]⟩, .slice none 0 0, .slice none 0 0] 34)).alloc (.cells #[.string ⟨x.t.n.toArray⟩, .slice a1 x.t.cols.length k1, .int .i64 x.t.key, .slice a2 x.t.uniq.length k2, .slice a3 x.t.refs.length k3, .string ⟨x.t.chk.op.toArray⟩, .int .i64 x.t.chk.v.k, .int .i64 x.t.chk.v.i, .string ⟨x.t.chk.v.s.toArray⟩, .string ⟨x.t.chk.s.toArray⟩, .slice a4 x.t.chk.l.length k4, .slice none 0 0] 34) = w0 := ⟨_, rfl⟩
  have kx1 : Blk w1 w.heap.size 34 #[.string ⟨x.t.n.toArray⟩, .slice a1 x.t.cols.length k1, .int .i64 x.t.key, .slice a2 x.t.uniq.length k2, .slice a3 x.t.refs.length k3, .string ⟨x.t.chk.op.toArray⟩, .int .i64 x.t.chk.v.k, .int .i64 x.t.chk.v.i, .string ⟨x.t.chk.v.s.toArray⟩, .string ⟨x.t.chk.s.toArray⟩, .slice a4 x.t.chk.l.length k4, .slice a5 N k5] := by rw [← hw1]; exact ((Blk.new _ _ _).alloc _).alloc _
  have kr1 : Blk w1 (w.heap.size + 1) 34 #[.string ⟨#[]⟩, .slice none 0 0, .int .i64 0, .slice none 0 0, .slice none 0 0, .string ⟨#[]⟩, .int .i64 0, .int .i64 0, .string ⟨#[]⟩, .string ⟨#[]⟩, .slice none 0 0, .slice none 0 0] := by rw [← hw1]; exact (Blk.new' _ _ _ _ (by simp)).alloc _
  have ky1 : Blk w1 (w.heap.size + 2) 34 #[.string ⟨x.t.n.toArray⟩, .slice a1 x.t.cols.length k1, .int .i64 x.t.key, .slice a2 x.t.uniq.length k2, .slice a3 x.t.refs.length k3, .string ⟨x.t.chk.op.toArray⟩, .int .i64 x.t.chk.v.k, .int .i64 x.t.chk.v.i, .string ⟨x.t.chk.v.s.toArray⟩, .string ⟨x.t.chk.s.toArray⟩, .slice a4 x.t.chk.l.length k4, .slice none 0 0] := by rw [← hw1]; exact Blk.new' _ _ _ _ (by simp)
  have hb1 : Below w.heap.size w w1 := by rw [← hw1]; exact bl
  have hz1 : w1.heap.size = w.heap.size + 3 := by rw [← hw1]; simp
  obtain ⟨gy, hgy⟩ : ∃ g, w.heap.size + 2 = g := ⟨_, rfl⟩
  have HXB : Hid (∀ Z : World, But gy w1 Z → RlQ 1000 x ⟨⟨⟨a1, k1⟩, ⟨a2, k2⟩, ⟨a3, k3⟩, ⟨a4, k4⟩⟩, ⟨a5, k5⟩⟩ (Old w.heap.size) Z) := fun Z hz => hQ.keep fun b hb => ⟨hb, fun o => (hz.cell (by have : b < w.heap.size := hb; omega) (by have : b < w.heap.size := hb; omega) o).trans (hb1.cell (p := ⟨b, o, none⟩) hb)⟩
  have HSX : Hid (∀ Z : World, But gy w1 Z → Z.cell? ⟨w.heap.size, 0, none⟩ = some (.string ⟨x.t.n.toArray⟩) ∧ Z.cell? ⟨w.heap.size, 1, none⟩ = some (.slice a1 x.t.cols.length k1) ∧ Z.cell? ⟨w.heap.size, 2, none⟩ = some (.int .i64 x.t.key) ∧ Z.cell? ⟨w.heap.size, 3, none⟩ = some (.slice a2 x.t.uniq.length k2) ∧ Z.cell? ⟨w.heap.size, 4, none⟩ = some (.slice a3 x.t.refs.length k3) ∧ Z.cell? ⟨w.heap.size, 5, none⟩ = some (.string ⟨x.t.chk.op.toArray⟩) ∧ Z.cell? ⟨w.heap.size, 6, none⟩ = some (.int .i64 x.t.chk.v.k) ∧ Z.cell? ⟨w.heap.size, 7, none⟩ = some (.int .i64 x.t.chk.v.i) ∧ Z.cell? ⟨w.heap.size, 8, none⟩ = some (.string ⟨x.t.chk.v.s.toArray⟩) ∧ Z.cell? ⟨w.heap.size, 9, none⟩ = some (.string ⟨x.t.chk.s.toArray⟩) ∧ Z.cell? ⟨w.heap.size, 10, none⟩ = some (.slice a4 x.t.chk.l.length k4) ∧ Z.cell? ⟨w.heap.size, 11, none⟩ = some (.slice a5 N k5)) := fun Z hz => by
    have kz := hz.blk kx1 (by omega)
    exact ⟨kz.cell 0, kz.cell 1, kz.cell 2, kz.cell 3, kz.cell 4, kz.cell 5, kz.cell 6, kz.cell 7, kz.cell 8, kz.cell 9, kz.cell 10, kz.cell 11⟩
  have HKEY : Hid (∀ (Z : World) (r : List V) (A : Option Addr) (c : Nat), But gy w1 Z → WQ r A (Old w.heap.size) Z → Calls Tryz.prog 28 #[.agg #[.string ⟨x.t.n.toArray⟩, .slice a1 x.t.cols.length k1, .int .i64 x.t.key, .slice a2 x.t.uniq.length k2, .slice a3 x.t.refs.length k3, .string ⟨x.t.chk.op.toArray⟩, .int .i64 x.t.chk.v.k, .int .i64 x.t.chk.v.i, .string ⟨x.t.chk.v.s.toArray⟩, .string ⟨x.t.chk.s.toArray⟩, .slice a4 x.t.chk.l.length k4], .slice A r.length c] Z (Ret (.agg #[.int .i64 (keyT x.t r).k, .int .i64 (keyT x.t r).i, .string ⟨(keyT x.t r).s.toArray⟩]) Z)) := fun Z r A c hz hr => by
    have hsz := hz.size
    have hk : ∀ b, Old w.heap.size b → Old Z.heap.size b ∧ ∀ o, Z.cell? ⟨b, o, none⟩ = Z.cell? ⟨b, o, none⟩ := fun b hb => ⟨by have : b < w.heap.size := hb; show b < _; omega, fun _ => rfl⟩
    exact key7_any x.t ⟨⟨a1, k1⟩, ⟨a2, k2⟩, ⟨a3, k3⟩, ⟨a4, k4⟩⟩ r A c Z hs ((HXB.out Z hz).1.keep hk) (hr.keep hk)
  have HKY := Lib.hid ky1
  have HKR := Lib.hid kr1
  have HB1 := Lib.hid hb1
  have HW1 := Lib.hid hw1
  have HRW := Lib.hid hrw
  have HZ1 := Lib.hid hz1
  have HGY := Lib.hid hgy
  have HS := Lib.hid hs
  have HN := Lib.hid hN
  obtain ⟨i0, hi0, zi0, zi1, zi2⟩ := info_parts infoR7
  rw [hN] at hrl
  dsimp only [Rl.cells]
  rw [hN]
  clear hw1 kx1 kr1 ky1 hb1 hz1 hrw hQ hs hN
  go_enter Tryz.func16, Tryz.ntmps16
  go_upto_region 2 with fail
  rw [HW1.out]
  clear HW1 hgy
  go_upto_block 0 with fail
  go_cut [4] from 10 to 65 (fun _ wx => ∃ (v : Value) (H : List Rc), Blk wx gy 34 #[.string ⟨x.t.n.toArray⟩, .slice a1 x.t.cols.length k1, .int .i64 x.t.key, .slice a2 x.t.uniq.length k2, .slice a3 x.t.refs.length k3, .string ⟨x.t.chk.op.toArray⟩, .int .i64 x.t.chk.v.k, .int .i64 x.t.chk.v.i, .string ⟨x.t.chk.v.s.toArray⟩, .string ⟨x.t.chk.s.toArray⟩, .slice a4 x.t.chk.l.length k4, v] ∧ wx.ownsRow (gy + 1) 43 1 v N (H.map Rc.cell) ∧ Hid (SortedOf (ofF x.t) x.rows (H.map Rc.r)) ∧ Hid (∀ q ∈ H, WQ q.r q.s.a (Old w.heap.size) w1) ∧ But gy w1 wx)
  case first => as_aux_lemma =>
    go_wp2_with fail
    go_loopw [4] (fun i wr => ∃ (j : Nat) (v : Value) (H : List Rc), j ≤ N ∧ i = .int .i64 j ∧ Blk wr gy 34 #[.string ⟨x.t.n.toArray⟩, .slice a1 x.t.cols.length k1, .int .i64 x.t.key, .slice a2 x.t.uniq.length k2, .slice a3 x.t.refs.length k3, .string ⟨x.t.chk.op.toArray⟩, .int .i64 x.t.chk.v.k, .int .i64 x.t.chk.v.i, .string ⟨x.t.chk.v.s.toArray⟩, .string ⟨x.t.chk.s.toArray⟩, .slice a4 x.t.chk.l.length k4, v] ∧ wr.ownsRow (gy + 1) 43 1 v j (H.map Rc.cell) ∧ Hid (SortedOf (ofF x.t) (x.rows.take j) (H.map Rc.r)) ∧ Hid (∀ q ∈ H, WQ q.r q.s.a (Old w.heap.size) w1) ∧ But gy w1 wr) (fun i _ => N - (intOf i).toNat)
    case atStart => exact ⟨0, .slice none 0 0, [], by omega, rfl, by have := HKY.out; rw [HGY.out] at this; exact this, World.ownsRow_nil _ _ _ _, ⟨List.Pairwise.nil, Stab.refl _⟩, fun q h => by simp at h, But.refl _ _⟩
    case round =>
      obtain ⟨j, v, H, hj, rfl, hky, hown, HSO, HQH, hbut⟩ := hrel
      obtain ⟨W, rfl⟩ : ∃ W, W = wr := ⟨_, rfl⟩
      have hz1 := HZ1.out
      have hgy := HGY.out
      have hzr := hbut.size
      have lky := hky.lt
      obtain ⟨A, c, rfl, hjc, hcm, hA, hA0⟩ := own_reads hown
      by_cases hlt : j < N
      · obtain ⟨bx, ox, r, Ax, cx, ha5, hbB, hv, cr, hWr⟩ := (HXB.out W hbut).2.at_ (j := j) (by rw [HN.out]; exact hlt)
        have hHl : H.length = j := by have := hown.1; rw [List.length_map] at this; omega
        have hbx : bx < w.heap.size := hbB
        have HHL := Lib.hid hHl
        have HWR := Lib.hid hWr
        have HBUT := Lib.hid hbut
        have HOWN := Lib.hid hown
        have HKYW := Lib.hid hky
        have HA := Lib.hid hA
        have HTK : Hid (x.rows.take (j + 1) = x.rows.take j ++ [r]) := by show _ = _; rw [List.take_add_one, hv]; rfl
        have hkl : (keyT x.t r).s.length ≤ 140737488351232 := keyT_d fun v hv' => ((HRW.out r (List.mem_of_getElem? hv)).2 v hv').2
        have HHM : Hid (∀ q ∈ H, q.r ∈ x.rows) := fun q hq => List.mem_of_mem_take ((HSO.out.2.1.mem_iff).1 (List.mem_map_of_mem hq))
        have HCX : Hid (∀ Z : World, Below W.heap.size W Z → (Z.cell? ⟨w.heap.size, 0, none⟩ = some (.string ⟨x.t.n.toArray⟩) ∧ Z.cell? ⟨w.heap.size, 1, none⟩ = some (.slice a1 x.t.cols.length k1) ∧ Z.cell? ⟨w.heap.size, 2, none⟩ = some (.int .i64 x.t.key) ∧ Z.cell? ⟨w.heap.size, 3, none⟩ = some (.slice a2 x.t.uniq.length k2) ∧ Z.cell? ⟨w.heap.size, 4, none⟩ = some (.slice a3 x.t.refs.length k3) ∧ Z.cell? ⟨w.heap.size, 5, none⟩ = some (.string ⟨x.t.chk.op.toArray⟩) ∧ Z.cell? ⟨w.heap.size, 6, none⟩ = some (.int .i64 x.t.chk.v.k) ∧ Z.cell? ⟨w.heap.size, 7, none⟩ = some (.int .i64 x.t.chk.v.i) ∧ Z.cell? ⟨w.heap.size, 8, none⟩ = some (.string ⟨x.t.chk.v.s.toArray⟩) ∧ Z.cell? ⟨w.heap.size, 9, none⟩ = some (.string ⟨x.t.chk.s.toArray⟩) ∧ Z.cell? ⟨w.heap.size, 10, none⟩ = some (.slice a4 x.t.chk.l.length k4) ∧ Z.cell? ⟨w.heap.size, 11, none⟩ = some (.slice a5 N k5)) ∧ Z.cell? ⟨gy, 11, none⟩ = some (.slice A j c) ∧ Z.cell? ⟨bx, ox + j, none⟩ = some (.slice Ax r.length cx)) := fun Z hz =>
          ⟨HSX.out Z (HBUT.out.after hz), (HKYW.out.below hz lky).cell 11, (hz.cell (p := ⟨bx, ox + j, none⟩) (show bx < _ by omega)).trans cr⟩
        have HK2 : Hid (∀ Z : World, Below W.heap.size W Z → Calls Tryz.prog 28 #[.agg #[.string ⟨x.t.n.toArray⟩, .slice a1 x.t.cols.length k1, .int .i64 x.t.key, .slice a2 x.t.uniq.length k2, .slice a3 x.t.refs.length k3, .string ⟨x.t.chk.op.toArray⟩, .int .i64 x.t.chk.v.k, .int .i64 x.t.chk.v.i, .string ⟨x.t.chk.v.s.toArray⟩, .string ⟨x.t.chk.s.toArray⟩, .slice a4 x.t.chk.l.length k4], .slice Ax r.length cx] Z (Ret (.agg #[.int .i64 (keyT x.t r).k, .int .i64 (keyT x.t r).i, .string ⟨(keyT x.t r).s.toArray⟩]) Z)) := fun Z hz =>
          HKEY.out Z r Ax cx (HBUT.out.after hz) (HWR.out.keep fun b hb => ⟨hb, fun o => hz.cell (p := ⟨b, o, none⟩) (by have : b < w.heap.size := hb; show b < _; omega)⟩)
        obtain ⟨vb, hvb⟩ : ∃ v, keyT x.t r = v := ⟨_, rfl⟩
        rw [hvb] at HK2 hkl
        have HVB := Lib.hid hvb
        have g1 : (0 : Int) ≤ (j : Int) := by omega
        have g2 : (j : Int) < (N : Int) := by omega
        subst ha5
        obtain ⟨⟨q0, q1, q2, q3, q4, q5, q6, q7, q8, q9, q10, q11⟩, q12, q13⟩ := HCX.out W (Below.refl _ _)
        clear hky hown hbut hbB hv hWr hHl hvb hA hA0
        go_wp2_with fail
        go_loopw [5] (fun i wi => ∃ k : Nat, k ≤ j ∧ i = .int .i64 k ∧ Hid (∀ q ∈ H.drop k, 0 < cmpR (ofF x.t) q.r r) ∧ Below W.heap.size W wi) (fun i _ => (intOf i).toNat)
        case atStart => exact ⟨j, by omega, rfl, fun q hq => by rw [List.drop_eq_nil_of_le (by have := HHL.out; omega)] at hq; simp at hq, Below.refl _ _⟩
        case round =>
          obtain ⟨k, hk, rfl, HDR, hbi⟩ := hrel
          obtain ⟨Y, rfl⟩ : ∃ W, W = wr := ⟨_, rfl⟩
          have hzi := hbi.size
          obtain ⟨B, hB⟩ : ∃ B : Bool, upB (ofF x.t) H r k = B := ⟨_, rfl⟩
          have HB := Lib.hid hB
          clear hB
          go_upto_region 6 with fail
          go_cut [42] (fun s wx => s = .bool B ∧ Below W.heap.size W wx)
          case first => as_aux_lemma =>
            rcases Nat.eq_zero_or_pos k with hkm | hkp
            · subst hkm
              have hB0 : B = false := HB.out.symm
              subst hB0
              refine wp_region_held_drew (S := (fun Z => Below W.heap.size W Z)) (by kernel_rfl) ?_ (fun hHeld => ?_)
              · try dsimp only
                exact bl
              refine wpAnyT_start [0, 1, 2] ?_
              iterate 3
                refine wpAnyT_cons (v := ?_) rfl (by kernel_rfl) (by kernel_rfl) (by kernel_rfl) (fun _ _ _ h => h) (Or.inl ⟨by rfl, ?_⟩) (by assumption) ?_
                rotate_left
                · intro wq hSw
                  try dsimp only at hSw
                  go_simp
                  try with_reducible rfl
                try simp only [Act.put, List.getElem_toArray, List.getElem_cons_zero, List.getElem_cons_succ, List.setIfInBounds_toArray, List.set_cons_zero, List.set_cons_succ]
              refine wpAnyT_nil ?_
              refine wpAnyT_start [3, 4, 5, 6, 7, 8, 9, 10, 11, 12, 13, 14, 15, 16, 17, 18, 19, 20, 21] ?_
              iterate 19
                refine wpAnyT_cons (v := undef) rfl (by kernel_rfl) (by kernel_rfl) (by kernel_rfl) (fun _ _ _ h => h) (Or.inr ⟨by rfl, rfl⟩) (by assumption) ?_
                try simp only [Act.put, List.getElem_toArray, List.getElem_cons_zero, List.getElem_cons_succ, List.setIfInBounds_toArray, List.set_cons_zero, List.set_cons_succ]
              refine wpAnyT_nil ?_
              refine wpAnyH_take (i := 22) (v := ?_) rfl (by kernel_rfl) (by kernel_rfl) (by kernel_rfl) (fun _ _ _ h => h) (Or.inl ⟨by rfl, ?_⟩) (by assumption) ?_
              rotate_left
              · intro wq hSw
                try dsimp only at hSw
                go_simp
                try with_reducible rfl
              try simp only [Act.put, List.getElem_toArray, List.getElem_cons_zero, List.getElem_cons_succ, List.setIfInBounds_toArray, List.set_cons_zero, List.set_cons_succ]
              refine wpAnyH_done (by kernel_rfl) ?_ _
              go_wp2_with fail
              go_meet
              exact ⟨rfl, by exact bl⟩
            · obtain ⟨m, hkk⟩ : ∃ m, k = m + 1 := ⟨k - 1, by omega⟩
              have HKK := Lib.hid hkk
              have hmj : m < j := by omega
              have hmH : m < H.length := by have := HHL.out; omega
              obtain ⟨q, hq⟩ : ∃ q, H[m]? = some q := ⟨_, List.getElem?_eq_getElem hmH⟩
              have hqm := List.mem_of_getElem? hq
              obtain ⟨g, rfl, hgW, hcl⟩ := HA.out (by omega)
              have hcq : W.cell? ⟨g, m, none⟩ = some (.slice q.s.a q.r.length q.s.c) := hcl m q.cell (by rw [List.getElem?_map, hq]; rfl)
              have HCX2 : Hid (∀ Z : World, Below W.heap.size W Z → ((Z.cell? ⟨w.heap.size, 0, none⟩ = some (.string ⟨x.t.n.toArray⟩) ∧ Z.cell? ⟨w.heap.size, 1, none⟩ = some (.slice a1 x.t.cols.length k1) ∧ Z.cell? ⟨w.heap.size, 2, none⟩ = some (.int .i64 x.t.key) ∧ Z.cell? ⟨w.heap.size, 3, none⟩ = some (.slice a2 x.t.uniq.length k2) ∧ Z.cell? ⟨w.heap.size, 4, none⟩ = some (.slice a3 x.t.refs.length k3) ∧ Z.cell? ⟨w.heap.size, 5, none⟩ = some (.string ⟨x.t.chk.op.toArray⟩) ∧ Z.cell? ⟨w.heap.size, 6, none⟩ = some (.int .i64 x.t.chk.v.k) ∧ Z.cell? ⟨w.heap.size, 7, none⟩ = some (.int .i64 x.t.chk.v.i) ∧ Z.cell? ⟨w.heap.size, 8, none⟩ = some (.string ⟨x.t.chk.v.s.toArray⟩) ∧ Z.cell? ⟨w.heap.size, 9, none⟩ = some (.string ⟨x.t.chk.s.toArray⟩) ∧ Z.cell? ⟨w.heap.size, 10, none⟩ = some (.slice a4 x.t.chk.l.length k4) ∧ Z.cell? ⟨w.heap.size, 11, none⟩ = some (.slice (some ⟨bx, ox, none⟩) N k5)) ∧ Z.cell? ⟨gy, 11, none⟩ = some (.slice (some ⟨g, 0, none⟩) j c) ∧ Z.cell? ⟨bx, ox + j, none⟩ = some (.slice Ax r.length cx)) ∧ Z.cell? ⟨g, m, none⟩ = some (.slice q.s.a q.r.length q.s.c)) := fun Z hz =>
                ⟨HCX.out Z hz, (hz.cell (p := ⟨g, m, none⟩) hgW).trans hcq⟩
              have HK3 : Hid (∀ Z : World, Below W.heap.size W Z → Calls Tryz.prog 28 #[.agg #[.string ⟨x.t.n.toArray⟩, .slice a1 x.t.cols.length k1, .int .i64 x.t.key, .slice a2 x.t.uniq.length k2, .slice a3 x.t.refs.length k3, .string ⟨x.t.chk.op.toArray⟩, .int .i64 x.t.chk.v.k, .int .i64 x.t.chk.v.i, .string ⟨x.t.chk.v.s.toArray⟩, .string ⟨x.t.chk.s.toArray⟩, .slice a4 x.t.chk.l.length k4], .slice q.s.a q.r.length q.s.c] Z (Ret (.agg #[.int .i64 (keyT x.t q.r).k, .int .i64 (keyT x.t q.r).i, .string ⟨(keyT x.t q.r).s.toArray⟩]) Z)) := fun Z hz =>
                HKEY.out Z q.r q.s.a q.s.c (HBUT.out.after hz) ((HQH.out q hqm).keep fun b hb => ⟨hb, fun o => (HBUT.out.after hz).cell (by have : b < w.heap.size := hb; omega) (by have : b < w.heap.size := hb; omega) o⟩)
              have hql : (keyT x.t q.r).s.length ≤ 140737488351232 := keyT_d fun v hv' => ((HRW.out q.r (HHM.out q hqm)).2 v hv').2
              have hOB : upB (ofF x.t) H r k = decide (0 < ordD (keyT x.t q.r) vb) := by
                rw [hkk, ← HVB.out, ordR_key]
                simp only [upB, hq]
              obtain ⟨va, hva⟩ : ∃ v, keyT x.t q.r = v := ⟨_, rfl⟩
              rw [hva] at HK3 hql hOB
              obtain ⟨O, hO⟩ : ∃ O, ordD va vb = O := ⟨_, rfl⟩
              rw [hO] at hOB
              unfold ordD at hO
              have HVO : Hid (∀ Z : World, Calls Tryz.prog 19 #[.agg #[.int .i64 (va).k, .int .i64 (va).i, .string ⟨(va).s.toArray⟩], .agg #[.int .i64 (vb).k, .int .i64 (vb).i, .string ⟨(vb).s.toArray⟩]] Z (Ret (.int .i64 O) Z)) := fun Z => by
                have := rorder_any va.k va.i va.s vb.k vb.i vb.s Z hql hkl
                rw [hO] at this
                exact this
              have HOB : Hid (decide (0 < O) = B) := by show _ = _; rw [← hOB]; exact HB.out
              have g5 : (0 : Int) < (k : Int) := by omega
              have g6 : IntKind.i64.wrap ((k : Int) - 1) = (m : Int) := by rw [IntWalk.i64_in _ (by omega)]; omega
              have g7 : (0 : Int) ≤ (m : Int) := by omega
              have g9 : IntKind.i64.wrap (m : Int) = (m : Int) := IntWalk.i64_in _ (by omega)
              have g8 : (m : Int) < (j : Int) := by omega
              clear hkk hmH hq hqm hcl hcq hql hOB hO hva hgW HB
              refine wp_region_held_drew (S := (fun Z => ((Z.cell? ⟨w.heap.size, 0, none⟩ = some (.string ⟨x.t.n.toArray⟩) ∧ Z.cell? ⟨w.heap.size, 1, none⟩ = some (.slice a1 x.t.cols.length k1) ∧ Z.cell? ⟨w.heap.size, 2, none⟩ = some (.int .i64 x.t.key) ∧ Z.cell? ⟨w.heap.size, 3, none⟩ = some (.slice a2 x.t.uniq.length k2) ∧ Z.cell? ⟨w.heap.size, 4, none⟩ = some (.slice a3 x.t.refs.length k3) ∧ Z.cell? ⟨w.heap.size, 5, none⟩ = some (.string ⟨x.t.chk.op.toArray⟩) ∧ Z.cell? ⟨w.heap.size, 6, none⟩ = some (.int .i64 x.t.chk.v.k) ∧ Z.cell? ⟨w.heap.size, 7, none⟩ = some (.int .i64 x.t.chk.v.i) ∧ Z.cell? ⟨w.heap.size, 8, none⟩ = some (.string ⟨x.t.chk.v.s.toArray⟩) ∧ Z.cell? ⟨w.heap.size, 9, none⟩ = some (.string ⟨x.t.chk.s.toArray⟩) ∧ Z.cell? ⟨w.heap.size, 10, none⟩ = some (.slice a4 x.t.chk.l.length k4) ∧ Z.cell? ⟨w.heap.size, 11, none⟩ = some (.slice (some ⟨bx, ox, none⟩) N k5)) ∧ Z.cell? ⟨gy, 11, none⟩ = some (.slice (some ⟨g, 0, none⟩) j c) ∧ Z.cell? ⟨bx, ox + j, none⟩ = some (.slice Ax r.length cx)) ∧ Z.cell? ⟨g, m, none⟩ = some (.slice q.s.a q.r.length q.s.c))) (by kernel_rfl) ?_ (fun hHeld => ?_)
              · try dsimp only
                exact HCX2.out _ (by exact bl)
              refine wpAnyT_start [0, 1, 2, 3, 4, 5, 6, 7, 8, 9, 10, 12, 13, 14, 15, 16, 17, 18] ?_
              iterate 18
                refine wpAnyT_cons (v := ?_) rfl (by kernel_rfl) (by kernel_rfl) (by kernel_rfl) (fun _ _ _ h => h) (Or.inl ⟨by rfl, ?_⟩) (by assumption) ?_
                rotate_left
                · intro wq hSw
                  try dsimp only at hSw
                  go_simp
                  try with_reducible rfl
                try simp only [Act.put, List.getElem_toArray, List.getElem_cons_zero, List.getElem_cons_succ, List.setIfInBounds_toArray, List.set_cons_zero, List.set_cons_succ]
              refine wpAnyT_nil ?_
              refine wpAnyH_ready (rs := [11]) (by kernel_rfl) (by simp) ?_
              refine AllReadyH.cons rfl (fun K hK => ?_) AllReadyH.nil
              go_simp
              (refine (HK3.out _ (by exact bl)).mono ?_) <;> rintro en w11 ⟨rfl, hb11⟩ <;> have hz11 := hb11.size <;> (try simp at hz11)
              go_wp2_with fail
              refine hK.out _ _ ?_ (fun hHeld => ?_)
              · try dsimp only
                exact HCX2.out _ (by exact bl)
              clear hK K
              try simp only [Act.put, List.getElem_toArray, List.getElem_cons_zero, List.getElem_cons_succ, List.setIfInBounds_toArray, List.set_cons_zero, List.set_cons_succ]
              refine wpAnyH_ready (rs := [19]) (by kernel_rfl) (by simp) ?_
              refine AllReadyH.cons rfl (fun K hK => ?_) AllReadyH.nil
              go_simp
              (refine (HK2.out _ (by exact bl)).mono ?_) <;> rintro en w19 ⟨rfl, hb19⟩ <;> have hz19 := hb19.size <;> (try simp at hz19)
              go_wp2_with fail
              refine hK.out _ _ ?_ (fun hHeld => ?_)
              · try dsimp only
                exact HCX2.out _ (by exact bl)
              clear hK K
              try simp only [Act.put, List.getElem_toArray, List.getElem_cons_zero, List.getElem_cons_succ, List.setIfInBounds_toArray, List.set_cons_zero, List.set_cons_succ]
              refine wpAnyH_ready (rs := [20]) (by kernel_rfl) (by simp) ?_
              refine AllReadyH.cons rfl (fun K hK => ?_) AllReadyH.nil
              go_simp
              (refine (HVO.out _).mono ?_) <;> rintro en w20 ⟨rfl, hb20⟩ <;> have hz20 := hb20.size <;> (try simp at hz20)
              go_wp2_with fail
              refine hK.out _ _ ?_ (fun hHeld => ?_)
              · try dsimp only
                exact HCX2.out _ (by exact bl)
              clear hK K
              try simp only [Act.put, List.getElem_toArray, List.getElem_cons_zero, List.getElem_cons_succ, List.setIfInBounds_toArray, List.set_cons_zero, List.set_cons_succ]
              refine wpAnyT_start [21, 22] ?_
              iterate 2
                refine wpAnyT_cons (v := ?_) rfl (by kernel_rfl) (by kernel_rfl) (by kernel_rfl) (fun _ _ _ h => h) (Or.inl ⟨by rfl, ?_⟩) (by assumption) ?_
                rotate_left
                · intro wq hSw
                  try dsimp only at hSw
                  go_simp
                  try with_reducible rfl
                try simp only [Act.put, List.getElem_toArray, List.getElem_cons_zero, List.getElem_cons_succ, List.setIfInBounds_toArray, List.set_cons_zero, List.set_cons_succ]
              refine wpAnyT_nil ?_
              refine wpAnyH_done (by kernel_rfl) ?_ _
              go_wp2_with fail
              go_meet
              exact ⟨congrArg Value.bool HOB.out, by exact bl⟩
          obtain ⟨rfl, hbc⟩ := hcut
          obtain ⟨Y2, rfl⟩ : ∃ W, W = wc := ⟨_, rfl⟩
          have hz2 := hbc.size
          cases B with
          | true => as_aux_lemma =>
            obtain ⟨m, hm⟩ : ∃ m, k = m + 1 := by cases k with | zero => exact absurd HB.out (by unfold upB; simp) | succ m => exact ⟨m, rfl⟩
            have g6 : IntKind.i64.wrap ((k : Int) - 1) = (m : Int) := by rw [IntWalk.i64_in _ (by omega)]; omega
            have HND : Hid (∀ q ∈ H.drop m, 0 < cmpR (ofF x.t) q.r r) := fun q hq => by
              have hb := HB.out
              rw [hm] at hb
              have hmH : m < H.length := by have := HHL.out; omega
              simp only [upB, List.getElem?_eq_getElem hmH] at hb
              rw [List.drop_eq_getElem_cons hmH] at hq
              rcases List.mem_cons.1 hq with rfl | hq
              · simpa using hb
              · exact HDR.out q (by rw [hm]; exact hq)
            have hmk : m ≤ j := by omega
            have HMK : Hid (k = m + 1) := hm
            clear hm HB
            go_wp2_with fail
            go_roundw
            case rel => exact ⟨m, hmk, by go_num, HND, hbc⟩
            case measure => have := HMK.out; simp [intOf]; omega
          | false => as_aux_lemma =>
            have HSP : Hid (SortedOf (ofF x.t) (x.rows.take j ++ [r]) ((H.take k ++ (⟨⟨Ax, cx⟩, r⟩ : Rc) :: H.drop k).map Rc.r)) := sorted_put (n := ⟨⟨Ax, cx⟩, r⟩) rfl (by have := HHL.out; omega) HSO.out HDR.out HB.out
            have hb8 : Below W.heap.size W (Y2.alloc (.cells #[] 43)) := by exact bl
            have hown8 : (Y2.alloc (.cells #[] 43)).ownsRow W.heap.size 43 1 (.slice (some ⟨Y2.heap.size, 0, none⟩) 0 0) 0 [] := World.ownsRow_lit Y2 #[] 0 (by omega) (by unfold maxLen; omega) rfl
            have HRD : Hid (∀ (Z : World) (lo n : Nat) (A' : Option Addr), Below W.heap.size W Z → lo + n ≤ j → (∀ g, 0 < n → A = some ⟨g, 0, none⟩ → A' = some ⟨g, lo, none⟩) → Reads Z W.heap.size 1 A' n (((H.drop lo).take n).map Rc.cell)) := fun Z lo n A' hz hn hA' => by
              rcases Nat.eq_zero_or_pos n with h0 | h0
              · subst h0
                exact reads_own (g := 0) (off := 0) (by simp) (fun h => absurd h (by omega))
              · obtain ⟨g, e1, e2, e3⟩ := HA.out (by omega)
                refine reads_own (g := g) (off := lo) (by rw [List.length_map, List.length_take, List.length_drop]; have := HHL.out; omega) fun _ => ⟨hA' g h0 e1, e2, fun i u hu => ?_⟩
                · rw [hz.cell (p := ⟨g, lo + i, none⟩) e2]
                  refine e3 (lo + i) u ?_
                  rw [List.getElem?_map] at hu ⊢
                  rw [List.getElem?_take] at hu
                  split at hu
                  · rw [List.getElem?_drop] at hu; exact hu
                  · simp at hu
            obtain ⟨X1, hX1⟩ : ∃ X, (H.take k).map Rc.cell = X := ⟨_, rfl⟩
            obtain ⟨X2, hX2⟩ : ∃ X, (H.drop k).map Rc.cell = X := ⟨_, rfl⟩
            have ho1 : ∀ u ∈ X1, u.oneCell' = true := by rw [← hX1]; exact rc_one _
            have ho2 : ∀ u ∈ X2, u.oneCell' = true := by rw [← hX2]; exact rc_one _
            have HRD1 : Hid (∀ (Z : World) (A' : Option Addr), Below W.heap.size W Z → (∀ g, 0 < k → A = some ⟨g, 0, none⟩ → A' = some ⟨g, 0, none⟩) → Reads Z W.heap.size 1 A' k X1) := fun Z A' hz h => by
              have := HRD.out Z 0 k A' hz (by omega) h
              rw [List.drop_zero, hX1] at this
              exact this
            have HRD2 : Hid (∀ (Z : World) (A' : Option Addr), Below W.heap.size W Z → (∀ g, 0 < j - k → A = some ⟨g, 0, none⟩ → A' = some ⟨g, k, none⟩) → Reads Z W.heap.size 1 A' (j - k) X2) := fun Z A' hz h => by
              have := HRD.out Z k (j - k) A' hz (by omega) h
              rw [List.take_of_length_le (by rw [List.length_drop]; have := HHL.out; omega), hX2] at this
              exact this
            have HO1 := Lib.hid ho1
            have HO2 := Lib.hid ho2
            have HX1 := Lib.hid hX1
            have HX2 := Lib.hid hX2
            clear hX1 hX2 ho1 ho2 HRD
            have hkj : k ≤ j := hk
            have gk0 : (0 : Int) ≤ (k : Int) := by omega
            have gkc : (k : Int) ≤ (c : Int) := by omega
            have gkj : (k : Int) ≤ (j : Int) := by omega
            have HOW8 := Lib.hid hown8
            have HB8 := Lib.hid hb8
            clear hown8 hb8 HDR HB hbi q0 q1 q2 q3 q4 q5 q6 q7 q8 q9 q10 q11 q12 q13
            obtain ⟨⟨q0, q1, q2, q3, q4, q5, q6, q7, q8, q9, q10, q11⟩, q12, q13⟩ := HCX.out _ HB8.out
            go_wp2_with (at_builtin; refine wpList_append_any _ rfl (.tmp 45) (.tmp 49) 32 rfl W.heap.size 43 i0 _ 1 24 Tryz.underlying32 hi0 zi0 zi1 zi2 rfl (by decide) (.slice (some ⟨Y2.heap.size, 0, none⟩) 0 0) 0 [] rfl HOW8.out W.heap.size _ k _ X1 rfl (HRD1.out _ _ HB8.out (fun _ _ e => e)) HO1.out ?c1 ?c2 ?c3 ?_)
            case c1 => unfold maxLen; omega
            case c2 => omega
            case c3 => simp; omega
            intro v8 w8 hown8 hg8 hor8
            have hb18 : Below W.heap.size W w8 := HB8.out.grown hg8 (by simp; omega) (by simp [Value.ownBlock]; omega)
            have hz8 := hb18.size
            have hown9 := hown8.alloc (.cells #[.slice Ax r.length cx] 43)
            have HOL8 := Lib.hid hown8.lt
            have HOW9 := Lib.hid hown9
            have hnews : ∀ j x, ([.slice Ax r.length cx] : List Value)[j]? = some x → (w8.alloc (.cells #[.slice Ax r.length cx] 43)).cell? ((⟨w8.heap.size, 0, none⟩ : Addr).add j) = some x := World.news_of_block (cs := #[.slice Ax r.length cx]) (t := 43) (fr := (0, 0)) (heap_alloc_new w8 _)
            have HNE := Lib.hid hnews
            have HB18 := Lib.hid hb18
            clear hown8 hown9 hnews hg8 hor8 hb18 q0 q1 q2 q3 q4 q5 q6 q7 q8 q9 q10 q11 q12 q13 HOW8 HB8
            obtain ⟨⟨q0, q1, q2, q3, q4, q5, q6, q7, q8, q9, q10, q11⟩, q12, q13⟩ := HCX.out w8 HB18.out
            go_wp2_with (at_builtin; refine wpList_append_lies _ rfl (.tmp 51) (.tmp 57) 32 rfl W.heap.size 43 i0 _ 1 24 Tryz.underlying32 hi0 zi0 zi1 zi2 rfl (by decide) v8 k X1 rfl HOW9.out ⟨w8.heap.size, 0, none⟩ 1 1 [.slice Ax r.length cx] rfl rfl HNE.out (by simp [Value.oneCell']) (by decide) ?c1 ?c2 ?c3 (w8.heap.size + 1) (by simp) ?_)
            case c1 => unfold maxLen; omega
            case c2 => omega
            case c3 => simp; omega
            intro g9 cap9 w9 hown9 hg9 hor9 hl9
            have hb19 : Below W.heap.size W w9 := ((HB18.out.alloc (by omega) _)).grown hg9 (by simp; omega) (fun k hk => (HOL8.out k hk).1)
            have hz9 := hb19.size
            have hown9' : w9.ownsRow W.heap.size 43 1 (.slice (some ⟨g9, 0, none⟩) (k + 1) cap9) (k + 1) (X1 ++ [.slice Ax r.length cx]) := hown9
            have HOW9b := Lib.hid hown9'
            have HOL9 := Lib.hid hown9'.lt
            have HB19 := Lib.hid hb19
            have hk9 := HKYW.out.below hb19 lky
            have hf9 := hk9.frozen 11
            clear hown9 hown9' hg9 hor9 hb19 q0 q1 q2 q3 q4 q5 q6 q7 q8 q9 q10 q11 q12 q13 HOW9 HNE hk9
            obtain ⟨⟨q0, q1, q2, q3, q4, q5, q6, q7, q8, q9, q10, q11⟩, q12, q13⟩ := HCX.out w9 HB19.out
            by_cases hck : c = k
            all_goals
              go_wp2_with (at_builtin; refine wpList_append_any _ rfl (.tmp 59) (.tmp 63) 32 rfl W.heap.size 43 i0 _ 1 24 Tryz.underlying32 hi0 zi0 zi1 zi2 rfl (by decide) (.slice (some ⟨g9, 0, none⟩) (k + 1) cap9) (k + 1) (X1 ++ [.slice Ax r.length cx]) rfl HOW9b.out W.heap.size _ (j - k) _ X2 rfl (HRD2.out _ _ HB19.out ?c0) HO2.out ?c1 ?c2 ?c3 ?_)
              case c0 =>
                intro g hn e
                first | omega | (rw [e]; simp [Addr.add]; done) | (rw [e]; simp [Addr.add]; omega)
              case c1 => unfold maxLen; omega
              case c2 => omega
              case c3 => omega
              intro v10' w10 hown10 hg10 hor10
              obtain ⟨A10, c10, hv10, _, _, _, _⟩ := own_reads hown10
              rw [kj1 hkj] at hown10 hv10
              subst hv10
              have hb110 : Below W.heap.size W w10 := HB19.out.grown hg10 (by omega) (fun k hk => (HOL9.out k hk).1)
              have hz10 := hb110.size
              have hk10 := HKYW.out.below hb110 lky
              have hf10 := hk10.frozen 11
              have hc10 := hk10.cell 11
              have HK10 := Lib.hid hk10
              have HOW10 := Lib.hid hown10
              have HB110 := Lib.hid hb110
              clear hk10 hown10 hg10 hor10 hb110 q0 q1 q2 q3 q4 q5 q6 q7 q8 q9 q10 q11 q12 q13 hf9
              go_wp2_with fail
              go_roundw
              case rel =>
                refine ⟨j + 1, (.slice A10 (j + 1) c10), H.take k ++ (⟨⟨Ax, cx⟩, r⟩ : Rc) :: H.drop k, by omega, by go_num, by simpa using HK10.out.set_ 11 (.slice A10 (j + 1) c10), ?_, ?_, ?_, ?_⟩
                · have h10 := HOW10.out
                  rw [← HX1.out, ← HX2.out] at h10
                  rw [List.map_append, List.map_cons]
                  try rw [List.append_assoc] at h10
                  have h11 := h10.kept (grown_set6 w10 ⟨gy, 11, none⟩ (.slice A10 (j + 1) c10)) ?_
                  · exact own_lo h11 (by omega)
                  · cases hv : (Value.slice A10 (j + 1) c10).ownBlock with
                    | none => exact .inl rfl
                    | some q => exact .inr (fun e => by have := (h10.lt q hv).1; have : q = gy := Option.some.inj e; omega)
                · show SortedOf _ _ _; rw [HTK.out]; exact HSP.out
                · intro q hq
                  rcases List.mem_append.1 hq with hq | hq
                  · exact HQH.out q (List.mem_of_mem_take hq)
                  · rcases List.mem_cons.1 hq with rfl | hq
                    · exact HWR.out.keep fun b hb => ⟨hb, fun o => (HBUT.out.cell (by have : b < w.heap.size := hb; omega) (by have : b < w.heap.size := hb; omega) o).symm⟩
                    · exact HQH.out q (List.mem_of_mem_drop hq)
                · exact (HBUT.out.after HB110.out).set 11 _
              case measure => simp [intOf]; omega
      · have hjN : j = N := by omega
        have i7 : ¬ (j : Int) < (N : Int) := by omega
        have HKK := Lib.hid hky
        have HOO := Lib.hid hown
        have HBU := Lib.hid hbut
        have HST : Hid (SortedOf (ofF x.t) x.rows (H.map Rc.r)) := by have := HSO.out; rw [hjN, ← HN.out, List.take_length] at this; exact this
        have q11 := (HSX.out W hbut).2.2.2.2.2.2.2.2.2.2.2
        clear hlt hky hown hbut hA hA0
        go_wp2_with fail
        go_meet
        exact ⟨.slice A j c, H, HKK.out, by have := HOO.out; rw [hjN] at this ⊢; exact this, HST, HQH, HBU.out⟩
  obtain ⟨v, H, hk, ho, hso, hq, hbu⟩ := hcut
  obtain ⟨W3, rfl⟩ : ∃ W : World, W = wc := ⟨_, rfl⟩
  have hz1 := HZ1.out
  have hgy := HGY.out
  have hzw := hbu.size
  have lk3 := hk.lt
  have hq3 : ∀ q ∈ H, WQ q.r q.s.a (fun b => b < W3.heap.size ∧ b ≠ w.heap.size + 1) W3 := fun q hm => (hq.out q hm).keep fun b hb => ⟨by have : b < w.heap.size := hb; omega, fun o => hbu.cell (by have : b < w.heap.size := hb; omega) (by have : b < w.heap.size := hb; omega) o⟩
  obtain ⟨A9, c9, rfl, hR9⟩ := rows_out ho hq3 (fun b h1 h2 => ⟨h2, by omega⟩)
  have kR3 := hbu.blk HKR.out (by omega)
  have HRES : Hid (∀ Z : World, But (w.heap.size + 1) W3 Z → RetOldSorted x w (.returned (.agg #[.string ⟨x.t.n.toArray⟩, .slice a1 x.t.cols.length k1, .int .i64 x.t.key, .slice a2 x.t.uniq.length k2, .slice a3 x.t.refs.length k3, .string ⟨x.t.chk.op.toArray⟩, .int .i64 x.t.chk.v.k, .int .i64 x.t.chk.v.i, .string ⟨x.t.chk.v.s.toArray⟩, .string ⟨x.t.chk.s.toArray⟩, .slice a4 x.t.chk.l.length k4, .slice A9 N c9])) Z) := fun Z hZ => by
    have hsz := hZ.size
    have hbZ : Below w.heap.size w Z := But.inside (But.inside HB1.out (by omega) hbu) (by omega) hZ
    have hlen : (H.map Rc.r).length = N := by have := hso.out.2.1.length_eq; rw [this]; exact HN.out
    refine ⟨H.map Rc.r, hso.out, ⟨⟨⟨a1, k1⟩, ⟨a2, k2⟩, ⟨a3, k3⟩, ⟨a4, k4⟩⟩, ⟨A9, c9⟩⟩, ?_, ⟨?_, ?_⟩, hbZ⟩
    · dsimp only [Rl.cells]
      rw [hlen]
    · exact (HXB.out W3 hbu).1.keep fun b hb => ⟨by have : b < w.heap.size := hb; show b < _; omega, fun o => hZ.cell (by have : b < w.heap.size := hb; omega) (by have : b < w.heap.size := hb; omega) o⟩
    · exact hR9.keep fun b hb => ⟨Nat.lt_of_lt_of_le hb.1 hsz, fun o => hZ.cell hb.1 hb.2 o⟩
  obtain ⟨q0, q1, q2, q3, q4, q5, q6, q7, q8, q9, q10, q11⟩ : W3.cell? ⟨gy, 0, none⟩ = some (.string ⟨x.t.n.toArray⟩) ∧ W3.cell? ⟨gy, 1, none⟩ = some (.slice a1 x.t.cols.length k1) ∧ W3.cell? ⟨gy, 2, none⟩ = some (.int .i64 x.t.key) ∧ W3.cell? ⟨gy, 3, none⟩ = some (.slice a2 x.t.uniq.length k2) ∧ W3.cell? ⟨gy, 4, none⟩ = some (.slice a3 x.t.refs.length k3) ∧ W3.cell? ⟨gy, 5, none⟩ = some (.string ⟨x.t.chk.op.toArray⟩) ∧ W3.cell? ⟨gy, 6, none⟩ = some (.int .i64 x.t.chk.v.k) ∧ W3.cell? ⟨gy, 7, none⟩ = some (.int .i64 x.t.chk.v.i) ∧ W3.cell? ⟨gy, 8, none⟩ = some (.string ⟨x.t.chk.v.s.toArray⟩) ∧ W3.cell? ⟨gy, 9, none⟩ = some (.string ⟨x.t.chk.s.toArray⟩) ∧ W3.cell? ⟨gy, 10, none⟩ = some (.slice a4 x.t.chk.l.length k4) ∧ W3.cell? ⟨gy, 11, none⟩ = some (.slice A9 N c9) := ⟨hk.cell 0, hk.cell 1, hk.cell 2, hk.cell 3, hk.cell 4, hk.cell 5, hk.cell 6, hk.cell 7, hk.cell 8, hk.cell 9, hk.cell 10, hk.cell 11⟩
  obtain ⟨p0, p1, p2, p3, p4, p5, p6, p7, p8, p9, p10, p11⟩ : W3.cell? ⟨w.heap.size + 1, 0, none⟩ = some (.string ⟨#[]⟩) ∧ W3.cell? ⟨w.heap.size + 1, 1, none⟩ = some (.slice none 0 0) ∧ W3.cell? ⟨w.heap.size + 1, 2, none⟩ = some (.int .i64 0) ∧ W3.cell? ⟨w.heap.size + 1, 3, none⟩ = some (.slice none 0 0) ∧ W3.cell? ⟨w.heap.size + 1, 4, none⟩ = some (.slice none 0 0) ∧ W3.cell? ⟨w.heap.size + 1, 5, none⟩ = some (.string ⟨#[]⟩) ∧ W3.cell? ⟨w.heap.size + 1, 6, none⟩ = some (.int .i64 0) ∧ W3.cell? ⟨w.heap.size + 1, 7, none⟩ = some (.int .i64 0) ∧ W3.cell? ⟨w.heap.size + 1, 8, none⟩ = some (.string ⟨#[]⟩) ∧ W3.cell? ⟨w.heap.size + 1, 9, none⟩ = some (.string ⟨#[]⟩) ∧ W3.cell? ⟨w.heap.size + 1, 10, none⟩ = some (.slice none 0 0) ∧ W3.cell? ⟨w.heap.size + 1, 11, none⟩ = some (.slice none 0 0) := ⟨kR3.cell 0, kR3.cell 1, kR3.cell 2, kR3.cell 3, kR3.cell 4, kR3.cell 5, kR3.cell 6, kR3.cell 7, kR3.cell 8, kR3.cell 9, kR3.cell 10, kR3.cell 11⟩
  obtain ⟨f0, f1, f2, f3, f4, f5, f6, f7, f8, f9, f10, f11⟩ : W3.frozen? ⟨w.heap.size + 1, 0, none⟩ = false ∧ W3.frozen? ⟨w.heap.size + 1, 1, none⟩ = false ∧ W3.frozen? ⟨w.heap.size + 1, 2, none⟩ = false ∧ W3.frozen? ⟨w.heap.size + 1, 3, none⟩ = false ∧ W3.frozen? ⟨w.heap.size + 1, 4, none⟩ = false ∧ W3.frozen? ⟨w.heap.size + 1, 5, none⟩ = false ∧ W3.frozen? ⟨w.heap.size + 1, 6, none⟩ = false ∧ W3.frozen? ⟨w.heap.size + 1, 7, none⟩ = false ∧ W3.frozen? ⟨w.heap.size + 1, 8, none⟩ = false ∧ W3.frozen? ⟨w.heap.size + 1, 9, none⟩ = false ∧ W3.frozen? ⟨w.heap.size + 1, 10, none⟩ = false ∧ W3.frozen? ⟨w.heap.size + 1, 11, none⟩ = false := ⟨kR3.frozen 0, kR3.frozen 1, kR3.frozen 2, kR3.frozen 3, kR3.frozen 4, kR3.frozen 5, kR3.frozen 6, kR3.frozen 7, kR3.frozen 8, kR3.frozen 9, kR3.frozen 10, kR3.frozen 11⟩
  have ne1 : ¬ (gy = w.heap.size + 1) := by omega
  clear hk ho hso hq hbu hq3 hR9 kR3
  go_wp2_with fail
  refine bodyPost_ret (v := .agg #[.string ⟨x.t.n.toArray⟩, .slice a1 x.t.cols.length k1, .int .i64 x.t.key, .slice a2 x.t.uniq.length k2, .slice a3 x.t.refs.length k3, .string ⟨x.t.chk.op.toArray⟩, .int .i64 x.t.chk.v.k, .int .i64 x.t.chk.v.i, .string ⟨x.t.chk.v.s.toArray⟩, .string ⟨x.t.chk.s.toArray⟩, .slice a4 x.t.chk.l.length k4, .slice A9 N c9]) (by simp [results, Tryz.results16, go_sem, *]) rfl (HRES.out _ ?_)
  exact ((((((((((((But.refl _ _).set _ _).set _ _).set _ _).set _ _).set _ _).set _ _).set _ _).set _ _).set _ _).set _ _).set _ _).set _ _

end Go.Proofs.YtdhjogmkhbpcgaaGreat
