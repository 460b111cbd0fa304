/- How arguments of the laws are opened: a track, a slice of numbers of 16 bits. -/
import Derived.Test.YtkeeekifejholaaOpen
import Derived.Test.YtkeeekifejholaaTrackBase
import Derived.ChangeSlices
namespace Go.Proofs.Ytkeeekifejholaa
open Go.ChangeShapes Go.WideShapes Go.ChangeAt Go.RowKit Go.Deep Go.Joins

theorem open_octets_t {H : Type} {enc : TypeId × Value → H} {W : World} {fuel : Nat} {cs : List Value} {x : DataW H × List MemPlace}
    (hf : DataW.trod enc Try.prog W 0 (fun _ => true) true fuel 45 cs = some x) :
    ∃ (A : Option Addr) (l : List UInt8) (c : Nat), cs = [.slice A l.length c] ∧ l.length ≤ c ∧ c ≤ maxLen ∧ BS W W.heap.size A l := by
  rcases open_ints Try.underlying45 Try.underlying5 (by kernel_rfl) hf with ⟨hcs, _⟩ | ⟨a, len, cap, zs, hcs, _, hl, hm, hz, _, hcell, hwz⟩
  · exact ⟨none, [], 0, hcs, Nat.le_refl _, Nat.zero_le _, BS.nil⟩
  · simp only [if_true] at hz
    have hlen : ((zs.take len).map fun n => UInt8.ofNat n.toNat).length = len := by simp; omega
    refine ⟨some a, (zs.take len).map fun n => UInt8.ofNat n.toNat, cap, by rw [hlen]; exact hcs, by rw [hlen]; exact hl, hm, fun hpos => ?_⟩
    rw [hlen] at hpos
    obtain ⟨b, off, spot⟩ := a
    have hspot : spot = none := by simpa [Addr.add] using World.cell?_spot (hcell 0 (by omega))
    subst hspot
    have hb : b < W.heap.size := by
      have := World.block_lt_of_cell? W _ (hcell 0 (by omega))
      simpa [add_mid] using this
    refine ⟨b, off, rfl, hb, fun i c hc => ?_⟩
    simp only [List.getElem?_map, Option.map_eq_some_iff] at hc
    obtain ⟨n, hn, rfl⟩ := hc
    rw [List.getElem?_take] at hn
    split at hn
    · rename_i hi
      have h1 := hcell i (by omega)
      rw [add_mid, List.getD_eq_getElem?_getD, hn] at h1
      have h2 := hwz n (List.mem_of_getElem? hn)
      have h3 : 0 ≤ n ∧ n ≤ 255 := by simpa [Lit.wf, IntKind.min, IntKind.max, IntKind.signed, IntKind.bits] using h2
      rw [h1]
      congr 2
      rw [UInt8.toNat_ofNat']
      show n = _
      omega
    · cases hn

/-- A slice of numbers that are not less than 0. -/
def NS (w : World) (B : Nat) (A : Option Addr) (l : List Nat) : Prop := 0 < l.length → ∃ b off, A = some ⟨b, off, none⟩ ∧ b < B ∧ ∀ (i n : Nat), l[i]? = some n → w.cell? ⟨b, off + i, none⟩ = some (.int .u16 (n : Int))
theorem NS.at_ {w : World} {B : Nat} {A : Option Addr} {l : List Nat} (h : NS w B A l) {j : Nat} (hj : j < l.length) :
    ∃ b off, A = some ⟨b, off, none⟩ ∧ b < B ∧ w.cell? ⟨b, off + j, none⟩ = some (.int .u16 ((l[j] : Nat) : Int)) := by
  obtain ⟨b, off, rfl, hb, hr⟩ := h (by omega)
  exact ⟨b, off, rfl, hb, hr j _ (List.getElem?_eq_getElem hj)⟩
theorem NS.below {w w' : World} {B : Nat} {A : Option Addr} {l : List Nat} (h : NS w B A l) (hb : Below B w w') : NS w' B A l := by
  intro hl
  obtain ⟨b, off, rfl, hbB, hr⟩ := h hl
  exact ⟨b, off, rfl, hbB, fun i v hv => (hb.cell (p := ⟨b, _, none⟩) hbB).trans (hr i v hv)⟩
theorem NS.more {w : World} {B B' : Nat} {A : Option Addr} {l : List Nat} (h : NS w B A l) (hB : B ≤ B') : NS w B' A l := by
  intro hl
  obtain ⟨b, off, rfl, hbB, hr⟩ := h hl
  exact ⟨b, off, rfl, by omega, hr⟩

theorem open_nums {H : Type} {enc : TypeId × Value → H} {W : World} {base : Nat} {v : Value} {d : DataW H} {p : List MemPlace}
    (hv : Value.okWide Try.prog W .any base 44 v) (h : DataW.Trod enc Try.prog W 0 (fun _ => true) true 44 v d p) :
    ∃ (A : Option Addr) (l : List Nat) (c : Nat), v = .slice A l.length c ∧ l.length ≤ c ∧ c ≤ maxLen ∧ NS W W.heap.size A l ∧ ∀ n ∈ l, n ≤ 65535 := by
  obtain ⟨a0, len0, cap0, rfl⟩ := okWide_slice Try.underlying44 hv
  obtain ⟨fuel, hf⟩ := h
  rcases open_ints Try.underlying44 Try.underlying51 (by kernel_rfl) hf with ⟨hcs, _⟩ | ⟨a, len, cap, zs, hcs, _, hl, hm, hz, _, hcell, hwz⟩
  · exact ⟨none, [], 0, by simpa [Value.cells] using hcs, Nat.le_refl _, Nat.zero_le _, fun h => absurd h (by simp), fun x hx => by simp at hx⟩
  · simp only [if_true] at hz
    have hlen : ((zs.take len).map fun n => n.toNat).length = len := by simp; omega
    refine ⟨some a, (zs.take len).map fun n => n.toNat, cap, by rw [hlen]; simpa [Value.cells] using hcs, by rw [hlen]; exact hl, hm, fun hpos => ?_, fun n hn => ?_⟩
    · rw [hlen] at hpos
      obtain ⟨b, off, spot⟩ := a
      have hspot : spot = none := by simpa [Addr.add] using World.cell?_spot (hcell 0 (by omega))
      subst hspot
      have hb : b < W.heap.size := by
        have := World.block_lt_of_cell? W _ (hcell 0 (by omega))
        simpa [add_mid] using this
      refine ⟨b, off, rfl, hb, fun i c hc => ?_⟩
      simp only [List.getElem?_map, Option.map_eq_some_iff] at hc
      obtain ⟨n, hn, rfl⟩ := hc
      rw [List.getElem?_take] at hn
      split at hn
      · rename_i hi
        have h1 := hcell i (by omega)
        rw [add_mid, List.getD_eq_getElem?_getD, hn] at h1
        have h2 := hwz n (List.mem_of_getElem? hn)
        have h3 : 0 ≤ n ∧ n ≤ 65535 := by simpa [Lit.wf, IntKind.min, IntKind.max, IntKind.signed, IntKind.bits] using h2
        rw [h1]
        congr 2
        show n = _
        omega
      · cases hn
    · simp only [List.mem_map] at hn
      obtain ⟨z, hz1, rfl⟩ := hn
      have h2 := hwz z (List.mem_of_mem_take hz1)
      have h3 : 0 ≤ z ∧ z ≤ 65535 := by simpa [Lit.wf, IntKind.min, IntKind.max, IntKind.signed, IntKind.bits] using h2
      omega

theorem cellsT : Try.prog.cellsOf 47 = 2 := by kernel_rfl

set_option maxRecDepth 100000 in
theorem open_track {H : Type} {enc : TypeId × Value → H} {W : World} {base : Nat} {v : Value} {d : DataW H} {p : List MemPlace}
    (hv : Value.okWide Try.prog W .any base 47 v) (h : DataW.Trod enc Try.prog W 0 (fun _ => true) true 47 v d p) :
    ∃ (A B : Option Addr) (u : List V) (t : List UInt8) (c d : Nat), v = .agg #[.slice A u.length c, .slice B t.length d] ∧ u.length ≤ maxLen ∧ t.length ≤ maxLen ∧ VS W W.heap.size A u ∧ BS W W.heap.size B t ∧ ∀ x ∈ u, x.ok := by
  obtain ⟨c0, c1, y0, y1, m, rfl, _, _, t0, t1⟩ := open_agg2 Try.underlying47 (by kernel_rfl) cellsT hv h
  obtain ⟨A, u, c, e0, h1, h2, h3, h4⟩ := open_vals_t t0
  obtain ⟨B, t, d, e1, g1, g2, g3⟩ := open_octets_t t1
  simp at e0 e1
  subst e0 e1
  exact ⟨A, B, u, t, c, d, rfl, Nat.le_trans h1 h2, Nat.le_trans g1 g2, h3, g3, h4⟩

end Go.Proofs.Ytkeeekifejholaa
