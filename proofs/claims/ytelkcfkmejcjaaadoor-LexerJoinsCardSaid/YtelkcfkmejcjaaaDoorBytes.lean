/- Rows of octets that a call makes itself, and their texts. Nothing of the program stands here. -/
import Derived.Test.YtelkcfkmejcjaaaDoorBase
import Derived.Lib.AppendStr
import Derived.Laws.BytesArg
namespace Go.Proofs.YtelkcfkmejcjaaaDoor
open Go.RowKit

def bcs (l : List UInt8) : List Value := l.map fun b => Value.int .u8 (b.toNat : Int)
theorem bcs_append (a b : List UInt8) : bcs (a ++ b) = bcs a ++ bcs b := by simp [bcs]
theorem bcs_length (a : List UInt8) : (bcs a).length = a.length := by simp [bcs]
theorem bcs_one (l : List UInt8) : ∀ u ∈ bcs l, u.oneCell' = true := by
  intro u hu
  simp only [bcs, List.mem_map] at hu
  obtain ⟨b, _, rfl⟩ := hu
  rfl
theorem strCells_bcs (s : List UInt8) : Lib.strCells ⟨s.toArray⟩ = bcs s := rfl

theorem strOfNums_nat (l : List UInt8) : strOfNums (l.map fun b => (b.toNat : Int)) = ⟨l.toArray⟩ := by
  unfold strOfNums
  congr 2
  rw [List.map_map]
  conv => rhs; rw [← List.map_id l]
  apply List.map_congr_left
  intro b _
  simp

/-- The text of a row of octets that the call owns. -/
theorem own_text {P : Program} {w : World} {base : Nat} {src e dst : TypeId} {v : Value} {n : Nat} {l : List UInt8} (hs : P.underlying src = some (.slice e)) (he : P.underlying e = some (.int .u8)) (hd : P.underlying dst = some .string)
    (h : w.ownsRow base e 1 v n (bcs l)) : (convert src dst v).run P w = .ok (.string ⟨l.toArray⟩) w := by
  have hn : l.length = n := by have := h.1; rw [bcs_length] at this; omega
  rcases h.2 with ⟨rfl, h0⟩ | ⟨g, cap, cur, rfl, _, _, _, _, _, _⟩
  · have : l = [] := List.eq_nil_of_length_eq_zero (by omega)
    subst this
    exact run_convert_bytes_nil w src e hs he 0 0 dst hd
  · have hc := h.cells (g := g) rfl
    have := run_convert_bytes_arg (P := P) w src e hs he g 0 n cap (l.map fun b => (b.toNat : Int)) (by simpa using hn) (fun i hi => by
      have h1 := hc i (.int .u8 (l[i].toNat : Int)) (by simp [bcs, List.getElem?_eq_getElem (show i < l.length by omega)])
      rw [add_mid] at h1
      rw [h1]
      simp [List.getElem?_eq_getElem (show i < l.length by omega)]) dst hd
    rw [strOfNums_nat] at this
    exact this

/-- A new block of one octet is a row of the call's own. -/
theorem own_new (w : World) (base : Nat) (e : TypeId) (b : Int) (u : UInt8) (hu : (u.toNat : Int) = b) (hb : base ≤ w.heap.size) :
    (w.alloc (.cells #[.int .u8 b] e)).ownsRow base e 1 (.slice (some ⟨w.heap.size, 0, none⟩) 1 1) 1 (bcs [u]) := by
  subst hu
  refine ⟨by simp [bcs], .inr ⟨w.heap.size, 1, #[.int .u8 (u.toNat : Int)], rfl, hb, heap_alloc_new w _, Nat.le_refl _, by simp [maxLen], by simp, by simp [bcs]⟩⟩

theorem own_new' (w : World) (n base : Nat) (e : TypeId) (b : Int) (u : UInt8) (hu : (u.toNat : Int) = b) (hn : w.heap.size = n) (hb : base ≤ n) :
    (w.alloc (.cells #[.int .u8 b] e)).ownsRow base e 1 (.slice (some ⟨n, 0, none⟩) 1 1) 1 (bcs [u]) := by
  subst hn
  exact own_new w base e b u hu hb

theorem news_one (w : World) (e : TypeId) (b : Int) (u : UInt8) (hu : (u.toNat : Int) = b) : ∀ j x, (bcs [u])[j]? = some x → (w.alloc (.cells #[.int .u8 b] e)).cell? ((⟨w.heap.size, 0, none⟩ : Addr).add j) = some x := by
  subst hu
  exact World.news_of_block (cs := #[.int .u8 (u.toNat : Int)]) (t := e) (fr := (0, 0)) (heap_alloc_new w _)

theorem u8_of (n : Nat) : ((UInt8.ofNat n).toNat : Int) = (n : Int) % 256 := by
  rw [UInt8.toNat_ofNat']; omega

/-- A row of the call's own behind an append of one new block's octets: what lay below stands. -/
theorem grown_below {B : Nat} {w w1 w2 : World} {o : Obj} {row : Option Nat} (h : Below B w w1) (hg : (w1.alloc o).grownBy w2 row) (hB : B ≤ w1.heap.size) (hr : ∀ k, row = some k → B ≤ k) : Below B w w2 :=
  (h.alloc hB o).grown hg (by simp; omega) hr

end Go.Proofs.YtelkcfkmejcjaaaDoor
