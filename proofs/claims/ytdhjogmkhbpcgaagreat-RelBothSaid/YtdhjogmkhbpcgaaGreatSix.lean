/- A variable of six cells is stored anew: what its block, and the others, are then. Nothing of the program stands here. -/
import Derived.Test.YtdhjogmkhbpcgaaGreatExQ
import Derived.Test.YtdhjogmkhbpcgaaGreatExpr2
namespace Go.Proofs.YtdhjogmkhbpcgaaGreat
open Go.RowKit

theorem Blk.sixF {w : World} {g : Nat} {t : TypeId} {cs : Array Value} (h : Blk w g t cs) : w.frozen? ⟨g, 0, none⟩ = false ∧ w.frozen? ⟨g, 1, none⟩ = false ∧ w.frozen? ⟨g, 2, none⟩ = false ∧ w.frozen? ⟨g, 3, none⟩ = false ∧ w.frozen? ⟨g, 4, none⟩ = false ∧ w.frozen? ⟨g, 5, none⟩ = false :=
  ⟨h.frozen 0, h.frozen 1, h.frozen 2, h.frozen 3, h.frozen 4, h.frozen 5⟩
theorem Blk.sixSet {w : World} {g : Nat} {t : TypeId} {e0 : Ex} {A0 : Option Addr} {c0 : Nat} (h : Blk w g t (e0.cells A0 c0).toArray) (y0 y1 y2 y3 y4 y5 : Value) :
    Blk ((((((w.setCell ⟨g, 0, none⟩ y0).setCell ⟨g, 1, none⟩ y1).setCell ⟨g, 2, none⟩ y2).setCell ⟨g, 3, none⟩ y3).setCell ⟨g, 4, none⟩ y4).setCell ⟨g, 5, none⟩ y5) g t #[y0, y1, y2, y3, y4, y5] :=
  (((((h.set_ 0 y0).set_ 1 y1).set_ 2 y2).set_ 3 y3).set_ 4 y4).set_ 5 y5
theorem But.sixSet (w : World) (g : Nat) (y0 y1 y2 y3 y4 y5 : Value) :
    But g w ((((((w.setCell ⟨g, 0, none⟩ y0).setCell ⟨g, 1, none⟩ y1).setCell ⟨g, 2, none⟩ y2).setCell ⟨g, 3, none⟩ y3).setCell ⟨g, 4, none⟩ y4).setCell ⟨g, 5, none⟩ y5) :=
  ((((((But.refl g w).set 0 y0).set 1 y1).set 2 y2).set 3 y3).set 4 y4).set 5 y5
theorem But.sixOwn {p : Nat} {a w : World} (h : But p a w) {g : Nat} (hg : a.heap.size ≤ g) (y0 y1 y2 y3 y4 y5 : Value) :
    But p a ((((((w.setCell ⟨g, 0, none⟩ y0).setCell ⟨g, 1, none⟩ y1).setCell ⟨g, 2, none⟩ y2).setCell ⟨g, 3, none⟩ y3).setCell ⟨g, 4, none⟩ y4).setCell ⟨g, 5, none⟩ y5) :=
  (((((h.own hg 0 y0).own hg 1 y1).own hg 2 y2).own hg 3 y3).own hg 4 y4).own hg 5 y5

end Go.Proofs.YtdhjogmkhbpcgaaGreat
