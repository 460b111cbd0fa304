/- (*code.reader).octet and code.number: a reader goes through octets. Condition: the text is shorter than 2^62. -/
import Derived.Test.YtkeeekifejholaaCodeInt
import Derived.Deep.DeepCutAuto
import Derived.Deep.DrawnRows
namespace Go.Proofs.Ytkeeekifejholaa
open Go.RowKit

attribute [local go_sem] ByteArray.extract_mk ba_get ba_append
attribute [local go_sem ↓] Go.wp_at_zero Go.wp_at_succ

/-- A reader in block g stands at place p of s. -/
def Rd (w : World) (g : Nat) (s : List UInt8) (p : Nat) : Prop := Blk w g 79 #[.string ⟨s.toArray⟩, .int .i64 p]

theorem gcell {W w1 : World} {g : Nat} (hg : W.grownBy w1 (some g)) : (∀ b o, b < W.heap.size → b ≠ g → w1.cell? ⟨b, o, none⟩ = W.cell? ⟨b, o, none⟩) ∧ (∀ b o, b < W.heap.size → b ≠ g → w1.frozen? ⟨b, o, none⟩ = W.frozen? ⟨b, o, none⟩) :=
  ⟨fun b o h hne => World.cell?_of_block (hg.block b h (fun e => hne (by injection e))), fun b o h hne => World.frozen?_of_block (hg.block b h (fun e => hne (by injection e)))⟩
theorem only_drewN {a w : World} {row : Option Nat} (h : a.grownBy w row) (n : Nat) : a.grownBy (w.drewN n) row := ⟨h.os, h.tape, h.output, h.size, h.block⟩
theorem only_setCell {a w : World} {g : Nat} (h : a.grownBy w (some g)) {p : Addr} (hp : p.block = g ∨ a.heap.size ≤ p.block) (u : Value) : a.grownBy (w.setCell p u) (some g) :=
  ⟨h.os, h.tape, h.output, by simpa [World.setCell] using h.size, fun i hi hne => (Below.heap_setCell w p u i (by
    rintro rfl
    rcases hp with hp | hp
    · exact hne (by rw [hp])
    · omega)).trans (h.block i hi hne)⟩

set_option maxHeartbeats 400000 in
theorem octet_end (g : Nat) (s : List UInt8) (p : Nat) (w : World) (hp : p = s.length) (h : Rd w g s p) :
    Calls Try.prog 46 #[.pointer (some ⟨g, 0, none⟩)] w fun e w' => e = .returned (.tuple #[.int .u8 0, .bool false]) ∧ Rd w' g s p ∧ w.grownBy w' (some g) := by
  obtain ⟨⟨h0, h1⟩, _, h2⟩ := Blk.two h
  have hge : s.length ≤ p := by omega
  have hge' : (s.length : Int) ≤ (p : Int) := by omega
  have HP := Lib.hid hp
  clear hp
  go_enter Try.func46, Try.ntmps46
  go_wp2_with fail
  go_quiet (fail)
  go_wp2
  go_ret2
  exact ⟨rfl, h, only_drewN (World.grownBy.refl w _) _⟩

set_option maxHeartbeats 400000 in
theorem octet_one (g : Nat) (s : List UInt8) (p : Nat) (w : World) (hs : s.length ≤ 4611686018427387904) (hp : p < s.length) (h : Rd w g s p) :
    Calls Try.prog 46 #[.pointer (some ⟨g, 0, none⟩)] w fun e w' => e = .returned (.tuple #[.int .u8 (s[p].toNat : Int), .bool true]) ∧ Rd w' g s (p + 1) ∧ w.grownBy w' (some g) := by
  obtain ⟨⟨h0, h1⟩, _, h2⟩ := Blk.two h
  have hp' : (p : Int) < (s.length : Int) := by omega
  have hi1 : (0 : Int) ≤ (p : Int) := by omega
  have hd : decide ((s.length : Int) ≤ (p : Int)) = false := by simpa using hp
  go_enter Try.func46, Try.ntmps46
  go_wp2_with fail
  go_quiet (fail)
  go_wp2
  have k0 : ((w.drewN nq).setCell ⟨g, 1, none⟩ (.int .i64 (↑p + 1))).cell? ⟨g, 0, none⟩ = some (.string ⟨s.toArray⟩) := by simp [go_sem, h0]
  have k1 : ((w.drewN nq).setCell ⟨g, 1, none⟩ (.int .i64 (↑p + 1))).cell? ⟨g, 1, none⟩ = some (.int .i64 (↑p + 1)) := by simp [go_sem, h1]
  have k2 : ((w.drewN nq).setCell ⟨g, 1, none⟩ (.int .i64 (↑p + 1))).frozen? ⟨g, 1, none⟩ = false := by simp [go_sem, h2]
  have hg : w.grownBy ((w.drewN nq).setCell ⟨g, 1, none⟩ (.int .i64 (↑p + 1))) (some g) := only_setCell (only_drewN (World.grownBy.refl w _) _) (.inl rfl) _
  have hn : Rd ((w.drewN nq).setCell ⟨g, 1, none⟩ (.int .i64 (↑p + 1))) g s (p + 1) := (Blk.drewN h nq).set_ 1 _
  generalize ((w.drewN nq).setCell ⟨g, 1, none⟩ (.int .i64 (↑p + 1))) = W at *
  have hs1 : IntKind.i64.wrap ((p : Int) + 1 - 1) = (p : Int) := by rw [IntWalk.i64_in _ (by omega)]; omega
  go_quiet (fail)
  go_wp2
  go_ret2
  exact ⟨rfl, Blk.drewN hn _, only_drewN hg _⟩

end Go.Proofs.Ytkeeekifejholaa
