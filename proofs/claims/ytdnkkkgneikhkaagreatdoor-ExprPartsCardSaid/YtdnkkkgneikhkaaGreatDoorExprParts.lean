/- caddislaw04.ExprParts answers true, whatever two expressions, columns, row: what an expression comes to is what its parts come to, one with the other: NOT, AND, OR, and the others. No condition beyond the row's own. -/
import Derived.Test.YtdnkkkgneikhkaaGreatDoorPartsM
import Derived.Test.YtdnkkkgneikhkaaGreatDoorAwake4
import Derived.Test.YtdnkkkgneikhkaaGreatDoorRef1Logic
import Derived.Test.YtdnkkkgneikhkaaGreatDoorRef1Reck
import Derived.Deep.CutBlock
import Derived.Deep.DeepCutAuto
namespace Go.Proofs.YtdnkkkgneikhkaaGreatDoor
open Go.RowKit Go.ChangeMaps

attribute [local go_sem] ByteArray.extract_mk ba_get ba_append
attribute [local go_sem ↓] Go.wp_at_zero Go.wp_at_succ run_eql_V run_neq_V run_field0 run_field1 run_field2
attribute [local irreducible] Av

def P1I (W : World) (X Y : Ex) (CO : List Col) (RO : List V) (F : Value → Value → Value → Value → Value → Value → Array Value) (L : Array Bool) (a : Act) (w : World) : Prop :=
  L.size = 18 ∧ (Up L 0 ∧ Up L 1 ∧ Up L 3 ∧ Up L 4 ∧ Up L 6 ∧ Up L 7 ∧ Up L 9 ∧ Up L 10) ∧ (L.getD 14 true = false ∧ L.getD 15 true = false ∧ L.getD 16 true = false ∧ L.getD 17 true = false) ∧ (Up L 11 → Up L 8) ∧ (Up L 8 → Up L 5) ∧ (Up L 5 → Up L 2) ∧ Below W.heap.size W w ∧
    ∃ U3 U4 U16 U19 U22 U25, a = ⟨F U3 U4 U16 U19 U22 U25, []⟩ ∧ NewE L 12 W.heap.size w U3 ∧ NewE L 13 W.heap.size w U4 ∧ Diff L 12 13 U3 U4 ∧
      Had L 2 (GotE X U16) (Av L 12 13 U3 U4 w) w ∧ Had L 5 (GotE Y U19) (Av L 12 13 U3 U4 w) w ∧ Had L 8 (GotC CO U22) (Av L 12 13 U3 U4 w) w ∧ Had L 11 (GotV RO U25) (Av L 12 13 U3 U4 w) w
def P4I (W : World) (v1 v2 : Value) (F : Value → Value → Value → Value → Array Value) (L : Array Bool) (a : Act) (w : World) : Prop :=
  L.size = 12 ∧ (Up L 0 ∧ Up L 1 ∧ Up L 2 ∧ Up L 4 ∧ Up L 5 ∧ Up L 6) ∧ (L.getD 10 true = false ∧ L.getD 11 true = false) ∧ (Up L 7 → Up L 3) ∧ Below W.heap.size W w ∧
    ∃ U7 U8 U38 U42, a = ⟨F U7 U8 U38 U42, []⟩ ∧ Slot L 3 U38 v1 ∧ Slot L 7 U42 v2 ∧ Newv L 8 W.heap.size w U7 ∧ Newv L 9 W.heap.size w U8 ∧ Diff L 8 9 U7 U8
def P5I (W : World) (O : List UInt8 → V → Prop) (v1 v2 v3 v4 v5 v6 : Value) (F : Value → Value → Value → Value → Value → Value → Value → Array Value) (L : Array Bool) (a : Act) (w : World) : Prop :=
  L.size = 27 ∧ (Up L 1 ∧ Up L 2 ∧ Up L 5 ∧ Up L 6 ∧ Up L 9 ∧ Up L 10 ∧ Up L 13 ∧ Up L 14 ∧ Up L 17 ∧ Up L 18 ∧ Up L 21 ∧ Up L 22) ∧ (L.getD 25 true = false ∧ L.getD 26 true = false) ∧ (Up L 7 → Up L 3) ∧ (Up L 11 → Up L 7) ∧ (Up L 15 → Up L 11) ∧ (Up L 19 → Up L 15) ∧ (Up L 23 → Up L 19) ∧ Below W.heap.size W w ∧
    ∃ U43 U46 U49 U52 U55 U58 U61, a = ⟨F U43 U46 U49 U52 U55 U58 U61, []⟩ ∧ Slot L 3 U46 v1 ∧ Slot L 7 U49 v2 ∧ Slot L 11 U52 v3 ∧ Slot L 15 U55 v4 ∧ Slot L 19 U58 v5 ∧ Slot L 23 U61 v6 ∧ (Up L 0 → ∃ b, U43 = .map (some b) ∧ W.heap.size ≤ b ∧ MapS O w b)

set_option maxRecDepth 100000 in
set_option maxHeartbeats 8000000 in
theorem exprParts_walk (e g : Ex) (A A' : Option Addr) (c c' n n' : Nat) (A1 A2 : Option Addr) (c1 c2 : Nat) (cols : List Col) (row : List V) (w : World) (hf : e.fit maxLen) (hl : e.l.length ≤ maxLen) (hA : ExS maxLen n w w.heap.size A e.l)
    (hf' : g.fit maxLen) (hl' : g.l.length ≤ maxLen) (hA' : ExS maxLen n' w w.heap.size A' g.l)
    (hcl : cols.length ≤ maxLen) (hC : ColS w w.heap.size A1 cols) (hcn : ∀ x ∈ cols, x.n.length ≤ maxLen) (hrl : row.length ≤ maxLen) (hV : VS w w.heap.size A2 row) (hri : ∀ x ∈ row, fitI x.i) (hE : Errs w) :
    Calls Tryz.prog 3 #[.agg (e.cells A c ++ (g.cells A' c' ++ [Value.slice A1 cols.length c1, Value.slice A2 row.length c2])).toArray] w (Ret (.bool true) w) := by
  obtain ⟨w0, hw0⟩ : ∃ w0, w.alloc (.cells (e.cells A c ++ (g.cells A' c' ++ [Value.slice A1 cols.length c1, Value.slice A2 row.length c2])).toArray 30) = w0 := ⟨_, rfl⟩
  have kB0 : Blk w0 w.heap.size 30 (e.cells A c ++ (g.cells A' c' ++ [Value.slice A1 cols.length c1, Value.slice A2 row.length c2])).toArray := by rw [← hw0]; exact Blk.new _ _ _
  have hb0 : Below w.heap.size w w0 := by rw [← hw0]; ((repeat' (first | with_reducible exact Below.refl _ _ | with_reducible assumption | with_reducible refine Below.drew ?_ | with_reducible refine below_drewN ?_ _ | with_reducible refine Below.setCell ?_ ?_ _ | with_reducible refine Below.alloc ?_ ?_ _ | with_reducible refine Below.trans ?_ (Below.mono (by assumption) ?_))) <;> (first | (simp; done) | (simp; omega) | omega))
  have hs0 : w0.heap.size = w.heap.size + 1 := by rw [← hw0]; simp
  have HW := Lib.hid hw0
  have HSH : Hid (∀ w' : World, Below w0.heap.size w0 w' → (w'.cell? ⟨w.heap.size, 0, none⟩ = some (.string ⟨e.op.toArray⟩) ∧ w'.cell? ⟨w.heap.size, 1, none⟩ = some (.int .i64 e.v.k) ∧ w'.cell? ⟨w.heap.size, 2, none⟩ = some (.int .i64 e.v.i) ∧ w'.cell? ⟨w.heap.size, 3, none⟩ = some (.string ⟨e.v.s.toArray⟩) ∧ w'.cell? ⟨w.heap.size, 4, none⟩ = some (.string ⟨e.s.toArray⟩) ∧ w'.cell? ⟨w.heap.size, 5, none⟩ = some (.slice A e.l.length c) ∧ w'.cell? ⟨w.heap.size, 6, none⟩ = some (.string ⟨g.op.toArray⟩) ∧ w'.cell? ⟨w.heap.size, 7, none⟩ = some (.int .i64 g.v.k) ∧ w'.cell? ⟨w.heap.size, 8, none⟩ = some (.int .i64 g.v.i) ∧ w'.cell? ⟨w.heap.size, 9, none⟩ = some (.string ⟨g.v.s.toArray⟩) ∧ w'.cell? ⟨w.heap.size, 10, none⟩ = some (.string ⟨g.s.toArray⟩) ∧ w'.cell? ⟨w.heap.size, 11, none⟩ = some (.slice A' g.l.length c') ∧ w'.cell? ⟨w.heap.size, 12, none⟩ = some (.slice A1 cols.length c1) ∧ w'.cell? ⟨w.heap.size, 13, none⟩ = some (.slice A2 row.length c2))) := fun w' h => by
    have k := kB0.below h (by omega)
    exact ⟨k.cell 0, k.cell 1, k.cell 2, k.cell 3, k.cell 4, k.cell 5, k.cell 6, k.cell 7, k.cell 8, k.cell 9, k.cell 10, k.cell 11, k.cell 12, k.cell 13⟩
  have hwx : ∀ Y : World, Below w0.heap.size w0 Y → Below w.heap.size w Y := fun Y h => hb0.trans (h.mono hb0.size)
  have HFX : Hid (∀ Y : World, Below w0.heap.size w0 Y → Calls Tryz.prog 9 #[.agg #[.string ⟨e.op.toArray⟩, .int .i64 e.v.k, .int .i64 e.v.i, .string ⟨e.v.s.toArray⟩, .string ⟨e.s.toArray⟩, .slice A e.l.length c]] Y (RetFewX (fewX e) Y)) := fun Y h => fewX_any e A c n Y hf hl ((hA.below n (hwx Y h)).more (hwx Y h).size n)
  have HFY : Hid (∀ Y : World, Below w0.heap.size w0 Y → Calls Tryz.prog 9 #[.agg #[.string ⟨g.op.toArray⟩, .int .i64 g.v.k, .int .i64 g.v.i, .string ⟨g.v.s.toArray⟩, .string ⟨g.s.toArray⟩, .slice A' g.l.length c']] Y (RetFewX (fewX g) Y)) := fun Y h => fewX_any g A' c' n' Y hf' hl' ((hA'.below n' (hwx Y h)).more (hwx Y h).size n')
  have HFC : Hid (∀ Y : World, Below w0.heap.size w0 Y → Calls Tryz.prog 10 #[.slice A1 cols.length c1] Y (RetCols (fewCols cols) Y)) := fun Y h => cols_any A1 c1 cols Y hcl ((hC.below (hwx Y h)).more (hwx Y h).size) hcn
  have HFV : Hid (∀ Y : World, Below w0.heap.size w0 Y → Calls Tryz.prog 11 #[.slice A2 row.length c2] Y (RetVS (fewL row) Y)) := fun Y h => few_any A2 c2 row Y hrl ((hV.below (hwx Y h)).more (hwx Y h).size)
  have hXf := fewX_fit e hf.1
  have hYf := fewX_fit g hf'.1
  have HRI := Lib.hid (fewL_in row hri)
  have HRS := Lib.hid (fewL_s row)
  have HCL := Lib.hid (fewCols_len cols)
  have HRL := Lib.hid (fewL_len row)
  have HE := Lib.hid (hE.below hb0 rfl)
  obtain ⟨X, hX⟩ : ∃ X, fewX e = X := ⟨_, rfl⟩
  obtain ⟨Y, hY⟩ : ∃ Y, fewX g = Y := ⟨_, rfl⟩
  obtain ⟨CO, hCO⟩ : ∃ CO, fewCols cols = CO := ⟨_, rfl⟩
  obtain ⟨RO, hRO⟩ : ∃ RO, fewL row = RO := ⟨_, rfl⟩
  rw [hX] at HFX hXf
  rw [hY] at HFY hYf
  rw [hCO] at HFC HCL
  rw [hRO] at HFV HRI HRS HRL
  have HXF := Lib.hid hXf
  have HYF := Lib.hid hYf
  have HB0 := Lib.hid hb0
  clear hw0 hf hA hf' hA' hX hY hCO hRO hXf hYf hC hV hcn hri hE hwx kB0
  go_enter Tryz.func3, Tryz.ntmps3
  go_upto_region 1 with fail
  rw [HW.out]
  clear HW
  dsimp only [Ex.cells, List.cons_append, List.nil_append]
  go_cut [3, 4, 5, 6] (fun s3 s4 s5 s6 wx => Parts1 w0 X Y CO RO s3 s4 s5 s6 wx)
  case first =>
    refine wp_region_held_drew (S := (fun w' => w'.cell? ⟨w.heap.size, 0, none⟩ = some (.string ⟨e.op.toArray⟩) ∧ w'.cell? ⟨w.heap.size, 1, none⟩ = some (.int .i64 e.v.k) ∧ w'.cell? ⟨w.heap.size, 2, none⟩ = some (.int .i64 e.v.i) ∧ w'.cell? ⟨w.heap.size, 3, none⟩ = some (.string ⟨e.v.s.toArray⟩) ∧ w'.cell? ⟨w.heap.size, 4, none⟩ = some (.string ⟨e.s.toArray⟩) ∧ w'.cell? ⟨w.heap.size, 5, none⟩ = some (.slice A e.l.length c) ∧ w'.cell? ⟨w.heap.size, 6, none⟩ = some (.string ⟨g.op.toArray⟩) ∧ w'.cell? ⟨w.heap.size, 7, none⟩ = some (.int .i64 g.v.k) ∧ w'.cell? ⟨w.heap.size, 8, none⟩ = some (.int .i64 g.v.i) ∧ w'.cell? ⟨w.heap.size, 9, none⟩ = some (.string ⟨g.v.s.toArray⟩) ∧ w'.cell? ⟨w.heap.size, 10, none⟩ = some (.string ⟨g.s.toArray⟩) ∧ w'.cell? ⟨w.heap.size, 11, none⟩ = some (.slice A' g.l.length c') ∧ w'.cell? ⟨w.heap.size, 12, none⟩ = some (.slice A1 cols.length c1) ∧ w'.cell? ⟨w.heap.size, 13, none⟩ = some (.slice A2 row.length c2))) (by kernel_rfl) ?_ (fun hHeld => ?_)
    · try dsimp only
      exact HSH.out _ (by ((repeat' (first | with_reducible exact Below.refl _ _ | with_reducible assumption | with_reducible refine Below.drew ?_ | with_reducible refine below_drewN ?_ _ | with_reducible refine Below.setCell ?_ ?_ _ | with_reducible refine Below.alloc ?_ ?_ _ | with_reducible refine Below.trans ?_ (Below.mono (by assumption) ?_))) <;> (first | (simp; done) | (simp; omega) | omega)))
    refine wpAnyH_take (i := 0) (v := ?_) rfl (by kernel_rfl) (by kernel_rfl) (by kernel_rfl) (fun _ _ _ h => h) (Or.inl ⟨by rfl, ?_⟩) (by assumption) ?_
    rotate_left
    · intro wq hSw
      try dsimp only at hSw
      go_simp
      try with_reducible rfl
    try simp only [Act.put, List.getElem_toArray, List.getElem_cons_zero, List.setIfInBounds_toArray, List.set_cons_zero, List.set_cons_succ]
    refine wpAnyH_take (i := 1) (v := ?_) rfl (by kernel_rfl) (by kernel_rfl) (by kernel_rfl) (fun _ _ _ h => h) (Or.inl ⟨by rfl, ?_⟩) (by assumption) ?_
    rotate_left
    · intro wq hSw
      try dsimp only at hSw
      go_simp
      try with_reducible rfl
    try simp only [Act.put, List.getElem_toArray, List.getElem_cons_zero, List.getElem_cons_succ, List.setIfInBounds_toArray, List.set_cons_zero, List.set_cons_succ]
    refine wpAnyH_take (i := 3) (v := ?_) rfl (by kernel_rfl) (by kernel_rfl) (by kernel_rfl) (fun _ _ _ h => h) (Or.inl ⟨by rfl, ?_⟩) (by assumption) ?_
    rotate_left
    · intro wq hSw
      try dsimp only at hSw
      go_simp
      try with_reducible rfl
    try simp only [Act.put, List.getElem_toArray, List.getElem_cons_zero, List.getElem_cons_succ, List.setIfInBounds_toArray, List.set_cons_zero, List.set_cons_succ]
    refine wpAnyH_take (i := 4) (v := ?_) rfl (by kernel_rfl) (by kernel_rfl) (by kernel_rfl) (fun _ _ _ h => h) (Or.inl ⟨by rfl, ?_⟩) (by assumption) ?_
    rotate_left
    · intro wq hSw
      try dsimp only at hSw
      go_simp
      try with_reducible rfl
    try simp only [Act.put, List.getElem_toArray, List.getElem_cons_zero, List.getElem_cons_succ, List.setIfInBounds_toArray, List.set_cons_zero, List.set_cons_succ]
    refine wpAnyH_take (i := 6) (v := ?_) rfl (by kernel_rfl) (by kernel_rfl) (by kernel_rfl) (fun _ _ _ h => h) (Or.inl ⟨by rfl, ?_⟩) (by assumption) ?_
    rotate_left
    · intro wq hSw
      try dsimp only at hSw
      go_simp
      try with_reducible rfl
    try simp only [Act.put, List.getElem_toArray, List.getElem_cons_zero, List.getElem_cons_succ, List.setIfInBounds_toArray, List.set_cons_zero, List.set_cons_succ]
    refine wpAnyH_take (i := 7) (v := ?_) rfl (by kernel_rfl) (by kernel_rfl) (by kernel_rfl) (fun _ _ _ h => h) (Or.inl ⟨by rfl, ?_⟩) (by assumption) ?_
    rotate_left
    · intro wq hSw
      try dsimp only at hSw
      go_simp
      try with_reducible rfl
    try simp only [Act.put, List.getElem_toArray, List.getElem_cons_zero, List.getElem_cons_succ, List.setIfInBounds_toArray, List.set_cons_zero, List.set_cons_succ]
    refine wpAnyH_take (i := 9) (v := ?_) rfl (by kernel_rfl) (by kernel_rfl) (by kernel_rfl) (fun _ _ _ h => h) (Or.inl ⟨by rfl, ?_⟩) (by assumption) ?_
    rotate_left
    · intro wq hSw
      try dsimp only at hSw
      go_simp
      try with_reducible rfl
    try simp only [Act.put, List.getElem_toArray, List.getElem_cons_zero, List.getElem_cons_succ, List.setIfInBounds_toArray, List.set_cons_zero, List.set_cons_succ]
    refine wpAnyH_take (i := 10) (v := ?_) rfl (by kernel_rfl) (by kernel_rfl) (by kernel_rfl) (fun _ _ _ h => h) (Or.inl ⟨by rfl, ?_⟩) (by assumption) ?_
    rotate_left
    · intro wq hSw
      try dsimp only at hSw
      go_simp
      try with_reducible rfl
    try simp only [Act.put, List.getElem_toArray, List.getElem_cons_zero, List.getElem_cons_succ, List.setIfInBounds_toArray, List.set_cons_zero, List.set_cons_succ]
    refine wpAnyH_stage (ks := [2, 5, 8, 11, 12, 13]) (f0 := 4) (by decide) (P1I w0 X Y CO RO (fun U3 U4 U16 U19 U22 U25 => #[.agg #[.string ⟨e.op.toArray⟩, .int .i64 e.v.k, .int .i64 e.v.i, .string ⟨e.v.s.toArray⟩, .string ⟨e.s.toArray⟩, .slice A e.l.length c, .string ⟨g.op.toArray⟩, .int .i64 g.v.k, .int .i64 g.v.i, .string ⟨g.v.s.toArray⟩, .string ⟨g.s.toArray⟩, .slice A' g.l.length c', .slice A1 cols.length c1, .slice A2 row.length c2], .pointer (some ⟨w.heap.size, 0, none⟩), .bool false, U3, U4, undef, undef, undef, undef, undef, undef, undef, undef, undef, .pointer (some ⟨w.heap.size, 0, none⟩), .agg #[.string ⟨e.op.toArray⟩, .int .i64 e.v.k, .int .i64 e.v.i, .string ⟨e.v.s.toArray⟩, .string ⟨e.s.toArray⟩, .slice A e.l.length c], U16, .pointer (some ⟨w.heap.size, 6, none⟩), .agg #[.string ⟨g.op.toArray⟩, .int .i64 g.v.k, .int .i64 g.v.i, .string ⟨g.v.s.toArray⟩, .string ⟨g.s.toArray⟩, .slice A' g.l.length c'], U19, .pointer (some ⟨w.heap.size, 12, none⟩), .slice A1 cols.length c1, U22, .pointer (some ⟨w.heap.size, 13, none⟩), .slice A2 row.length c2, U25, undef, undef, undef, undef, undef, undef, undef, undef, undef, undef, undef, undef, undef, undef, undef, undef, undef, undef, undef, undef, undef, undef, undef, undef, undef, undef, undef, undef, undef, undef, undef, undef, undef, undef, undef, undef, undef, undef, undef, undef, undef, undef, undef, undef, undef, undef, undef, undef, undef, undef, undef, undef, undef, undef, undef, undef, undef, undef, undef, undef, undef, undef, undef, undef, undef, undef, undef, undef, undef, undef, undef, undef, undef, undef, undef, undef, undef])) ?_ ?_ ?_ 6 _ _ _ (by decide +kernel) ?_
    · rintro L ac wv i ⟨hsz, ⟨p0, p1, p3, p4, p6, p7, p9, p10⟩, ⟨n14, n15, n16, n17⟩, h11, h8, h5, hb, U3, U4, U16, U19, U22, U25, rfl, q12, q13, d1, s2, s5, s8, s11⟩ hex hi
      obtain ⟨hun, o, ho, hall⟩ := mem_ready.1 hi
      have hlt : i < 18 := by rw [← hsz]; exact getD_self hun
      have e0 : i ≠ 0 := fun e => by subst e; exact not_up hun p0
      have e1 : i ≠ 1 := fun e => by subst e; exact not_up hun p1
      have e3 : i ≠ 3 := fun e => by subst e; exact not_up hun p3
      have e4 : i ≠ 4 := fun e => by subst e; exact not_up hun p4
      have e6 : i ≠ 6 := fun e => by subst e; exact not_up hun p6
      have e7 : i ≠ 7 := fun e => by subst e; exact not_up hun p7
      have e9 : i ≠ 9 := fun e => by subst e; exact not_up hun p9
      have e10 : i ≠ 10 := fun e => by subst e; exact not_up hun p10
      have e14 : i ≠ 14 := fun e => by
        subst e
        injection ho with ho
        subst ho
        have z11 := up_of (hall ⟨11, .chain⟩ (by simp) rfl)
        have z8 := h11 z11
        have z5 := h8 z8
        have z2 := h5 z5
        have z12 := up_of (hall ⟨12, .phase⟩ (by simp) rfl)
        have z13 := up_of (hall ⟨13, .phase⟩ (by simp) rfl)
        obtain ⟨j, hj, hn⟩ := hex
        simp only [List.mem_cons, List.not_mem_nil, or_false] at hj
        rcases hj with rfl | rfl | rfl | rfl | rfl | rfl
        · exact not_up hn z2
        · exact not_up hn z5
        · exact not_up hn z8
        · exact not_up hn z11
        · exact not_up hn z12
        · exact not_up hn z13
      have e15 : i ≠ 15 := fun e => by
        subst e
        injection ho with ho
        subst ho
        exact not_up n14 (up_of (hall ⟨14, .chain⟩ (by simp) rfl))
      have e16 : i ≠ 16 := fun e => by
        subst e
        injection ho with ho
        subst ho
        exact not_up n15 (up_of (hall ⟨15, .chain⟩ (by simp) rfl))
      have e17 : i ≠ 17 := fun e => by
        subst e
        injection ho with ho
        subst ho
        exact not_up n16 (up_of (hall ⟨16, .chain⟩ (by simp) rfl))
      have hks : i = 2 ∨ i = 5 ∨ i = 8 ∨ i = 11 ∨ i = 12 ∨ i = 13 := by omega
      refine ⟨by simp only [List.mem_cons, List.not_mem_nil, or_false]; exact hks, ?_⟩
      clear e0 e1 e3 e4 e6 e7 e9 e10 e14 e15 e16 e17 hlt hex hi
      have hzv := hb.size
      rcases hks with rfl | rfl | rfl | rfl | rfl | rfl
      · injection ho with ho
        subst ho
        refine wpOp_one rfl (fun K hK => ?_)
        have Hall := Lib.hid hall
        have Hs := Lib.hid hsz
        go_simp
        refine (HFX.out _ hb).mono ?_
        rintro en w1 ⟨A5, c5, rfl, hE, hb1⟩
        dsimp only [Ex.cells]
        have hz1 := hb1.size
        go_wp2_with fail
        refine hK.out _ _ ⟨HSH.out _ (by ((repeat' (first | with_reducible exact Below.refl _ _ | with_reducible assumption | with_reducible refine Below.drew ?_ | with_reducible refine below_drewN ?_ _ | with_reducible refine Below.setCell ?_ ?_ _ | with_reducible refine Below.alloc ?_ ?_ _ | with_reducible refine Below.trans ?_ (Below.mono (by assumption) ?_))) <;> (first | (simp; done) | (simp; omega) | omega))), ?_⟩
        exact ⟨by rw [Array.size_setIfInBounds]; exact hsz, ⟨p0.more, p1.more, p3.more, p4.more, p6.more, p7.more, p9.more, p10.more⟩, ⟨(getD_put_other true (by decide)).trans n14, (getD_put_other true (by decide)).trans n15, (getD_put_other true (by decide)).trans n16, (getD_put_other true (by decide)).trans n17⟩, fun h => (h11 (h.put (by decide))).more, fun h => (h8 (h.put (by decide))).more, fun h => (h5 (h.put (by decide))).more, (by ((repeat' (first | with_reducible exact Below.refl _ _ | with_reducible assumption | with_reducible refine Below.drew ?_ | with_reducible refine below_drewN ?_ _ | with_reducible refine Below.setCell ?_ ?_ _ | with_reducible refine Below.alloc ?_ ?_ _ | with_reducible refine Below.trans ?_ (Below.mono (by assumption) ?_))) <;> (first | (simp; done) | (simp; omega) | omega))), _, _, _, _, _, _, rfl, q12.put (by decide) hb1, q13.put (by decide) hb1, d1.put (by decide) (by decide), fun _ => GotE.fresh hE (fun b h => Av.fresh q12 q13 (by decide) (by decide) b h), s5.put (GotE.keeps _ _) (by decide) hb1 (fun b h => Av.call (by decide) (by decide) hb1 b h), s8.put (GotC.keeps _ _) (by decide) hb1 (fun b h => Av.call (by decide) (by decide) hb1 b h), s11.put (GotV.keeps _ _) (by decide) hb1 (fun b h => Av.call (by decide) (by decide) hb1 b h)⟩
      · injection ho with ho
        subst ho
        refine wpOp_one rfl (fun K hK => ?_)
        have Hall := Lib.hid hall
        have Hs := Lib.hid hsz
        go_simp
        refine (HFY.out _ hb).mono ?_
        rintro en w1 ⟨A5, c5, rfl, hE, hb1⟩
        dsimp only [Ex.cells]
        have hz1 := hb1.size
        go_wp2_with fail
        refine hK.out _ _ ⟨HSH.out _ (by ((repeat' (first | with_reducible exact Below.refl _ _ | with_reducible assumption | with_reducible refine Below.drew ?_ | with_reducible refine below_drewN ?_ _ | with_reducible refine Below.setCell ?_ ?_ _ | with_reducible refine Below.alloc ?_ ?_ _ | with_reducible refine Below.trans ?_ (Below.mono (by assumption) ?_))) <;> (first | (simp; done) | (simp; omega) | omega))), ?_⟩
        exact ⟨by rw [Array.size_setIfInBounds]; exact hsz, ⟨p0.more, p1.more, p3.more, p4.more, p6.more, p7.more, p9.more, p10.more⟩, ⟨(getD_put_other true (by decide)).trans n14, (getD_put_other true (by decide)).trans n15, (getD_put_other true (by decide)).trans n16, (getD_put_other true (by decide)).trans n17⟩, fun h => (h11 (h.put (by decide))).more, fun h => (h8 (h.put (by decide))).more, fun h => (up_of (hall ⟨2, .chain⟩ (by simp) rfl)).more, (by ((repeat' (first | with_reducible exact Below.refl _ _ | with_reducible assumption | with_reducible refine Below.drew ?_ | with_reducible refine below_drewN ?_ _ | with_reducible refine Below.setCell ?_ ?_ _ | with_reducible refine Below.alloc ?_ ?_ _ | with_reducible refine Below.trans ?_ (Below.mono (by assumption) ?_))) <;> (first | (simp; done) | (simp; omega) | omega))), _, _, _, _, _, _, rfl, q12.put (by decide) hb1, q13.put (by decide) hb1, d1.put (by decide) (by decide), s2.put (GotE.keeps _ _) (by decide) hb1 (fun b h => Av.call (by decide) (by decide) hb1 b h), fun _ => GotE.fresh hE (fun b h => Av.fresh q12 q13 (by decide) (by decide) b h), s8.put (GotC.keeps _ _) (by decide) hb1 (fun b h => Av.call (by decide) (by decide) hb1 b h), s11.put (GotV.keeps _ _) (by decide) hb1 (fun b h => Av.call (by decide) (by decide) hb1 b h)⟩
      · injection ho with ho
        subst ho
        refine wpOp_one rfl (fun K hK => ?_)
        have Hall := Lib.hid hall
        have Hs := Lib.hid hsz
        go_simp
        refine (HFC.out _ hb).mono ?_
        rintro en w1 ⟨A5, c5, rfl, _, _, hE, hb1⟩
        have hz1 := hb1.size
        go_wp2_with fail
        refine hK.out _ _ ⟨HSH.out _ (by ((repeat' (first | with_reducible exact Below.refl _ _ | with_reducible assumption | with_reducible refine Below.drew ?_ | with_reducible refine below_drewN ?_ _ | with_reducible refine Below.setCell ?_ ?_ _ | with_reducible refine Below.alloc ?_ ?_ _ | with_reducible refine Below.trans ?_ (Below.mono (by assumption) ?_))) <;> (first | (simp; done) | (simp; omega) | omega))), ?_⟩
        exact ⟨by rw [Array.size_setIfInBounds]; exact hsz, ⟨p0.more, p1.more, p3.more, p4.more, p6.more, p7.more, p9.more, p10.more⟩, ⟨(getD_put_other true (by decide)).trans n14, (getD_put_other true (by decide)).trans n15, (getD_put_other true (by decide)).trans n16, (getD_put_other true (by decide)).trans n17⟩, fun h => (h11 (h.put (by decide))).more, fun h => (up_of (hall ⟨5, .chain⟩ (by simp) rfl)).more, fun h => (h5 (h.put (by decide))).more, (by ((repeat' (first | with_reducible exact Below.refl _ _ | with_reducible assumption | with_reducible refine Below.drew ?_ | with_reducible refine below_drewN ?_ _ | with_reducible refine Below.setCell ?_ ?_ _ | with_reducible refine Below.alloc ?_ ?_ _ | with_reducible refine Below.trans ?_ (Below.mono (by assumption) ?_))) <;> (first | (simp; done) | (simp; omega) | omega))), _, _, _, _, _, _, rfl, q12.put (by decide) hb1, q13.put (by decide) hb1, d1.put (by decide) (by decide), s2.put (GotE.keeps _ _) (by decide) hb1 (fun b h => Av.call (by decide) (by decide) hb1 b h), s5.put (GotE.keeps _ _) (by decide) hb1 (fun b h => Av.call (by decide) (by decide) hb1 b h), fun _ => GotC.fresh hE (fun b h => Av.fresh q12 q13 (by decide) (by decide) b h), s11.put (GotV.keeps _ _) (by decide) hb1 (fun b h => Av.call (by decide) (by decide) hb1 b h)⟩
      · injection ho with ho
        subst ho
        refine wpOp_one rfl (fun K hK => ?_)
        have Hall := Lib.hid hall
        have Hs := Lib.hid hsz
        go_simp
        refine (HFV.out _ hb).mono ?_
        rintro en w1 ⟨A5, c5, rfl, _, _, hE, hb1⟩
        have hz1 := hb1.size
        go_wp2_with fail
        refine hK.out _ _ ⟨HSH.out _ (by ((repeat' (first | with_reducible exact Below.refl _ _ | with_reducible assumption | with_reducible refine Below.drew ?_ | with_reducible refine below_drewN ?_ _ | with_reducible refine Below.setCell ?_ ?_ _ | with_reducible refine Below.alloc ?_ ?_ _ | with_reducible refine Below.trans ?_ (Below.mono (by assumption) ?_))) <;> (first | (simp; done) | (simp; omega) | omega))), ?_⟩
        exact ⟨by rw [Array.size_setIfInBounds]; exact hsz, ⟨p0.more, p1.more, p3.more, p4.more, p6.more, p7.more, p9.more, p10.more⟩, ⟨(getD_put_other true (by decide)).trans n14, (getD_put_other true (by decide)).trans n15, (getD_put_other true (by decide)).trans n16, (getD_put_other true (by decide)).trans n17⟩, fun h => (up_of (hall ⟨8, .chain⟩ (by simp) rfl)).more, fun h => (h8 (h.put (by decide))).more, fun h => (h5 (h.put (by decide))).more, (by ((repeat' (first | with_reducible exact Below.refl _ _ | with_reducible assumption | with_reducible refine Below.drew ?_ | with_reducible refine below_drewN ?_ _ | with_reducible refine Below.setCell ?_ ?_ _ | with_reducible refine Below.alloc ?_ ?_ _ | with_reducible refine Below.trans ?_ (Below.mono (by assumption) ?_))) <;> (first | (simp; done) | (simp; omega) | omega))), _, _, _, _, _, _, rfl, q12.put (by decide) hb1, q13.put (by decide) hb1, d1.put (by decide) (by decide), s2.put (GotE.keeps _ _) (by decide) hb1 (fun b h => Av.call (by decide) (by decide) hb1 b h), s5.put (GotE.keeps _ _) (by decide) hb1 (fun b h => Av.call (by decide) (by decide) hb1 b h), s8.put (GotC.keeps _ _) (by decide) hb1 (fun b h => Av.call (by decide) (by decide) hb1 b h), fun _ => GotV.fresh hE (fun b h => Av.fresh q12 q13 (by decide) (by decide) b h)⟩
      · injection ho with ho
        subst ho
        refine wpOp_one rfl (fun K hK => ?_)
        have Hall := Lib.hid hall
        have Hs := Lib.hid hsz
        go_simp
        go_wp2_with fail
        refine hK.out _ _ ⟨HSH.out _ (by ((repeat' (first | with_reducible exact Below.refl _ _ | with_reducible assumption | with_reducible refine Below.drew ?_ | with_reducible refine below_drewN ?_ _ | with_reducible refine Below.setCell ?_ ?_ _ | with_reducible refine Below.alloc ?_ ?_ _ | with_reducible refine Below.trans ?_ (Below.mono (by assumption) ?_))) <;> (first | (simp; done) | (simp; omega) | omega))), ?_⟩
        exact ⟨by rw [Array.size_setIfInBounds]; exact hsz, ⟨p0.more, p1.more, p3.more, p4.more, p6.more, p7.more, p9.more, p10.more⟩, ⟨(getD_put_other true (by decide)).trans n14, (getD_put_other true (by decide)).trans n15, (getD_put_other true (by decide)).trans n16, (getD_put_other true (by decide)).trans n17⟩, fun h => (h11 (h.put (by decide))).more, fun h => (h8 (h.put (by decide))).more, fun h => (h5 (h.put (by decide))).more, (by ((repeat' (first | with_reducible exact Below.refl _ _ | with_reducible assumption | with_reducible refine Below.drew ?_ | with_reducible refine below_drewN ?_ _ | with_reducible refine Below.setCell ?_ ?_ _ | with_reducible refine Below.alloc ?_ ?_ _ | with_reducible refine Below.trans ?_ (Below.mono (by assumption) ?_))) <;> (first | (simp; done) | (simp; omega) | omega))), _, _, _, _, _, _, rfl, NewE.new hb.size, q13.put (by decide) ((Below.refl _ _).alloc (Nat.le_refl _) _), Diff.newLE q13 (by decide), s2.put (GotE.keeps _ _) (by decide) ((Below.refl _ _).alloc (Nat.le_refl _) _) (fun b h => Av.newL (by decide) _ b h), s5.put (GotE.keeps _ _) (by decide) ((Below.refl _ _).alloc (Nat.le_refl _) _) (fun b h => Av.newL (by decide) _ b h), s8.put (GotC.keeps _ _) (by decide) ((Below.refl _ _).alloc (Nat.le_refl _) _) (fun b h => Av.newL (by decide) _ b h), s11.put (GotV.keeps _ _) (by decide) ((Below.refl _ _).alloc (Nat.le_refl _) _) (fun b h => Av.newL (by decide) _ b h)⟩
      · injection ho with ho
        subst ho
        refine wpOp_one rfl (fun K hK => ?_)
        have Hall := Lib.hid hall
        have Hs := Lib.hid hsz
        go_simp
        go_wp2_with fail
        refine hK.out _ _ ⟨HSH.out _ (by ((repeat' (first | with_reducible exact Below.refl _ _ | with_reducible assumption | with_reducible refine Below.drew ?_ | with_reducible refine below_drewN ?_ _ | with_reducible refine Below.setCell ?_ ?_ _ | with_reducible refine Below.alloc ?_ ?_ _ | with_reducible refine Below.trans ?_ (Below.mono (by assumption) ?_))) <;> (first | (simp; done) | (simp; omega) | omega))), ?_⟩
        exact ⟨by rw [Array.size_setIfInBounds]; exact hsz, ⟨p0.more, p1.more, p3.more, p4.more, p6.more, p7.more, p9.more, p10.more⟩, ⟨(getD_put_other true (by decide)).trans n14, (getD_put_other true (by decide)).trans n15, (getD_put_other true (by decide)).trans n16, (getD_put_other true (by decide)).trans n17⟩, fun h => (h11 (h.put (by decide))).more, fun h => (h8 (h.put (by decide))).more, fun h => (h5 (h.put (by decide))).more, (by ((repeat' (first | with_reducible exact Below.refl _ _ | with_reducible assumption | with_reducible refine Below.drew ?_ | with_reducible refine below_drewN ?_ _ | with_reducible refine Below.setCell ?_ ?_ _ | with_reducible refine Below.alloc ?_ ?_ _ | with_reducible refine Below.trans ?_ (Below.mono (by assumption) ?_))) <;> (first | (simp; done) | (simp; omega) | omega))), _, _, _, _, _, _, rfl, q12.put (by decide) ((Below.refl _ _).alloc (Nat.le_refl _) _), NewE.new hb.size, Diff.newRE q12 (by decide), s2.put (GotE.keeps _ _) (by decide) ((Below.refl _ _).alloc (Nat.le_refl _) _) (fun b h => Av.newR (by decide) _ b h), s5.put (GotE.keeps _ _) (by decide) ((Below.refl _ _).alloc (Nat.le_refl _) _) (fun b h => Av.newR (by decide) _ b h), s8.put (GotC.keeps _ _) (by decide) ((Below.refl _ _).alloc (Nat.le_refl _) _) (fun b h => Av.newR (by decide) _ b h), s11.put (GotV.keeps _ _) (by decide) ((Below.refl _ _).alloc (Nat.le_refl _) _) (fun b h => Av.newR (by decide) _ b h)⟩
    · rintro L ac wv ⟨hsz, ⟨p0, p1, p3, p4, p6, p7, p9, p10⟩, ⟨n14, n15, n16, n17⟩, h11, h8, h5, hb, _⟩ ⟨j, hj, hn⟩
      simp only [List.mem_cons, List.not_mem_nil, or_false] at hj
      rcases hj with rfl | rfl | rfl | rfl | rfl | rfl
      · exact ready_some 2 hn rfl (fun e he _ => by simp at he; rcases he with rfl <;> first | exact getF p1 (by rw [hsz]; decide))
      · cases y2 : L.getD 2 true
        · exact ready_some 2 y2 rfl (fun e he _ => by simp at he; rcases he with rfl <;> first | exact getF p1 (by rw [hsz]; decide))
        · exact ready_some 5 hn rfl (fun e he _ => by simp at he; rcases he with rfl | rfl <;> first | exact getF p4 (by rw [hsz]; decide) | exact getF y2 (by rw [hsz]; decide))
      · cases y2 : L.getD 2 true
        · exact ready_some 2 y2 rfl (fun e he _ => by simp at he; rcases he with rfl <;> first | exact getF p1 (by rw [hsz]; decide))
        · cases y5 : L.getD 5 true
          · exact ready_some 5 y5 rfl (fun e he _ => by simp at he; rcases he with rfl | rfl <;> first | exact getF p4 (by rw [hsz]; decide) | exact getF y2 (by rw [hsz]; decide))
          · exact ready_some 8 hn rfl (fun e he _ => by simp at he; rcases he with rfl | rfl <;> first | exact getF p7 (by rw [hsz]; decide) | exact getF y5 (by rw [hsz]; decide))
      · cases y2 : L.getD 2 true
        · exact ready_some 2 y2 rfl (fun e he _ => by simp at he; rcases he with rfl <;> first | exact getF p1 (by rw [hsz]; decide))
        · cases y5 : L.getD 5 true
          · exact ready_some 5 y5 rfl (fun e he _ => by simp at he; rcases he with rfl | rfl <;> first | exact getF p4 (by rw [hsz]; decide) | exact getF y2 (by rw [hsz]; decide))
          · cases y8 : L.getD 8 true
            · exact ready_some 8 y8 rfl (fun e he _ => by simp at he; rcases he with rfl | rfl <;> first | exact getF p7 (by rw [hsz]; decide) | exact getF y5 (by rw [hsz]; decide))
            · exact ready_some 11 hn rfl (fun e he _ => by simp at he; rcases he with rfl | rfl <;> first | exact getF p10 (by rw [hsz]; decide) | exact getF y8 (by rw [hsz]; decide))
      · exact ready_some 12 hn rfl (fun e he _ => by simp at he)
      · exact ready_some 13 hn rfl (fun e he _ => by simp at he)
    · rintro L ac wv ⟨hsz, ⟨p0, p1, p3, p4, p6, p7, p9, p10⟩, ⟨n14, n15, n16, n17⟩, h11, h8, h5, hb, U3, U4, U16, U19, U22, U25, rfl, q12, q13, d1, s2, s5, s8, s11⟩ hall
      have z2 : Up L 2 := hall 2 (by simp)
      have z5 : Up L 5 := hall 5 (by simp)
      have z8 : Up L 8 := hall 8 (by simp)
      have z11 : Up L 11 := hall 11 (by simp)
      have z12 : Up L 12 := hall 12 (by simp)
      have z13 : Up L 13 := hall 13 (by simp)
      obtain ⟨g1, rfl, m1, k1⟩ := q12 z12
      obtain ⟨g2, rfl, m2, k2⟩ := q13 z13
      have f12 : g1 ≠ g2 := fun e => d1 z12 z13 (by rw [e])
      have f21 : g2 ≠ g1 := Ne.symm f12
      have HQ : Hid (∀ b, Av L 12 13 (.pointer (some ⟨g1, 0, none⟩)) (.pointer (some ⟨g2, 0, none⟩)) wv b → b < wv.heap.size ∧ b ≠ g1 ∧ b ≠ g2) := fun b h => Av.parts z12 z13 h
      obtain ⟨A5, c5, rfl, hX⟩ := s2 z2
      obtain ⟨A6, c6, rfl, hY⟩ := s5 z5
      obtain ⟨A3, c3, rfl, hC⟩ := s8 z8
      obtain ⟨A4, c4, rfl, hV⟩ := s11 z11
      have HX9 := Lib.hid hX
      have HY9 := Lib.hid hY
      have HC9 := Lib.hid hC
      have HV9 := Lib.hid hV
      clear hX hY hC hV s2 s5 s8 s11 q12 q13 d1 h11 h8 h5
      obtain ⟨QQ, hQQ⟩ : ∃ Q, Q = Av L 12 13 (.pointer (some ⟨g1, 0, none⟩)) (.pointer (some ⟨g2, 0, none⟩)) wv := ⟨_, rfl⟩
      rw [← hQQ] at HQ HX9 HY9 HC9 HV9
      clear hQQ
      obtain ⟨l⟩ := L
      match l, hsz with
      | [b0, b1, b2, b3, b4, b5, b6, b7, b8, b9, b10, b11, b12, b13, b14, b15, b16, b17], _ =>
        obtain rfl : b0 = true := p0
        obtain rfl : b1 = true := p1
        obtain rfl : b2 = true := z2
        obtain rfl : b3 = true := p3
        obtain rfl : b4 = true := p4
        obtain rfl : b5 = true := z5
        obtain rfl : b6 = true := p6
        obtain rfl : b7 = true := p7
        obtain rfl : b8 = true := z8
        obtain rfl : b9 = true := p9
        obtain rfl : b10 = true := p10
        obtain rfl : b11 = true := z11
        obtain rfl : b12 = true := z12
        obtain rfl : b13 = true := z13
        obtain rfl : b14 = false := n14
        obtain rfl : b15 = false := n15
        obtain rfl : b16 = false := n16
        obtain rfl : b17 = false := n17
        clear hall hsz
        have hHeld := HSH.out wv hb
        have hzv := hb.size
        obtain ⟨x10, x11, x12, x13, x14, x15⟩ := Blk.six (e := exZero) (A := none) (c := 0) k1
        obtain ⟨xf10, xf11, xf12, xf13, xf14, xf15⟩ := k1.sixF
        dsimp only [exZero, V.zero, Ex.op, Ex.v, Ex.s, Ex.l, List.length_nil] at x10 x11 x12 x13 x14 x15
        obtain ⟨x20, x21, x22, x23, x24, x25⟩ := Blk.six (e := exZero) (A := none) (c := 0) k2
        obtain ⟨xf20, xf21, xf22, xf23, xf24, xf25⟩ := k2.sixF
        dsimp only [exZero, V.zero, Ex.op, Ex.v, Ex.s, Ex.l, List.length_nil] at x20 x21 x22 x23 x24 x25
        refine wpAnyH_ready (rs := [14]) (by kernel_rfl) (by simp) ?_
        refine AllReadyH.cons rfl (fun K hK => ?_) AllReadyH.nil
        go_simp
        go_wp2_with fail
        refine hK.out _ _ ?_ (fun hHeld => ?_)
        · try dsimp only
          exact HSH.out _ (by ((repeat' (first | with_reducible exact Below.refl _ _ | with_reducible assumption | with_reducible refine Below.drew ?_ | with_reducible refine below_drewN ?_ _ | with_reducible refine Below.setCell ?_ ?_ _ | with_reducible refine Below.alloc ?_ ?_ _ | with_reducible refine Below.trans ?_ (Below.mono (by assumption) ?_))) <;> (first | (simp; done) | (simp; omega) | omega)))
        clear hK K
        clear x10 x11 x12 x13 x14 x15 xf10 xf11 xf12 xf13 xf14 xf15
        refine wpAnyH_ready (rs := [15]) (by kernel_rfl) (by simp) ?_
        refine AllReadyH.cons rfl (fun K hK => ?_) AllReadyH.nil
        go_simp
        go_wp2_with fail
        refine hK.out _ _ ?_ (fun hHeld => ?_)
        · try dsimp only
          exact HSH.out _ (by ((repeat' (first | with_reducible exact Below.refl _ _ | with_reducible assumption | with_reducible refine Below.drew ?_ | with_reducible refine below_drewN ?_ _ | with_reducible refine Below.setCell ?_ ?_ _ | with_reducible refine Below.alloc ?_ ?_ _ | with_reducible refine Below.trans ?_ (Below.mono (by assumption) ?_))) <;> (first | (simp; done) | (simp; omega) | omega)))
        clear hK K
        clear x20 x21 x22 x23 x24 x25 xf20 xf21 xf22 xf23 xf24 xf25
        refine wpAnyH_take (i := 16) (v := ?_) rfl (by kernel_rfl) (by kernel_rfl) (by kernel_rfl) (fun _ _ _ h => h) (Or.inl ⟨by rfl, ?_⟩) (by assumption) ?_
        rotate_left
        · intro wq hSw
          try dsimp only at hSw
          go_simp
          try with_reducible rfl
        try simp only [Act.put, List.getElem_toArray, List.getElem_cons_zero, List.getElem_cons_succ, List.setIfInBounds_toArray, List.set_cons_zero, List.set_cons_succ]
        refine wpAnyH_take (i := 17) (v := ?_) rfl (by kernel_rfl) (by kernel_rfl) (by kernel_rfl) (fun _ _ _ h => h) (Or.inl ⟨by rfl, ?_⟩) (by assumption) ?_
        rotate_left
        · intro wq hSw
          try dsimp only at hSw
          go_simp
          try with_reducible rfl
        try simp only [Act.put, List.getElem_toArray, List.getElem_cons_zero, List.getElem_cons_succ, List.setIfInBounds_toArray, List.set_cons_zero, List.set_cons_succ]
        refine wpAnyH_done (by kernel_rfl) ?_ _
        all_goals (go_wp2_with fail; go_meet)
        exact parts_end HQ.out HX9.out HY9.out HC9.out HV9.out k1 k2 f12 hb m1 m2
    · refine ⟨by decide +kernel, ⟨by decide +kernel, by decide +kernel, by decide +kernel, by decide +kernel, by decide +kernel, by decide +kernel, by decide +kernel, by decide +kernel⟩, ⟨by decide +kernel, by decide +kernel, by decide +kernel, by decide +kernel⟩, ?_, ?_, ?_, by ((repeat' (first | with_reducible exact Below.refl _ _ | with_reducible assumption | with_reducible refine Below.drew ?_ | with_reducible refine below_drewN ?_ _ | with_reducible refine Below.setCell ?_ ?_ _ | with_reducible refine Below.alloc ?_ ?_ _ | with_reducible refine Below.trans ?_ (Below.mono (by assumption) ?_))) <;> (first | (simp; done) | (simp; omega) | omega)), _, _, _, _, _, _, rfl, ?_, ?_, ?_, ?_, ?_, ?_, ?_⟩
      all_goals (intro h; exact absurd h (by decide +kernel))
  case rest =>
    obtain ⟨g1, g2, A5, c5, A6, c6, A3, c3, A4, c4, rfl, rfl, rfl, rfl, k1, k2, HX1, HY1, HC1, HV1, m1, m2, hb1⟩ := hcut
    obtain ⟨W1, rfl⟩ : ∃ W, W = wc := ⟨_, rfl⟩
    have hbw1 := HB0.out.trans (hb1.mono HB0.out.size)
    have HE1 := Lib.hid (HE.out.below hb1 rfl)
    have l1 := k1.lt
    have l2 := k2.lt
    have hcl9 := HCL.out
    have hrl14 := HRL.out
    obtain ⟨MX, hMX⟩ : ∃ M, mayX X = M := ⟨_, rfl⟩
    obtain ⟨MY, hMY⟩ : ∃ M, mayX Y = M := ⟨_, rfl⟩
    have HMX : Hid (∀ Z : World, Below W1.heap.size W1 Z → Calls Tryz.prog 12 #[.agg #[.string ⟨X.op.toArray⟩, .int .i64 X.v.k, .int .i64 X.v.i, .string ⟨X.v.s.toArray⟩, .string ⟨X.s.toArray⟩, .slice A5 X.l.length c5]] Z (Ret (.bool MX) Z)) := fun Z h => by have := may_of HX1.out (fun b h => h) Z h; rw [hMX] at this; exact this
    have HMY : Hid (∀ Z : World, Below W1.heap.size W1 Z → Calls Tryz.prog 12 #[.agg #[.string ⟨Y.op.toArray⟩, .int .i64 Y.v.k, .int .i64 Y.v.i, .string ⟨Y.v.s.toArray⟩, .string ⟨Y.s.toArray⟩, .slice A6 Y.l.length c6]] Z (Ret (.bool MY) Z)) := fun Z h => by have := may_of HY1.out (fun b h => h) Z h; rw [hMY] at this; exact this
    have HNX := Lib.hid hMX
    have HNY := Lib.hid hMY
    have HSW : Hid (∀ w' : World, Below W1.heap.size W1 w' → ((w'.cell? ⟨g1, 0, none⟩ = some (.string ⟨X.op.toArray⟩) ∧ w'.cell? ⟨g1, 1, none⟩ = some (.int .i64 X.v.k) ∧ w'.cell? ⟨g1, 2, none⟩ = some (.int .i64 X.v.i) ∧ w'.cell? ⟨g1, 3, none⟩ = some (.string ⟨X.v.s.toArray⟩) ∧ w'.cell? ⟨g1, 4, none⟩ = some (.string ⟨X.s.toArray⟩) ∧ w'.cell? ⟨g1, 5, none⟩ = some (.slice A5 X.l.length c5)) ∧ (w'.cell? ⟨g2, 0, none⟩ = some (.string ⟨Y.op.toArray⟩) ∧ w'.cell? ⟨g2, 1, none⟩ = some (.int .i64 Y.v.k) ∧ w'.cell? ⟨g2, 2, none⟩ = some (.int .i64 Y.v.i) ∧ w'.cell? ⟨g2, 3, none⟩ = some (.string ⟨Y.v.s.toArray⟩) ∧ w'.cell? ⟨g2, 4, none⟩ = some (.string ⟨Y.s.toArray⟩) ∧ w'.cell? ⟨g2, 5, none⟩ = some (.slice A6 Y.l.length c6)))) := fun w' h => ⟨(k1.below h l1).six, (k2.below h l2).six⟩
    clear hMX hMY HFX HFY HFC HFV HSH HB0
    have r1 := Below.refl W1.heap.size W1
    obtain ⟨⟨x0, x1, x2, x3, x4, x5⟩, _⟩ := HSW.out W1 r1
    cases MX
    · clear HNX HNY
      go_wp2_with fail
      refine (HMX.out _ r1).mono ?_
      rintro en wa ⟨rfl, hba⟩
      go_wp2_with fail
      refine (awake4_any _ (HE1.out.below hba rfl)).mono ?_
      rintro en wb ⟨rfl, hbb⟩
      go_wp2_with fail
      go_ret
      exact ⟨rfl, hbw1.trans ((hba.trans (hbb.mono hba.size)).mono hbw1.size)⟩
    go_wp2_with fail
    refine (HMX.out _ r1).mono ?_
    rintro en wa ⟨rfl, hba⟩
    clear x0 x1 x2 x3 x4 x5
    obtain ⟨_, y0, y1, y2, y3, y4, y5⟩ := HSW.out wa hba
    cases MY
    · clear HNX HNY
      go_wp2_with fail
      refine (HMY.out _ hba).mono ?_
      rintro en wb ⟨rfl, hbb⟩
      go_wp2_with fail
      refine (awake4_any _ ((HE1.out.below hba rfl).below hbb rfl)).mono ?_
      rintro en wd ⟨rfl, hbd⟩
      go_wp2_with fail
      go_ret
      exact ⟨rfl, hbw1.trans ((hba.trans ((hbb.trans (hbd.mono hbb.size)).mono hba.size)).mono hbw1.size)⟩
    go_wp2_with fail
    refine (HMY.out _ hba).mono ?_
    rintro en W2 ⟨rfl, hb2a⟩
    clear y0 y1 y2 y3 y4 y5
    have hb2 := hba.trans (hb2a.mono hba.size)
    have hbw2 := hbw1.trans (hb2.mono hbw1.size)
    have HE2 := Lib.hid (HE1.out.below hb2 rfl)
    have HS4 : Hid (∀ w' : World, Below W2.heap.size W2 w' → ((w'.cell? ⟨g1, 0, none⟩ = some (.string ⟨X.op.toArray⟩) ∧ w'.cell? ⟨g1, 1, none⟩ = some (.int .i64 X.v.k) ∧ w'.cell? ⟨g1, 2, none⟩ = some (.int .i64 X.v.i) ∧ w'.cell? ⟨g1, 3, none⟩ = some (.string ⟨X.v.s.toArray⟩) ∧ w'.cell? ⟨g1, 4, none⟩ = some (.string ⟨X.s.toArray⟩) ∧ w'.cell? ⟨g1, 5, none⟩ = some (.slice A5 X.l.length c5)) ∧ (w'.cell? ⟨g2, 0, none⟩ = some (.string ⟨Y.op.toArray⟩) ∧ w'.cell? ⟨g2, 1, none⟩ = some (.int .i64 Y.v.k) ∧ w'.cell? ⟨g2, 2, none⟩ = some (.int .i64 Y.v.i) ∧ w'.cell? ⟨g2, 3, none⟩ = some (.string ⟨Y.v.s.toArray⟩) ∧ w'.cell? ⟨g2, 4, none⟩ = some (.string ⟨Y.s.toArray⟩) ∧ w'.cell? ⟨g2, 5, none⟩ = some (.slice A6 Y.l.length c6)))) := fun w' h => HSW.out w' (hb2.trans (h.mono hb2.size))
    have HC2 := Lib.hid ((HC1.out.below hb2).more hb2.size)
    have HV2 := Lib.hid ((HV1.out.below hb2).more hb2.size)
    have HX2 : Hid (ExR (fun b => b < W2.heap.size) X A5 c5 W2) := HX1.out.keep fun b hb => ⟨Nat.lt_of_lt_of_le hb hb2.size, fun o => hb2.cell (p := ⟨b, o, none⟩) hb⟩
    have HY2 : Hid (ExR (fun b => b < W2.heap.size) Y A6 c6 W2) := HY1.out.keep fun b hb => ⟨Nat.lt_of_lt_of_le hb hb2.size, fun o => hb2.cell (p := ⟨b, o, none⟩) hb⟩
    obtain ⟨x, hx⟩ : ∃ x, evalX CO RO X = x := ⟨_, rfl⟩
    obtain ⟨y, hy⟩ : ∃ y, evalX CO RO Y = y := ⟨_, rfl⟩
    have HVX : Hid (∀ Z : World, Below W2.heap.size W2 Z → Calls Tryz.prog 14 #[.agg #[.string ⟨X.op.toArray⟩, .int .i64 X.v.k, .int .i64 X.v.i, .string ⟨X.v.s.toArray⟩, .string ⟨X.s.toArray⟩, .slice A5 X.l.length c5], .slice A3 CO.length c3, .slice A4 RO.length c4] Z (Ret (.agg #[.int .i64 (x).k, .int .i64 (x).i, .string ⟨(x).s.toArray⟩]) Z)) := fun Z h => by subst hx; exact eval_of HX2.out (fun b h => h) (by omega) (by omega) HC2.out HV2.out HRI.out Z h
    have HVY : Hid (∀ Z : World, Below W2.heap.size W2 Z → Calls Tryz.prog 14 #[.agg #[.string ⟨Y.op.toArray⟩, .int .i64 Y.v.k, .int .i64 Y.v.i, .string ⟨Y.v.s.toArray⟩, .string ⟨Y.s.toArray⟩, .slice A6 Y.l.length c6], .slice A3 CO.length c3, .slice A4 RO.length c4] Z (Ret (.agg #[.int .i64 (y).k, .int .i64 (y).i, .string ⟨(y).s.toArray⟩]) Z)) := fun Z h => by subst hy; exact eval_of HY2.out (fun b h => h) (by omega) (by omega) HC2.out HV2.out HRI.out Z h
    have ix : fitI x.i := by rw [← hx]; exact evalX_in CO RO X HXF.out.1 HRI.out
    have iy : fitI y.i := by rw [← hy]; exact evalX_in CO RO Y HYF.out.1 HRI.out
    have sx : x.s.length ≤ 1000 := by rw [← hx]; exact evalX_s CO RO X 1000 HXF.out.2.2.2 HRS.out
    have sy : y.s.length ≤ 1000 := by rw [← hy]; exact evalX_s CO RO Y 1000 HYF.out.2.2.2 HRS.out
    have hpk : ∀ op, ¬ op = opLit → ¬ op = opCol → op.length ≤ 1000 → PartOk CO RO X Y op (doF op x y) := fun op h1 h2 h3 => part_ok HNX.out HNY.out hx hy h1 h2 h3
    have HPN : Hid (mayX (.mk opNot V.zero [] [X]) = true → evalX CO RO (.mk opNot V.zero [] [X]) = notV x) := fun h => by rw [part_not HNX.out h, hx]
    obtain ⟨vAnd, eAnd⟩ : ∃ v, doF opAnd x y = v := ⟨_, rfl⟩
    obtain ⟨vOr, eOr⟩ : ∃ v, doF opOr x y = v := ⟨_, rfl⟩
    obtain ⟨vEq, eEq⟩ : ∃ v, doF opEq x y = v := ⟨_, rfl⟩
    obtain ⟨vLt, eLt⟩ : ∃ v, doF opLt x y = v := ⟨_, rfl⟩
    obtain ⟨vPlus, ePlus⟩ : ∃ v, doF opPlus x y = v := ⟨_, rfl⟩
    obtain ⟨vMinus, eMinus⟩ : ∃ v, doF opMinus x y = v := ⟨_, rfl⟩
    obtain ⟨vNot, eNot⟩ : ∃ v, notV x = v := ⟨_, rfl⟩
    have OAnd : Hid (PartOk CO RO X Y opAnd vAnd) := by have := hpk opAnd (by decide) (by decide) (by decide); rw [eAnd] at this; exact this
    have OOr : Hid (PartOk CO RO X Y opOr vOr) := by have := hpk opOr (by decide) (by decide) (by decide); rw [eOr] at this; exact this
    have OEq : Hid (PartOk CO RO X Y opEq vEq) := by have := hpk opEq (by decide) (by decide) (by decide); rw [eEq] at this; exact this
    have OLt : Hid (PartOk CO RO X Y opLt vLt) := by have := hpk opLt (by decide) (by decide) (by decide); rw [eLt] at this; exact this
    have OPlus : Hid (PartOk CO RO X Y opPlus vPlus) := by have := hpk opPlus (by decide) (by decide) (by decide); rw [ePlus] at this; exact this
    have OMinus : Hid (PartOk CO RO X Y opMinus vMinus) := by have := hpk opMinus (by decide) (by decide) (by decide); rw [eMinus] at this; exact this
    have HAnd : Hid (∀ Z : World, Calls Tryz.prog 15 #[.agg #[.int .i64 (x).k, .int .i64 (x).i, .string ⟨(x).s.toArray⟩], .agg #[.int .i64 (y).k, .int .i64 (y).i, .string ⟨(y).s.toArray⟩]] Z (Ret (.agg #[.int .i64 (vAnd).k, .int .i64 (vAnd).i, .string ⟨(vAnd).s.toArray⟩]) Z)) := fun Z => by rw [← eAnd]; exact rand_any x.k x.i x.s y.k y.i y.s Z
    have HOr : Hid (∀ Z : World, Calls Tryz.prog 16 #[.agg #[.int .i64 (x).k, .int .i64 (x).i, .string ⟨(x).s.toArray⟩], .agg #[.int .i64 (y).k, .int .i64 (y).i, .string ⟨(y).s.toArray⟩]] Z (Ret (.agg #[.int .i64 (vOr).k, .int .i64 (vOr).i, .string ⟨(vOr).s.toArray⟩]) Z)) := fun Z => by rw [← eOr]; exact ror_any x.k x.i x.s y.k y.i y.s Z
    have HEq : Hid (∀ Z : World, Calls Tryz.prog 17 #[.agg #[.int .i64 (x).k, .int .i64 (x).i, .string ⟨(x).s.toArray⟩], .agg #[.int .i64 (y).k, .int .i64 (y).i, .string ⟨(y).s.toArray⟩]] Z (Ret (.agg #[.int .i64 (vEq).k, .int .i64 (vEq).i, .string ⟨(vEq).s.toArray⟩]) Z)) := fun Z => by rw [← eEq]; exact requal_any x.k x.i x.s y.k y.i y.s Z (by omega) (by omega)
    have HLt : Hid (∀ Z : World, Calls Tryz.prog 18 #[.agg #[.int .i64 (x).k, .int .i64 (x).i, .string ⟨(x).s.toArray⟩], .agg #[.int .i64 (y).k, .int .i64 (y).i, .string ⟨(y).s.toArray⟩]] Z (Ret (.agg #[.int .i64 (vLt).k, .int .i64 (vLt).i, .string ⟨(vLt).s.toArray⟩]) Z)) := fun Z => by rw [← eLt]; exact rless_any x.k x.i x.s y.k y.i y.s Z (by omega) (by omega)
    have HPlus : Hid (∀ Z : World, Calls Tryz.prog 19 #[.agg #[.int .i64 (x).k, .int .i64 (x).i, .string ⟨(x).s.toArray⟩], .agg #[.int .i64 (y).k, .int .i64 (y).i, .string ⟨(y).s.toArray⟩]] Z (Ret (.agg #[.int .i64 (vPlus).k, .int .i64 (vPlus).i, .string ⟨(vPlus).s.toArray⟩]) Z)) := fun Z => by rw [← ePlus]; exact rplus_any x.k x.i x.s y.k y.i y.s Z ix iy (by omega) (by omega)
    have HMinus : Hid (∀ Z : World, Calls Tryz.prog 20 #[.agg #[.int .i64 (x).k, .int .i64 (x).i, .string ⟨(x).s.toArray⟩], .agg #[.int .i64 (y).k, .int .i64 (y).i, .string ⟨(y).s.toArray⟩]] Z (Ret (.agg #[.int .i64 (vMinus).k, .int .i64 (vMinus).i, .string ⟨(vMinus).s.toArray⟩]) Z)) := fun Z => by rw [← eMinus]; exact rminus_any x.k x.i x.s y.k y.i y.s Z ix iy (by omega) (by omega)
    have HNot : Hid (∀ Z : World, Calls Tryz.prog 21 #[.agg #[.int .i64 (x).k, .int .i64 (x).i, .string ⟨(x).s.toArray⟩]] Z (Ret (.agg #[.int .i64 (vNot).k, .int .i64 (vNot).i, .string ⟨(vNot).s.toArray⟩]) Z)) := fun Z => by rw [← eNot]; exact rnot_any x.k x.i x.s Z
    rw [eNot] at HPN
    clear hpk eAnd eOr eEq eLt ePlus eMinus eNot hx hy ix iy sx sy HX1 HY1 HC1 HV1 HMX HMY HNX HNY HSW HXF HYF HRS
    go_upto_region 4 with fail
    go_cut [7, 8] (fun s7 s8 wx => Held2 W2 wx s7 s8 x y)
    case first =>
      refine wp_region_held_drew (S := (fun w' => ((w'.cell? ⟨g1, 0, none⟩ = some (.string ⟨X.op.toArray⟩) ∧ w'.cell? ⟨g1, 1, none⟩ = some (.int .i64 X.v.k) ∧ w'.cell? ⟨g1, 2, none⟩ = some (.int .i64 X.v.i) ∧ w'.cell? ⟨g1, 3, none⟩ = some (.string ⟨X.v.s.toArray⟩) ∧ w'.cell? ⟨g1, 4, none⟩ = some (.string ⟨X.s.toArray⟩) ∧ w'.cell? ⟨g1, 5, none⟩ = some (.slice A5 X.l.length c5)) ∧ (w'.cell? ⟨g2, 0, none⟩ = some (.string ⟨Y.op.toArray⟩) ∧ w'.cell? ⟨g2, 1, none⟩ = some (.int .i64 Y.v.k) ∧ w'.cell? ⟨g2, 2, none⟩ = some (.int .i64 Y.v.i) ∧ w'.cell? ⟨g2, 3, none⟩ = some (.string ⟨Y.v.s.toArray⟩) ∧ w'.cell? ⟨g2, 4, none⟩ = some (.string ⟨Y.s.toArray⟩) ∧ w'.cell? ⟨g2, 5, none⟩ = some (.slice A6 Y.l.length c6))))) (by kernel_rfl) ?_ (fun hHeld => ?_)
      · try dsimp only
        exact HS4.out _ (by ((repeat' (first | with_reducible exact Below.refl _ _ | with_reducible assumption | with_reducible refine Below.drew ?_ | with_reducible refine below_drewN ?_ _ | with_reducible refine Below.setCell ?_ ?_ _ | with_reducible refine Below.alloc ?_ ?_ _ | with_reducible refine Below.trans ?_ (Below.mono (by assumption) ?_))) <;> (first | (simp; done) | (simp; omega) | omega)))
      refine wpAnyH_take (i := 0) (v := ?_) rfl (by kernel_rfl) (by kernel_rfl) (by kernel_rfl) (fun _ _ _ h => h) (Or.inl ⟨by rfl, ?_⟩) (by assumption) ?_
      rotate_left
      · intro wq hSw
        try dsimp only at hSw
        go_simp
        try with_reducible rfl
      try simp only [Act.put, List.getElem_toArray, List.getElem_cons_zero, List.setIfInBounds_toArray, List.set_cons_zero, List.set_cons_succ]
      refine wpAnyH_take (i := 1) (v := ?_) rfl (by kernel_rfl) (by kernel_rfl) (by kernel_rfl) (fun _ _ _ h => h) (Or.inl ⟨by rfl, ?_⟩) (by assumption) ?_
      rotate_left
      · intro wq hSw
        try dsimp only at hSw
        go_simp
        try with_reducible rfl
      try simp only [Act.put, List.getElem_toArray, List.getElem_cons_zero, List.getElem_cons_succ, List.setIfInBounds_toArray, List.set_cons_zero, List.set_cons_succ]
      refine wpAnyH_take (i := 2) (v := ?_) rfl (by kernel_rfl) (by kernel_rfl) (by kernel_rfl) (fun _ _ _ h => h) (Or.inl ⟨by rfl, ?_⟩) (by assumption) ?_
      rotate_left
      · intro wq hSw
        try dsimp only at hSw
        go_simp
        try with_reducible rfl
      try simp only [Act.put, List.getElem_toArray, List.getElem_cons_zero, List.getElem_cons_succ, List.setIfInBounds_toArray, List.set_cons_zero, List.set_cons_succ]
      refine wpAnyH_take (i := 4) (v := ?_) rfl (by kernel_rfl) (by kernel_rfl) (by kernel_rfl) (fun _ _ _ h => h) (Or.inl ⟨by rfl, ?_⟩) (by assumption) ?_
      rotate_left
      · intro wq hSw
        try dsimp only at hSw
        go_simp
        try with_reducible rfl
      try simp only [Act.put, List.getElem_toArray, List.getElem_cons_zero, List.getElem_cons_succ, List.setIfInBounds_toArray, List.set_cons_zero, List.set_cons_succ]
      refine wpAnyH_take (i := 5) (v := ?_) rfl (by kernel_rfl) (by kernel_rfl) (by kernel_rfl) (fun _ _ _ h => h) (Or.inl ⟨by rfl, ?_⟩) (by assumption) ?_
      rotate_left
      · intro wq hSw
        try dsimp only at hSw
        go_simp
        try with_reducible rfl
      try simp only [Act.put, List.getElem_toArray, List.getElem_cons_zero, List.getElem_cons_succ, List.setIfInBounds_toArray, List.set_cons_zero, List.set_cons_succ]
      refine wpAnyH_take (i := 6) (v := ?_) rfl (by kernel_rfl) (by kernel_rfl) (by kernel_rfl) (fun _ _ _ h => h) (Or.inl ⟨by rfl, ?_⟩) (by assumption) ?_
      rotate_left
      · intro wq hSw
        try dsimp only at hSw
        go_simp
        try with_reducible rfl
      try simp only [Act.put, List.getElem_toArray, List.getElem_cons_zero, List.getElem_cons_succ, List.setIfInBounds_toArray, List.set_cons_zero, List.set_cons_succ]
      refine wpAnyH_stage (ks := [3, 7, 8, 9]) (f0 := 2) (by decide) (P4I W2 (.agg #[.int .i64 (x).k, .int .i64 (x).i, .string ⟨(x).s.toArray⟩]) (.agg #[.int .i64 (y).k, .int .i64 (y).i, .string ⟨(y).s.toArray⟩]) (fun U7 U8 U38 U42 => #[.agg #[.string ⟨e.op.toArray⟩, .int .i64 e.v.k, .int .i64 e.v.i, .string ⟨e.v.s.toArray⟩, .string ⟨e.s.toArray⟩, .slice A e.l.length c, .string ⟨g.op.toArray⟩, .int .i64 g.v.k, .int .i64 g.v.i, .string ⟨g.v.s.toArray⟩, .string ⟨g.s.toArray⟩, .slice A' g.l.length c', .slice A1 cols.length c1, .slice A2 row.length c2], .pointer (some ⟨w.heap.size, 0, none⟩), .bool false, .pointer (some ⟨g1, 0, none⟩), .pointer (some ⟨g2, 0, none⟩), .slice A3 CO.length c3, .slice A4 RO.length c4, U7, U8, undef, undef, undef, undef, undef, u14, u15, u16, u17, u18, u19, u20, u21, u22, u23, u24, u25, .agg #[.string ⟨X.op.toArray⟩, .int .i64 X.v.k, .int .i64 X.v.i, .string ⟨X.v.s.toArray⟩, .string ⟨X.s.toArray⟩, .slice A5 X.l.length c5], .bool true, .bool false, .bool false, .agg #[.string ⟨Y.op.toArray⟩, .int .i64 Y.v.k, .int .i64 Y.v.i, .string ⟨Y.v.s.toArray⟩, .string ⟨Y.s.toArray⟩, .slice A6 Y.l.length c6], .bool true, .bool false, .bool false, u34, .agg #[.string ⟨X.op.toArray⟩, .int .i64 X.v.k, .int .i64 X.v.i, .string ⟨X.v.s.toArray⟩, .string ⟨X.s.toArray⟩, .slice A5 X.l.length c5], .slice A3 CO.length c3, .slice A4 RO.length c4, U38, .agg #[.string ⟨Y.op.toArray⟩, .int .i64 Y.v.k, .int .i64 Y.v.i, .string ⟨Y.v.s.toArray⟩, .string ⟨Y.s.toArray⟩, .slice A6 Y.l.length c6], .slice A3 CO.length c3, .slice A4 RO.length c4, U42, u43, u44, u45, u46, u47, u48, u49, u50, u51, u52, u53, u54, u55, u56, u57, u58, u59, u60, u61, u62, u63, undef, u65, u66, u67, u68, u69, u70, u71, u72, u73, u74, u75, u76, u77, u78, u79, u80, u81, u82, u83, u84, u85, u86, u87, u88, u89, u90, u91, u92, u93, u94, u95, u96, u97, u98, u99, u100, u101, u102])) ?_ ?_ ?_ 4 _ _ _ (by decide +kernel) ?_
      · rintro L ac wv i ⟨hsz, ⟨p0, p1, p2, p4, p5, p6⟩, ⟨n10, n11⟩, h7, hb, U7, U8, U38, U42, rfl, s3, s7, q8, q9, d1⟩ hex hi
        obtain ⟨hun, o, ho, hall⟩ := mem_ready.1 hi
        have hlt : i < 12 := by rw [← hsz]; exact getD_self hun
        have e0 : i ≠ 0 := fun e => by subst e; exact not_up hun p0
        have e1 : i ≠ 1 := fun e => by subst e; exact not_up hun p1
        have e2 : i ≠ 2 := fun e => by subst e; exact not_up hun p2
        have e4 : i ≠ 4 := fun e => by subst e; exact not_up hun p4
        have e5 : i ≠ 5 := fun e => by subst e; exact not_up hun p5
        have e6 : i ≠ 6 := fun e => by subst e; exact not_up hun p6
        have e10 : i ≠ 10 := fun e => by
          subst e
          injection ho with ho
          subst ho
          have z7 := up_of (hall ⟨7, .chain⟩ (by simp) rfl)
          have z3 := h7 z7
          have z8 := up_of (hall ⟨8, .phase⟩ (by simp) rfl)
          have z9 := up_of (hall ⟨9, .phase⟩ (by simp) rfl)
          obtain ⟨j, hj, hn⟩ := hex
          simp only [List.mem_cons, List.not_mem_nil, or_false] at hj
          rcases hj with rfl | rfl | rfl | rfl
          · exact not_up hn z3
          · exact not_up hn z7
          · exact not_up hn z8
          · exact not_up hn z9
        have e11 : i ≠ 11 := fun e => by
          subst e
          injection ho with ho
          subst ho
          exact not_up n10 (up_of (hall ⟨10, .chain⟩ (by simp) rfl))
        have hks : i = 3 ∨ i = 7 ∨ i = 8 ∨ i = 9 := by omega
        refine ⟨by simp only [List.mem_cons, List.not_mem_nil, or_false]; exact hks, ?_⟩
        clear e0 e1 e2 e4 e5 e6 e10 e11 hlt hex hi
        have hzv := hb.size
        rcases hks with rfl | rfl | rfl | rfl
        · injection ho with ho
          subst ho
          refine wpOp_one rfl (fun K hK => ?_)
          have Hall := Lib.hid hall
          have Hs := Lib.hid hsz
          go_simp
          refine (HVX.out _ (by ((repeat' (first | with_reducible exact Below.refl _ _ | with_reducible assumption | with_reducible refine Below.drew ?_ | with_reducible refine below_drewN ?_ _ | with_reducible refine Below.setCell ?_ ?_ _ | with_reducible refine Below.alloc ?_ ?_ _ | with_reducible refine Below.trans ?_ (Below.mono (by assumption) ?_))) <;> (first | (simp; done) | (simp; omega) | omega)))).mono ?_
          rintro e w1 ⟨rfl, hb1⟩
          have hz1 := hb1.size
          go_wp2_with fail
          refine hK.out _ _ ⟨HS4.out _ (by ((repeat' (first | with_reducible exact Below.refl _ _ | with_reducible assumption | with_reducible refine Below.drew ?_ | with_reducible refine below_drewN ?_ _ | with_reducible refine Below.setCell ?_ ?_ _ | with_reducible refine Below.alloc ?_ ?_ _ | with_reducible refine Below.trans ?_ (Below.mono (by assumption) ?_))) <;> (first | (simp; done) | (simp; omega) | omega))), ?_⟩
          exact ⟨by rw [Array.size_setIfInBounds]; exact hsz, ⟨p0.more, p1.more, p2.more, p4.more, p5.more, p6.more⟩, ⟨(getD_put_other true (by decide)).trans n10, (getD_put_other true (by decide)).trans n11⟩, fun h => (h7 (h.put (by decide))).more, (by ((repeat' (first | with_reducible exact Below.refl _ _ | with_reducible assumption | with_reducible refine Below.drew ?_ | with_reducible refine below_drewN ?_ _ | with_reducible refine Below.setCell ?_ ?_ _ | with_reducible refine Below.alloc ?_ ?_ _ | with_reducible refine Below.trans ?_ (Below.mono (by assumption) ?_))) <;> (first | (simp; done) | (simp; omega) | omega))), _, _, _, _, rfl, Slot.new, s7.put (by decide), q8.put (by decide) hb1, q9.put (by decide) hb1, d1.put (by decide) (by decide)⟩
        · injection ho with ho
          subst ho
          refine wpOp_one rfl (fun K hK => ?_)
          have Hall := Lib.hid hall
          have Hs := Lib.hid hsz
          go_simp
          refine (HVY.out _ (by ((repeat' (first | with_reducible exact Below.refl _ _ | with_reducible assumption | with_reducible refine Below.drew ?_ | with_reducible refine below_drewN ?_ _ | with_reducible refine Below.setCell ?_ ?_ _ | with_reducible refine Below.alloc ?_ ?_ _ | with_reducible refine Below.trans ?_ (Below.mono (by assumption) ?_))) <;> (first | (simp; done) | (simp; omega) | omega)))).mono ?_
          rintro e w1 ⟨rfl, hb1⟩
          have hz1 := hb1.size
          go_wp2_with fail
          refine hK.out _ _ ⟨HS4.out _ (by ((repeat' (first | with_reducible exact Below.refl _ _ | with_reducible assumption | with_reducible refine Below.drew ?_ | with_reducible refine below_drewN ?_ _ | with_reducible refine Below.setCell ?_ ?_ _ | with_reducible refine Below.alloc ?_ ?_ _ | with_reducible refine Below.trans ?_ (Below.mono (by assumption) ?_))) <;> (first | (simp; done) | (simp; omega) | omega))), ?_⟩
          exact ⟨by rw [Array.size_setIfInBounds]; exact hsz, ⟨p0.more, p1.more, p2.more, p4.more, p5.more, p6.more⟩, ⟨(getD_put_other true (by decide)).trans n10, (getD_put_other true (by decide)).trans n11⟩, fun h => (up_of (hall ⟨3, .chain⟩ (by simp) rfl)).more, (by ((repeat' (first | with_reducible exact Below.refl _ _ | with_reducible assumption | with_reducible refine Below.drew ?_ | with_reducible refine below_drewN ?_ _ | with_reducible refine Below.setCell ?_ ?_ _ | with_reducible refine Below.alloc ?_ ?_ _ | with_reducible refine Below.trans ?_ (Below.mono (by assumption) ?_))) <;> (first | (simp; done) | (simp; omega) | omega))), _, _, _, _, rfl, s3.put (by decide), Slot.new, q8.put (by decide) hb1, q9.put (by decide) hb1, d1.put (by decide) (by decide)⟩
        · injection ho with ho
          subst ho
          refine wpOp_one rfl (fun K hK => ?_)
          have Hall := Lib.hid hall
          have Hs := Lib.hid hsz
          go_simp
          go_wp2_with fail
          refine hK.out _ _ ⟨HS4.out _ (by ((repeat' (first | with_reducible exact Below.refl _ _ | with_reducible assumption | with_reducible refine Below.drew ?_ | with_reducible refine below_drewN ?_ _ | with_reducible refine Below.setCell ?_ ?_ _ | with_reducible refine Below.alloc ?_ ?_ _ | with_reducible refine Below.trans ?_ (Below.mono (by assumption) ?_))) <;> (first | (simp; done) | (simp; omega) | omega))), ?_⟩
          exact ⟨by rw [Array.size_setIfInBounds]; exact hsz, ⟨p0.more, p1.more, p2.more, p4.more, p5.more, p6.more⟩, ⟨(getD_put_other true (by decide)).trans n10, (getD_put_other true (by decide)).trans n11⟩, fun h => (h7 (h.put (by decide))).more, (by ((repeat' (first | with_reducible exact Below.refl _ _ | with_reducible assumption | with_reducible refine Below.drew ?_ | with_reducible refine below_drewN ?_ _ | with_reducible refine Below.setCell ?_ ?_ _ | with_reducible refine Below.alloc ?_ ?_ _ | with_reducible refine Below.trans ?_ (Below.mono (by assumption) ?_))) <;> (first | (simp; done) | (simp; omega) | omega))), _, _, _, _, rfl, s3.put (by decide), s7.put (by decide), Newv.new hb.size, q9.put (by decide) ((Below.refl _ _).alloc (Nat.le_refl _) _), Diff.newL q9 (by decide)⟩
        · injection ho with ho
          subst ho
          refine wpOp_one rfl (fun K hK => ?_)
          have Hall := Lib.hid hall
          have Hs := Lib.hid hsz
          go_simp
          go_wp2_with fail
          refine hK.out _ _ ⟨HS4.out _ (by ((repeat' (first | with_reducible exact Below.refl _ _ | with_reducible assumption | with_reducible refine Below.drew ?_ | with_reducible refine below_drewN ?_ _ | with_reducible refine Below.setCell ?_ ?_ _ | with_reducible refine Below.alloc ?_ ?_ _ | with_reducible refine Below.trans ?_ (Below.mono (by assumption) ?_))) <;> (first | (simp; done) | (simp; omega) | omega))), ?_⟩
          exact ⟨by rw [Array.size_setIfInBounds]; exact hsz, ⟨p0.more, p1.more, p2.more, p4.more, p5.more, p6.more⟩, ⟨(getD_put_other true (by decide)).trans n10, (getD_put_other true (by decide)).trans n11⟩, fun h => (h7 (h.put (by decide))).more, (by ((repeat' (first | with_reducible exact Below.refl _ _ | with_reducible assumption | with_reducible refine Below.drew ?_ | with_reducible refine below_drewN ?_ _ | with_reducible refine Below.setCell ?_ ?_ _ | with_reducible refine Below.alloc ?_ ?_ _ | with_reducible refine Below.trans ?_ (Below.mono (by assumption) ?_))) <;> (first | (simp; done) | (simp; omega) | omega))), _, _, _, _, rfl, s3.put (by decide), s7.put (by decide), q8.put (by decide) ((Below.refl _ _).alloc (Nat.le_refl _) _), Newv.new hb.size, Diff.newR q8 (by decide)⟩
      · rintro L ac wv ⟨hsz, ⟨p0, p1, p2, p4, p5, p6⟩, ⟨n10, n11⟩, h7, hb, _⟩ ⟨j, hj, hn⟩
        simp only [List.mem_cons, List.not_mem_nil, or_false] at hj
        rcases hj with rfl | rfl | rfl | rfl
        · exact ready_some 3 hn rfl (fun e he _ => by simp at he; rcases he with rfl | rfl | rfl <;> first | exact getF p0 (by rw [hsz]; decide) | exact getF p1 (by rw [hsz]; decide) | exact getF p2 (by rw [hsz]; decide))
        · cases y3 : L.getD 3 true
          · exact ready_some 3 y3 rfl (fun e he _ => by simp at he; rcases he with rfl | rfl | rfl <;> first | exact getF p0 (by rw [hsz]; decide) | exact getF p1 (by rw [hsz]; decide) | exact getF p2 (by rw [hsz]; decide))
          · exact ready_some 7 hn rfl (fun e he _ => by simp at he; rcases he with rfl | rfl | rfl | rfl <;> first | exact getF p4 (by rw [hsz]; decide) | exact getF p5 (by rw [hsz]; decide) | exact getF p6 (by rw [hsz]; decide) | exact getF y3 (by rw [hsz]; decide))
        · exact ready_some 8 hn rfl (fun e he _ => by simp at he)
        · exact ready_some 9 hn rfl (fun e he _ => by simp at he)
      · rintro L ac wv ⟨hsz, ⟨p0, p1, p2, p4, p5, p6⟩, ⟨n10, n11⟩, h7, hb, U7, U8, U38, U42, rfl, s3, s7, q8, q9, d1⟩ hall
        have z3 : Up L 3 := hall 3 (by simp)
        have z7 : Up L 7 := hall 7 (by simp)
        have z8 : Up L 8 := hall 8 (by simp)
        have z9 : Up L 9 := hall 9 (by simp)
        obtain rfl := s3 z3
        obtain rfl := s7 z7
        obtain ⟨gv1, rfl, m1, k1⟩ := q8 z8
        obtain ⟨gv2, rfl, m2, k2⟩ := q9 z9
        have f12 : gv1 ≠ gv2 := fun e => d1 z8 z9 (by rw [e])
        have f21 : gv2 ≠ gv1 := Ne.symm f12
        obtain ⟨l⟩ := L
        match l, hsz with
        | [b0, b1, b2, b3, b4, b5, b6, b7, b8, b9, b10, b11], _ =>
          obtain rfl : b0 = true := p0
          obtain rfl : b1 = true := p1
          obtain rfl : b2 = true := p2
          obtain rfl : b3 = true := z3
          obtain rfl : b4 = true := p4
          obtain rfl : b5 = true := p5
          obtain rfl : b6 = true := p6
          obtain rfl : b7 = true := z7
          obtain rfl : b8 = true := z8
          obtain rfl : b9 = true := z9
          obtain rfl : b10 = false := n10
          obtain rfl : b11 = false := n11
          clear s3 s7 q8 q9 d1 hall h7 hsz
          have hHeld := HS4.out wv hb
          have hzv := hb.size
          obtain ⟨⟨x10, x11, x12⟩, xf10, xf11, xf12⟩ := k1.three
          have B1 : Blk3 wv gv1 23 := ⟨_, _, _, k1⟩
          obtain ⟨⟨x20, x21, x22⟩, xf20, xf21, xf22⟩ := k2.three
          have B2 : Blk3 wv gv2 23 := ⟨_, _, _, k2⟩
          refine wpAnyH_ready (rs := [10]) (by kernel_rfl) (by simp) ?_
          refine AllReadyH.cons rfl (fun K hK => ?_) AllReadyH.nil
          go_simp
          go_wp2_with fail
          refine hK.out _ _ ?_ (fun hHeld => ?_)
          · try dsimp only
            exact HS4.out _ (by ((repeat' (first | with_reducible exact Below.refl _ _ | with_reducible assumption | with_reducible refine Below.drew ?_ | with_reducible refine below_drewN ?_ _ | with_reducible refine Below.setCell ?_ ?_ _ | with_reducible refine Below.alloc ?_ ?_ _ | with_reducible refine Below.trans ?_ (Below.mono (by assumption) ?_))) <;> (first | (simp; done) | (simp; omega) | omega)))
          clear hK K
          refine wpAnyH_ready (rs := [11]) (by kernel_rfl) (by simp) ?_
          refine AllReadyH.cons rfl (fun K hK => ?_) AllReadyH.nil
          go_simp
          go_wp2_with fail
          refine hK.out _ _ ?_ (fun hHeld => ?_)
          · try dsimp only
            exact HS4.out _ (by ((repeat' (first | with_reducible exact Below.refl _ _ | with_reducible assumption | with_reducible refine Below.drew ?_ | with_reducible refine below_drewN ?_ _ | with_reducible refine Below.setCell ?_ ?_ _ | with_reducible refine Below.alloc ?_ ?_ _ | with_reducible refine Below.trans ?_ (Below.mono (by assumption) ?_))) <;> (first | (simp; done) | (simp; omega) | omega)))
          clear hK K
          refine wpAnyH_done (by kernel_rfl) ?_ _
          all_goals (go_wp2_with fail; go_meet)
          refine ⟨gv1, gv2, rfl, rfl, ?_, ?_, ?_⟩
          · ((repeat' (first | with_reducible assumption | with_reducible refine Blk.drew ?_ | with_reducible refine Blk.drewN ?_ _ | with_reducible refine Blk.set3 ?_ _ _ _ | with_reducible refine Blk.far ?_ ?_ _ | ((with_reducible refine Blk.new' _ _ _ _ ?_) <;> (first | (simp; done) | (simp; omega) | omega) <;> done) | with_reducible refine Blk.alloc ?_ _ | with_reducible refine Blk3.drew ?_ | with_reducible refine Blk3.drewN ?_ _ | ((with_reducible refine Blk3.new' _ _ _ _ _ _ ?_) <;> (first | (simp; done) | (simp; omega) | omega) <;> done) | with_reducible refine Blk3.alloc ?_ _ | with_reducible refine Blk3.far ?_ ?_ _ | with_reducible refine Blk3.below ?_ (by assumption) ?_ | with_reducible refine Blk.below ?_ (by assumption) ?_)) <;> (first | (simp; done) | (simp; omega) | omega))
          · ((repeat' (first | with_reducible assumption | with_reducible refine Blk.drew ?_ | with_reducible refine Blk.drewN ?_ _ | with_reducible refine Blk.set3 ?_ _ _ _ | with_reducible refine Blk.far ?_ ?_ _ | ((with_reducible refine Blk.new' _ _ _ _ ?_) <;> (first | (simp; done) | (simp; omega) | omega) <;> done) | with_reducible refine Blk.alloc ?_ _ | with_reducible refine Blk3.drew ?_ | with_reducible refine Blk3.drewN ?_ _ | ((with_reducible refine Blk3.new' _ _ _ _ _ _ ?_) <;> (first | (simp; done) | (simp; omega) | omega) <;> done) | with_reducible refine Blk3.alloc ?_ _ | with_reducible refine Blk3.far ?_ ?_ _ | with_reducible refine Blk3.below ?_ (by assumption) ?_ | with_reducible refine Blk.below ?_ (by assumption) ?_)) <;> (first | (simp; done) | (simp; omega) | omega))
          · ((repeat' (first | with_reducible exact Below.refl _ _ | with_reducible assumption | with_reducible refine Below.drew ?_ | with_reducible refine below_drewN ?_ _ | with_reducible refine Below.setCell ?_ ?_ _ | with_reducible refine Below.alloc ?_ ?_ _ | with_reducible refine Below.trans ?_ (Below.mono (by assumption) ?_))) <;> (first | (simp; done) | (simp; omega) | omega))
      · refine ⟨by decide +kernel, ⟨by decide +kernel, by decide +kernel, by decide +kernel, by decide +kernel, by decide +kernel, by decide +kernel⟩, ⟨by decide +kernel, by decide +kernel⟩, by decide +kernel, by ((repeat' (first | with_reducible exact Below.refl _ _ | with_reducible assumption | with_reducible refine Below.drew ?_ | with_reducible refine below_drewN ?_ _ | with_reducible refine Below.setCell ?_ ?_ _ | with_reducible refine Below.alloc ?_ ?_ _ | with_reducible refine Below.trans ?_ (Below.mono (by assumption) ?_))) <;> (first | (simp; done) | (simp; omega) | omega)), _, _, _, _, rfl, ?_, ?_, ?_, ?_, ?_⟩
        all_goals (intro h; exact absurd h (by decide +kernel))
    case rest =>
      obtain ⟨g7, g8, rfl, rfl, k7, k8, hb3⟩ := hcut
      obtain ⟨W3, rfl⟩ : ∃ W, W = wc := ⟨_, rfl⟩
      have hbw3 := hbw2.trans (hb3.mono hbw2.size)
      have HE3 := Lib.hid (HE2.out.below hb3 rfl)
      have l7 := k7.lt
      have l8 := k8.lt
      have HS5 : Hid (∀ w' : World, Below W3.heap.size W3 w' → ((w'.cell? ⟨g7, 0, none⟩ = some (.int .i64 (x).k) ∧ w'.cell? ⟨g7, 1, none⟩ = some (.int .i64 (x).i) ∧ w'.cell? ⟨g7, 2, none⟩ = some (.string ⟨(x).s.toArray⟩)) ∧ (w'.cell? ⟨g8, 0, none⟩ = some (.int .i64 (y).k) ∧ w'.cell? ⟨g8, 1, none⟩ = some (.int .i64 (y).i) ∧ w'.cell? ⟨g8, 2, none⟩ = some (.string ⟨(y).s.toArray⟩)))) := fun w' h => ⟨(k7.below h l7).three.1, (k8.below h l8).three.1⟩
      clear HVX HVY
      go_upto_region 5 with fail
      go_cut [9] (fun s9 wx => ∃ b, s9 = .map (some b) ∧ MapS (PartOk CO RO X Y) wx b ∧ Below W3.heap.size W3 wx)
      case first =>
        refine wp_region_held_drew (S := (fun w' => ((w'.cell? ⟨g7, 0, none⟩ = some (.int .i64 (x).k) ∧ w'.cell? ⟨g7, 1, none⟩ = some (.int .i64 (x).i) ∧ w'.cell? ⟨g7, 2, none⟩ = some (.string ⟨(x).s.toArray⟩)) ∧ (w'.cell? ⟨g8, 0, none⟩ = some (.int .i64 (y).k) ∧ w'.cell? ⟨g8, 1, none⟩ = some (.int .i64 (y).i) ∧ w'.cell? ⟨g8, 2, none⟩ = some (.string ⟨(y).s.toArray⟩))))) (by kernel_rfl) ?_ (fun hHeld => ?_)
        · try dsimp only
          exact HS5.out _ (by ((repeat' (first | with_reducible exact Below.refl _ _ | with_reducible assumption | with_reducible refine Below.drew ?_ | with_reducible refine below_drewN ?_ _ | with_reducible refine Below.setCell ?_ ?_ _ | with_reducible refine Below.alloc ?_ ?_ _ | with_reducible refine Below.trans ?_ (Below.mono (by assumption) ?_))) <;> (first | (simp; done) | (simp; omega) | omega)))
        refine wpAnyH_take (i := 1) (v := ?_) rfl (by kernel_rfl) (by kernel_rfl) (by kernel_rfl) (fun _ _ _ h => h) (Or.inl ⟨by rfl, ?_⟩) (by assumption) ?_
        rotate_left
        · intro wq hSw
          try dsimp only at hSw
          go_simp
          try with_reducible rfl
        try simp only [Act.put, List.getElem_toArray, List.getElem_cons_zero, List.getElem_cons_succ, List.setIfInBounds_toArray, List.set_cons_zero, List.set_cons_succ]
        refine wpAnyH_take (i := 2) (v := ?_) rfl (by kernel_rfl) (by kernel_rfl) (by kernel_rfl) (fun _ _ _ h => h) (Or.inl ⟨by rfl, ?_⟩) (by assumption) ?_
        rotate_left
        · intro wq hSw
          try dsimp only at hSw
          go_simp
          try with_reducible rfl
        try simp only [Act.put, List.getElem_toArray, List.getElem_cons_zero, List.getElem_cons_succ, List.setIfInBounds_toArray, List.set_cons_zero, List.set_cons_succ]
        refine wpAnyH_take (i := 5) (v := ?_) rfl (by kernel_rfl) (by kernel_rfl) (by kernel_rfl) (fun _ _ _ h => h) (Or.inl ⟨by rfl, ?_⟩) (by assumption) ?_
        rotate_left
        · intro wq hSw
          try dsimp only at hSw
          go_simp
          try with_reducible rfl
        try simp only [Act.put, List.getElem_toArray, List.getElem_cons_zero, List.getElem_cons_succ, List.setIfInBounds_toArray, List.set_cons_zero, List.set_cons_succ]
        refine wpAnyH_take (i := 6) (v := ?_) rfl (by kernel_rfl) (by kernel_rfl) (by kernel_rfl) (fun _ _ _ h => h) (Or.inl ⟨by rfl, ?_⟩) (by assumption) ?_
        rotate_left
        · intro wq hSw
          try dsimp only at hSw
          go_simp
          try with_reducible rfl
        try simp only [Act.put, List.getElem_toArray, List.getElem_cons_zero, List.getElem_cons_succ, List.setIfInBounds_toArray, List.set_cons_zero, List.set_cons_succ]
        refine wpAnyH_take (i := 9) (v := ?_) rfl (by kernel_rfl) (by kernel_rfl) (by kernel_rfl) (fun _ _ _ h => h) (Or.inl ⟨by rfl, ?_⟩) (by assumption) ?_
        rotate_left
        · intro wq hSw
          try dsimp only at hSw
          go_simp
          try with_reducible rfl
        try simp only [Act.put, List.getElem_toArray, List.getElem_cons_zero, List.getElem_cons_succ, List.setIfInBounds_toArray, List.set_cons_zero, List.set_cons_succ]
        refine wpAnyH_take (i := 10) (v := ?_) rfl (by kernel_rfl) (by kernel_rfl) (by kernel_rfl) (fun _ _ _ h => h) (Or.inl ⟨by rfl, ?_⟩) (by assumption) ?_
        rotate_left
        · intro wq hSw
          try dsimp only at hSw
          go_simp
          try with_reducible rfl
        try simp only [Act.put, List.getElem_toArray, List.getElem_cons_zero, List.getElem_cons_succ, List.setIfInBounds_toArray, List.set_cons_zero, List.set_cons_succ]
        refine wpAnyH_take (i := 13) (v := ?_) rfl (by kernel_rfl) (by kernel_rfl) (by kernel_rfl) (fun _ _ _ h => h) (Or.inl ⟨by rfl, ?_⟩) (by assumption) ?_
        rotate_left
        · intro wq hSw
          try dsimp only at hSw
          go_simp
          try with_reducible rfl
        try simp only [Act.put, List.getElem_toArray, List.getElem_cons_zero, List.getElem_cons_succ, List.setIfInBounds_toArray, List.set_cons_zero, List.set_cons_succ]
        refine wpAnyH_take (i := 14) (v := ?_) rfl (by kernel_rfl) (by kernel_rfl) (by kernel_rfl) (fun _ _ _ h => h) (Or.inl ⟨by rfl, ?_⟩) (by assumption) ?_
        rotate_left
        · intro wq hSw
          try dsimp only at hSw
          go_simp
          try with_reducible rfl
        try simp only [Act.put, List.getElem_toArray, List.getElem_cons_zero, List.getElem_cons_succ, List.setIfInBounds_toArray, List.set_cons_zero, List.set_cons_succ]
        refine wpAnyH_take (i := 17) (v := ?_) rfl (by kernel_rfl) (by kernel_rfl) (by kernel_rfl) (fun _ _ _ h => h) (Or.inl ⟨by rfl, ?_⟩) (by assumption) ?_
        rotate_left
        · intro wq hSw
          try dsimp only at hSw
          go_simp
          try with_reducible rfl
        try simp only [Act.put, List.getElem_toArray, List.getElem_cons_zero, List.getElem_cons_succ, List.setIfInBounds_toArray, List.set_cons_zero, List.set_cons_succ]
        refine wpAnyH_take (i := 18) (v := ?_) rfl (by kernel_rfl) (by kernel_rfl) (by kernel_rfl) (fun _ _ _ h => h) (Or.inl ⟨by rfl, ?_⟩) (by assumption) ?_
        rotate_left
        · intro wq hSw
          try dsimp only at hSw
          go_simp
          try with_reducible rfl
        try simp only [Act.put, List.getElem_toArray, List.getElem_cons_zero, List.getElem_cons_succ, List.setIfInBounds_toArray, List.set_cons_zero, List.set_cons_succ]
        refine wpAnyH_take (i := 21) (v := ?_) rfl (by kernel_rfl) (by kernel_rfl) (by kernel_rfl) (fun _ _ _ h => h) (Or.inl ⟨by rfl, ?_⟩) (by assumption) ?_
        rotate_left
        · intro wq hSw
          try dsimp only at hSw
          go_simp
          try with_reducible rfl
        try simp only [Act.put, List.getElem_toArray, List.getElem_cons_zero, List.getElem_cons_succ, List.setIfInBounds_toArray, List.set_cons_zero, List.set_cons_succ]
        refine wpAnyH_take (i := 22) (v := ?_) rfl (by kernel_rfl) (by kernel_rfl) (by kernel_rfl) (fun _ _ _ h => h) (Or.inl ⟨by rfl, ?_⟩) (by assumption) ?_
        rotate_left
        · intro wq hSw
          try dsimp only at hSw
          go_simp
          try with_reducible rfl
        try simp only [Act.put, List.getElem_toArray, List.getElem_cons_zero, List.getElem_cons_succ, List.setIfInBounds_toArray, List.set_cons_zero, List.set_cons_succ]
        refine wpAnyH_stage (ks := [0, 3, 4, 7, 8, 11, 12, 15, 16, 19, 20, 23, 24]) (f0 := 2) (by decide) (P5I W3 (PartOk CO RO X Y) (.agg #[.int .i64 (vAnd).k, .int .i64 (vAnd).i, .string ⟨(vAnd).s.toArray⟩]) (.agg #[.int .i64 (vOr).k, .int .i64 (vOr).i, .string ⟨(vOr).s.toArray⟩]) (.agg #[.int .i64 (vEq).k, .int .i64 (vEq).i, .string ⟨(vEq).s.toArray⟩]) (.agg #[.int .i64 (vLt).k, .int .i64 (vLt).i, .string ⟨(vLt).s.toArray⟩]) (.agg #[.int .i64 (vPlus).k, .int .i64 (vPlus).i, .string ⟨(vPlus).s.toArray⟩]) (.agg #[.int .i64 (vMinus).k, .int .i64 (vMinus).i, .string ⟨(vMinus).s.toArray⟩]) (fun U43 U46 U49 U52 U55 U58 U61 => #[.agg #[.string ⟨e.op.toArray⟩, .int .i64 e.v.k, .int .i64 e.v.i, .string ⟨e.v.s.toArray⟩, .string ⟨e.s.toArray⟩, .slice A e.l.length c, .string ⟨g.op.toArray⟩, .int .i64 g.v.k, .int .i64 g.v.i, .string ⟨g.v.s.toArray⟩, .string ⟨g.s.toArray⟩, .slice A' g.l.length c', .slice A1 cols.length c1, .slice A2 row.length c2], .pointer (some ⟨w.heap.size, 0, none⟩), .bool false, .pointer (some ⟨g1, 0, none⟩), .pointer (some ⟨g2, 0, none⟩), .slice A3 CO.length c3, .slice A4 RO.length c4, .pointer (some ⟨g7, 0, none⟩), .pointer (some ⟨g8, 0, none⟩), undef, undef, undef, undef, undef, u14, u15, u16, u17, u18, u19, u20, u21, u22, u23, u24, u25, u26, u27, u28, u29, u30, u31, u32, u33, u34, u35, u36, u37, u38, u39, u40, u41, u42, U43, .agg #[.int .i64 (x).k, .int .i64 (x).i, .string ⟨(x).s.toArray⟩], .agg #[.int .i64 (y).k, .int .i64 (y).i, .string ⟨(y).s.toArray⟩], U46, .agg #[.int .i64 (x).k, .int .i64 (x).i, .string ⟨(x).s.toArray⟩], .agg #[.int .i64 (y).k, .int .i64 (y).i, .string ⟨(y).s.toArray⟩], U49, .agg #[.int .i64 (x).k, .int .i64 (x).i, .string ⟨(x).s.toArray⟩], .agg #[.int .i64 (y).k, .int .i64 (y).i, .string ⟨(y).s.toArray⟩], U52, .agg #[.int .i64 (x).k, .int .i64 (x).i, .string ⟨(x).s.toArray⟩], .agg #[.int .i64 (y).k, .int .i64 (y).i, .string ⟨(y).s.toArray⟩], U55, .agg #[.int .i64 (x).k, .int .i64 (x).i, .string ⟨(x).s.toArray⟩], .agg #[.int .i64 (y).k, .int .i64 (y).i, .string ⟨(y).s.toArray⟩], U58, .agg #[.int .i64 (x).k, .int .i64 (x).i, .string ⟨(x).s.toArray⟩], .agg #[.int .i64 (y).k, .int .i64 (y).i, .string ⟨(y).s.toArray⟩], U61, u62, u63, undef, u65, u66, u67, u68, u69, u70, u71, u72, u73, u74, u75, u76, u77, u78, u79, u80, u81, u82, u83, u84, u85, u86, u87, u88, u89, u90, u91, u92, u93, u94, u95, u96, u97, u98, u99, u100, u101, u102])) ?_ ?_ ?_ 13 _ _ _ (by decide +kernel) ?_
        · rintro L ac wv i ⟨hsz, ⟨p1, p2, p5, p6, p9, p10, p13, p14, p17, p18, p21, p22⟩, ⟨n25, n26⟩, h7, h11, h15, h19, h23, hb, U43, U46, U49, U52, U55, U58, U61, rfl, s3, s7, s11, s15, s19, s23, hm⟩ hex hi
          obtain ⟨hun, o, ho, hall⟩ := mem_ready.1 hi
          have hlt : i < 27 := by rw [← hsz]; exact getD_self hun
          have e1 : i ≠ 1 := fun e => by subst e; exact not_up hun p1
          have e2 : i ≠ 2 := fun e => by subst e; exact not_up hun p2
          have e5 : i ≠ 5 := fun e => by subst e; exact not_up hun p5
          have e6 : i ≠ 6 := fun e => by subst e; exact not_up hun p6
          have e9 : i ≠ 9 := fun e => by subst e; exact not_up hun p9
          have e10 : i ≠ 10 := fun e => by subst e; exact not_up hun p10
          have e13 : i ≠ 13 := fun e => by subst e; exact not_up hun p13
          have e14 : i ≠ 14 := fun e => by subst e; exact not_up hun p14
          have e17 : i ≠ 17 := fun e => by subst e; exact not_up hun p17
          have e18 : i ≠ 18 := fun e => by subst e; exact not_up hun p18
          have e21 : i ≠ 21 := fun e => by subst e; exact not_up hun p21
          have e22 : i ≠ 22 := fun e => by subst e; exact not_up hun p22
          have e25 : i ≠ 25 := fun e => by
            subst e
            injection ho with ho
            subst ho
            obtain ⟨j, hj, hn⟩ := hex
            simp only [List.mem_cons, List.not_mem_nil, or_false] at hj
            rcases hj with rfl | rfl | rfl | rfl | rfl | rfl | rfl | rfl | rfl | rfl | rfl | rfl | rfl
            · exact not_up hn (up_of (hall ⟨0, .data⟩ (by simp) rfl))
            · exact not_up hn (up_of (hall ⟨3, .data⟩ (by simp) rfl))
            · exact not_up hn (up_of (hall ⟨4, .data⟩ (by simp) rfl))
            · exact not_up hn (up_of (hall ⟨7, .data⟩ (by simp) rfl))
            · exact not_up hn (up_of (hall ⟨8, .data⟩ (by simp) rfl))
            · exact not_up hn (up_of (hall ⟨11, .data⟩ (by simp) rfl))
            · exact not_up hn (up_of (hall ⟨12, .data⟩ (by simp) rfl))
            · exact not_up hn (up_of (hall ⟨15, .data⟩ (by simp) rfl))
            · exact not_up hn (up_of (hall ⟨16, .data⟩ (by simp) rfl))
            · exact not_up hn (up_of (hall ⟨19, .data⟩ (by simp) rfl))
            · exact not_up hn (up_of (hall ⟨20, .data⟩ (by simp) rfl))
            · exact not_up hn (up_of (hall ⟨23, .data⟩ (by simp) rfl))
            · exact not_up hn (up_of (hall ⟨24, .data⟩ (by simp) rfl))
          have e26 : i ≠ 26 := fun e => by
            subst e
            injection ho with ho
            subst ho
            exact not_up n25 (up_of (hall ⟨25, .data⟩ (by simp) rfl))
          have hks : i = 0 ∨ i = 3 ∨ i = 4 ∨ i = 7 ∨ i = 8 ∨ i = 11 ∨ i = 12 ∨ i = 15 ∨ i = 16 ∨ i = 19 ∨ i = 20 ∨ i = 23 ∨ i = 24 := by omega
          refine ⟨by simp only [List.mem_cons, List.not_mem_nil, or_false]; exact hks, ?_⟩
          clear e1 e2 e5 e6 e9 e10 e13 e14 e17 e18 e21 e22 e25 e26 hlt hex hi
          have hzv := hb.size
          rcases hks with rfl | rfl | rfl | rfl | rfl | rfl | rfl | rfl | rfl | rfl | rfl | rfl | rfl
          · injection ho with ho
            subst ho
            have hmk := MapS.make wv
            refine wpOp_one rfl (fun K hK => ?_)
            have Hall := Lib.hid hall
            have Hs := Lib.hid hsz
            go_simp
            go_wp2_with fail
            refine hK.out _ _ ⟨HS5.out _ (by ((repeat' (first | with_reducible exact Below.refl _ _ | with_reducible assumption | with_reducible refine Below.drew ?_ | with_reducible refine below_drewN ?_ _ | with_reducible refine Below.setCell ?_ ?_ _ | with_reducible refine Below.alloc ?_ ?_ _ | with_reducible refine Below.trans ?_ (Below.mono (by assumption) ?_))) <;> (first | (simp; done) | (simp; omega) | omega))), ?_⟩
            exact ⟨by rw [Array.size_setIfInBounds]; exact hsz, ⟨p1.more, p2.more, p5.more, p6.more, p9.more, p10.more, p13.more, p14.more, p17.more, p18.more, p21.more, p22.more⟩, ⟨(getD_put_other true (by decide)).trans n25, (getD_put_other true (by decide)).trans n26⟩, fun h => (h7 (h.put (by decide))).more, fun h => (h11 (h.put (by decide))).more, fun h => (h15 (h.put (by decide))).more, fun h => (h19 (h.put (by decide))).more, fun h => (h23 (h.put (by decide))).more, (by ((repeat' (first | with_reducible exact Below.refl _ _ | with_reducible assumption | with_reducible refine Below.drew ?_ | with_reducible refine below_drewN ?_ _ | with_reducible refine Below.setCell ?_ ?_ _ | with_reducible refine Below.alloc ?_ ?_ _ | with_reducible refine Below.trans ?_ (Below.mono (by assumption) ?_))) <;> (first | (simp; done) | (simp; omega) | omega))), _, _, _, _, _, _, _, rfl, s3.put (by decide), s7.put (by decide), s11.put (by decide), s15.put (by decide), s19.put (by decide), s23.put (by decide), fun _ => ⟨_, rfl, hzv, MapS.new wv⟩⟩
          · injection ho with ho
            subst ho
            refine wpOp_one rfl (fun K hK => ?_)
            have Hall := Lib.hid hall
            have Hs := Lib.hid hsz
            go_simp
            refine (HAnd.out _).mono ?_
            rintro en w1 ⟨rfl, hb1⟩
            have hz1 := hb1.size
            go_wp2_with fail
            refine hK.out _ _ ⟨HS5.out _ (by ((repeat' (first | with_reducible exact Below.refl _ _ | with_reducible assumption | with_reducible refine Below.drew ?_ | with_reducible refine below_drewN ?_ _ | with_reducible refine Below.setCell ?_ ?_ _ | with_reducible refine Below.alloc ?_ ?_ _ | with_reducible refine Below.trans ?_ (Below.mono (by assumption) ?_))) <;> (first | (simp; done) | (simp; omega) | omega))), ?_⟩
            exact ⟨by rw [Array.size_setIfInBounds]; exact hsz, ⟨p1.more, p2.more, p5.more, p6.more, p9.more, p10.more, p13.more, p14.more, p17.more, p18.more, p21.more, p22.more⟩, ⟨(getD_put_other true (by decide)).trans n25, (getD_put_other true (by decide)).trans n26⟩, fun h => (h7 (h.put (by decide))).more, fun h => (h11 (h.put (by decide))).more, fun h => (h15 (h.put (by decide))).more, fun h => (h19 (h.put (by decide))).more, fun h => (h23 (h.put (by decide))).more, (by ((repeat' (first | with_reducible exact Below.refl _ _ | with_reducible assumption | with_reducible refine Below.drew ?_ | with_reducible refine below_drewN ?_ _ | with_reducible refine Below.setCell ?_ ?_ _ | with_reducible refine Below.alloc ?_ ?_ _ | with_reducible refine Below.trans ?_ (Below.mono (by assumption) ?_))) <;> (first | (simp; done) | (simp; omega) | omega))), _, _, _, _, _, _, _, rfl, Slot.new, s7.put (by decide), s11.put (by decide), s15.put (by decide), s19.put (by decide), s23.put (by decide), fun h => (let ⟨b, e, h1, h2⟩ := hm (h.put (by decide)); ⟨b, e, h1, h2.below hb1 h2.lt⟩)⟩
          · injection ho with ho
            subst ho
            obtain ⟨b, rfl, hBb, hM⟩ := hm (up_of (hall ⟨0, .data⟩ (by simp) rfl))
            obtain rfl := s3 (up_of (hall ⟨3, .data⟩ (by simp) rfl))
            obtain ⟨w1, hrun, hM1, hg⟩ := hM.upd OAnd.out
            have hrun' : (Instr.mapUpdate 38 (.map (some b)) (.string ⟨#[97, 110, 100]⟩) (.agg #[.int .i64 (vAnd).k, .int .i64 (vAnd).i, .string ⟨(vAnd).s.toArray⟩])).run Tryz.prog wv = .ok () w1 := hrun
            have hb1 : Below W3.heap.size W3 w1 := hb.grown hg hzv (fun k hk => by cases hk; exact hBb)
            have HM := Lib.hid hM1
            clear hrun hg hM hM1 hm
            refine wpOp_one rfl (fun K hK => ?_)
            have Hall := Lib.hid hall
            have Hs := Lib.hid hsz
            go_simp
            go_wp2_with fail
            refine hK.out _ _ ⟨HS5.out _ (by ((repeat' (first | with_reducible exact Below.refl _ _ | with_reducible assumption | with_reducible refine Below.drew ?_ | with_reducible refine below_drewN ?_ _ | with_reducible refine Below.setCell ?_ ?_ _ | with_reducible refine Below.alloc ?_ ?_ _ | with_reducible refine Below.trans ?_ (Below.mono (by assumption) ?_))) <;> (first | (simp; done) | (simp; omega) | omega))), ?_⟩
            exact ⟨by rw [Array.size_setIfInBounds]; exact hsz, ⟨p1.more, p2.more, p5.more, p6.more, p9.more, p10.more, p13.more, p14.more, p17.more, p18.more, p21.more, p22.more⟩, ⟨(getD_put_other true (by decide)).trans n25, (getD_put_other true (by decide)).trans n26⟩, fun h => (h7 (h.put (by decide))).more, fun h => (h11 (h.put (by decide))).more, fun h => (h15 (h.put (by decide))).more, fun h => (h19 (h.put (by decide))).more, fun h => (h23 (h.put (by decide))).more, (by ((repeat' (first | with_reducible exact Below.refl _ _ | with_reducible assumption | with_reducible refine Below.drew ?_ | with_reducible refine below_drewN ?_ _ | with_reducible refine Below.setCell ?_ ?_ _ | with_reducible refine Below.alloc ?_ ?_ _ | with_reducible refine Below.trans ?_ (Below.mono (by assumption) ?_))) <;> (first | (simp; done) | (simp; omega) | omega))), _, _, _, _, _, _, _, rfl, s3.put (by decide), s7.put (by decide), s11.put (by decide), s15.put (by decide), s19.put (by decide), s23.put (by decide), fun _ => ⟨b, rfl, hBb, HM.out⟩⟩
          · injection ho with ho
            subst ho
            refine wpOp_one rfl (fun K hK => ?_)
            have Hall := Lib.hid hall
            have Hs := Lib.hid hsz
            go_simp
            refine (HOr.out _).mono ?_
            rintro en w1 ⟨rfl, hb1⟩
            have hz1 := hb1.size
            go_wp2_with fail
            refine hK.out _ _ ⟨HS5.out _ (by ((repeat' (first | with_reducible exact Below.refl _ _ | with_reducible assumption | with_reducible refine Below.drew ?_ | with_reducible refine below_drewN ?_ _ | with_reducible refine Below.setCell ?_ ?_ _ | with_reducible refine Below.alloc ?_ ?_ _ | with_reducible refine Below.trans ?_ (Below.mono (by assumption) ?_))) <;> (first | (simp; done) | (simp; omega) | omega))), ?_⟩
            exact ⟨by rw [Array.size_setIfInBounds]; exact hsz, ⟨p1.more, p2.more, p5.more, p6.more, p9.more, p10.more, p13.more, p14.more, p17.more, p18.more, p21.more, p22.more⟩, ⟨(getD_put_other true (by decide)).trans n25, (getD_put_other true (by decide)).trans n26⟩, fun h => (up_of (hall ⟨3, .chain⟩ (by simp) rfl)).more, fun h => (h11 (h.put (by decide))).more, fun h => (h15 (h.put (by decide))).more, fun h => (h19 (h.put (by decide))).more, fun h => (h23 (h.put (by decide))).more, (by ((repeat' (first | with_reducible exact Below.refl _ _ | with_reducible assumption | with_reducible refine Below.drew ?_ | with_reducible refine below_drewN ?_ _ | with_reducible refine Below.setCell ?_ ?_ _ | with_reducible refine Below.alloc ?_ ?_ _ | with_reducible refine Below.trans ?_ (Below.mono (by assumption) ?_))) <;> (first | (simp; done) | (simp; omega) | omega))), _, _, _, _, _, _, _, rfl, s3.put (by decide), Slot.new, s11.put (by decide), s15.put (by decide), s19.put (by decide), s23.put (by decide), fun h => (let ⟨b, e, h1, h2⟩ := hm (h.put (by decide)); ⟨b, e, h1, h2.below hb1 h2.lt⟩)⟩
          · injection ho with ho
            subst ho
            obtain ⟨b, rfl, hBb, hM⟩ := hm (up_of (hall ⟨0, .data⟩ (by simp) rfl))
            obtain rfl := s7 (up_of (hall ⟨7, .data⟩ (by simp) rfl))
            obtain ⟨w1, hrun, hM1, hg⟩ := hM.upd OOr.out
            have hrun' : (Instr.mapUpdate 38 (.map (some b)) (.string ⟨#[111, 114]⟩) (.agg #[.int .i64 (vOr).k, .int .i64 (vOr).i, .string ⟨(vOr).s.toArray⟩])).run Tryz.prog wv = .ok () w1 := hrun
            have hb1 : Below W3.heap.size W3 w1 := hb.grown hg hzv (fun k hk => by cases hk; exact hBb)
            have HM := Lib.hid hM1
            clear hrun hg hM hM1 hm
            refine wpOp_one rfl (fun K hK => ?_)
            have Hall := Lib.hid hall
            have Hs := Lib.hid hsz
            go_simp
            go_wp2_with fail
            refine hK.out _ _ ⟨HS5.out _ (by ((repeat' (first | with_reducible exact Below.refl _ _ | with_reducible assumption | with_reducible refine Below.drew ?_ | with_reducible refine below_drewN ?_ _ | with_reducible refine Below.setCell ?_ ?_ _ | with_reducible refine Below.alloc ?_ ?_ _ | with_reducible refine Below.trans ?_ (Below.mono (by assumption) ?_))) <;> (first | (simp; done) | (simp; omega) | omega))), ?_⟩
            exact ⟨by rw [Array.size_setIfInBounds]; exact hsz, ⟨p1.more, p2.more, p5.more, p6.more, p9.more, p10.more, p13.more, p14.more, p17.more, p18.more, p21.more, p22.more⟩, ⟨(getD_put_other true (by decide)).trans n25, (getD_put_other true (by decide)).trans n26⟩, fun h => (h7 (h.put (by decide))).more, fun h => (h11 (h.put (by decide))).more, fun h => (h15 (h.put (by decide))).more, fun h => (h19 (h.put (by decide))).more, fun h => (h23 (h.put (by decide))).more, (by ((repeat' (first | with_reducible exact Below.refl _ _ | with_reducible assumption | with_reducible refine Below.drew ?_ | with_reducible refine below_drewN ?_ _ | with_reducible refine Below.setCell ?_ ?_ _ | with_reducible refine Below.alloc ?_ ?_ _ | with_reducible refine Below.trans ?_ (Below.mono (by assumption) ?_))) <;> (first | (simp; done) | (simp; omega) | omega))), _, _, _, _, _, _, _, rfl, s3.put (by decide), s7.put (by decide), s11.put (by decide), s15.put (by decide), s19.put (by decide), s23.put (by decide), fun _ => ⟨b, rfl, hBb, HM.out⟩⟩
          · injection ho with ho
            subst ho
            refine wpOp_one rfl (fun K hK => ?_)
            have Hall := Lib.hid hall
            have Hs := Lib.hid hsz
            go_simp
            refine (HEq.out _).mono ?_
            rintro en w1 ⟨rfl, hb1⟩
            have hz1 := hb1.size
            go_wp2_with fail
            refine hK.out _ _ ⟨HS5.out _ (by ((repeat' (first | with_reducible exact Below.refl _ _ | with_reducible assumption | with_reducible refine Below.drew ?_ | with_reducible refine below_drewN ?_ _ | with_reducible refine Below.setCell ?_ ?_ _ | with_reducible refine Below.alloc ?_ ?_ _ | with_reducible refine Below.trans ?_ (Below.mono (by assumption) ?_))) <;> (first | (simp; done) | (simp; omega) | omega))), ?_⟩
            exact ⟨by rw [Array.size_setIfInBounds]; exact hsz, ⟨p1.more, p2.more, p5.more, p6.more, p9.more, p10.more, p13.more, p14.more, p17.more, p18.more, p21.more, p22.more⟩, ⟨(getD_put_other true (by decide)).trans n25, (getD_put_other true (by decide)).trans n26⟩, fun h => (h7 (h.put (by decide))).more, fun h => (up_of (hall ⟨7, .chain⟩ (by simp) rfl)).more, fun h => (h15 (h.put (by decide))).more, fun h => (h19 (h.put (by decide))).more, fun h => (h23 (h.put (by decide))).more, (by ((repeat' (first | with_reducible exact Below.refl _ _ | with_reducible assumption | with_reducible refine Below.drew ?_ | with_reducible refine below_drewN ?_ _ | with_reducible refine Below.setCell ?_ ?_ _ | with_reducible refine Below.alloc ?_ ?_ _ | with_reducible refine Below.trans ?_ (Below.mono (by assumption) ?_))) <;> (first | (simp; done) | (simp; omega) | omega))), _, _, _, _, _, _, _, rfl, s3.put (by decide), s7.put (by decide), Slot.new, s15.put (by decide), s19.put (by decide), s23.put (by decide), fun h => (let ⟨b, e, h1, h2⟩ := hm (h.put (by decide)); ⟨b, e, h1, h2.below hb1 h2.lt⟩)⟩
          · injection ho with ho
            subst ho
            obtain ⟨b, rfl, hBb, hM⟩ := hm (up_of (hall ⟨0, .data⟩ (by simp) rfl))
            obtain rfl := s11 (up_of (hall ⟨11, .data⟩ (by simp) rfl))
            obtain ⟨w1, hrun, hM1, hg⟩ := hM.upd OEq.out
            have hrun' : (Instr.mapUpdate 38 (.map (some b)) (.string ⟨#[61]⟩) (.agg #[.int .i64 (vEq).k, .int .i64 (vEq).i, .string ⟨(vEq).s.toArray⟩])).run Tryz.prog wv = .ok () w1 := hrun
            have hb1 : Below W3.heap.size W3 w1 := hb.grown hg hzv (fun k hk => by cases hk; exact hBb)
            have HM := Lib.hid hM1
            clear hrun hg hM hM1 hm
            refine wpOp_one rfl (fun K hK => ?_)
            have Hall := Lib.hid hall
            have Hs := Lib.hid hsz
            go_simp
            go_wp2_with fail
            refine hK.out _ _ ⟨HS5.out _ (by ((repeat' (first | with_reducible exact Below.refl _ _ | with_reducible assumption | with_reducible refine Below.drew ?_ | with_reducible refine below_drewN ?_ _ | with_reducible refine Below.setCell ?_ ?_ _ | with_reducible refine Below.alloc ?_ ?_ _ | with_reducible refine Below.trans ?_ (Below.mono (by assumption) ?_))) <;> (first | (simp; done) | (simp; omega) | omega))), ?_⟩
            exact ⟨by rw [Array.size_setIfInBounds]; exact hsz, ⟨p1.more, p2.more, p5.more, p6.more, p9.more, p10.more, p13.more, p14.more, p17.more, p18.more, p21.more, p22.more⟩, ⟨(getD_put_other true (by decide)).trans n25, (getD_put_other true (by decide)).trans n26⟩, fun h => (h7 (h.put (by decide))).more, fun h => (h11 (h.put (by decide))).more, fun h => (h15 (h.put (by decide))).more, fun h => (h19 (h.put (by decide))).more, fun h => (h23 (h.put (by decide))).more, (by ((repeat' (first | with_reducible exact Below.refl _ _ | with_reducible assumption | with_reducible refine Below.drew ?_ | with_reducible refine below_drewN ?_ _ | with_reducible refine Below.setCell ?_ ?_ _ | with_reducible refine Below.alloc ?_ ?_ _ | with_reducible refine Below.trans ?_ (Below.mono (by assumption) ?_))) <;> (first | (simp; done) | (simp; omega) | omega))), _, _, _, _, _, _, _, rfl, s3.put (by decide), s7.put (by decide), s11.put (by decide), s15.put (by decide), s19.put (by decide), s23.put (by decide), fun _ => ⟨b, rfl, hBb, HM.out⟩⟩
          · injection ho with ho
            subst ho
            refine wpOp_one rfl (fun K hK => ?_)
            have Hall := Lib.hid hall
            have Hs := Lib.hid hsz
            go_simp
            refine (HLt.out _).mono ?_
            rintro en w1 ⟨rfl, hb1⟩
            have hz1 := hb1.size
            go_wp2_with fail
            refine hK.out _ _ ⟨HS5.out _ (by ((repeat' (first | with_reducible exact Below.refl _ _ | with_reducible assumption | with_reducible refine Below.drew ?_ | with_reducible refine below_drewN ?_ _ | with_reducible refine Below.setCell ?_ ?_ _ | with_reducible refine Below.alloc ?_ ?_ _ | with_reducible refine Below.trans ?_ (Below.mono (by assumption) ?_))) <;> (first | (simp; done) | (simp; omega) | omega))), ?_⟩
            exact ⟨by rw [Array.size_setIfInBounds]; exact hsz, ⟨p1.more, p2.more, p5.more, p6.more, p9.more, p10.more, p13.more, p14.more, p17.more, p18.more, p21.more, p22.more⟩, ⟨(getD_put_other true (by decide)).trans n25, (getD_put_other true (by decide)).trans n26⟩, fun h => (h7 (h.put (by decide))).more, fun h => (h11 (h.put (by decide))).more, fun h => (up_of (hall ⟨11, .chain⟩ (by simp) rfl)).more, fun h => (h19 (h.put (by decide))).more, fun h => (h23 (h.put (by decide))).more, (by ((repeat' (first | with_reducible exact Below.refl _ _ | with_reducible assumption | with_reducible refine Below.drew ?_ | with_reducible refine below_drewN ?_ _ | with_reducible refine Below.setCell ?_ ?_ _ | with_reducible refine Below.alloc ?_ ?_ _ | with_reducible refine Below.trans ?_ (Below.mono (by assumption) ?_))) <;> (first | (simp; done) | (simp; omega) | omega))), _, _, _, _, _, _, _, rfl, s3.put (by decide), s7.put (by decide), s11.put (by decide), Slot.new, s19.put (by decide), s23.put (by decide), fun h => (let ⟨b, e, h1, h2⟩ := hm (h.put (by decide)); ⟨b, e, h1, h2.below hb1 h2.lt⟩)⟩
          · injection ho with ho
            subst ho
            obtain ⟨b, rfl, hBb, hM⟩ := hm (up_of (hall ⟨0, .data⟩ (by simp) rfl))
            obtain rfl := s15 (up_of (hall ⟨15, .data⟩ (by simp) rfl))
            obtain ⟨w1, hrun, hM1, hg⟩ := hM.upd OLt.out
            have hrun' : (Instr.mapUpdate 38 (.map (some b)) (.string ⟨#[60]⟩) (.agg #[.int .i64 (vLt).k, .int .i64 (vLt).i, .string ⟨(vLt).s.toArray⟩])).run Tryz.prog wv = .ok () w1 := hrun
            have hb1 : Below W3.heap.size W3 w1 := hb.grown hg hzv (fun k hk => by cases hk; exact hBb)
            have HM := Lib.hid hM1
            clear hrun hg hM hM1 hm
            refine wpOp_one rfl (fun K hK => ?_)
            have Hall := Lib.hid hall
            have Hs := Lib.hid hsz
            go_simp
            go_wp2_with fail
            refine hK.out _ _ ⟨HS5.out _ (by ((repeat' (first | with_reducible exact Below.refl _ _ | with_reducible assumption | with_reducible refine Below.drew ?_ | with_reducible refine below_drewN ?_ _ | with_reducible refine Below.setCell ?_ ?_ _ | with_reducible refine Below.alloc ?_ ?_ _ | with_reducible refine Below.trans ?_ (Below.mono (by assumption) ?_))) <;> (first | (simp; done) | (simp; omega) | omega))), ?_⟩
            exact ⟨by rw [Array.size_setIfInBounds]; exact hsz, ⟨p1.more, p2.more, p5.more, p6.more, p9.more, p10.more, p13.more, p14.more, p17.more, p18.more, p21.more, p22.more⟩, ⟨(getD_put_other true (by decide)).trans n25, (getD_put_other true (by decide)).trans n26⟩, fun h => (h7 (h.put (by decide))).more, fun h => (h11 (h.put (by decide))).more, fun h => (h15 (h.put (by decide))).more, fun h => (h19 (h.put (by decide))).more, fun h => (h23 (h.put (by decide))).more, (by ((repeat' (first | with_reducible exact Below.refl _ _ | with_reducible assumption | with_reducible refine Below.drew ?_ | with_reducible refine below_drewN ?_ _ | with_reducible refine Below.setCell ?_ ?_ _ | with_reducible refine Below.alloc ?_ ?_ _ | with_reducible refine Below.trans ?_ (Below.mono (by assumption) ?_))) <;> (first | (simp; done) | (simp; omega) | omega))), _, _, _, _, _, _, _, rfl, s3.put (by decide), s7.put (by decide), s11.put (by decide), s15.put (by decide), s19.put (by decide), s23.put (by decide), fun _ => ⟨b, rfl, hBb, HM.out⟩⟩
          · injection ho with ho
            subst ho
            refine wpOp_one rfl (fun K hK => ?_)
            have Hall := Lib.hid hall
            have Hs := Lib.hid hsz
            go_simp
            refine (HPlus.out _).mono ?_
            rintro en w1 ⟨rfl, hb1⟩
            have hz1 := hb1.size
            go_wp2_with fail
            refine hK.out _ _ ⟨HS5.out _ (by ((repeat' (first | with_reducible exact Below.refl _ _ | with_reducible assumption | with_reducible refine Below.drew ?_ | with_reducible refine below_drewN ?_ _ | with_reducible refine Below.setCell ?_ ?_ _ | with_reducible refine Below.alloc ?_ ?_ _ | with_reducible refine Below.trans ?_ (Below.mono (by assumption) ?_))) <;> (first | (simp; done) | (simp; omega) | omega))), ?_⟩
            exact ⟨by rw [Array.size_setIfInBounds]; exact hsz, ⟨p1.more, p2.more, p5.more, p6.more, p9.more, p10.more, p13.more, p14.more, p17.more, p18.more, p21.more, p22.more⟩, ⟨(getD_put_other true (by decide)).trans n25, (getD_put_other true (by decide)).trans n26⟩, fun h => (h7 (h.put (by decide))).more, fun h => (h11 (h.put (by decide))).more, fun h => (h15 (h.put (by decide))).more, fun h => (up_of (hall ⟨15, .chain⟩ (by simp) rfl)).more, fun h => (h23 (h.put (by decide))).more, (by ((repeat' (first | with_reducible exact Below.refl _ _ | with_reducible assumption | with_reducible refine Below.drew ?_ | with_reducible refine below_drewN ?_ _ | with_reducible refine Below.setCell ?_ ?_ _ | with_reducible refine Below.alloc ?_ ?_ _ | with_reducible refine Below.trans ?_ (Below.mono (by assumption) ?_))) <;> (first | (simp; done) | (simp; omega) | omega))), _, _, _, _, _, _, _, rfl, s3.put (by decide), s7.put (by decide), s11.put (by decide), s15.put (by decide), Slot.new, s23.put (by decide), fun h => (let ⟨b, e, h1, h2⟩ := hm (h.put (by decide)); ⟨b, e, h1, h2.below hb1 h2.lt⟩)⟩
          · injection ho with ho
            subst ho
            obtain ⟨b, rfl, hBb, hM⟩ := hm (up_of (hall ⟨0, .data⟩ (by simp) rfl))
            obtain rfl := s19 (up_of (hall ⟨19, .data⟩ (by simp) rfl))
            obtain ⟨w1, hrun, hM1, hg⟩ := hM.upd OPlus.out
            have hrun' : (Instr.mapUpdate 38 (.map (some b)) (.string ⟨#[43]⟩) (.agg #[.int .i64 (vPlus).k, .int .i64 (vPlus).i, .string ⟨(vPlus).s.toArray⟩])).run Tryz.prog wv = .ok () w1 := hrun
            have hb1 : Below W3.heap.size W3 w1 := hb.grown hg hzv (fun k hk => by cases hk; exact hBb)
            have HM := Lib.hid hM1
            clear hrun hg hM hM1 hm
            refine wpOp_one rfl (fun K hK => ?_)
            have Hall := Lib.hid hall
            have Hs := Lib.hid hsz
            go_simp
            go_wp2_with fail
            refine hK.out _ _ ⟨HS5.out _ (by ((repeat' (first | with_reducible exact Below.refl _ _ | with_reducible assumption | with_reducible refine Below.drew ?_ | with_reducible refine below_drewN ?_ _ | with_reducible refine Below.setCell ?_ ?_ _ | with_reducible refine Below.alloc ?_ ?_ _ | with_reducible refine Below.trans ?_ (Below.mono (by assumption) ?_))) <;> (first | (simp; done) | (simp; omega) | omega))), ?_⟩
            exact ⟨by rw [Array.size_setIfInBounds]; exact hsz, ⟨p1.more, p2.more, p5.more, p6.more, p9.more, p10.more, p13.more, p14.more, p17.more, p18.more, p21.more, p22.more⟩, ⟨(getD_put_other true (by decide)).trans n25, (getD_put_other true (by decide)).trans n26⟩, fun h => (h7 (h.put (by decide))).more, fun h => (h11 (h.put (by decide))).more, fun h => (h15 (h.put (by decide))).more, fun h => (h19 (h.put (by decide))).more, fun h => (h23 (h.put (by decide))).more, (by ((repeat' (first | with_reducible exact Below.refl _ _ | with_reducible assumption | with_reducible refine Below.drew ?_ | with_reducible refine below_drewN ?_ _ | with_reducible refine Below.setCell ?_ ?_ _ | with_reducible refine Below.alloc ?_ ?_ _ | with_reducible refine Below.trans ?_ (Below.mono (by assumption) ?_))) <;> (first | (simp; done) | (simp; omega) | omega))), _, _, _, _, _, _, _, rfl, s3.put (by decide), s7.put (by decide), s11.put (by decide), s15.put (by decide), s19.put (by decide), s23.put (by decide), fun _ => ⟨b, rfl, hBb, HM.out⟩⟩
          · injection ho with ho
            subst ho
            refine wpOp_one rfl (fun K hK => ?_)
            have Hall := Lib.hid hall
            have Hs := Lib.hid hsz
            go_simp
            refine (HMinus.out _).mono ?_
            rintro en w1 ⟨rfl, hb1⟩
            have hz1 := hb1.size
            go_wp2_with fail
            refine hK.out _ _ ⟨HS5.out _ (by ((repeat' (first | with_reducible exact Below.refl _ _ | with_reducible assumption | with_reducible refine Below.drew ?_ | with_reducible refine below_drewN ?_ _ | with_reducible refine Below.setCell ?_ ?_ _ | with_reducible refine Below.alloc ?_ ?_ _ | with_reducible refine Below.trans ?_ (Below.mono (by assumption) ?_))) <;> (first | (simp; done) | (simp; omega) | omega))), ?_⟩
            exact ⟨by rw [Array.size_setIfInBounds]; exact hsz, ⟨p1.more, p2.more, p5.more, p6.more, p9.more, p10.more, p13.more, p14.more, p17.more, p18.more, p21.more, p22.more⟩, ⟨(getD_put_other true (by decide)).trans n25, (getD_put_other true (by decide)).trans n26⟩, fun h => (h7 (h.put (by decide))).more, fun h => (h11 (h.put (by decide))).more, fun h => (h15 (h.put (by decide))).more, fun h => (h19 (h.put (by decide))).more, fun h => (up_of (hall ⟨19, .chain⟩ (by simp) rfl)).more, (by ((repeat' (first | with_reducible exact Below.refl _ _ | with_reducible assumption | with_reducible refine Below.drew ?_ | with_reducible refine below_drewN ?_ _ | with_reducible refine Below.setCell ?_ ?_ _ | with_reducible refine Below.alloc ?_ ?_ _ | with_reducible refine Below.trans ?_ (Below.mono (by assumption) ?_))) <;> (first | (simp; done) | (simp; omega) | omega))), _, _, _, _, _, _, _, rfl, s3.put (by decide), s7.put (by decide), s11.put (by decide), s15.put (by decide), s19.put (by decide), Slot.new, fun h => (let ⟨b, e, h1, h2⟩ := hm (h.put (by decide)); ⟨b, e, h1, h2.below hb1 h2.lt⟩)⟩
          · injection ho with ho
            subst ho
            obtain ⟨b, rfl, hBb, hM⟩ := hm (up_of (hall ⟨0, .data⟩ (by simp) rfl))
            obtain rfl := s23 (up_of (hall ⟨23, .data⟩ (by simp) rfl))
            obtain ⟨w1, hrun, hM1, hg⟩ := hM.upd OMinus.out
            have hrun' : (Instr.mapUpdate 38 (.map (some b)) (.string ⟨#[45]⟩) (.agg #[.int .i64 (vMinus).k, .int .i64 (vMinus).i, .string ⟨(vMinus).s.toArray⟩])).run Tryz.prog wv = .ok () w1 := hrun
            have hb1 : Below W3.heap.size W3 w1 := hb.grown hg hzv (fun k hk => by cases hk; exact hBb)
            have HM := Lib.hid hM1
            clear hrun hg hM hM1 hm
            refine wpOp_one rfl (fun K hK => ?_)
            have Hall := Lib.hid hall
            have Hs := Lib.hid hsz
            go_simp
            go_wp2_with fail
            refine hK.out _ _ ⟨HS5.out _ (by ((repeat' (first | with_reducible exact Below.refl _ _ | with_reducible assumption | with_reducible refine Below.drew ?_ | with_reducible refine below_drewN ?_ _ | with_reducible refine Below.setCell ?_ ?_ _ | with_reducible refine Below.alloc ?_ ?_ _ | with_reducible refine Below.trans ?_ (Below.mono (by assumption) ?_))) <;> (first | (simp; done) | (simp; omega) | omega))), ?_⟩
            exact ⟨by rw [Array.size_setIfInBounds]; exact hsz, ⟨p1.more, p2.more, p5.more, p6.more, p9.more, p10.more, p13.more, p14.more, p17.more, p18.more, p21.more, p22.more⟩, ⟨(getD_put_other true (by decide)).trans n25, (getD_put_other true (by decide)).trans n26⟩, fun h => (h7 (h.put (by decide))).more, fun h => (h11 (h.put (by decide))).more, fun h => (h15 (h.put (by decide))).more, fun h => (h19 (h.put (by decide))).more, fun h => (h23 (h.put (by decide))).more, (by ((repeat' (first | with_reducible exact Below.refl _ _ | with_reducible assumption | with_reducible refine Below.drew ?_ | with_reducible refine below_drewN ?_ _ | with_reducible refine Below.setCell ?_ ?_ _ | with_reducible refine Below.alloc ?_ ?_ _ | with_reducible refine Below.trans ?_ (Below.mono (by assumption) ?_))) <;> (first | (simp; done) | (simp; omega) | omega))), _, _, _, _, _, _, _, rfl, s3.put (by decide), s7.put (by decide), s11.put (by decide), s15.put (by decide), s19.put (by decide), s23.put (by decide), fun _ => ⟨b, rfl, hBb, HM.out⟩⟩
        · rintro L ac wv ⟨hsz, ⟨p1, p2, p5, p6, p9, p10, p13, p14, p17, p18, p21, p22⟩, ⟨n25, n26⟩, h7, h11, h15, h19, h23, hb, _⟩ ⟨j, hj, hn⟩
          cases y0 : L.getD 0 true
          · exact ready_some 0 y0 rfl (fun e he _ => by simp at he)
          cases y3 : L.getD 3 true
          · exact ready_some 3 y3 rfl (fun e he _ => by simp at he; rcases he with rfl | rfl <;> first | exact getF p1 (by rw [hsz]; decide) | exact getF p2 (by rw [hsz]; decide))
          cases y7 : L.getD 7 true
          · exact ready_some 7 y7 rfl (fun e he _ => by simp at he; rcases he with rfl | rfl | rfl <;> first | exact getF p5 (by rw [hsz]; decide) | exact getF p6 (by rw [hsz]; decide) | exact getF y3 (by rw [hsz]; decide))
          cases y11 : L.getD 11 true
          · exact ready_some 11 y11 rfl (fun e he _ => by simp at he; rcases he with rfl | rfl | rfl <;> first | exact getF p9 (by rw [hsz]; decide) | exact getF p10 (by rw [hsz]; decide) | exact getF y7 (by rw [hsz]; decide))
          cases y15 : L.getD 15 true
          · exact ready_some 15 y15 rfl (fun e he _ => by simp at he; rcases he with rfl | rfl | rfl <;> first | exact getF p13 (by rw [hsz]; decide) | exact getF p14 (by rw [hsz]; decide) | exact getF y11 (by rw [hsz]; decide))
          cases y19 : L.getD 19 true
          · exact ready_some 19 y19 rfl (fun e he _ => by simp at he; rcases he with rfl | rfl | rfl <;> first | exact getF p17 (by rw [hsz]; decide) | exact getF p18 (by rw [hsz]; decide) | exact getF y15 (by rw [hsz]; decide))
          cases y23 : L.getD 23 true
          · exact ready_some 23 y23 rfl (fun e he _ => by simp at he; rcases he with rfl | rfl | rfl <;> first | exact getF p21 (by rw [hsz]; decide) | exact getF p22 (by rw [hsz]; decide) | exact getF y19 (by rw [hsz]; decide))
          simp only [List.mem_cons, List.not_mem_nil, or_false] at hj
          rcases hj with rfl | rfl | rfl | rfl | rfl | rfl | rfl | rfl | rfl | rfl | rfl | rfl | rfl
          · exact absurd hn (by rw [y0]; decide)
          · exact absurd hn (by rw [y3]; decide)
          · exact ready_some 4 hn rfl (fun e he _ => by simp at he; rcases he with rfl | rfl <;> first | exact getF y0 (by rw [hsz]; decide) | exact getF y3 (by rw [hsz]; decide))
          · exact absurd hn (by rw [y7]; decide)
          · exact ready_some 8 hn rfl (fun e he _ => by simp at he; rcases he with rfl | rfl <;> first | exact getF y0 (by rw [hsz]; decide) | exact getF y7 (by rw [hsz]; decide))
          · exact absurd hn (by rw [y11]; decide)
          · exact ready_some 12 hn rfl (fun e he _ => by simp at he; rcases he with rfl | rfl <;> first | exact getF y0 (by rw [hsz]; decide) | exact getF y11 (by rw [hsz]; decide))
          · exact absurd hn (by rw [y15]; decide)
          · exact ready_some 16 hn rfl (fun e he _ => by simp at he; rcases he with rfl | rfl <;> first | exact getF y0 (by rw [hsz]; decide) | exact getF y15 (by rw [hsz]; decide))
          · exact absurd hn (by rw [y19]; decide)
          · exact ready_some 20 hn rfl (fun e he _ => by simp at he; rcases he with rfl | rfl <;> first | exact getF y0 (by rw [hsz]; decide) | exact getF y19 (by rw [hsz]; decide))
          · exact absurd hn (by rw [y23]; decide)
          · exact ready_some 24 hn rfl (fun e he _ => by simp at he; rcases he with rfl | rfl <;> first | exact getF y0 (by rw [hsz]; decide) | exact getF y23 (by rw [hsz]; decide))
        · rintro L ac wv ⟨hsz, ⟨p1, p2, p5, p6, p9, p10, p13, p14, p17, p18, p21, p22⟩, ⟨n25, n26⟩, h7, h11, h15, h19, h23, hb, U43, U46, U49, U52, U55, U58, U61, rfl, s3, s7, s11, s15, s19, s23, hm⟩ hall
          have z0 : Up L 0 := hall 0 (by simp)
          have z3 : Up L 3 := hall 3 (by simp)
          have z4 : Up L 4 := hall 4 (by simp)
          have z7 : Up L 7 := hall 7 (by simp)
          have z8 : Up L 8 := hall 8 (by simp)
          have z11 : Up L 11 := hall 11 (by simp)
          have z12 : Up L 12 := hall 12 (by simp)
          have z15 : Up L 15 := hall 15 (by simp)
          have z16 : Up L 16 := hall 16 (by simp)
          have z19 : Up L 19 := hall 19 (by simp)
          have z20 : Up L 20 := hall 20 (by simp)
          have z23 : Up L 23 := hall 23 (by simp)
          have z24 : Up L 24 := hall 24 (by simp)
          obtain rfl := s3 z3
          obtain rfl := s7 z7
          obtain rfl := s11 z11
          obtain rfl := s15 z15
          obtain rfl := s19 z19
          obtain rfl := s23 z23
          obtain ⟨b, rfl, hBb, hM⟩ := hm z0
          have HM := Lib.hid hM
          clear hM hm s3 s7 s11 s15 s19 s23 h7 h11 h15 h19 h23
          obtain ⟨l⟩ := L
          match l, hsz with
          | [b0, b1, b2, b3, b4, b5, b6, b7, b8, b9, b10, b11, b12, b13, b14, b15, b16, b17, b18, b19, b20, b21, b22, b23, b24, b25, b26], _ =>
            obtain rfl : b0 = true := z0
            obtain rfl : b1 = true := p1
            obtain rfl : b2 = true := p2
            obtain rfl : b3 = true := z3
            obtain rfl : b4 = true := z4
            obtain rfl : b5 = true := p5
            obtain rfl : b6 = true := p6
            obtain rfl : b7 = true := z7
            obtain rfl : b8 = true := z8
            obtain rfl : b9 = true := p9
            obtain rfl : b10 = true := p10
            obtain rfl : b11 = true := z11
            obtain rfl : b12 = true := z12
            obtain rfl : b13 = true := p13
            obtain rfl : b14 = true := p14
            obtain rfl : b15 = true := z15
            obtain rfl : b16 = true := z16
            obtain rfl : b17 = true := p17
            obtain rfl : b18 = true := p18
            obtain rfl : b19 = true := z19
            obtain rfl : b20 = true := z20
            obtain rfl : b21 = true := p21
            obtain rfl : b22 = true := p22
            obtain rfl : b23 = true := z23
            obtain rfl : b24 = true := z24
            obtain rfl : b25 = false := n25
            obtain rfl : b26 = false := n26
            clear hall hsz
            have hHeld := HS5.out wv hb
            have hzv := hb.size
            refine wpAnyH_take (i := 25) (v := ?_) rfl (by kernel_rfl) (by kernel_rfl) (by kernel_rfl) (fun _ _ _ h => h) (Or.inl ⟨by rfl, ?_⟩) (by assumption) ?_
            rotate_left
            · intro wq hSw
              try dsimp only at hSw
              go_simp
              try with_reducible rfl
            try simp only [Act.put, List.getElem_toArray, List.getElem_cons_zero, List.getElem_cons_succ, List.setIfInBounds_toArray, List.set_cons_zero, List.set_cons_succ]
            refine wpAnyH_take (i := 26) (v := ?_) rfl (by kernel_rfl) (by kernel_rfl) (by kernel_rfl) (fun _ _ _ h => h) (Or.inl ⟨by rfl, ?_⟩) (by assumption) ?_
            rotate_left
            · intro wq hSw
              try dsimp only at hSw
              go_simp
              try with_reducible rfl
            try simp only [Act.put, List.getElem_toArray, List.getElem_cons_zero, List.getElem_cons_succ, List.setIfInBounds_toArray, List.set_cons_zero, List.set_cons_succ]
            refine wpAnyH_done (by kernel_rfl) ?_ _
            all_goals (go_wp2_with fail; go_meet)
            exact ⟨b, rfl, HM.out, by ((repeat' (first | with_reducible exact Below.refl _ _ | with_reducible assumption | with_reducible refine Below.drew ?_ | with_reducible refine below_drewN ?_ _ | with_reducible refine Below.setCell ?_ ?_ _ | with_reducible refine Below.alloc ?_ ?_ _ | with_reducible refine Below.trans ?_ (Below.mono (by assumption) ?_))) <;> (first | (simp; done) | (simp; omega) | omega))⟩
        · refine ⟨by decide +kernel, ⟨by decide +kernel, by decide +kernel, by decide +kernel, by decide +kernel, by decide +kernel, by decide +kernel, by decide +kernel, by decide +kernel, by decide +kernel, by decide +kernel, by decide +kernel, by decide +kernel⟩, ⟨by decide +kernel, by decide +kernel⟩, ?_, ?_, ?_, ?_, ?_, by ((repeat' (first | with_reducible exact Below.refl _ _ | with_reducible assumption | with_reducible refine Below.drew ?_ | with_reducible refine below_drewN ?_ _ | with_reducible refine Below.setCell ?_ ?_ _ | with_reducible refine Below.alloc ?_ ?_ _ | with_reducible refine Below.trans ?_ (Below.mono (by assumption) ?_))) <;> (first | (simp; done) | (simp; omega) | omega)), _, _, _, _, _, _, _, rfl, ?_, ?_, ?_, ?_, ?_, ?_, ?_⟩
          all_goals (intro h; exact absurd h (by decide +kernel))
      case rest =>
        obtain ⟨b, rfl, ⟨es, clock, hmb, hst, hent⟩, hb4⟩ := hcut
        obtain ⟨W4, rfl⟩ : ∃ W, W = wc := ⟨_, rfl⟩
        have lb : b < W4.heap.size := (Array.getElem?_eq_some_iff.1 hmb).1
        have hb24 := hb3.trans (hb4.mono hb3.size)
        have hbw4 := hbw3.trans (hb4.mono hbw3.size)
        have hz34 := hb4.size
        have hz24 := hb24.size
        have k7a := k7.below hb4 l7
        obtain ⟨hrg, hit⟩ := IterS.range hmb
        obtain ⟨W5, hw5⟩ : ∃ W, W4.alloc (.mapIter (some b) clock #[] clock) = W := ⟨_, rfl⟩
        rw [hw5] at hrg hit
        have hb5 : Below W4.heap.size W4 W5 := by rw [← hw5]; ((repeat' (first | with_reducible exact Below.refl _ _ | with_reducible assumption | with_reducible refine Below.drew ?_ | with_reducible refine below_drewN ?_ _ | with_reducible refine Below.setCell ?_ ?_ _ | with_reducible refine Below.alloc ?_ ?_ _ | with_reducible refine Below.trans ?_ (Below.mono (by assumption) ?_))) <;> (first | (simp; done) | (simp; omega) | omega))
        have hs5 : W5.heap.size = W4.heap.size + 1 := by rw [← hw5]; simp
        have HST := Lib.hid hst
        have HENT := Lib.hid hent
        have HIT := Lib.hid hit
        have hg1 := (HS4.out W4 hb24).1
        clear hw5 hst hent hit hmb HAnd HOr HEq HLt HPlus HMinus OAnd OOr OEq OLt OPlus OMinus HS5 k8
        go_wp2_with fail
        clear hrg
        go_loopw [10] (fun _ wr => ∃ seen, IterS wr W4.heap.size b es clock seen ∧ Below W4.heap.size W4 wr) (fun _ wr => (leftOf es (wr.iterSeen W4.heap.size)).size)
        case atStart => exact ⟨#[], HIT.out, hb5⟩
        case round =>
          obtain ⟨seen, hI, hbr⟩ := hrel
          obtain ⟨WR, rfl⟩ : ∃ W, W = wr := ⟨_, rfl⟩
          have hbwr := hbw4.trans (hbr.mono hbw4.size)
          have hb2r := hb24.trans (hbr.mono hz24)
          have hseen : WR.iterSeen W4.heap.size = seen := hI.seen
          rcases hI.next HST.out HENT.out (show b ≠ W4.heap.size by omega) 0 with hN | ⟨op, v, WI, seen', hO, hN, hEn, hI1, hlt, hsz1, hbl⟩
          · clear hseen hI HST HENT HIT
            have k7r := k7a.below hbr k7a.lt
            have HER := Lib.hid ((HE3.out.below hb4 rfl).below hbr rfl)
            obtain ⟨x0, x1, x2, x3, x4, x5⟩ := (HS4.out WR hb2r).1
            obtain ⟨W6, hw6⟩ : ∃ W, (WR.alloc (.cells #[.string ⟨X.op.toArray⟩, .int .i64 X.v.k, .int .i64 X.v.i, .string ⟨X.v.s.toArray⟩, .string ⟨X.s.toArray⟩, .slice A5 X.l.length c5] 26)).alloc (.cells #[.string ⟨#[110, 111, 116]⟩, .int .i64 0, .int .i64 0, .string ⟨#[]⟩, .string ⟨#[]⟩, .slice (some ⟨WR.heap.size, 0, none⟩) 1 1] 26) = W := ⟨_, rfl⟩
            have hb6 : Below WR.heap.size WR W6 := by rw [← hw6]; ((repeat' (first | with_reducible exact Below.refl _ _ | with_reducible assumption | with_reducible refine Below.drew ?_ | with_reducible refine below_drewN ?_ _ | with_reducible refine Below.setCell ?_ ?_ _ | with_reducible refine Below.alloc ?_ ?_ _ | with_reducible refine Below.trans ?_ (Below.mono (by assumption) ?_))) <;> (first | (simp; done) | (simp; omega) | omega))
            have kL : Blk W6 WR.heap.size 26 (X.cells A5 c5).toArray := show Blk W6 WR.heap.size 26 #[.string ⟨X.op.toArray⟩, .int .i64 X.v.k, .int .i64 X.v.i, .string ⟨X.v.s.toArray⟩, .string ⟨X.s.toArray⟩, .slice A5 X.l.length c5] by rw [← hw6]; ((repeat' (first | with_reducible assumption | with_reducible refine Blk.drew ?_ | with_reducible refine Blk.drewN ?_ _ | with_reducible refine Blk.set3 ?_ _ _ _ | with_reducible refine Blk.far ?_ ?_ _ | ((with_reducible refine Blk.new' _ _ _ _ ?_) <;> (first | (simp; done) | (simp; omega) | omega) <;> done) | with_reducible refine Blk.alloc ?_ _ | with_reducible refine Blk3.drew ?_ | with_reducible refine Blk3.drewN ?_ _ | ((with_reducible refine Blk3.new' _ _ _ _ _ _ ?_) <;> (first | (simp; done) | (simp; omega) | omega) <;> done) | with_reducible refine Blk3.alloc ?_ _ | with_reducible refine Blk3.far ?_ ?_ _ | with_reducible refine Blk3.below ?_ (by assumption) ?_ | with_reducible refine Blk.below ?_ (by assumption) ?_)) <;> (first | (simp; done) | (simp; omega) | omega))
            have kN : Blk W6 (WR.heap.size + 1) 26 ((Ex.mk opNot V.zero [] [X]).cells (some ⟨WR.heap.size, 0, none⟩) 1).toArray := show Blk W6 (WR.heap.size + 1) 26 #[.string ⟨#[110, 111, 116]⟩, .int .i64 0, .int .i64 0, .string ⟨#[]⟩, .string ⟨#[]⟩, .slice (some ⟨WR.heap.size, 0, none⟩) 1 1] by rw [← hw6]; ((repeat' (first | with_reducible assumption | with_reducible refine Blk.drew ?_ | with_reducible refine Blk.drewN ?_ _ | with_reducible refine Blk.set3 ?_ _ _ _ | with_reducible refine Blk.far ?_ ?_ _ | ((with_reducible refine Blk.new' _ _ _ _ ?_) <;> (first | (simp; done) | (simp; omega) | omega) <;> done) | with_reducible refine Blk.alloc ?_ _ | with_reducible refine Blk3.drew ?_ | with_reducible refine Blk3.drewN ?_ _ | ((with_reducible refine Blk3.new' _ _ _ _ _ _ ?_) <;> (first | (simp; done) | (simp; omega) | omega) <;> done) | with_reducible refine Blk3.alloc ?_ _ | with_reducible refine Blk3.far ?_ ?_ _ | with_reducible refine Blk3.below ?_ (by assumption) ?_ | with_reducible refine Blk.below ?_ (by assumption) ?_)) <;> (first | (simp; done) | (simp; omega) | omega))
            have hz6 := hb6.size
            have hb26 := hb2r.trans (hb6.mono hb2r.size)
            have hbw6 := hbwr.trans (hb6.mono hbwr.size)
            have hX6 : ExR (fun b => b < W6.heap.size) X A5 c5 W6 := HX2.out.keep fun b hb => ⟨Nat.lt_of_lt_of_le hb hb26.size, fun o => hb26.cell (p := ⟨b, o, none⟩) hb⟩
            have hN6 : ExR (fun b => b < W6.heap.size) (.mk opNot V.zero [] [X]) (some ⟨WR.heap.size, 0, none⟩) 1 W6 := ExR.one hX6 kL kL.lt (by decide)
            have hC6 := (HC2.out.below hb26).more hb26.size
            have hV6 := (HV2.out.below hb26).more hb26.size
            obtain ⟨M, hM⟩ : ∃ M, mayX (.mk opNot V.zero [] [X]) = M := ⟨_, rfl⟩
            have HMN : Hid (∀ Z : World, Below W6.heap.size W6 Z → Calls Tryz.prog 12 #[.agg #[.string ⟨#[110, 111, 116]⟩, .int .i64 0, .int .i64 0, .string ⟨#[]⟩, .string ⟨#[]⟩, .slice (some ⟨WR.heap.size, 0, none⟩) 1 1]] Z (Ret (.bool M) Z)) := fun Z h => by have := may_of hN6 (fun b h => h) Z h; rw [hM] at this; exact this
            have HVN : Hid (M = true → ∀ Z : World, Below W6.heap.size W6 Z → Calls Tryz.prog 14 #[.agg #[.string ⟨#[110, 111, 116]⟩, .int .i64 0, .int .i64 0, .string ⟨#[]⟩, .string ⟨#[]⟩, .slice (some ⟨WR.heap.size, 0, none⟩) 1 1], .slice A3 CO.length c3, .slice A4 RO.length c4] Z (Ret (.agg #[.int .i64 (vNot).k, .int .i64 (vNot).i, .string ⟨(vNot).s.toArray⟩]) Z)) := fun h1 Z h => by have := eval_of (c1 := c3) (c2 := c4) hN6 (fun b h => h) (by omega) (by omega) hC6 hV6 HRI.out Z h; rw [HPN.out (hM.trans h1)] at this; exact this
            have k7n := k7r.below hb6 k7r.lt
            have hzw6 := hbw6.size
            have HW6 := Lib.hid hw6
            have HE6 := Lib.hid (HER.out.below hb6 rfl)
            have l6 := kN.lt
            have l7n := k7n.lt
            have HSN : Hid (∀ w' : World, Below W6.heap.size W6 w' → ((w'.cell? ⟨WR.heap.size + 1, 0, none⟩ = some (.string ⟨#[110, 111, 116]⟩) ∧ w'.cell? ⟨WR.heap.size + 1, 1, none⟩ = some (.int .i64 0) ∧ w'.cell? ⟨WR.heap.size + 1, 2, none⟩ = some (.int .i64 0) ∧ w'.cell? ⟨WR.heap.size + 1, 3, none⟩ = some (.string ⟨#[]⟩) ∧ w'.cell? ⟨WR.heap.size + 1, 4, none⟩ = some (.string ⟨#[]⟩) ∧ w'.cell? ⟨WR.heap.size + 1, 5, none⟩ = some (.slice (some ⟨WR.heap.size, 0, none⟩) 1 1)) ∧ (w'.cell? ⟨g7, 0, none⟩ = some (.int .i64 (x).k) ∧ w'.cell? ⟨g7, 1, none⟩ = some (.int .i64 (x).i) ∧ w'.cell? ⟨g7, 2, none⟩ = some (.string ⟨(x).s.toArray⟩)))) := fun w' h => ⟨(kN.below h l6).six, (k7n.below h l7n).three.1⟩
            clear hw6 hX6 hN6 hC6 hV6 hM kL HPN HX2 HY2 HC2 HV2 HS4 HER HE3 HE2 HE1 hg1
            go_upto_region 13 with fail
            rw [HW6.out]
            clear HW6 x0 x1 x2 x3 x4 x5
            have hvv : veq ⟨vNot.k, vNot.i, vNot.s⟩ ⟨vNot.k, vNot.i, vNot.s⟩ = true := by simp [veq]
            cases M
            · skip
              refine wp_region_held_drew (S := (fun w' => ((w'.cell? ⟨WR.heap.size + 1, 0, none⟩ = some (.string ⟨#[110, 111, 116]⟩) ∧ w'.cell? ⟨WR.heap.size + 1, 1, none⟩ = some (.int .i64 0) ∧ w'.cell? ⟨WR.heap.size + 1, 2, none⟩ = some (.int .i64 0) ∧ w'.cell? ⟨WR.heap.size + 1, 3, none⟩ = some (.string ⟨#[]⟩) ∧ w'.cell? ⟨WR.heap.size + 1, 4, none⟩ = some (.string ⟨#[]⟩) ∧ w'.cell? ⟨WR.heap.size + 1, 5, none⟩ = some (.slice (some ⟨WR.heap.size, 0, none⟩) 1 1)) ∧ (w'.cell? ⟨g7, 0, none⟩ = some (.int .i64 (x).k) ∧ w'.cell? ⟨g7, 1, none⟩ = some (.int .i64 (x).i) ∧ w'.cell? ⟨g7, 2, none⟩ = some (.string ⟨(x).s.toArray⟩))))) (by kernel_rfl) ?_ (fun hHeld => ?_)
              · try dsimp only
                exact HSN.out _ (by ((repeat' (first | with_reducible exact Below.refl _ _ | with_reducible assumption | with_reducible refine Below.drew ?_ | with_reducible refine below_drewN ?_ _ | with_reducible refine Below.setCell ?_ ?_ _ | with_reducible refine Below.alloc ?_ ?_ _ | with_reducible refine Below.trans ?_ (Below.mono (by assumption) ?_))) <;> (first | (simp; done) | (simp; omega) | omega)))
              refine wpAnyH_take (i := 0) (v := ?_) rfl (by kernel_rfl) (by kernel_rfl) (by kernel_rfl) (fun _ _ _ h => h) (Or.inl ⟨by rfl, ?_⟩) (by assumption) ?_
              rotate_left
              · intro wq hSw
                try dsimp only at hSw
                go_simp
                try with_reducible rfl
              try simp only [Act.put, List.getElem_toArray, List.getElem_cons_zero, List.setIfInBounds_toArray, List.set_cons_zero, List.set_cons_succ]
              refine wpAnyH_ready (rs := [1]) (by kernel_rfl) (by simp) ?_
              refine AllReadyH.cons rfl (fun K hK => ?_) AllReadyH.nil
              go_simp
              refine (HMN.out _ (by ((repeat' (first | with_reducible exact Below.refl _ _ | with_reducible assumption | with_reducible refine Below.drew ?_ | with_reducible refine below_drewN ?_ _ | with_reducible refine Below.setCell ?_ ?_ _ | with_reducible refine Below.alloc ?_ ?_ _ | with_reducible refine Below.trans ?_ (Below.mono (by assumption) ?_))) <;> (first | (simp; done) | (simp; omega) | omega)))).mono ?_ <;> rintro e w1 ⟨rfl, hb1⟩ <;> have hz1 := hb1.size <;> (try simp at hz1)
              go_wp2_with fail
              refine hK.out _ _ ?_ (fun hHeld => ?_)
              · try dsimp only
                exact HSN.out _ (by ((repeat' (first | with_reducible exact Below.refl _ _ | with_reducible assumption | with_reducible refine Below.drew ?_ | with_reducible refine below_drewN ?_ _ | with_reducible refine Below.setCell ?_ ?_ _ | with_reducible refine Below.alloc ?_ ?_ _ | with_reducible refine Below.trans ?_ (Below.mono (by assumption) ?_))) <;> (first | (simp; done) | (simp; omega) | omega)))
              clear hK K
              try simp only [Act.put, List.getElem_toArray, List.getElem_cons_zero, List.getElem_cons_succ, List.setIfInBounds_toArray, List.set_cons_zero, List.set_cons_succ]
              refine wpAnyH_take (i := 2) (v := ?_) rfl (by kernel_rfl) (by kernel_rfl) (by kernel_rfl) (fun _ _ _ h => h) (Or.inl ⟨by rfl, ?_⟩) (by assumption) ?_
              rotate_left
              · intro wq hSw
                try dsimp only at hSw
                go_simp
                try with_reducible rfl
              try simp only [Act.put, List.getElem_toArray, List.getElem_cons_zero, List.getElem_cons_succ, List.setIfInBounds_toArray, List.set_cons_zero, List.set_cons_succ]
              refine wpAnyH_take (i := 3) (v := ?_) rfl (by kernel_rfl) (by kernel_rfl) (by kernel_rfl) (fun _ _ _ h => h) (Or.inl ⟨by rfl, ?_⟩) (by assumption) ?_
              rotate_left
              · intro wq hSw
                try dsimp only at hSw
                go_simp
                try with_reducible rfl
              try simp only [Act.put, List.getElem_toArray, List.getElem_cons_zero, List.getElem_cons_succ, List.setIfInBounds_toArray, List.set_cons_zero, List.set_cons_succ]
              refine wpAnyH_take (i := 4) (v := undef) rfl (by kernel_rfl) (by kernel_rfl) (by kernel_rfl) (fun _ _ _ h => h) (Or.inr ⟨by rfl, rfl⟩) (by assumption) ?_
              try simp only [Act.put, List.getElem_toArray, List.getElem_cons_zero, List.getElem_cons_succ, List.setIfInBounds_toArray, List.set_cons_zero, List.set_cons_succ]
              refine wpAnyH_take (i := 5) (v := undef) rfl (by kernel_rfl) (by kernel_rfl) (by kernel_rfl) (fun _ _ _ h => h) (Or.inr ⟨by rfl, rfl⟩) (by assumption) ?_
              try simp only [Act.put, List.getElem_toArray, List.getElem_cons_zero, List.getElem_cons_succ, List.setIfInBounds_toArray, List.set_cons_zero, List.set_cons_succ]
              refine wpAnyH_take (i := 6) (v := undef) rfl (by kernel_rfl) (by kernel_rfl) (by kernel_rfl) (fun _ _ _ h => h) (Or.inr ⟨by rfl, rfl⟩) (by assumption) ?_
              try simp only [Act.put, List.getElem_toArray, List.getElem_cons_zero, List.getElem_cons_succ, List.setIfInBounds_toArray, List.set_cons_zero, List.set_cons_succ]
              refine wpAnyH_take (i := 7) (v := undef) rfl (by kernel_rfl) (by kernel_rfl) (by kernel_rfl) (fun _ _ _ h => h) (Or.inr ⟨by rfl, rfl⟩) (by assumption) ?_
              try simp only [Act.put, List.getElem_toArray, List.getElem_cons_zero, List.getElem_cons_succ, List.setIfInBounds_toArray, List.set_cons_zero, List.set_cons_succ]
              refine wpAnyH_take (i := 8) (v := undef) rfl (by kernel_rfl) (by kernel_rfl) (by kernel_rfl) (fun _ _ _ h => h) (Or.inr ⟨by rfl, rfl⟩) (by assumption) ?_
              try simp only [Act.put, List.getElem_toArray, List.getElem_cons_zero, List.getElem_cons_succ, List.setIfInBounds_toArray, List.set_cons_zero, List.set_cons_succ]
              refine wpAnyH_take (i := 9) (v := undef) rfl (by kernel_rfl) (by kernel_rfl) (by kernel_rfl) (fun _ _ _ h => h) (Or.inr ⟨by rfl, rfl⟩) (by assumption) ?_
              try simp only [Act.put, List.getElem_toArray, List.getElem_cons_zero, List.getElem_cons_succ, List.setIfInBounds_toArray, List.set_cons_zero, List.set_cons_succ]
              refine wpAnyH_take (i := 10) (v := undef) rfl (by kernel_rfl) (by kernel_rfl) (by kernel_rfl) (fun _ _ _ h => h) (Or.inr ⟨by rfl, rfl⟩) (by assumption) ?_
              try simp only [Act.put, List.getElem_toArray, List.getElem_cons_zero, List.getElem_cons_succ, List.setIfInBounds_toArray, List.set_cons_zero, List.set_cons_succ]
              refine wpAnyH_take (i := 11) (v := ?_) rfl (by kernel_rfl) (by kernel_rfl) (by kernel_rfl) (fun _ _ _ h => h) (Or.inl ⟨by rfl, ?_⟩) (by assumption) ?_
              rotate_left
              · intro wq hSw
                try dsimp only at hSw
                go_simp
                try with_reducible rfl
              try simp only [Act.put, List.getElem_toArray, List.getElem_cons_zero, List.getElem_cons_succ, List.setIfInBounds_toArray, List.set_cons_zero, List.set_cons_succ]
              refine wpAnyH_take (i := 12) (v := ?_) rfl (by kernel_rfl) (by kernel_rfl) (by kernel_rfl) (fun _ _ _ h => h) (Or.inl ⟨by rfl, ?_⟩) (by assumption) ?_
              rotate_left
              · intro wq hSw
                try dsimp only at hSw
                go_simp
                try with_reducible rfl
              try simp only [Act.put, List.getElem_toArray, List.getElem_cons_zero, List.getElem_cons_succ, List.setIfInBounds_toArray, List.set_cons_zero, List.set_cons_succ]
              refine wpAnyH_ready (rs := [13]) (by kernel_rfl) (by simp) ?_
              refine AllReadyH.cons rfl (fun K hK => ?_) AllReadyH.nil
              go_simp
              refine (awake4_any _ (HE6.out.below (by ((repeat' (first | with_reducible exact Below.refl _ _ | with_reducible assumption | with_reducible refine Below.drew ?_ | with_reducible refine below_drewN ?_ _ | with_reducible refine Below.setCell ?_ ?_ _ | with_reducible refine Below.alloc ?_ ?_ _ | with_reducible refine Below.trans ?_ (Below.mono (by assumption) ?_))) <;> (first | (simp; done) | (simp; omega) | omega))) rfl)).mono ?_ <;> rintro en w13 ⟨rfl, hb13⟩ <;> have hz13 := hb13.size
              go_wp2_with fail
              refine hK.out _ _ ?_ (fun hHeld => ?_)
              · try dsimp only
                exact HSN.out _ (by ((repeat' (first | with_reducible exact Below.refl _ _ | with_reducible assumption | with_reducible refine Below.drew ?_ | with_reducible refine below_drewN ?_ _ | with_reducible refine Below.setCell ?_ ?_ _ | with_reducible refine Below.alloc ?_ ?_ _ | with_reducible refine Below.trans ?_ (Below.mono (by assumption) ?_))) <;> (first | (simp; done) | (simp; omega) | omega)))
              clear hK K
              try simp only [Act.put, List.getElem_toArray, List.getElem_cons_zero, List.getElem_cons_succ, List.setIfInBounds_toArray, List.set_cons_zero, List.set_cons_succ]
              refine wpAnyH_take (i := 14) (v := ?_) rfl (by kernel_rfl) (by kernel_rfl) (by kernel_rfl) (fun _ _ _ h => h) (Or.inl ⟨by rfl, ?_⟩) (by assumption) ?_
              rotate_left
              · intro wq hSw
                try dsimp only at hSw
                go_simp
                try with_reducible rfl
              try simp only [Act.put, List.getElem_toArray, List.getElem_cons_zero, List.getElem_cons_succ, List.setIfInBounds_toArray, List.set_cons_zero, List.set_cons_succ]
              refine wpAnyH_take (i := 15) (v := ?_) rfl (by kernel_rfl) (by kernel_rfl) (by kernel_rfl) (fun _ _ _ h => h) (Or.inl ⟨by rfl, ?_⟩) (by assumption) ?_
              rotate_left
              · intro wq hSw
                try dsimp only at hSw
                go_simp
                try with_reducible rfl
              try simp only [Act.put, List.getElem_toArray, List.getElem_cons_zero, List.getElem_cons_succ, List.setIfInBounds_toArray, List.set_cons_zero, List.set_cons_succ]
              refine wpAnyH_done (by kernel_rfl) ?_ _
              go_wp2_with fail
              go_ret
              refine ⟨rfl, ?_⟩
              ((repeat' (first | with_reducible exact Below.refl _ _ | with_reducible assumption | with_reducible refine Below.drew ?_ | with_reducible refine below_drewN ?_ _ | with_reducible refine Below.setCell ?_ ?_ _ | with_reducible refine Below.alloc ?_ ?_ _ | with_reducible refine Below.trans ?_ (Below.mono (by assumption) ?_))) <;> (first | (simp; done) | (simp; omega) | omega))
            · have HVN' := Lib.hid (HVN.out rfl)
              refine wp_region_held_drew (S := (fun w' => ((w'.cell? ⟨WR.heap.size + 1, 0, none⟩ = some (.string ⟨#[110, 111, 116]⟩) ∧ w'.cell? ⟨WR.heap.size + 1, 1, none⟩ = some (.int .i64 0) ∧ w'.cell? ⟨WR.heap.size + 1, 2, none⟩ = some (.int .i64 0) ∧ w'.cell? ⟨WR.heap.size + 1, 3, none⟩ = some (.string ⟨#[]⟩) ∧ w'.cell? ⟨WR.heap.size + 1, 4, none⟩ = some (.string ⟨#[]⟩) ∧ w'.cell? ⟨WR.heap.size + 1, 5, none⟩ = some (.slice (some ⟨WR.heap.size, 0, none⟩) 1 1)) ∧ (w'.cell? ⟨g7, 0, none⟩ = some (.int .i64 (x).k) ∧ w'.cell? ⟨g7, 1, none⟩ = some (.int .i64 (x).i) ∧ w'.cell? ⟨g7, 2, none⟩ = some (.string ⟨(x).s.toArray⟩))))) (by kernel_rfl) ?_ (fun hHeld => ?_)
              · try dsimp only
                exact HSN.out _ (by ((repeat' (first | with_reducible exact Below.refl _ _ | with_reducible assumption | with_reducible refine Below.drew ?_ | with_reducible refine below_drewN ?_ _ | with_reducible refine Below.setCell ?_ ?_ _ | with_reducible refine Below.alloc ?_ ?_ _ | with_reducible refine Below.trans ?_ (Below.mono (by assumption) ?_))) <;> (first | (simp; done) | (simp; omega) | omega)))
              refine wpAnyH_take (i := 0) (v := ?_) rfl (by kernel_rfl) (by kernel_rfl) (by kernel_rfl) (fun _ _ _ h => h) (Or.inl ⟨by rfl, ?_⟩) (by assumption) ?_
              rotate_left
              · intro wq hSw
                try dsimp only at hSw
                go_simp
                try with_reducible rfl
              try simp only [Act.put, List.getElem_toArray, List.getElem_cons_zero, List.setIfInBounds_toArray, List.set_cons_zero, List.set_cons_succ]
              refine wpAnyH_ready (rs := [1]) (by kernel_rfl) (by simp) ?_
              refine AllReadyH.cons rfl (fun K hK => ?_) AllReadyH.nil
              go_simp
              refine (HMN.out _ (by ((repeat' (first | with_reducible exact Below.refl _ _ | with_reducible assumption | with_reducible refine Below.drew ?_ | with_reducible refine below_drewN ?_ _ | with_reducible refine Below.setCell ?_ ?_ _ | with_reducible refine Below.alloc ?_ ?_ _ | with_reducible refine Below.trans ?_ (Below.mono (by assumption) ?_))) <;> (first | (simp; done) | (simp; omega) | omega)))).mono ?_ <;> rintro e w1 ⟨rfl, hb1⟩ <;> have hz1 := hb1.size <;> (try simp at hz1)
              go_wp2_with fail
              refine hK.out _ _ ?_ (fun hHeld => ?_)
              · try dsimp only
                exact HSN.out _ (by ((repeat' (first | with_reducible exact Below.refl _ _ | with_reducible assumption | with_reducible refine Below.drew ?_ | with_reducible refine below_drewN ?_ _ | with_reducible refine Below.setCell ?_ ?_ _ | with_reducible refine Below.alloc ?_ ?_ _ | with_reducible refine Below.trans ?_ (Below.mono (by assumption) ?_))) <;> (first | (simp; done) | (simp; omega) | omega)))
              clear hK K
              try simp only [Act.put, List.getElem_toArray, List.getElem_cons_zero, List.getElem_cons_succ, List.setIfInBounds_toArray, List.set_cons_zero, List.set_cons_succ]
              refine wpAnyH_take (i := 2) (v := ?_) rfl (by kernel_rfl) (by kernel_rfl) (by kernel_rfl) (fun _ _ _ h => h) (Or.inl ⟨by rfl, ?_⟩) (by assumption) ?_
              rotate_left
              · intro wq hSw
                try dsimp only at hSw
                go_simp
                try with_reducible rfl
              try simp only [Act.put, List.getElem_toArray, List.getElem_cons_zero, List.getElem_cons_succ, List.setIfInBounds_toArray, List.set_cons_zero, List.set_cons_succ]
              refine wpAnyH_take (i := 3) (v := ?_) rfl (by kernel_rfl) (by kernel_rfl) (by kernel_rfl) (fun _ _ _ h => h) (Or.inl ⟨by rfl, ?_⟩) (by assumption) ?_
              rotate_left
              · intro wq hSw
                try dsimp only at hSw
                go_simp
                try with_reducible rfl
              try simp only [Act.put, List.getElem_toArray, List.getElem_cons_zero, List.getElem_cons_succ, List.setIfInBounds_toArray, List.set_cons_zero, List.set_cons_succ]
              refine wpAnyH_take (i := 4) (v := ?_) rfl (by kernel_rfl) (by kernel_rfl) (by kernel_rfl) (fun _ _ _ h => h) (Or.inl ⟨by rfl, ?_⟩) (by assumption) ?_
              rotate_left
              · intro wq hSw
                try dsimp only at hSw
                go_simp
                try with_reducible rfl
              try simp only [Act.put, List.getElem_toArray, List.getElem_cons_zero, List.getElem_cons_succ, List.setIfInBounds_toArray, List.set_cons_zero, List.set_cons_succ]
              refine wpAnyH_take (i := 5) (v := ?_) rfl (by kernel_rfl) (by kernel_rfl) (by kernel_rfl) (fun _ _ _ h => h) (Or.inl ⟨by rfl, ?_⟩) (by assumption) ?_
              rotate_left
              · intro wq hSw
                try dsimp only at hSw
                go_simp
                try with_reducible rfl
              try simp only [Act.put, List.getElem_toArray, List.getElem_cons_zero, List.getElem_cons_succ, List.setIfInBounds_toArray, List.set_cons_zero, List.set_cons_succ]
              refine wpAnyH_take (i := 6) (v := ?_) rfl (by kernel_rfl) (by kernel_rfl) (by kernel_rfl) (fun _ _ _ h => h) (Or.inl ⟨by rfl, ?_⟩) (by assumption) ?_
              rotate_left
              · intro wq hSw
                try dsimp only at hSw
                go_simp
                try with_reducible rfl
              try simp only [Act.put, List.getElem_toArray, List.getElem_cons_zero, List.getElem_cons_succ, List.setIfInBounds_toArray, List.set_cons_zero, List.set_cons_succ]
              refine wpAnyH_take (i := 8) (v := ?_) rfl (by kernel_rfl) (by kernel_rfl) (by kernel_rfl) (fun _ _ _ h => h) (Or.inl ⟨by rfl, ?_⟩) (by assumption) ?_
              rotate_left
              · intro wq hSw
                try dsimp only at hSw
                go_simp
                try with_reducible rfl
              try simp only [Act.put, List.getElem_toArray, List.getElem_cons_zero, List.getElem_cons_succ, List.setIfInBounds_toArray, List.set_cons_zero, List.set_cons_succ]
              refine wpAnyH_ready (rs := [7]) (by kernel_rfl) (by simp) ?_
              refine AllReadyH.cons rfl (fun K hK => ?_) AllReadyH.nil
              go_simp
              refine (HVN'.out _ (by ((repeat' (first | with_reducible exact Below.refl _ _ | with_reducible assumption | with_reducible refine Below.drew ?_ | with_reducible refine below_drewN ?_ _ | with_reducible refine Below.setCell ?_ ?_ _ | with_reducible refine Below.alloc ?_ ?_ _ | with_reducible refine Below.trans ?_ (Below.mono (by assumption) ?_))) <;> (first | (simp; done) | (simp; omega) | omega)))).mono ?_ <;> rintro e w7 ⟨rfl, hb7⟩ <;> have hz7 := hb7.size <;> (try simp at hz7)
              go_wp2_with fail
              refine hK.out _ _ ?_ (fun hHeld => ?_)
              · try dsimp only
                exact HSN.out _ (by ((repeat' (first | with_reducible exact Below.refl _ _ | with_reducible assumption | with_reducible refine Below.drew ?_ | with_reducible refine below_drewN ?_ _ | with_reducible refine Below.setCell ?_ ?_ _ | with_reducible refine Below.alloc ?_ ?_ _ | with_reducible refine Below.trans ?_ (Below.mono (by assumption) ?_))) <;> (first | (simp; done) | (simp; omega) | omega)))
              clear hK K
              try simp only [Act.put, List.getElem_toArray, List.getElem_cons_zero, List.getElem_cons_succ, List.setIfInBounds_toArray, List.set_cons_zero, List.set_cons_succ]
              refine wpAnyH_ready (rs := [9]) (by kernel_rfl) (by simp) ?_
              refine AllReadyH.cons rfl (fun K hK => ?_) AllReadyH.nil
              go_simp
              refine (HNot.out _).mono ?_ <;> rintro e w9 ⟨rfl, hb9⟩ <;> have hz9 := hb9.size <;> (try simp at hz9)
              go_wp2_with fail
              refine hK.out _ _ ?_ (fun hHeld => ?_)
              · try dsimp only
                exact HSN.out _ (by ((repeat' (first | with_reducible exact Below.refl _ _ | with_reducible assumption | with_reducible refine Below.drew ?_ | with_reducible refine below_drewN ?_ _ | with_reducible refine Below.setCell ?_ ?_ _ | with_reducible refine Below.alloc ?_ ?_ _ | with_reducible refine Below.trans ?_ (Below.mono (by assumption) ?_))) <;> (first | (simp; done) | (simp; omega) | omega)))
              clear hK K
              try simp only [Act.put, List.getElem_toArray, List.getElem_cons_zero, List.getElem_cons_succ, List.setIfInBounds_toArray, List.set_cons_zero, List.set_cons_succ]
              refine wpAnyH_take (i := 10) (v := ?_) rfl (by kernel_rfl) (by kernel_rfl) (by kernel_rfl) (fun _ _ _ h => h) (Or.inl ⟨by rfl, ?_⟩) (by assumption) ?_
              rotate_left
              · intro wq hSw
                try dsimp only at hSw
                go_simp
                try with_reducible rfl
              try simp only [Act.put, List.getElem_toArray, List.getElem_cons_zero, List.getElem_cons_succ, List.setIfInBounds_toArray, List.set_cons_zero, List.set_cons_succ]
              refine wpAnyH_take (i := 11) (v := ?_) rfl (by kernel_rfl) (by kernel_rfl) (by kernel_rfl) (fun _ _ _ h => h) (Or.inl ⟨by rfl, ?_⟩) (by assumption) ?_
              rotate_left
              · intro wq hSw
                try dsimp only at hSw
                go_simp
                try with_reducible rfl
              try simp only [Act.put, List.getElem_toArray, List.getElem_cons_zero, List.getElem_cons_succ, List.setIfInBounds_toArray, List.set_cons_zero, List.set_cons_succ]
              refine wpAnyH_take (i := 12) (v := ?_) rfl (by kernel_rfl) (by kernel_rfl) (by kernel_rfl) (fun _ _ _ h => h) (Or.inl ⟨by rfl, ?_⟩) (by assumption) ?_
              rotate_left
              · intro wq hSw
                try dsimp only at hSw
                go_simp
                try with_reducible rfl
              try simp only [Act.put, List.getElem_toArray, List.getElem_cons_zero, List.getElem_cons_succ, List.setIfInBounds_toArray, List.set_cons_zero, List.set_cons_succ]
              refine wpAnyH_ready (rs := [13]) (by kernel_rfl) (by simp) ?_
              refine AllReadyH.cons rfl (fun K hK => ?_) AllReadyH.nil
              go_simp
              refine (awake4_any _ (HE6.out.below (by ((repeat' (first | with_reducible exact Below.refl _ _ | with_reducible assumption | with_reducible refine Below.drew ?_ | with_reducible refine below_drewN ?_ _ | with_reducible refine Below.setCell ?_ ?_ _ | with_reducible refine Below.alloc ?_ ?_ _ | with_reducible refine Below.trans ?_ (Below.mono (by assumption) ?_))) <;> (first | (simp; done) | (simp; omega) | omega))) rfl)).mono ?_ <;> rintro en w13 ⟨rfl, hb13⟩ <;> have hz13 := hb13.size
              go_wp2_with fail
              refine hK.out _ _ ?_ (fun hHeld => ?_)
              · try dsimp only
                exact HSN.out _ (by ((repeat' (first | with_reducible exact Below.refl _ _ | with_reducible assumption | with_reducible refine Below.drew ?_ | with_reducible refine below_drewN ?_ _ | with_reducible refine Below.setCell ?_ ?_ _ | with_reducible refine Below.alloc ?_ ?_ _ | with_reducible refine Below.trans ?_ (Below.mono (by assumption) ?_))) <;> (first | (simp; done) | (simp; omega) | omega)))
              clear hK K
              try simp only [Act.put, List.getElem_toArray, List.getElem_cons_zero, List.getElem_cons_succ, List.setIfInBounds_toArray, List.set_cons_zero, List.set_cons_succ]
              refine wpAnyH_take (i := 14) (v := ?_) rfl (by kernel_rfl) (by kernel_rfl) (by kernel_rfl) (fun _ _ _ h => h) (Or.inl ⟨by rfl, ?_⟩) (by assumption) ?_
              rotate_left
              · intro wq hSw
                try dsimp only at hSw
                go_simp
                try with_reducible rfl
              try simp only [Act.put, List.getElem_toArray, List.getElem_cons_zero, List.getElem_cons_succ, List.setIfInBounds_toArray, List.set_cons_zero, List.set_cons_succ]
              refine wpAnyH_take (i := 15) (v := ?_) rfl (by kernel_rfl) (by kernel_rfl) (by kernel_rfl) (fun _ _ _ h => h) (Or.inl ⟨by rfl, ?_⟩) (by assumption) ?_
              rotate_left
              · intro wq hSw
                try dsimp only at hSw
                go_simp
                try with_reducible rfl
              try simp only [Act.put, List.getElem_toArray, List.getElem_cons_zero, List.getElem_cons_succ, List.setIfInBounds_toArray, List.set_cons_zero, List.set_cons_succ]
              refine wpAnyH_done (by kernel_rfl) ?_ _
              go_wp2_with fail
              go_ret
              refine ⟨rfl, ?_⟩
              ((repeat' (first | with_reducible exact Below.refl _ _ | with_reducible assumption | with_reducible refine Below.drew ?_ | with_reducible refine below_drewN ?_ _ | with_reducible refine Below.setCell ?_ ?_ _ | with_reducible refine Below.alloc ?_ ?_ _ | with_reducible refine Below.trans ?_ (Below.mono (by assumption) ?_))) <;> (first | (simp; done) | (simp; omega) | omega))
          · have HO := Lib.hid hO
            have HLT := Lib.hid hlt
            have HI1 := Lib.hid hI1
            have HSE := Lib.hid hseen
            have hbr1 := hbl W4.heap.size (Nat.le_refl _)
            have hbr1' := hbr.trans hbr1
            have hb21 := hb24.trans (hbr1'.mono hz24)
            obtain ⟨x0, x1, x2, x3, x4, x5⟩ := (HS4.out WI hb21).1
            obtain ⟨y0, y1, y2, y3, y4, y5⟩ := (HS4.out WI hb21).2
            have lg1 : g1 < WI.heap.size := by have := hb2.size; have := hb21.size; omega
            have lg2 : g2 < WI.heap.size := by have := hb2.size; have := hb21.size; omega
            clear hO hlt hI1 hseen hI hbl hsz1
            obtain ⟨W6, hw6⟩ : ∃ W, ((WI.alloc (.cells #[.int .i64 v.k, .int .i64 v.i, .string ⟨v.s.toArray⟩] 23)).alloc (.cells #[.string ⟨X.op.toArray⟩, .int .i64 X.v.k, .int .i64 X.v.i, .string ⟨X.v.s.toArray⟩, .string ⟨X.s.toArray⟩, .slice A5 X.l.length c5, .string ⟨Y.op.toArray⟩, .int .i64 Y.v.k, .int .i64 Y.v.i, .string ⟨Y.v.s.toArray⟩, .string ⟨Y.s.toArray⟩, .slice A6 Y.l.length c6] 26)).alloc (.cells #[.string ⟨op.toArray⟩, .int .i64 0, .int .i64 0, .string ⟨#[]⟩, .string ⟨#[]⟩, .slice (some ⟨WI.heap.size + 1, 0, none⟩) 2 2] 26) = W := ⟨_, rfl⟩
            have hb6 : Below WI.heap.size WI W6 := by rw [← hw6]; ((repeat' (first | with_reducible exact Below.refl _ _ | with_reducible assumption | with_reducible refine Below.drew ?_ | with_reducible refine below_drewN ?_ _ | with_reducible refine Below.setCell ?_ ?_ _ | with_reducible refine Below.alloc ?_ ?_ _ | with_reducible refine Below.trans ?_ (Below.mono (by assumption) ?_))) <;> (first | (simp; done) | (simp; omega) | omega))
            have kV : Blk W6 WI.heap.size 23 #[.int .i64 v.k, .int .i64 v.i, .string ⟨v.s.toArray⟩] := by rw [← hw6]; ((repeat' (first | with_reducible assumption | with_reducible refine Blk.drew ?_ | with_reducible refine Blk.drewN ?_ _ | with_reducible refine Blk.set3 ?_ _ _ _ | with_reducible refine Blk.far ?_ ?_ _ | ((with_reducible refine Blk.new' _ _ _ _ ?_) <;> (first | (simp; done) | (simp; omega) | omega) <;> done) | with_reducible refine Blk.alloc ?_ _ | with_reducible refine Blk3.drew ?_ | with_reducible refine Blk3.drewN ?_ _ | ((with_reducible refine Blk3.new' _ _ _ _ _ _ ?_) <;> (first | (simp; done) | (simp; omega) | omega) <;> done) | with_reducible refine Blk3.alloc ?_ _ | with_reducible refine Blk3.far ?_ ?_ _ | with_reducible refine Blk3.below ?_ (by assumption) ?_ | with_reducible refine Blk.below ?_ (by assumption) ?_)) <;> (first | (simp; done) | (simp; omega) | omega))
            have kL : Blk W6 (WI.heap.size + 1) 26 (X.cells A5 c5 ++ Y.cells A6 c6).toArray := show Blk W6 (WI.heap.size + 1) 26 #[.string ⟨X.op.toArray⟩, .int .i64 X.v.k, .int .i64 X.v.i, .string ⟨X.v.s.toArray⟩, .string ⟨X.s.toArray⟩, .slice A5 X.l.length c5, .string ⟨Y.op.toArray⟩, .int .i64 Y.v.k, .int .i64 Y.v.i, .string ⟨Y.v.s.toArray⟩, .string ⟨Y.s.toArray⟩, .slice A6 Y.l.length c6] by rw [← hw6]; ((repeat' (first | with_reducible assumption | with_reducible refine Blk.drew ?_ | with_reducible refine Blk.drewN ?_ _ | with_reducible refine Blk.set3 ?_ _ _ _ | with_reducible refine Blk.far ?_ ?_ _ | ((with_reducible refine Blk.new' _ _ _ _ ?_) <;> (first | (simp; done) | (simp; omega) | omega) <;> done) | with_reducible refine Blk.alloc ?_ _ | with_reducible refine Blk3.drew ?_ | with_reducible refine Blk3.drewN ?_ _ | ((with_reducible refine Blk3.new' _ _ _ _ _ _ ?_) <;> (first | (simp; done) | (simp; omega) | omega) <;> done) | with_reducible refine Blk3.alloc ?_ _ | with_reducible refine Blk3.far ?_ ?_ _ | with_reducible refine Blk3.below ?_ (by assumption) ?_ | with_reducible refine Blk.below ?_ (by assumption) ?_)) <;> (first | (simp; done) | (simp; omega) | omega))
            have kN : Blk W6 (WI.heap.size + 1 + 1) 26 ((Ex.mk op V.zero [] [X, Y]).cells (some ⟨WI.heap.size + 1, 0, none⟩) 2).toArray := show Blk W6 (WI.heap.size + 1 + 1) 26 #[.string ⟨op.toArray⟩, .int .i64 0, .int .i64 0, .string ⟨#[]⟩, .string ⟨#[]⟩, .slice (some ⟨WI.heap.size + 1, 0, none⟩) 2 2] by rw [← hw6]; ((repeat' (first | with_reducible assumption | with_reducible refine Blk.drew ?_ | with_reducible refine Blk.drewN ?_ _ | with_reducible refine Blk.set3 ?_ _ _ _ | with_reducible refine Blk.far ?_ ?_ _ | ((with_reducible refine Blk.new' _ _ _ _ ?_) <;> (first | (simp; done) | (simp; omega) | omega) <;> done) | with_reducible refine Blk.alloc ?_ _ | with_reducible refine Blk3.drew ?_ | with_reducible refine Blk3.drewN ?_ _ | ((with_reducible refine Blk3.new' _ _ _ _ _ _ ?_) <;> (first | (simp; done) | (simp; omega) | omega) <;> done) | with_reducible refine Blk3.alloc ?_ _ | with_reducible refine Blk3.far ?_ ?_ _ | with_reducible refine Blk3.below ?_ (by assumption) ?_ | with_reducible refine Blk.below ?_ (by assumption) ?_)) <;> (first | (simp; done) | (simp; omega) | omega))
            have hz6 := hb6.size
            have hb26 := hb21.trans (hb6.mono hb21.size)
            have hX6 : ExR (fun b => b < W6.heap.size) X A5 c5 W6 := HX2.out.keep fun b hb => ⟨Nat.lt_of_lt_of_le hb hb26.size, fun o => hb26.cell (p := ⟨b, o, none⟩) hb⟩
            have hY6 : ExR (fun b => b < W6.heap.size) Y A6 c6 W6 := HY2.out.keep fun b hb => ⟨Nat.lt_of_lt_of_le hb hb26.size, fun o => hb26.cell (p := ⟨b, o, none⟩) hb⟩
            have hN6 : ExR (fun b => b < W6.heap.size) (.mk op V.zero [] [X, Y]) (some ⟨WI.heap.size + 1, 0, none⟩) 2 W6 := ExR.two hX6 hY6 kL kL.lt HO.out.1
            have hC6 := (HC2.out.below hb26).more hb26.size
            have hV6 := (HV2.out.below hb26).more hb26.size
            obtain ⟨M, hM⟩ : ∃ M, mayX (.mk op V.zero [] [X, Y]) = M := ⟨_, rfl⟩
            have HMN : Hid (∀ Z : World, Below W6.heap.size W6 Z → Calls Tryz.prog 12 #[.agg #[.string ⟨op.toArray⟩, .int .i64 0, .int .i64 0, .string ⟨#[]⟩, .string ⟨#[]⟩, .slice (some ⟨WI.heap.size + 1, 0, none⟩) 2 2]] Z (Ret (.bool M) Z)) := fun Z h => by have := may_of hN6 (fun b h => h) Z h; rw [hM] at this; exact this
            have HVN : Hid (M = true → ∀ Z : World, Below W6.heap.size W6 Z → Calls Tryz.prog 14 #[.agg #[.string ⟨op.toArray⟩, .int .i64 0, .int .i64 0, .string ⟨#[]⟩, .string ⟨#[]⟩, .slice (some ⟨WI.heap.size + 1, 0, none⟩) 2 2], .slice A3 CO.length c3, .slice A4 RO.length c4] Z (Ret (.agg #[.int .i64 (v).k, .int .i64 (v).i, .string ⟨(v).s.toArray⟩]) Z)) := fun h1 Z h => by have := eval_of (c1 := c3) (c2 := c4) hN6 (fun b h => h) (by omega) (by omega) hC6 hV6 HRI.out Z h; rw [HO.out.2 (hM.trans h1)] at this; exact this
            have HW6 := Lib.hid hw6
            have l6 := kN.lt
            have lV := kV.lt
            have HSN : Hid (∀ w' : World, Below W6.heap.size W6 w' → ((w'.cell? ⟨WI.heap.size + 1 + 1, 0, none⟩ = some (.string ⟨op.toArray⟩) ∧ w'.cell? ⟨WI.heap.size + 1 + 1, 1, none⟩ = some (.int .i64 0) ∧ w'.cell? ⟨WI.heap.size + 1 + 1, 2, none⟩ = some (.int .i64 0) ∧ w'.cell? ⟨WI.heap.size + 1 + 1, 3, none⟩ = some (.string ⟨#[]⟩) ∧ w'.cell? ⟨WI.heap.size + 1 + 1, 4, none⟩ = some (.string ⟨#[]⟩) ∧ w'.cell? ⟨WI.heap.size + 1 + 1, 5, none⟩ = some (.slice (some ⟨WI.heap.size + 1, 0, none⟩) 2 2)) ∧ (w'.cell? ⟨WI.heap.size, 0, none⟩ = some (.int .i64 (v).k) ∧ w'.cell? ⟨WI.heap.size, 1, none⟩ = some (.int .i64 (v).i) ∧ w'.cell? ⟨WI.heap.size, 2, none⟩ = some (.string ⟨(v).s.toArray⟩)))) := fun w' h => ⟨(kN.below h l6).six, (kV.below h lV).three.1⟩
            have hb46 := hbr1'.trans (hb6.mono hbr1'.size)
            clear hw6 hX6 hY6 hN6 hC6 hV6 hM kL kV kN HO
            go_upto_region 10 with fail
            rw [HW6.out]
            clear HW6 x0 x1 x2 x3 x4 x5 y0 y1 y2 y3 y4 y5
            have hvv : veq ⟨v.k, v.i, v.s⟩ ⟨v.k, v.i, v.s⟩ = true := by simp [veq]
            have lb1 : b < WI.heap.size := by have := hbr1'.size; omega
            have lr1 : W4.heap.size < WI.heap.size := (Array.getElem?_eq_some_iff.1 HI1.out.1).1
            cases M
            · skip
              refine wp_region_held_drew (S := (fun w' => ((w'.cell? ⟨WI.heap.size + 1 + 1, 0, none⟩ = some (.string ⟨op.toArray⟩) ∧ w'.cell? ⟨WI.heap.size + 1 + 1, 1, none⟩ = some (.int .i64 0) ∧ w'.cell? ⟨WI.heap.size + 1 + 1, 2, none⟩ = some (.int .i64 0) ∧ w'.cell? ⟨WI.heap.size + 1 + 1, 3, none⟩ = some (.string ⟨#[]⟩) ∧ w'.cell? ⟨WI.heap.size + 1 + 1, 4, none⟩ = some (.string ⟨#[]⟩) ∧ w'.cell? ⟨WI.heap.size + 1 + 1, 5, none⟩ = some (.slice (some ⟨WI.heap.size + 1, 0, none⟩) 2 2)) ∧ (w'.cell? ⟨WI.heap.size, 0, none⟩ = some (.int .i64 (v).k) ∧ w'.cell? ⟨WI.heap.size, 1, none⟩ = some (.int .i64 (v).i) ∧ w'.cell? ⟨WI.heap.size, 2, none⟩ = some (.string ⟨(v).s.toArray⟩))))) (by kernel_rfl) ?_ (fun hHeld => ?_)
              · try dsimp only
                exact HSN.out _ (by ((repeat' (first | with_reducible exact Below.refl _ _ | with_reducible assumption | with_reducible refine Below.drew ?_ | with_reducible refine below_drewN ?_ _ | with_reducible refine Below.setCell ?_ ?_ _ | with_reducible refine Below.alloc ?_ ?_ _ | with_reducible refine Below.trans ?_ (Below.mono (by assumption) ?_))) <;> (first | (simp; done) | (simp; omega) | omega)))
              refine wpAnyH_take (i := 0) (v := ?_) rfl (by kernel_rfl) (by kernel_rfl) (by kernel_rfl) (fun _ _ _ h => h) (Or.inl ⟨by rfl, ?_⟩) (by assumption) ?_
              rotate_left
              · intro wq hSw
                try dsimp only at hSw
                go_simp
                try with_reducible rfl
              try simp only [Act.put, List.getElem_toArray, List.getElem_cons_zero, List.setIfInBounds_toArray, List.set_cons_zero, List.set_cons_succ]
              refine wpAnyH_ready (rs := [1]) (by kernel_rfl) (by simp) ?_
              refine AllReadyH.cons rfl (fun K hK => ?_) AllReadyH.nil
              go_simp
              refine (HMN.out _ (by ((repeat' (first | with_reducible exact Below.refl _ _ | with_reducible assumption | with_reducible refine Below.drew ?_ | with_reducible refine below_drewN ?_ _ | with_reducible refine Below.setCell ?_ ?_ _ | with_reducible refine Below.alloc ?_ ?_ _ | with_reducible refine Below.trans ?_ (Below.mono (by assumption) ?_))) <;> (first | (simp; done) | (simp; omega) | omega)))).mono ?_ <;> rintro e w1 ⟨rfl, hb1⟩ <;> have hz1 := hb1.size <;> (try simp at hz1)
              go_wp2_with fail
              refine hK.out _ _ ?_ (fun hHeld => ?_)
              · try dsimp only
                exact HSN.out _ (by ((repeat' (first | with_reducible exact Below.refl _ _ | with_reducible assumption | with_reducible refine Below.drew ?_ | with_reducible refine below_drewN ?_ _ | with_reducible refine Below.setCell ?_ ?_ _ | with_reducible refine Below.alloc ?_ ?_ _ | with_reducible refine Below.trans ?_ (Below.mono (by assumption) ?_))) <;> (first | (simp; done) | (simp; omega) | omega)))
              clear hK K
              try simp only [Act.put, List.getElem_toArray, List.getElem_cons_zero, List.getElem_cons_succ, List.setIfInBounds_toArray, List.set_cons_zero, List.set_cons_succ]
              refine wpAnyH_take (i := 2) (v := ?_) rfl (by kernel_rfl) (by kernel_rfl) (by kernel_rfl) (fun _ _ _ h => h) (Or.inl ⟨by rfl, ?_⟩) (by assumption) ?_
              rotate_left
              · intro wq hSw
                try dsimp only at hSw
                go_simp
                try with_reducible rfl
              try simp only [Act.put, List.getElem_toArray, List.getElem_cons_zero, List.getElem_cons_succ, List.setIfInBounds_toArray, List.set_cons_zero, List.set_cons_succ]
              refine wpAnyH_take (i := 3) (v := undef) rfl (by kernel_rfl) (by kernel_rfl) (by kernel_rfl) (fun _ _ _ h => h) (Or.inr ⟨by rfl, rfl⟩) (by assumption) ?_
              try simp only [Act.put, List.getElem_toArray, List.getElem_cons_zero, List.getElem_cons_succ, List.setIfInBounds_toArray, List.set_cons_zero, List.set_cons_succ]
              refine wpAnyH_take (i := 4) (v := undef) rfl (by kernel_rfl) (by kernel_rfl) (by kernel_rfl) (fun _ _ _ h => h) (Or.inr ⟨by rfl, rfl⟩) (by assumption) ?_
              try simp only [Act.put, List.getElem_toArray, List.getElem_cons_zero, List.getElem_cons_succ, List.setIfInBounds_toArray, List.set_cons_zero, List.set_cons_succ]
              refine wpAnyH_take (i := 5) (v := undef) rfl (by kernel_rfl) (by kernel_rfl) (by kernel_rfl) (fun _ _ _ h => h) (Or.inr ⟨by rfl, rfl⟩) (by assumption) ?_
              try simp only [Act.put, List.getElem_toArray, List.getElem_cons_zero, List.getElem_cons_succ, List.setIfInBounds_toArray, List.set_cons_zero, List.set_cons_succ]
              refine wpAnyH_take (i := 6) (v := undef) rfl (by kernel_rfl) (by kernel_rfl) (by kernel_rfl) (fun _ _ _ h => h) (Or.inr ⟨by rfl, rfl⟩) (by assumption) ?_
              try simp only [Act.put, List.getElem_toArray, List.getElem_cons_zero, List.getElem_cons_succ, List.setIfInBounds_toArray, List.set_cons_zero, List.set_cons_succ]
              refine wpAnyH_take (i := 7) (v := undef) rfl (by kernel_rfl) (by kernel_rfl) (by kernel_rfl) (fun _ _ _ h => h) (Or.inr ⟨by rfl, rfl⟩) (by assumption) ?_
              try simp only [Act.put, List.getElem_toArray, List.getElem_cons_zero, List.getElem_cons_succ, List.setIfInBounds_toArray, List.set_cons_zero, List.set_cons_succ]
              refine wpAnyH_take (i := 8) (v := undef) rfl (by kernel_rfl) (by kernel_rfl) (by kernel_rfl) (fun _ _ _ h => h) (Or.inr ⟨by rfl, rfl⟩) (by assumption) ?_
              try simp only [Act.put, List.getElem_toArray, List.getElem_cons_zero, List.getElem_cons_succ, List.setIfInBounds_toArray, List.set_cons_zero, List.set_cons_succ]
              refine wpAnyH_take (i := 9) (v := ?_) rfl (by kernel_rfl) (by kernel_rfl) (by kernel_rfl) (fun _ _ _ h => h) (Or.inl ⟨by rfl, ?_⟩) (by assumption) ?_
              rotate_left
              · intro wq hSw
                try dsimp only at hSw
                go_simp
                try with_reducible rfl
              try simp only [Act.put, List.getElem_toArray, List.getElem_cons_zero, List.getElem_cons_succ, List.setIfInBounds_toArray, List.set_cons_zero, List.set_cons_succ]
              refine wpAnyH_done (by kernel_rfl) ?_ _
              go_wp2_with fail
              go_roundw
              case rel => exact ⟨seen', HI1.out.below (B := WI.heap.size) (by ((repeat' (first | with_reducible exact Below.refl _ _ | with_reducible assumption | with_reducible refine Below.drew ?_ | with_reducible refine below_drewN ?_ _ | with_reducible refine Below.setCell ?_ ?_ _ | with_reducible refine Below.alloc ?_ ?_ _ | with_reducible refine Below.trans ?_ (Below.mono (by assumption) ?_))) <;> (first | (simp; done) | (simp; omega) | omega))) lb1 lr1, by ((repeat' (first | with_reducible exact Below.refl _ _ | with_reducible assumption | with_reducible refine Below.drew ?_ | with_reducible refine below_drewN ?_ _ | with_reducible refine Below.setCell ?_ ?_ _ | with_reducible refine Below.alloc ?_ ?_ _ | with_reducible refine Below.trans ?_ (Below.mono (by assumption) ?_))) <;> (first | (simp; done) | (simp; omega) | omega))⟩
              case measure => exact iter_less (w1 := WI) HI1.out (by ((repeat' (first | with_reducible exact Below.refl _ _ | with_reducible assumption | with_reducible refine Below.drew ?_ | with_reducible refine below_drewN ?_ _ | with_reducible refine Below.setCell ?_ ?_ _ | with_reducible refine Below.alloc ?_ ?_ _ | with_reducible refine Below.trans ?_ (Below.mono (by assumption) ?_))) <;> (first | (simp; done) | (simp; omega) | omega))) lb1 lr1 HSE.out HLT.out
            · have HVN' := Lib.hid (HVN.out rfl)
              refine wp_region_held_drew (S := (fun w' => ((w'.cell? ⟨WI.heap.size + 1 + 1, 0, none⟩ = some (.string ⟨op.toArray⟩) ∧ w'.cell? ⟨WI.heap.size + 1 + 1, 1, none⟩ = some (.int .i64 0) ∧ w'.cell? ⟨WI.heap.size + 1 + 1, 2, none⟩ = some (.int .i64 0) ∧ w'.cell? ⟨WI.heap.size + 1 + 1, 3, none⟩ = some (.string ⟨#[]⟩) ∧ w'.cell? ⟨WI.heap.size + 1 + 1, 4, none⟩ = some (.string ⟨#[]⟩) ∧ w'.cell? ⟨WI.heap.size + 1 + 1, 5, none⟩ = some (.slice (some ⟨WI.heap.size + 1, 0, none⟩) 2 2)) ∧ (w'.cell? ⟨WI.heap.size, 0, none⟩ = some (.int .i64 (v).k) ∧ w'.cell? ⟨WI.heap.size, 1, none⟩ = some (.int .i64 (v).i) ∧ w'.cell? ⟨WI.heap.size, 2, none⟩ = some (.string ⟨(v).s.toArray⟩))))) (by kernel_rfl) ?_ (fun hHeld => ?_)
              · try dsimp only
                exact HSN.out _ (by ((repeat' (first | with_reducible exact Below.refl _ _ | with_reducible assumption | with_reducible refine Below.drew ?_ | with_reducible refine below_drewN ?_ _ | with_reducible refine Below.setCell ?_ ?_ _ | with_reducible refine Below.alloc ?_ ?_ _ | with_reducible refine Below.trans ?_ (Below.mono (by assumption) ?_))) <;> (first | (simp; done) | (simp; omega) | omega)))
              refine wpAnyH_take (i := 0) (v := ?_) rfl (by kernel_rfl) (by kernel_rfl) (by kernel_rfl) (fun _ _ _ h => h) (Or.inl ⟨by rfl, ?_⟩) (by assumption) ?_
              rotate_left
              · intro wq hSw
                try dsimp only at hSw
                go_simp
                try with_reducible rfl
              try simp only [Act.put, List.getElem_toArray, List.getElem_cons_zero, List.setIfInBounds_toArray, List.set_cons_zero, List.set_cons_succ]
              refine wpAnyH_ready (rs := [1]) (by kernel_rfl) (by simp) ?_
              refine AllReadyH.cons rfl (fun K hK => ?_) AllReadyH.nil
              go_simp
              refine (HMN.out _ (by ((repeat' (first | with_reducible exact Below.refl _ _ | with_reducible assumption | with_reducible refine Below.drew ?_ | with_reducible refine below_drewN ?_ _ | with_reducible refine Below.setCell ?_ ?_ _ | with_reducible refine Below.alloc ?_ ?_ _ | with_reducible refine Below.trans ?_ (Below.mono (by assumption) ?_))) <;> (first | (simp; done) | (simp; omega) | omega)))).mono ?_ <;> rintro e w1 ⟨rfl, hb1⟩ <;> have hz1 := hb1.size <;> (try simp at hz1)
              go_wp2_with fail
              refine hK.out _ _ ?_ (fun hHeld => ?_)
              · try dsimp only
                exact HSN.out _ (by ((repeat' (first | with_reducible exact Below.refl _ _ | with_reducible assumption | with_reducible refine Below.drew ?_ | with_reducible refine below_drewN ?_ _ | with_reducible refine Below.setCell ?_ ?_ _ | with_reducible refine Below.alloc ?_ ?_ _ | with_reducible refine Below.trans ?_ (Below.mono (by assumption) ?_))) <;> (first | (simp; done) | (simp; omega) | omega)))
              clear hK K
              try simp only [Act.put, List.getElem_toArray, List.getElem_cons_zero, List.getElem_cons_succ, List.setIfInBounds_toArray, List.set_cons_zero, List.set_cons_succ]
              refine wpAnyH_take (i := 2) (v := ?_) rfl (by kernel_rfl) (by kernel_rfl) (by kernel_rfl) (fun _ _ _ h => h) (Or.inl ⟨by rfl, ?_⟩) (by assumption) ?_
              rotate_left
              · intro wq hSw
                try dsimp only at hSw
                go_simp
                try with_reducible rfl
              try simp only [Act.put, List.getElem_toArray, List.getElem_cons_zero, List.getElem_cons_succ, List.setIfInBounds_toArray, List.set_cons_zero, List.set_cons_succ]
              refine wpAnyH_take (i := 3) (v := ?_) rfl (by kernel_rfl) (by kernel_rfl) (by kernel_rfl) (fun _ _ _ h => h) (Or.inl ⟨by rfl, ?_⟩) (by assumption) ?_
              rotate_left
              · intro wq hSw
                try dsimp only at hSw
                go_simp
                try with_reducible rfl
              try simp only [Act.put, List.getElem_toArray, List.getElem_cons_zero, List.getElem_cons_succ, List.setIfInBounds_toArray, List.set_cons_zero, List.set_cons_succ]
              refine wpAnyH_take (i := 4) (v := ?_) rfl (by kernel_rfl) (by kernel_rfl) (by kernel_rfl) (fun _ _ _ h => h) (Or.inl ⟨by rfl, ?_⟩) (by assumption) ?_
              rotate_left
              · intro wq hSw
                try dsimp only at hSw
                go_simp
                try with_reducible rfl
              try simp only [Act.put, List.getElem_toArray, List.getElem_cons_zero, List.getElem_cons_succ, List.setIfInBounds_toArray, List.set_cons_zero, List.set_cons_succ]
              refine wpAnyH_take (i := 5) (v := ?_) rfl (by kernel_rfl) (by kernel_rfl) (by kernel_rfl) (fun _ _ _ h => h) (Or.inl ⟨by rfl, ?_⟩) (by assumption) ?_
              rotate_left
              · intro wq hSw
                try dsimp only at hSw
                go_simp
                try with_reducible rfl
              try simp only [Act.put, List.getElem_toArray, List.getElem_cons_zero, List.getElem_cons_succ, List.setIfInBounds_toArray, List.set_cons_zero, List.set_cons_succ]
              refine wpAnyH_take (i := 7) (v := ?_) rfl (by kernel_rfl) (by kernel_rfl) (by kernel_rfl) (fun _ _ _ h => h) (Or.inl ⟨by rfl, ?_⟩) (by assumption) ?_
              rotate_left
              · intro wq hSw
                try dsimp only at hSw
                go_simp
                try with_reducible rfl
              try simp only [Act.put, List.getElem_toArray, List.getElem_cons_zero, List.getElem_cons_succ, List.setIfInBounds_toArray, List.set_cons_zero, List.set_cons_succ]
              refine wpAnyH_ready (rs := [6]) (by kernel_rfl) (by simp) ?_
              refine AllReadyH.cons rfl (fun K hK => ?_) AllReadyH.nil
              go_simp
              refine (HVN'.out _ (by ((repeat' (first | with_reducible exact Below.refl _ _ | with_reducible assumption | with_reducible refine Below.drew ?_ | with_reducible refine below_drewN ?_ _ | with_reducible refine Below.setCell ?_ ?_ _ | with_reducible refine Below.alloc ?_ ?_ _ | with_reducible refine Below.trans ?_ (Below.mono (by assumption) ?_))) <;> (first | (simp; done) | (simp; omega) | omega)))).mono ?_ <;> rintro e w6 ⟨rfl, hb6⟩ <;> have hz6 := hb6.size <;> (try simp at hz6)
              go_wp2_with fail
              refine hK.out _ _ ?_ (fun hHeld => ?_)
              · try dsimp only
                exact HSN.out _ (by ((repeat' (first | with_reducible exact Below.refl _ _ | with_reducible assumption | with_reducible refine Below.drew ?_ | with_reducible refine below_drewN ?_ _ | with_reducible refine Below.setCell ?_ ?_ _ | with_reducible refine Below.alloc ?_ ?_ _ | with_reducible refine Below.trans ?_ (Below.mono (by assumption) ?_))) <;> (first | (simp; done) | (simp; omega) | omega)))
              clear hK K
              try simp only [Act.put, List.getElem_toArray, List.getElem_cons_zero, List.getElem_cons_succ, List.setIfInBounds_toArray, List.set_cons_zero, List.set_cons_succ]
              refine wpAnyH_take (i := 8) (v := ?_) rfl (by kernel_rfl) (by kernel_rfl) (by kernel_rfl) (fun _ _ _ h => h) (Or.inl ⟨by rfl, ?_⟩) (by assumption) ?_
              rotate_left
              · intro wq hSw
                try dsimp only at hSw
                go_simp
                try with_reducible rfl
              try simp only [Act.put, List.getElem_toArray, List.getElem_cons_zero, List.getElem_cons_succ, List.setIfInBounds_toArray, List.set_cons_zero, List.set_cons_succ]
              refine wpAnyH_take (i := 9) (v := ?_) rfl (by kernel_rfl) (by kernel_rfl) (by kernel_rfl) (fun _ _ _ h => h) (Or.inl ⟨by rfl, ?_⟩) (by assumption) ?_
              rotate_left
              · intro wq hSw
                try dsimp only at hSw
                go_simp
                try with_reducible rfl
              try simp only [Act.put, List.getElem_toArray, List.getElem_cons_zero, List.getElem_cons_succ, List.setIfInBounds_toArray, List.set_cons_zero, List.set_cons_succ]
              refine wpAnyH_done (by kernel_rfl) ?_ _
              go_wp2_with fail
              go_roundw
              case rel => exact ⟨seen', HI1.out.below (B := WI.heap.size) (by ((repeat' (first | with_reducible exact Below.refl _ _ | with_reducible assumption | with_reducible refine Below.drew ?_ | with_reducible refine below_drewN ?_ _ | with_reducible refine Below.setCell ?_ ?_ _ | with_reducible refine Below.alloc ?_ ?_ _ | with_reducible refine Below.trans ?_ (Below.mono (by assumption) ?_))) <;> (first | (simp; done) | (simp; omega) | omega))) lb1 lr1, by ((repeat' (first | with_reducible exact Below.refl _ _ | with_reducible assumption | with_reducible refine Below.drew ?_ | with_reducible refine below_drewN ?_ _ | with_reducible refine Below.setCell ?_ ?_ _ | with_reducible refine Below.alloc ?_ ?_ _ | with_reducible refine Below.trans ?_ (Below.mono (by assumption) ?_))) <;> (first | (simp; done) | (simp; omega) | omega))⟩
              case measure => exact iter_less (w1 := WI) HI1.out (by ((repeat' (first | with_reducible exact Below.refl _ _ | with_reducible assumption | with_reducible refine Below.drew ?_ | with_reducible refine below_drewN ?_ _ | with_reducible refine Below.setCell ?_ ?_ _ | with_reducible refine Below.alloc ?_ ?_ _ | with_reducible refine Below.trans ?_ (Below.mono (by assumption) ?_))) <;> (first | (simp; done) | (simp; omega) | omega))) lb1 lr1 HSE.out HLT.out

end Go.Proofs.YtdnkkkgneikhkaaGreatDoor
