/- rel.Where as a plain function. Condition: a table with rows that reads as one, an expression that reads as a tree, of the sizes that are looked at. -/
import Derived.Test.YtdhjogmkhbpcgaaGreatRowsM
import Derived.Test.YtdhjogmkhbpcgaaGreatExpr5M
import Derived.Test.YtdhjogmkhbpcgaaGreatExprM
import Derived.Deep.CutBlock
import Derived.Deep.DeepCutAuto
namespace Go.Proofs.YtdhjogmkhbpcgaaGreat
open Go.RowKit

attribute [local go_sem] ByteArray.extract_mk ba_get ba_append
attribute [local go_sem ↓] Go.wp_at_zero Go.wp_at_succ run_eql_V run_neq_V

theorem infoR : (Tryz.prog.info? 43).map (fun i => (i.zero, i.size, i.bytes)) = some (some (.slice none 0 0), 1, 24) := by kernel_rfl
theorem fold_take {α : Type} {L M N : List α} {r : α} (h : L = M) (k : N = M ++ [r]) : Hid (L ++ [r] = N) := by subst h; exact k.symm
theorem filter_no {α : Type} {p : α → Bool} {M : List α} {r : α} (h : p r = false) : Hid (M.filter p = (M ++ [r]).filter p) := by show _ = _; rw [List.filter_append]; simp [h]
theorem filter_yes {α : Type} {p : α → Bool} {M : List α} {r : α} (h : p r = true) : Hid (M.filter p ++ [r] = (M ++ [r]).filter p) := by show _ = _; rw [List.filter_append]; simp [h]
/-- Is an expression TRUE over a row? -/
def trueB (cols : List Col) (e : Ex) (r : List V) : Bool := veq (evalX cols r e) (bV true)
/-- The rows over which a condition is TRUE, and the error's number. -/
def whereX (cols : List Col) (rows : List (List V)) (e : Ex) : List (List V) × Int :=
  if e.op = [] then (rows, 0)
  else if ¬ (typeX cols e).2 = 0 then ([], (typeX cols e).2)
  else if ¬ (typeX cols e).1 = 3 ∧ ¬ (typeX cols e).1 = 0 then ([], 5)
  else (rows.filter (trueB cols e), 0)
/-- Rows, and an error's number, that a call answers. -/
def RetRows (R : List (List V) × Int) (w : World) (en : Ending) (w' : World) : Prop :=
  ∃ A c, en = .returned (.tuple #[.slice A R.1.length c, .int .i64 R.2]) ∧ R.1.length ≤ c ∧ c ≤ maxLen ∧ RQ R.1 A (fun b => w.heap.size ≤ b ∧ b < w'.heap.size) w' ∧ Below w.heap.size w w'
/-- The sizes of a table with rows that are looked at. -/
def Rl.small (x : Rl) : Prop := x.t.cols.length ≤ 1000 ∧ x.rows.length ≤ 1000 ∧ ∀ r ∈ x.rows, r.length ≤ 1000 ∧ ∀ v ∈ r, fitI v.i

set_option maxRecDepth 100000 in
set_option maxHeartbeats 8000000 in
theorem where_any (x : Rl) (p : RlP) (e : Ex) (A : Option Addr) (c n : Nat) (w : World) (hs : x.small) (hQ : RlQ 1000 x p (Old w.heap.size) w) (hf : e.fit 1000) (hE : ExS 1000 n w w.heap.size A e.l) :
    Calls Tryz.prog 10 #[.agg (x.cells p).toArray, .agg (e.cells A c).toArray] w (RetRows (whereX x.t.cols x.rows e) w) := by
  obtain ⟨i0, hi0, zi0, zi1, zi2⟩ := info_parts infoR
  obtain ⟨hcl, hxl, hrw⟩ := hs
  obtain ⟨⟨⟨a1, k1⟩, ⟨a2, k2⟩, ⟨a3, k3⟩, ⟨a4, k4⟩⟩, ⟨a5, k5⟩⟩ := p
  obtain ⟨⟨hC, _, _, _⟩, hR⟩ := hQ
  obtain ⟨w0, hw0⟩ : ∃ w0, (w.alloc (.cells (x.cells ⟨⟨⟨a1, k1⟩, ⟨a2, k2⟩, ⟨a3, k3⟩, ⟨a4, k4⟩⟩, ⟨a5, k5⟩⟩).toArray 34)).alloc (.cells (e.cells A c).toArray 29) = w0 := ⟨_, rfl⟩
  have kx0 : Blk w0 w.heap.size 34 (x.cells ⟨⟨⟨a1, k1⟩, ⟨a2, k2⟩, ⟨a3, k3⟩, ⟨a4, k4⟩⟩, ⟨a5, k5⟩⟩).toArray := by rw [← hw0]; exact (Blk.new _ _ _).alloc _
  have ke0 : Blk w0 (w.heap.size + 1) 29 (e.cells A c).toArray := by rw [← hw0]; exact Blk.new' _ _ _ _ (by simp)
  have hb0 : Below w.heap.size w w0 := by rw [← hw0]; exact bl
  have hz0 := hb0.size
  have HC0 : Hid (CQ x.t.cols a1 (Old w0.heap.size) w0) := hC.keep (old_keep hb0 hz0)
  have HR0 : Hid (RQ x.rows a5 (Old w0.heap.size) w0) := hR.keep (old_keep hb0 hz0)
  have HE0 := Lib.hid ((hE.below n hb0).more hz0 n)
  have HRW := Lib.hid hrw
  have HF := Lib.hid hf
  have HW := Lib.hid hw0
  obtain ⟨R, hR⟩ : ∃ R, whereX x.t.cols x.rows e = R := ⟨_, rfl⟩
  rw [hR]
  have HRE := Lib.hid hR
  clear hw0 hC hR hE hrw hf
  have q1 : w0.cell? ⟨w.heap.size, 1, none⟩ = some (.slice a1 x.t.cols.length k1) := kx0.cell 1
  have q11 : w0.cell? ⟨w.heap.size, 11, none⟩ = some (.slice a5 x.rows.length k5) := kx0.cell 11
  obtain ⟨y0, y1, y2, y3, y4, y5⟩ := ke0.six
  go_enter Tryz.func10, Tryz.ntmps10
  go_upto_region 1 with fail
  rw [HW.out]
  clear HW
  by_cases ho : e.op = []
  · have HF0 : Hid (R = (x.rows, 0)) := by show _ = _; rw [← HRE.out]; unfold whereX; rw [if_pos ho]
    have o1 : (e.op == []) = true := by rw [ho]; rfl
    have o2 : e.op.isEmpty = true := by rw [ho]; rfl
    clear HRE
    go_wp2_with fail
    go_loopw [8, 38] (fun s8' i wr => ∃ (s8 : Value) (j N : Nat) (L : List (List V)), s8 = s8' ∧ j ≤ x.rows.length ∧ N ≤ j ∧ i = .int .i64 j ∧ Hid (N = L.length) ∧ Hid (L = x.rows.take j) ∧ RowsOwn wr 43 w0.heap.size s8 L ∧ Below w0.heap.size w0 wr) (fun _ i _ => x.rows.length - (intOf i).toNat)
    case atStart => exact ⟨_, 0, 0, [], rfl, by omega, by omega, rfl, rfl, rfl, RowsOwn.nil, Below.refl _ _⟩
    case round =>
      obtain ⟨s8, j, N, L, rfl, hj, hN, rfl, HN, HL, hro, hb0r⟩ := hrel
      obtain ⟨W, rfl⟩ : ∃ W, W = wr := ⟨_, rfl⟩
      have hzr := hb0r.size
      have kX := kx0.below hb0r kx0.lt
      have kE := ke0.below hb0r ke0.lt
      have lX := kX.lt
      have lE := kE.lt
      clear q1 q11 y0 y1 y2 y3 y4 y5
      have q1 : W.cell? ⟨w.heap.size, 1, none⟩ = some (.slice a1 x.t.cols.length k1) := kX.cell 1
      obtain ⟨y0, y1, y2, y3, y4, y5⟩ := kE.six
      by_cases hlt : j < x.rows.length
      · skip
        have hRr := HR0.out.keep (old_keep hb0r hzr)
        obtain ⟨b, off, r, A', c', rfl, hbB, hv, cr, hWr⟩ := hRr.at_ hlt
        obtain ⟨hrl, hri⟩ := HRW.out r (List.mem_of_getElem? hv)
        have hrl1 : r.length ≤ 1000000 := by omega
        have i1 : (0 : Int) ≤ (j : Int) := by omega
        have i2 : (j : Int) < (x.rows.length : Int) := by omega
        have HRI := Lib.hid hri
        have HWr := Lib.hid hWr
        have HV := Lib.hid hv
        have htk : x.rows.take (j + 1) = x.rows.take j ++ [r] := by rw [List.take_add_one, hv]; rfl
        have HTK := Lib.hid htk
        obtain ⟨recs, hrl0, hown, hrec⟩ := hro
        have HOL := Lib.hid hown.lt
        rw [← HN.out] at hown
        have HRL := Lib.hid hrl0
        have HREC := Lib.hid hrec
        have hbl : b < W.heap.size := hbB
        clear hRr hv hri hWr hrec hrl0 htk
        go_wp2_with fail
        have hWr1 : VS W W.heap.size A' r := (HWr.out.keep (old_keep (Below.refl W.heap.size W) ((Below.refl W.heap.size W)).size)).s (fun b h => h)
        refine (clone_any A' c' r W hrl1 hWr1).mono ?_
        rintro en w5 ⟨A5, c5, rfl, hc51, hc52, hV5, hb5⟩
        have hz5 := hb5.size
        have hwn : ∀ b, W.heap.size ≤ b → b < w5.heap.size → (w0.heap.size ≤ b ∧ b < w5.heap.size ∧ some b ≠ s8.ownBlock) := fun b h1 h2 => ⟨by have := ((Below.refl W.heap.size W)).size; omega, h2, fun e1 => by have := (HOL.out b e1.symm).2; have := ((Below.refl W.heap.size W)).size; omega⟩
        have hWQ : WQ r A5 (fun b => w0.heap.size ≤ b ∧ b < w5.heap.size ∧ some b ≠ s8.ownBlock) w5 := WQ.ofF hV5 hwn
        have h05 : Below W.heap.size W w5 := ((Below.refl W.heap.size W)).trans (hb5.mono ((Below.refl W.heap.size W)).size)
        have hown5 := own_below hown h05
        have hrec5 : ∀ q ∈ recs, WQ q.r q.s.a (fun b => w0.heap.size ≤ b ∧ b < w5.heap.size ∧ some b ≠ s8.ownBlock) w5 := fun q hq => (HREC.out q hq).keep fun b hb' => ⟨⟨hb'.1, Nat.lt_of_lt_of_le hb'.2.1 h05.size, hb'.2.2⟩, fun o => h05.cell (p := ⟨b, o, none⟩) hb'.2.1⟩
        have HWQ := Lib.hid hWQ
        have HREC5 := Lib.hid hrec5
        have hnews : ∀ j x, ([.slice A5 r.length c5] : List Value)[j]? = some x → (w5.alloc (.cells #[.slice A5 r.length c5] 43)).cell? ((⟨w5.heap.size, 0, none⟩ : Addr).add j) = some x := World.news_of_block (cs := #[.slice A5 r.length c5]) (t := 43) (fr := (0, 0)) (heap_alloc_new w5 _)
        have hown6 : (w5.alloc (.cells #[.slice A5 r.length c5] 43)).ownsRow w0.heap.size 43 1 s8 N (recs.map Rc.cell) := hown5.alloc _
        have HNE := Lib.hid hnews
        have HOW6 := Lib.hid hown6
        have hbx := hb0r.trans (h05.mono hb0r.size)
        have hzx := hbx.size
        clear hWQ hrec5 hnews hown6 hown5 hwn hV5
        go_wp2_with (at_builtin; refine wpList_append_lies _ rfl (.tmp 55) (.tmp 58) 32 rfl w0.heap.size 43 i0 _ 1 24 Tryz.underlying32 hi0 zi0 zi1 zi2 rfl (by decide) s8 N (recs.map Rc.cell) rfl HOW6.out ⟨w5.heap.size, 0, none⟩ 1 1 [.slice A5 r.length c5] rfl rfl HNE.out (by simp [Value.oneCell']) (by decide) (by unfold maxLen; omega) (by omega) (by simp; omega) (w5.heap.size + 1) (by simp) ?_)
        intro g cap w8 ho8 hg8 hor8 hl8
        have hb56 : Below w5.heap.size w5 (w5.alloc (.cells #[.slice A5 r.length c5] 43)) := by exact bl
        have hst := RowsOwn.step (l := L) HRL.out HREC5.out HWQ.out HN.out ho8 hb56 hg8 (by simpa using hor8)
        have hb8 : Below w0.heap.size w0 w8 := (hbx.alloc hzx _).grown hg8 (by simp; omega) (fun k hk => (HOL.out k hk).1)
        have HST := Lib.hid hst
        clear hst ho8 hg8 hor8 hl8 HNE HOW6
        go_wp2_with fail
        go_roundw
        case rel =>
          refine ⟨_, j + 1, N + 1, L ++ [r], rfl, by omega, by omega, by go_num, ?_, ?_, HST.out, hb8⟩
          · rw [List.length_append, ← HN.out]; rfl
          · exact fold_take HL.out HTK.out
        case measure => simp [intOf]; omega
      · obtain rfl : j = x.rows.length := by omega
        obtain ⟨A8, c8, rfl, hc81, hc82, hRQ⟩ := hro.out
        have hLL : L = x.rows := by rw [HL.out, List.take_length]
        have HRQ := Lib.hid hRQ
        have HLL := Lib.hid hLL
        have hbw := hb0.trans (hb0r.mono hz0)
        have b0 : ¬ ((x.rows.length : Int) < (x.rows.length : Int)) := by omega
        clear hRQ hLL HL HN hro
        go_wp2_with fail
        go_ret2
        rw [HF0.out]
        refine ⟨A8, c8, by rw [HLL.out]; rfl, by rw [← HLL.out]; exact hc81, hc82, ?_, hbw⟩
        rw [← HLL.out]
        exact HRQ.out.keep fun b hb => ⟨⟨by omega, hb.2⟩, fun _ => rfl⟩
  · have o1 : (e.op == []) = false := by rw [beq_eq_false_iff_ne]; exact ho
    have o2 : e.op.isEmpty = false := by cases he : e.op with | nil => exact absurd he ho | cons _ _ => rfl
    have HO := Lib.hid ho
    have hty := typeX_any n e A c a1 k1 x.t.cols w0 HF.out HE0.out (by omega) (HC0.out.s (fun b h => h))
    obtain ⟨T, hT⟩ : ∃ T, typeX x.t.cols e = T := ⟨_, rfl⟩
    rw [hT] at hty
    have HTY := Lib.hid hty
    obtain ⟨ty, er⟩ := T
    have hre := HRE.out
    unfold whereX at hre
    rw [if_neg ho, hT] at hre
    simp only at hre
    have HRE2 := Lib.hid hre
    clear hty hre ho hT HRE
    dsimp only [Ex.cells] at HTY
    by_cases her : er = 0
    · subst her
      by_cases hbad : ¬ ty = 3 ∧ ¬ ty = 0
      · have HF0 : Hid (R = ([], 5)) := by show _ = _; rw [← HRE2.out, if_neg (by simp), if_pos hbad]
        obtain ⟨hb3, hb00⟩ := hbad
        have t3 : (ty != 3) = true := by simpa using hb3
        have t0 : (ty != 0) = true := by simpa using hb00
        clear HRE2
        go_wp2_with fail
        refine HTY.out.mono ?_
        rintro en w1 ⟨rfl, hb1⟩
        go_wp2_with fail
        go_ret2
        rw [HF0.out]
        exact ⟨none, 0, rfl, Nat.le_refl _, Nat.zero_le _, RQ.nil, hb0.trans (hb1.mono hz0)⟩
      · have HF0 : Hid (R = (x.rows.filter (trueB x.t.cols e), 0)) := by show _ = _; rw [← HRE2.out, if_neg (by simp), if_neg hbad]
        have ht : ty = 3 ∨ ty = 0 := by omega
        clear HRE2 hbad
        rcases ht with rfl | rfl
        all_goals
          go_wp2_with fail
          refine HTY.out.mono ?_
          rintro en wt ⟨rfl, hbt⟩
          have hbwt := hb0.trans (hbt.mono hz0)
          have kxt := kx0.below hbt kx0.lt
          have ket := ke0.below hbt ke0.lt
          have q11t : wt.cell? ⟨w.heap.size, 11, none⟩ = some (.slice a5 x.rows.length k5) := kxt.cell 11
          have hzt := hbt.size
          go_wp2_with fail
          go_loopw [8, 38] (fun s8' i wr => ∃ (s8 : Value) (j N : Nat) (L : List (List V)), s8 = s8' ∧ j ≤ x.rows.length ∧ N ≤ j ∧ i = .int .i64 j ∧ Hid (N = L.length) ∧ Hid (L = (x.rows.take j).filter (trueB x.t.cols e)) ∧ RowsOwn wr 43 w0.heap.size s8 L ∧ Below w0.heap.size w0 wr) (fun _ i _ => x.rows.length - (intOf i).toNat)
          case atStart => exact ⟨_, 0, 0, [], rfl, by omega, by omega, rfl, rfl, rfl, RowsOwn.nil, hbt⟩
          case round =>
            obtain ⟨s8, j, N, L, rfl, hj, hN, rfl, HN, HL, hro, hb0r⟩ := hrel
            obtain ⟨W, rfl⟩ : ∃ W, W = wr := ⟨_, rfl⟩
            have hzr := hb0r.size
            have kX := kx0.below hb0r kx0.lt
            have kE := ke0.below hb0r ke0.lt
            have lX := kX.lt
            have lE := kE.lt
            clear q1 q11 y0 y1 y2 y3 y4 y5
            have q1 : W.cell? ⟨w.heap.size, 1, none⟩ = some (.slice a1 x.t.cols.length k1) := kX.cell 1
            obtain ⟨y0, y1, y2, y3, y4, y5⟩ := kE.six
            by_cases hlt : j < x.rows.length
            · skip
              have hRr := HR0.out.keep (old_keep hb0r hzr)
              obtain ⟨b, off, r, A', c', rfl, hbB, hv, cr, hWr⟩ := hRr.at_ hlt
              obtain ⟨hrl, hri⟩ := HRW.out r (List.mem_of_getElem? hv)
              have hrl1 : r.length ≤ 1000000 := by omega
              have i1 : (0 : Int) ≤ (j : Int) := by omega
              have i2 : (j : Int) < (x.rows.length : Int) := by omega
              have HRI := Lib.hid hri
              have HWr := Lib.hid hWr
              have HV := Lib.hid hv
              have htk : x.rows.take (j + 1) = x.rows.take j ++ [r] := by rw [List.take_add_one, hv]; rfl
              have HTK := Lib.hid htk
              obtain ⟨recs, hrl0, hown, hrec⟩ := hro
              have HOL := Lib.hid hown.lt
              rw [← HN.out] at hown
              have HRL := Lib.hid hrl0
              have HREC := Lib.hid hrec
              have hbl : b < W.heap.size := hbB
              clear hRr hv hri hWr hrec hrl0 htk
              have hev : ∀ Z : World, Below W.heap.size W Z → Calls Tryz.prog 24 #[.agg (e.cells A c).toArray, .slice a1 x.t.cols.length k1, .slice A' r.length c'] Z (Ret (.agg #[.int .i64 (evalX x.t.cols r e).k, .int .i64 (evalX x.t.cols r e).i, .string ⟨(evalX x.t.cols r e).s.toArray⟩]) Z) := fun Z h => by
                rw [← eval_X n x.t.cols r e (ExS.hgt n HE0.out)]
                have h0 := hb0r.trans (h.mono hzr)
                exact evalX_any n e A c a1 A' k1 c' x.t.cols r Z HF.out ((HE0.out.below n h0).more h0.size n) (by omega) (by omega) ((HC0.out.keep (old_keep h0 h0.size)).s (fun b h => h)) ((HWr.out.keep (old_keep h h.size)).s (fun b h => h)) HRI.out
              obtain ⟨va, hva⟩ : ∃ v, evalX x.t.cols r e = v := ⟨_, rfl⟩
              rw [hva] at hev
              have HEV := Lib.hid hev
              dsimp only [Ex.cells] at HEV
              obtain ⟨B, hB⟩ : ∃ B, trueB x.t.cols e r = B := ⟨_, rfl⟩
              have hB2 : veq ⟨va.k, va.i, va.s⟩ ⟨3, 1, []⟩ = B := by rw [← hB, ← hva]; rfl
              have HB := Lib.hid hB
              clear hev hva hB
              cases B
              · go_wp2_with fail
                refine (HEV.out W (Below.refl _ _)).mono ?_
                rintro en we ⟨rfl, hbe⟩
                have hb0e := hb0r.trans (hbe.mono hzr)
                have hroe := (show RowsOwn W 43 w0.heap.size s8 L from ⟨recs, HRL.out, by rw [← HN.out]; exact hown, HREC.out⟩).below hbe
                have HRO := Lib.hid hroe
                clear hroe
                go_wp2_with fail
                go_roundw
                case rel => exact ⟨_, j + 1, N, L, rfl, by omega, by omega, by go_num, HN, by rw [HL.out, HTK.out]; exact filter_no HB.out, HRO.out, hb0e⟩
                case measure => simp [intOf]; omega
              · go_wp2_with fail
                refine (HEV.out W (Below.refl _ _)).mono ?_
                rintro en we ⟨rfl, hbe⟩
                have hze := hbe.size
                go_wp2_with fail
                have hWr1 : VS we we.heap.size A' r := (HWr.out.keep (old_keep hbe (hbe).size)).s (fun b h => h)
                refine (clone_any A' c' r we hrl1 hWr1).mono ?_
                rintro en w5 ⟨A5, c5, rfl, hc51, hc52, hV5, hb5⟩
                have hz5 := hb5.size
                have hwn : ∀ b, we.heap.size ≤ b → b < w5.heap.size → (w0.heap.size ≤ b ∧ b < w5.heap.size ∧ some b ≠ s8.ownBlock) := fun b h1 h2 => ⟨by have := (hbe).size; omega, h2, fun e1 => by have := (HOL.out b e1.symm).2; have := (hbe).size; omega⟩
                have hWQ : WQ r A5 (fun b => w0.heap.size ≤ b ∧ b < w5.heap.size ∧ some b ≠ s8.ownBlock) w5 := WQ.ofF hV5 hwn
                have h05 : Below W.heap.size W w5 := (hbe).trans (hb5.mono (hbe).size)
                have hown5 := own_below hown h05
                have hrec5 : ∀ q ∈ recs, WQ q.r q.s.a (fun b => w0.heap.size ≤ b ∧ b < w5.heap.size ∧ some b ≠ s8.ownBlock) w5 := fun q hq => (HREC.out q hq).keep fun b hb' => ⟨⟨hb'.1, Nat.lt_of_lt_of_le hb'.2.1 h05.size, hb'.2.2⟩, fun o => h05.cell (p := ⟨b, o, none⟩) hb'.2.1⟩
                have HWQ := Lib.hid hWQ
                have HREC5 := Lib.hid hrec5
                have hnews : ∀ j x, ([.slice A5 r.length c5] : List Value)[j]? = some x → (w5.alloc (.cells #[.slice A5 r.length c5] 43)).cell? ((⟨w5.heap.size, 0, none⟩ : Addr).add j) = some x := World.news_of_block (cs := #[.slice A5 r.length c5]) (t := 43) (fr := (0, 0)) (heap_alloc_new w5 _)
                have hown6 : (w5.alloc (.cells #[.slice A5 r.length c5] 43)).ownsRow w0.heap.size 43 1 s8 N (recs.map Rc.cell) := hown5.alloc _
                have HNE := Lib.hid hnews
                have HOW6 := Lib.hid hown6
                have hbx := hb0r.trans (h05.mono hb0r.size)
                have hzx := hbx.size
                clear hWQ hrec5 hnews hown6 hown5 hwn hV5
                go_wp2_with (at_builtin; refine wpList_append_lies _ rfl (.tmp 55) (.tmp 58) 32 rfl w0.heap.size 43 i0 _ 1 24 Tryz.underlying32 hi0 zi0 zi1 zi2 rfl (by decide) s8 N (recs.map Rc.cell) rfl HOW6.out ⟨w5.heap.size, 0, none⟩ 1 1 [.slice A5 r.length c5] rfl rfl HNE.out (by simp [Value.oneCell']) (by decide) (by unfold maxLen; omega) (by omega) (by simp; omega) (w5.heap.size + 1) (by simp) ?_)
                intro g cap w8 ho8 hg8 hor8 hl8
                have hb56 : Below w5.heap.size w5 (w5.alloc (.cells #[.slice A5 r.length c5] 43)) := by exact bl
                have hst := RowsOwn.step (l := L) HRL.out HREC5.out HWQ.out HN.out ho8 hb56 hg8 (by simpa using hor8)
                have hb8 : Below w0.heap.size w0 w8 := (hbx.alloc hzx _).grown hg8 (by simp; omega) (fun k hk => (HOL.out k hk).1)
                have HST := Lib.hid hst
                clear hst ho8 hg8 hor8 hl8 HNE HOW6
                go_wp2_with fail
                go_roundw
                case rel =>
                  refine ⟨_, j + 1, N + 1, L ++ [r], rfl, by omega, by omega, by go_num, ?_, ?_, HST.out, hb8⟩
                  · rw [List.length_append, ← HN.out]; rfl
                  · rw [HL.out, HTK.out]<;>exact filter_yes HB.out
                case measure => simp [intOf]; omega
            · obtain rfl : j = x.rows.length := by omega
              obtain ⟨A8, c8, rfl, hc81, hc82, hRQ⟩ := hro.out
              have hLL : L = x.rows.filter (trueB x.t.cols e) := by rw [HL.out, List.take_length]
              have HRQ := Lib.hid hRQ
              have HLL := Lib.hid hLL
              have hbw := hb0.trans (hb0r.mono hz0)
              have b0 : ¬ ((x.rows.length : Int) < (x.rows.length : Int)) := by omega
              clear hRQ hLL HL HN hro
              go_wp2_with fail
              go_ret2
              rw [HF0.out]
              refine ⟨A8, c8, by rw [HLL.out]; rfl, by rw [← HLL.out]; exact hc81, hc82, ?_, hbw⟩
              rw [← HLL.out]
              exact HRQ.out.keep fun b hb => ⟨⟨by omega, hb.2⟩, fun _ => rfl⟩
    · have HF0 : Hid (R = ([], er)) := by show _ = _; rw [← HRE2.out, if_pos her]
      have e1 : (er == 0) = false := by simpa using her
      have e2 : (er != 0) = true := by simpa using her
      clear HRE2
      go_wp2_with fail
      refine HTY.out.mono ?_
      rintro en w1 ⟨rfl, hb1⟩
      go_wp2_with fail
      go_ret2
      rw [HF0.out]
      exact ⟨none, 0, rfl, Nat.le_refl _, Nat.zero_le _, RQ.nil, hb0.trans (hb1.mono hz0)⟩

end Go.Proofs.YtdhjogmkhbpcgaaGreat
