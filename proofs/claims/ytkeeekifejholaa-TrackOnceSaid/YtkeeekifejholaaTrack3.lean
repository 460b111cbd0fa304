/- track.New and track.Mark as plain functions. Condition: slices that read as lists, no longer than a million. -/
import Derived.Test.YtkeeekifejholaaTrack2
import Derived.Laws.CopyOwn
import Derived.RegionTactic
namespace Go.Proofs.Ytkeeekifejholaa
open Go.RowKit

attribute [local go_sem] ByteArray.extract_mk ba_get
attribute [local go_sem ↓] Go.wp_at_zero Go.wp_at_succ run_eql_V run_neq_V run_nil_V

theorem infoU8 : (Try.prog.info? 5).map (fun i => (i.zero, i.size, i.bytes)) = some (some (.int .u8 0), 1, 1) := by kernel_rfl
theorem make_bytes (n : Nat) (hn : n ≤ 1000000) : ∃ C : List Value, C = List.replicate n (.int .u8 0) ∧ ∀ w : World, (Instr.makeSlice 45 (.int .i64 (n : Int)) (.int .i64 (n : Int))).run Try.prog w = .ok (.slice (some ⟨w.heap.size, 0, none⟩) n n) (w.alloc (.cells C.toArray 5)) := by
  obtain ⟨i0, hi0, zi0, zi1, zi2⟩ := info_parts infoU8
  refine ⟨_, rfl, fun w => ?_⟩
  have h := run_make (P := Try.prog) w 45 5 i0 (.int .u8 0) Try.underlying45 hi0 zi0 .i64 .i64 (n : Int) (n : Int) (by omega) (by omega) (by rw [zi2]; omega) (by omega)
  rw [h, zi1]
  have : madeCells (Value.int .u8 0).cells ((n : Int).toNat * 1) = (List.replicate n (Value.int .u8 0)).toArray := by
    rw [← toList_madeCells_one]; simp; rfl
  rw [this]
  simp

theorem BS.reads {w : World} {B : Nat} {A : Option Addr} {t : List UInt8} (h : BS w B A t) : 0 < (bcs t).length → ∃ ad, A = some ad ∧ ∀ j v, (bcs t)[j]? = some v → w.cell? (ad.add j) = some v := by
  intro hl
  obtain ⟨b, off, rfl, _, hr⟩ := h (by rwa [bcs_length] at hl)
  refine ⟨_, rfl, fun j v hv => ?_⟩
  simp only [bcs, List.getElem?_map, Option.map_eq_some_iff] at hv
  obtain ⟨x, hx, rfl⟩ := hv
  rw [add_mid]
  exact hr j x hx
theorem splice_all {α : Type} (C cs : List α) (h : C.length = cs.length) : splice C 0 cs = cs := by
  unfold splice
  rw [List.take_zero, List.nil_append, List.drop_of_length_le (by omega), List.append_nil]

/-- What a call leaves that answers a track, in memory of its own, and an error. -/
def RetT (u : List V) (t : List UInt8) (n : Int) (w : World) (e : Ending) (w' : World) : Prop :=
  ∃ A c B d, e = .returned (.tuple #[.agg #[.slice A u.length c, .slice B t.length d], .int .i64 n]) ∧ VF w' w.heap.size w'.heap.size A u ∧ BF w' w.heap.size w'.heap.size B t ∧ Below w.heap.size w w'
theorem VF.nil {w : World} {lo hi : Nat} {A : Option Addr} : VF w lo hi A [] := fun h => absurd h (by simp)
theorem BF.nil {w : World} {lo hi : Nat} {A : Option Addr} : BF w lo hi A [] := fun h => absurd h (by simp)
theorem VF.wide {w : World} {lo hi lo' hi' : Nat} {A : Option Addr} {l : List V} (h : VF w lo hi A l) (h1 : lo' ≤ lo) (h2 : hi ≤ hi') : VF w lo' hi' A l := fun hl => by
  obtain ⟨b, off, rfl, a1, a2, a3⟩ := h hl
  exact ⟨b, off, rfl, by omega, by omega, a3⟩

def setBit (t : List UInt8) (i : Nat) : List UInt8 := t.set (i / 8) (t.getD (i / 8) 0 ||| UInt8.ofNat (2 ^ (i % 8)))
def markF (u : List V) (t : List UInt8) (v : V) : (List V × List UInt8) × Int :=
  if (doneF u t v).2 = 0 then (if (doneF u t v).1 then (([], []), 7) else ((u, setBit t (posF u v).toNat), 0)) else (([], []), (doneF u t v).2)

theorem setBit_bcs (t : List UInt8) (n : Nat) (r : UInt8) (h : t[n / 8]? = some r) :
    (bcs t).toArray.setIfInBounds (n / 8) (.int .u8 (bits .or .u8 (r.toNat : Int) (2 ^ (n % 8) % 256))) = (bcs (setBit t n)).toArray := by
  have hm : n % 8 < 8 := Nat.mod_lt _ (by omega)
  have hp : 2 ^ (n % 8) < 256 := Nat.lt_of_le_of_lt (Nat.pow_le_pow_right (by omega) (show n % 8 ≤ 7 by omega)) (by decide)
  have e : ((2 : Int) ^ (n % 8) % 256) = ((2 ^ (n % 8) : Nat) : Int) := by
    have : ((2 ^ (n % 8) : Nat) : Int) = (2 : Int) ^ (n % 8) := by simp
    rw [← this]
    exact Int.emod_eq_of_lt (Int.natCast_nonneg _) (Int.ofNat_lt.2 hp)
  rw [e, bits_or_u8 _ _ (UInt8.toNat_lt r) hp]
  simp only [List.setIfInBounds_toArray, bcs, setBit]
  congr 1
  rw [List.map_set]
  congr 1
  have hg : t.getD (n / 8) 0 = r := by rw [List.getD_eq_getElem?_getD, h]; rfl
  rw [hg, UInt8.toNat_or, UInt8.toNat_ofNat', Nat.mod_eq_of_lt hp]

theorem done_ok {u : List V} {t : List UInt8} {v : V} (h : (doneF u t v).2 = 0) : chkB u t = true ∧ 0 ≤ posF u v := by
  unfold doneF at h
  cases hc : chkB u t <;> simp [hc] at h
  refine ⟨rfl, ?_⟩
  by_cases hp : posF u v < 0
  · simp [hp] at h
  · omega

theorem bs_blk {w : World} {g : Nat} {e : TypeId} {t : List UInt8} (h : Blk w g e (bcs t).toArray) : BS w w.heap.size (some ⟨g, 0, none⟩) t := fun _ => ⟨g, 0, rfl, h.lt, fun i c hc => by
  rw [h.cell]
  simp [bcs, hc]⟩

theorem bf_blk {w : World} {g lo : Nat} {e : TypeId} {t : List UInt8} (h : Blk w g e (bcs t).toArray) (hl : lo ≤ g) : BF w lo w.heap.size (some ⟨g, 0, none⟩) t := fun _ => ⟨g, 0, rfl, hl, h.lt, fun i c hc => by
  rw [h.cell]
  simp [bcs, hc]⟩

set_option maxRecDepth 100000 in
set_option maxHeartbeats 2000000 in
theorem mark_any (A B : Option Addr) (c d : Nat) (u : List V) (t : List UInt8) (v : V) (w : World) (hu : u.length ≤ 1000000) (ht : t.length ≤ 1000000) (hA : VS w w.heap.size A u) (hB : BS w w.heap.size B t) :
    Calls Try.prog 25 #[.agg #[.slice A u.length c, .slice B t.length d], .agg #[.int .i64 (v).k, .int .i64 (v).i, .string ⟨(v).s.toArray⟩]] w (RetT (markF u t v).1.1 (markF u t v).1.2 (markF u t v).2 w) := by
  obtain ⟨R, hR⟩ : ∃ R, markF u t v = R := ⟨_, rfl⟩
  rw [hR]
  obtain ⟨w0, hw0⟩ : ∃ w0, ((w.alloc (.cells #[.slice A u.length c, .slice B t.length d] 47)).alloc (.cells #[.int .i64 (v).k, .int .i64 (v).i, .string ⟨(v).s.toArray⟩] 31)).alloc (.cells #[.slice none 0 0, .slice none 0 0] 47) = w0 := ⟨_, rfl⟩
  have hb0 : Below w.heap.size w w0 := by rw [← hw0]; ((repeat' (first | with_reducible exact Below.refl _ _ | with_reducible assumption | with_reducible refine Below.drew ?_ | with_reducible refine below_drewN ?_ _ | with_reducible refine Below.setCell ?_ ?_ _ | with_reducible refine Below.alloc ?_ ?_ _ | with_reducible refine Below.trans ?_ (Below.mono (by assumption) ?_))) <;> (first | (simp; done) | (simp; omega) | omega))
  have hblk : Blk w0 w.heap.size 47 #[.slice A u.length c, .slice B t.length d] := by rw [← hw0]; ((repeat' (first | with_reducible assumption | with_reducible refine Blk.drew ?_ | with_reducible refine Blk.drewN ?_ _ | with_reducible refine Blk.set3 ?_ _ _ _ | with_reducible refine Blk.far ?_ ?_ _ | ((with_reducible refine Blk.new' _ _ _ _ ?_) <;> (first | (simp; done) | (simp; omega) | omega) <;> done) | with_reducible refine Blk.alloc ?_ _ | with_reducible refine Blk3.drew ?_ | with_reducible refine Blk3.drewN ?_ _ | ((with_reducible refine Blk3.new' _ _ _ _ _ _ ?_) <;> (first | (simp; done) | (simp; omega) | omega) <;> done) | with_reducible refine Blk3.alloc ?_ _ | with_reducible refine Blk3.far ?_ ?_ _ | with_reducible refine Blk3.below ?_ (by assumption) ?_ | with_reducible refine Blk.below ?_ (by assumption) ?_)) <;> (first | (simp; done) | (simp; omega) | omega))
  have hblk2 : Blk w0 (w.heap.size + 1) 31 #[.int .i64 (v).k, .int .i64 (v).i, .string ⟨(v).s.toArray⟩] := by rw [← hw0]; ((repeat' (first | with_reducible assumption | with_reducible refine Blk.drew ?_ | with_reducible refine Blk.drewN ?_ _ | with_reducible refine Blk.set3 ?_ _ _ _ | with_reducible refine Blk.far ?_ ?_ _ | ((with_reducible refine Blk.new' _ _ _ _ ?_) <;> (first | (simp; done) | (simp; omega) | omega) <;> done) | with_reducible refine Blk.alloc ?_ _ | with_reducible refine Blk3.drew ?_ | with_reducible refine Blk3.drewN ?_ _ | ((with_reducible refine Blk3.new' _ _ _ _ _ _ ?_) <;> (first | (simp; done) | (simp; omega) | omega) <;> done) | with_reducible refine Blk3.alloc ?_ _ | with_reducible refine Blk3.far ?_ ?_ _ | with_reducible refine Blk3.below ?_ (by assumption) ?_ | with_reducible refine Blk.below ?_ (by assumption) ?_)) <;> (first | (simp; done) | (simp; omega) | omega))
  have hblk3 : Blk w0 (w.heap.size + 1 + 1) 47 #[.slice none 0 0, .slice none 0 0] := by rw [← hw0]; ((repeat' (first | with_reducible assumption | with_reducible refine Blk.drew ?_ | with_reducible refine Blk.drewN ?_ _ | with_reducible refine Blk.set3 ?_ _ _ _ | with_reducible refine Blk.far ?_ ?_ _ | ((with_reducible refine Blk.new' _ _ _ _ ?_) <;> (first | (simp; done) | (simp; omega) | omega) <;> done) | with_reducible refine Blk.alloc ?_ _ | with_reducible refine Blk3.drew ?_ | with_reducible refine Blk3.drewN ?_ _ | ((with_reducible refine Blk3.new' _ _ _ _ _ _ ?_) <;> (first | (simp; done) | (simp; omega) | omega) <;> done) | with_reducible refine Blk3.alloc ?_ _ | with_reducible refine Blk3.far ?_ ?_ _ | with_reducible refine Blk3.below ?_ (by assumption) ?_ | with_reducible refine Blk.below ?_ (by assumption) ?_)) <;> (first | (simp; done) | (simp; omega) | omega))
  have hA0 := (hA.below hb0).more hb0.size
  have hB0 := (hB.below hb0).more hb0.size
  have HW := Lib.hid hw0
  have hs0 := hb0.size
  obtain ⟨s0, s1⟩ := hblk.two.1
  obtain ⟨⟨v0, v1, v2⟩, _⟩ := hblk2.three
  have b3 := hblk3.lt
  clear hw0
  go_enter Try.func25, Try.ntmps25
  go_upto_region 1 with fail
  rw [HW.out]
  go_wp2_with fail
  refine (done_any A B c d u t v w0 hu ht hA0 hB0).mono ?_
  rintro e w1 ⟨rfl, hb1⟩
  have hbw1 : Below w.heap.size w w1 := by ((repeat' (first | with_reducible exact Below.refl _ _ | with_reducible assumption | with_reducible refine Below.drew ?_ | with_reducible refine below_drewN ?_ _ | with_reducible refine Below.setCell ?_ ?_ _ | with_reducible refine Below.alloc ?_ ?_ _ | with_reducible refine Below.trans ?_ (Below.mono (by assumption) ?_))) <;> (first | (simp; done) | (simp; omega) | omega))
  have k1 := hblk.below hb1 hblk.lt
  have k2 := hblk2.below hb1 hblk2.lt
  have k3 := hblk3.below hb1 hblk3.lt
  obtain ⟨t0, t1⟩ := k1.two.1
  obtain ⟨⟨x0, x1, x2⟩, _⟩ := k2.three
  obtain ⟨⟨y0, y1⟩, z0, z1⟩ := k3.two
  have hz1 := hb1.size
  have q1 := k1.lt
  have q2 := k2.lt
  have q3 := k3.lt
  by_cases h0 : (doneF u t v).2 = 0
  · cases h7 : (doneF u t v).1
    · obtain ⟨hc, hp⟩ := done_ok h0
      have hlen := chk_len hc
      have hpl : posF u v < u.length := by have := (posFrom_lt v u 0).1; unfold posF; omega
      have HF : Hid (R = ((u, setBit t (posF u v).toNat), 0)) := by show _ = _; rw [← hR]; simp [markF, h0, h7]
      rw [h0]
      clear h0 h7 hR hc
      obtain ⟨n, hn⟩ : ∃ n : Nat, posF u v = n := ⟨(posF u v).toNat, by omega⟩
      have HN := Lib.hid hn
      rw [hn] at HF hp hpl
      clear hn
      have ht25 : t.length ≤ 25 := by omega
      have hn8 : n / 8 < t.length := by omega
      clear hlen
      obtain ⟨C, hC, hmk⟩ := make_bytes t.length ht
      have HC := Lib.hid hC
      clear hC
      have hB1 := (hB.below hbw1).more hbw1.size
      have hba : Below w1.heap.size w1 (w1.alloc (.cells C.toArray 5)) := (Below.refl _ _).alloc (Nat.le_refl _) _
      have hgC : (w1.alloc (.cells C.toArray 5)).heap[w1.heap.size]? = some (.cells C.toArray 5 (0, 0)) := heap_alloc_new _ _
      have hrd := Lib.hid (hB1.below hba).reads
      have hCl : C.length = (bcs t).length := by rw [HC.out, bcs_length]; simp
      have HCL := Lib.hid hCl
      clear hCl
      have hbl := bcs_length t
      have HBL := Lib.hid hbl
      clear hbl
      go_wp2_with (with_reducible refine wpList_copy_splice rfl (.tmp 26) (.tmp 28) 45 45 rfl 5 Try.underlying45 (by kernel_rfl) (some ⟨w1.heap.size, 0, none⟩) B t.length t.length t.length d rfl rfl w1.heap.size 0 C 5 hgC (bcs t) ?c1 ?c2 ?c3 (bcs_one t) w1.heap.size w1 hba (Nat.le_refl _) ?_)
      case c1 => rw [HBL.out]; exact (Nat.min_self _).symm
      case c2 => exact fun h => hrd.out h
      case c3 => rw [HCL.out]; omega
      intro w2 hblk4 hb2
      have hk4 : Blk w2 w1.heap.size 5 (bcs t).toArray := by
        have := hblk4.out
        rw [splice_all C (bcs t) HCL.out] at this
        exact this
      have hbw2 : Below w.heap.size w w2 := by ((repeat' (first | with_reducible exact Below.refl _ _ | with_reducible assumption | with_reducible refine Below.drew ?_ | with_reducible refine below_drewN ?_ _ | with_reducible refine Below.setCell ?_ ?_ _ | with_reducible refine Below.alloc ?_ ?_ _ | with_reducible refine Below.trans ?_ (Below.mono (by assumption) ?_))) <;> (first | (simp; done) | (simp; omega) | omega))
      have hA2 := (hA.below hbw2).more hbw2.size
      have hz2 := hb2.size
      clear hblk4 hgC hba hmk HCL HC hrd
      have m1 := k1.below hb2 q1
      have m2 := k2.below hb2 q2
      have m3 := k3.below hb2 q3
      obtain ⟨⟨e0, e1⟩, _⟩ := m1.two
      obtain ⟨⟨g0, g1, g2⟩, _⟩ := m2.three
      go_wp2_with fail
      refine (place_any A c (.slice B t.length d) u v w2 hu hA2 ⟨_, _, _, rfl⟩).mono ?_
      rintro e w3 ⟨rfl, hb3⟩
      rw [HN.out]
      have hbw3 : Below w.heap.size w w3 := by ((repeat' (first | with_reducible exact Below.refl _ _ | with_reducible assumption | with_reducible refine Below.drew ?_ | with_reducible refine below_drewN ?_ _ | with_reducible refine Below.setCell ?_ ?_ _ | with_reducible refine Below.alloc ?_ ?_ _ | with_reducible refine Below.trans ?_ (Below.mono (by assumption) ?_))) <;> (first | (simp; done) | (simp; omega) | omega))
      have hk5 := hk4.below hb3 hk4.lt
      have hz3 := hb3.size
      have n1 := m1.below hb3 m1.lt
      have n3 := m3.below hb3 m3.lt
      obtain ⟨⟨f0, f1⟩, _⟩ := n1.two
      obtain ⟨r, hr⟩ : ∃ r : UInt8, t[n / 8]? = some r := ⟨_, List.getElem?_eq_getElem hn8⟩
      have hcell : w3.cell? ⟨w1.heap.size, n / 8, none⟩ = some (.int .u8 (r.toNat : Int)) := by rw [hk5.cell]; simp [bcs, hr]
      have hfro := hk5.frozen (n / 8)
      have HRR := Lib.hid hr
      clear hr
      go_wp2_with fail
      go_region
      refine (show ∀ (K : Act → World → Prop) (Q : Exit → Act → World → Prop) (a : Act) (R : World → Prop) (x : World), R x → (∀ x', R x' → Exit.then K Q .normal a x') → Exit.then K Q .normal a x from fun _ _ _ _ _ h k => k _ h) _ _ _ (fun wx => Blk wx w.heap.size 47 #[.slice A u.length c, .slice B t.length d] ∧ Blk wx (w.heap.size + 1 + 1) 47 #[.slice none 0 0, .slice none 0 0] ∧ Blk wx w1.heap.size 5 (bcs (setBit t n)).toArray ∧ Below w.heap.size w wx) _ ⟨?_, ?_, ?_, ?_⟩ ?_
      · exact (n1.far (by show w.heap.size ≠ w1.heap.size; omega) _).drew
      · exact (n3.far (by show w.heap.size + 1 + 1 ≠ w1.heap.size; omega) _).drew
      · have := (hk5.set_ (n / 8) (.int .u8 (bits .or .u8 (r.toNat : Int) (2 ^ (n % 8) % 256)))).drew
        rw [setBit_bcs t n r HRR.out] at this
        exact this
      · ((repeat' (first | with_reducible exact Below.refl _ _ | with_reducible assumption | with_reducible refine Below.drew ?_ | with_reducible refine below_drewN ?_ _ | with_reducible refine Below.setCell ?_ ?_ _ | with_reducible refine Below.alloc ?_ ?_ _ | with_reducible refine Below.trans ?_ (Below.mono (by assumption) ?_))) <;> (first | (simp; done) | (simp; omega) | omega))
      rintro W4 ⟨p1, p3, p4, hbw4⟩
      have hs1' := hbw1.size
      clear f0 f1 n1 n3 hk5 hcell hfro hb3 hbw3 g0 g1 g2 e0 e1 m1 m2 m3 hk4 hb2 hbw2 k1 k2 k3 hb1 hbw1 x0 x1 x2 y0 y1 z0 z1 t0 t1 hblk hblk2 hblk3 s0 s1 v0 v1 v2 hA0 hB0 hA2 hB1
      have hA4 := (hA.below hbw4).more hbw4.size
      obtain ⟨⟨f0, f1⟩, _⟩ := p1.two
      have l4 := p4.lt
      go_wp2_with fail
      refine (clone_any A c u W4 hu hA4).mono ?_
      rintro e w5 ⟨A5, c5, rfl, hc5, hm5, hv5, hb5⟩
      have q3' := p3.below hb5 p3.lt
      have q4' := p4.below hb5 p4.lt
      obtain ⟨⟨y0, y1⟩, z0, z1⟩ := q3'.two
      have l5 := q3'.lt
      have hz5 := hb5.size
      have hsl : (setBit t n).length = t.length := by simp [setBit]
      have HSL := Lib.hid hsl
      clear hsl
      go_wp2_with fail
      refine bodyPost_ret (v := .tuple #[.agg #[.slice A5 u.length c5, .slice (some ⟨w1.heap.size, 0, none⟩) t.length t.length], .int .i64 0]) (by simp [results, Try.results25, go_sem, y0, y1]) rfl ?_
      rw [HF.out]
      refine ⟨A5, c5, some ⟨w1.heap.size, 0, none⟩, t.length, by show _ = Ending.returned (.tuple #[.agg #[.slice A5 u.length c5, .slice (some ⟨w1.heap.size, 0, none⟩) (setBit t n).length t.length], .int .i64 0]); rw [HSL.out], ?_, ?_, by ((repeat' (first | with_reducible exact Below.refl _ _ | with_reducible assumption | with_reducible refine Below.drew ?_ | with_reducible refine below_drewN ?_ _ | with_reducible refine Below.setCell ?_ ?_ _ | with_reducible refine Below.alloc ?_ ?_ _ | with_reducible refine Below.trans ?_ (Below.mono (by assumption) ?_))) <;> (first | (simp; done) | (simp; omega) | omega))⟩
      · have h1 : VF w5 W4.heap.size w5.heap.size A5 u := hv5
        have h2 : VF ((w5.setCell ⟨w.heap.size + 1 + 1, 0, none⟩ (.slice A5 u.length c5)).setCell ⟨w.heap.size + 1 + 1, 1, none⟩ (.slice (some ⟨w1.heap.size, 0, none⟩) t.length t.length)) W4.heap.size w5.heap.size A5 u := (h1.setCell (by simp; have := p3.lt; omega) _).setCell (by simp; have := p3.lt; omega) _
        exact h2.wide hbw4.size (by simp)
      · have h1 : Blk ((w5.setCell ⟨w.heap.size + 1 + 1, 0, none⟩ (.slice A5 u.length c5)).setCell ⟨w.heap.size + 1 + 1, 1, none⟩ (.slice (some ⟨w1.heap.size, 0, none⟩) t.length t.length)) w1.heap.size 5 (bcs (setBit t n)).toArray := (q4'.far (by simp; omega) _).far (by simp; omega) _
        exact bf_blk h1 hs1'
    · have HF : Hid (R = (([], []), 7)) := by show _ = _; rw [← hR]; simp [markF, h0, h7]
      rw [h0]
      clear h0 h7 hR
      go_wp2_with fail
      refine bodyPost_ret (v := .tuple #[.agg #[.slice none 0 0, .slice none 0 0], .int .i64 7]) (by simp [results, Try.results25, go_sem, y0, y1]) rfl ?_
      rw [HF.out]
      exact ⟨none, 0, none, 0, rfl, VF.nil, BF.nil, by ((repeat' (first | with_reducible exact Below.refl _ _ | with_reducible assumption | with_reducible refine Below.drew ?_ | with_reducible refine below_drewN ?_ _ | with_reducible refine Below.setCell ?_ ?_ _ | with_reducible refine Below.alloc ?_ ?_ _ | with_reducible refine Below.trans ?_ (Below.mono (by assumption) ?_))) <;> (first | (simp; done) | (simp; omega) | omega))⟩
  · have HF : Hid (R = (([], []), (doneF u t v).2)) := by show _ = _; rw [← hR]; simp [markF, h0]
    have hne : ((doneF u t v).2 != 0) = true := by simpa using h0
    generalize (doneF u t v).2 = n at *
    clear hR h0
    go_wp2_with fail
    refine bodyPost_ret (v := .tuple #[.agg #[.slice none 0 0, .slice none 0 0], .int .i64 n]) (by simp [results, Try.results25, go_sem, y0, y1]) rfl ?_
    rw [HF.out]
    exact ⟨none, 0, none, 0, rfl, VF.nil, BF.nil, by ((repeat' (first | with_reducible exact Below.refl _ _ | with_reducible assumption | with_reducible refine Below.drew ?_ | with_reducible refine below_drewN ?_ _ | with_reducible refine Below.setCell ?_ ?_ _ | with_reducible refine Below.alloc ?_ ?_ _ | with_reducible refine Below.trans ?_ (Below.mono (by assumption) ?_))) <;> (first | (simp; done) | (simp; omega) | omega))⟩

def newF (u : List V) : (List V × List UInt8) × Int := if risesB u then ((u, List.replicate ((u.length + 7) / 8) 0), 0) else (([], []), 1)

set_option maxRecDepth 100000 in
set_option maxHeartbeats 2000000 in
theorem new_any (A : Option Addr) (c : Nat) (u : List V) (w : World) (hu : u.length ≤ 1000000) (hA : VS w w.heap.size A u) :
    Calls Try.prog 22 #[.slice A u.length c] w (RetT (newF u).1.1 (newF u).1.2 (newF u).2 w) := by
  obtain ⟨R, hR⟩ : ∃ R, newF u = R := ⟨_, rfl⟩
  rw [hR]
  obtain ⟨w0, hw0⟩ : ∃ w0, w.alloc (.cells #[.slice none 0 0, .slice none 0 0] 47) = w0 := ⟨_, rfl⟩
  have hb0 : Below w.heap.size w w0 := by rw [← hw0]; ((repeat' (first | with_reducible exact Below.refl _ _ | with_reducible assumption | with_reducible refine Below.drew ?_ | with_reducible refine below_drewN ?_ _ | with_reducible refine Below.setCell ?_ ?_ _ | with_reducible refine Below.alloc ?_ ?_ _ | with_reducible refine Below.trans ?_ (Below.mono (by assumption) ?_))) <;> (first | (simp; done) | (simp; omega) | omega))
  have hblk3 : Blk w0 w.heap.size 47 #[.slice none 0 0, .slice none 0 0] := by rw [← hw0]; ((repeat' (first | with_reducible assumption | with_reducible refine Blk.drew ?_ | with_reducible refine Blk.drewN ?_ _ | with_reducible refine Blk.set3 ?_ _ _ _ | with_reducible refine Blk.far ?_ ?_ _ | ((with_reducible refine Blk.new' _ _ _ _ ?_) <;> (first | (simp; done) | (simp; omega) | omega) <;> done) | with_reducible refine Blk.alloc ?_ _ | with_reducible refine Blk3.drew ?_ | with_reducible refine Blk3.drewN ?_ _ | ((with_reducible refine Blk3.new' _ _ _ _ _ _ ?_) <;> (first | (simp; done) | (simp; omega) | omega) <;> done) | with_reducible refine Blk3.alloc ?_ _ | with_reducible refine Blk3.far ?_ ?_ _ | with_reducible refine Blk3.below ?_ (by assumption) ?_ | with_reducible refine Blk.below ?_ (by assumption) ?_)) <;> (first | (simp; done) | (simp; omega) | omega))
  have hA0 := (hA.below hb0).more hb0.size
  have HW := Lib.hid hw0
  have hs0 := hb0.size
  have b3 := hblk3.lt
  clear hw0
  have hu' : u.length ≤ maxLen := by unfold maxLen; omega
  go_enter Try.func22, Try.ntmps22
  go_upto_region 1 with fail
  rw [HW.out]
  go_wp2_with fail
  refine (rises_any A c u w0 hu' hA0).mono ?_
  rintro e w1 ⟨rfl, hb1⟩
  have hbw1 : Below w.heap.size w w1 := by ((repeat' (first | with_reducible exact Below.refl _ _ | with_reducible assumption | with_reducible refine Below.drew ?_ | with_reducible refine below_drewN ?_ _ | with_reducible refine Below.setCell ?_ ?_ _ | with_reducible refine Below.alloc ?_ ?_ _ | with_reducible refine Below.trans ?_ (Below.mono (by assumption) ?_))) <;> (first | (simp; done) | (simp; omega) | omega))
  have k3 := hblk3.below hb1 hblk3.lt
  obtain ⟨⟨y0, y1⟩, z0, z1⟩ := k3.two
  have hz1 := hb1.size
  have q3 := k3.lt
  have hA1 := (hA.below hbw1).more hbw1.size
  cases hr : risesB u
  · have HF : Hid (R = (([], []), 1)) := by show _ = _; rw [← hR]; simp [newF, hr]
    clear hr hR
    go_wp2_with fail
    refine bodyPost_ret (v := .tuple #[.agg #[.slice none 0 0, .slice none 0 0], .int .i64 1]) (by simp [results, Try.results22, go_sem, y0, y1]) rfl ?_
    rw [HF.out]
    exact ⟨none, 0, none, 0, rfl, VF.nil, BF.nil, by ((repeat' (first | with_reducible exact Below.refl _ _ | with_reducible assumption | with_reducible refine Below.drew ?_ | with_reducible refine below_drewN ?_ _ | with_reducible refine Below.setCell ?_ ?_ _ | with_reducible refine Below.alloc ?_ ?_ _ | with_reducible refine Below.trans ?_ (Below.mono (by assumption) ?_))) <;> (first | (simp; done) | (simp; omega) | omega))⟩
  · have h200 : u.length ≤ 200 := by simp [risesB] at hr; exact hr.1
    have HF : Hid (R = ((u, List.replicate ((u.length + 7) / 8) 0), 0)) := by show _ = _; rw [← hR]; simp [newF, hr]
    clear hr hR
    go_wp2_with fail
    refine (clone_any A c u w1 hu hA1).mono ?_
    rintro e w5 ⟨A5, c5, rfl, hc5, hm5, hv5, hb5⟩
    have k5 := k3.below hb5 q3
    have hz5 := hb5.size
    go_wp2_with fail
    refine (octets_any _ _ (by omega)).mono ?_
    rintro e w9 ⟨rfl, rfl⟩
    obtain ⟨C, hC, hmk⟩ := make_bytes ((u.length + 7) / 8) (by omega)
    have HC := Lib.hid hC
    clear hC
    obtain ⟨w6, hw6⟩ : ∃ w6, w5.alloc (.cells C.toArray 5) = w6 := ⟨_, rfl⟩
    have hb6 : Below w5.heap.size w5 w6 := by rw [← hw6]; ((repeat' (first | with_reducible exact Below.refl _ _ | with_reducible assumption | with_reducible refine Below.drew ?_ | with_reducible refine below_drewN ?_ _ | with_reducible refine Below.setCell ?_ ?_ _ | with_reducible refine Below.alloc ?_ ?_ _ | with_reducible refine Below.trans ?_ (Below.mono (by assumption) ?_))) <;> (first | (simp; done) | (simp; omega) | omega))
    have hk6 : Blk w6 w5.heap.size 5 (bcs (List.replicate ((u.length + 7) / 8) 0)).toArray := by
      rw [← hw6]
      have : C = bcs (List.replicate ((u.length + 7) / 8) 0) := by rw [HC.out]; simp [bcs]
      rw [← this]
      exact Blk.new _ _ _
    have HW6 := Lib.hid hw6
    have k6 := k5.below hb6 k5.lt
    obtain ⟨⟨y0, y1⟩, z0, z1⟩ := k6.two
    have l6 := k6.lt
    have l5 := k5.lt
    have hz6 := hb6.size
    have mk2 : ∀ x : World, (Instr.makeSlice 45 (.int .i64 (((u.length : Int) + 7) / 8)) (.int .i64 (((u.length : Int) + 7) / 8))).run Try.prog x = .ok (.slice (some ⟨x.heap.size, 0, none⟩) ((u.length + 7) / 8) ((u.length + 7) / 8)) (x.alloc (.cells C.toArray 5)) := fun x => by
      have := hmk x
      rw [show (((u.length + 7) / 8 : Nat) : Int) = ((u.length : Int) + 7) / 8 by omega] at this
      exact this
    clear hmk HC
    go_wp2_with fail
    refine bodyPost_ret (v := .tuple #[.agg #[.slice A5 u.length c5, .slice (some ⟨w5.heap.size, 0, none⟩) ((u.length + 7) / 8) ((u.length + 7) / 8)], .int .i64 0]) (by simp [results, Try.results22, go_sem, y0, y1]) rfl ?_
    rw [HF.out]
    refine ⟨A5, c5, some ⟨w5.heap.size, 0, none⟩, (u.length + 7) / 8, by simp, ?_, ?_, by ((repeat' (first | with_reducible exact Below.refl _ _ | with_reducible assumption | with_reducible refine Below.drew ?_ | with_reducible refine below_drewN ?_ _ | with_reducible refine Below.setCell ?_ ?_ _ | with_reducible refine Below.alloc ?_ ?_ _ | with_reducible refine Below.trans ?_ (Below.mono (by assumption) ?_))) <;> (first | (simp; done) | (simp; omega) | omega))⟩
    · have h1 : VF w6 w1.heap.size w5.heap.size A5 u := hv5.below hb6 (Nat.le_refl _)
      have h2 : VF ((w6.setCell ⟨w.heap.size, 0, none⟩ (.slice A5 u.length c5)).setCell ⟨w.heap.size, 1, none⟩ (.slice (some ⟨w5.heap.size, 0, none⟩) ((u.length + 7) / 8) ((u.length + 7) / 8))) w1.heap.size w5.heap.size A5 u := (h1.setCell (by simp; omega) _).setCell (by simp; omega) _
      exact h2.wide hbw1.size (by simp; omega)
    · have h1 : Blk ((w6.setCell ⟨w.heap.size, 0, none⟩ (.slice A5 u.length c5)).setCell ⟨w.heap.size, 1, none⟩ (.slice (some ⟨w5.heap.size, 0, none⟩) ((u.length + 7) / 8) ((u.length + 7) / 8))) w5.heap.size 5 (bcs (List.replicate ((u.length + 7) / 8) 0)).toArray := (hk6.far (by simp; omega) _).far (by simp; omega) _
      exact bf_blk h1 (Nat.le_trans hbw1.size hz5)

end Go.Proofs.Ytkeeekifejholaa
