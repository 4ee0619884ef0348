import Derived.Test.YtolfamfgoafhlaaK1
import Derived.Test.YtolfamfgoafhlaaP13
import Derived.Test.YtolfamfgoafhlaaR1
namespace Go.Proofs.Ytolfamfgoafhlaa.M
open Go.RowKit Go.Proofs.YtolfamfgoafhlaaW.PrintWords Go.Proofs.YtolfamfgoafhlaaW.PrintLast Go.Proofs.YtolfamfgoafhlaaW.PrintMore
open Go.Proofs.Ytolfamfgoafhlaa.P Go.Proofs.Ytolfamfgoafhlaa.L

/-! ### a machine of eaters, one behind the other -/
def eatAt (s : ByteArray) (i : Nat) : S33 := ⟨1, [⟨bt s (i : Int), bt s (i : Int), (i : Int) + 1⟩], [], 0, 0⟩
def lineTo (s : ByteArray) (k : Nat) : List S33 := (List.range k).map (eatAt s)
def lineL (s : ByteArray) : List S33 := lineTo s s.size ++ [⟨4, [], [], 0, 0⟩]
theorem lineTo_length (s : ByteArray) (k : Nat) : (lineTo s k).length = k := by simp [lineTo]
theorem lineL_length (s : ByteArray) : (lineL s).length = s.size + 1 := by simp [lineL, lineTo_length]
theorem line_ev (s : ByteArray) (hs : s.size ≤ 1000) : Ev (fun k => phalaropelaw16_line.f k s) (lineL s) := by
  have loop : ∀ d i, i ≤ s.size → s.size - i = d → Ev (fun k => phalaropelaw16_line.l0 k s (lineTo s i) i) (lineL s) := by
    intro d
    induction d with
    | zero =>
      intro i hi hd
      obtain rfl : i = s.size := by omega
      refine Ev.step (f := fun _ => some (lineL s)) (fun k => ?_) (Ev.now _)
      simp only [phalaropelaw16_line.l0]
      rw [if_neg (by omega), if_pos (by rw [lineTo_length]; omega)]
      rfl
    | succ d ih =>
      intro i hi hd
      refine Ev.step (fun k => ?_) (ih (i + 1) (by omega) (by omega))
      simp only [phalaropelaw16_line.l0]
      rw [if_pos (by omega), if_pos (by omega), if_pos (by rw [lineTo_length]; omega), wrap1 i (by omega)]
      congr 1
      simp [lineTo, List.range_succ, eatAt]
  exact Ev.congr (fun _ => rfl) (loop _ 0 (Nat.zero_le _) rfl)
theorem bt_range (s : ByteArray) (i : Int) : 0 ≤ bt s i ∧ bt s i ≤ 255 := by
  unfold bt
  split
  · rename_i h
    have := (s[i.toNat]'h).toNat_lt
    omega
  · decide
theorem line_fit (s : ByteArray) : Fit (lineL s) := by
  intro x hx
  simp only [lineL, lineTo, List.mem_append, List.mem_map, List.mem_singleton] at hx
  rcases hx with ⟨i, _, rfl⟩ | rfl
  · refine ⟨by simp [eatAt], by simp [eatAt], fun e he => ?_⟩
    simp [eatAt] at he
    subst he
    exact bt_range s _
  · exact ⟨by simp, by simp, fun e he => by simp at he⟩

def LN (s : ByteArray) : List Nd := N33 (lineL s)
theorem LN_length (s : ByteArray) : (LN s).length = s.size + 1 := by rw [LN, N33_length, lineL_length]
theorem nd_line (s : ByteArray) (i : Nat) (h : i < s.size) : nd (LN s) i = ⟨1, [⟨bt s i, bt s i, (i : Int) + 1⟩], [], 0, 0⟩ := by
  unfold LN
  rw [nd_N33 _ _ (by rw [lineL_length]; simp; omega)]
  simp only [rd_T33, lineL, Int.toNat_natCast, List.getD_eq_getElem?_getD]
  rw [List.getElem?_append_left (by rw [lineTo_length]; exact h)]
  simp [lineTo, h, eatAt, nn, ed]
theorem nd_end (s : ByteArray) : nd (LN s) s.size = ⟨4, [], [], 0, 0⟩ := by
  unfold LN
  rw [nd_N33 _ _ (by rw [lineL_length]; simp)]
  simp only [rd_T33, lineL, Int.toNat_natCast, List.getD_eq_getElem?_getD]
  rw [List.getElem?_append_right (by rw [lineTo_length]; omega)]
  simp [lineTo_length, nn]
theorem line_may (s : ByteArray) (hs : s.size ≤ 1000) : mayB (LN s) = true := by
  rw [may_iff, LN_length]
  refine ⟨by omega, by omega, fun i hi => ?_⟩
  rcases Nat.lt_or_ge i s.size with h | h
  · rw [nd_line s i h]
    have h1 := bt_range s i
    simp [nodeOk, edgesOk, edgeOk, apart]
    omega
  · obtain rfl : i = s.size := by omega
    rw [nd_end]
    simp [nodeOk]
theorem line_succ (s : ByteArray) (i : Nat) (h : i ≤ s.size) : succ (nd (LN s) i) = [] := by
  rcases Nat.lt_or_ge i s.size with h1 | h1
  · rw [nd_line s i h1]; rfl
  · obtain rfl : i = s.size := by omega
    rw [nd_end]; rfl
theorem line_reach (s : ByteArray) (a j : Int) : L.Reach (LN s) a j ↔ j = a ∧ valid (LN s) a := by
  constructor
  · intro h
    have hv := h.valid_a
    induction h with
    | refl _ => exact ⟨rfl, hv⟩
    | @step b c _ hc ih =>
      obtain ⟨rfl, -⟩ := ih
      obtain ⟨b', rfl⟩ := Int.eq_ofNat_of_zero_le hv.1
      rw [line_succ s b' (by have := hv.2; rw [LN_length] at this; omega)] at hc
      cases hc
  · rintro ⟨rfl, hv⟩
    exact .refl hv
theorem line_close1 (s : ByteArray) (hs : s.size ≤ 1000) (i : Nat) (h : i ≤ s.size) : closeL (LN s) [(i : Int)] = [(i : Int)] := by
  refine (closeL_ext (line_may s hs) (by simp) (fun j => ?_)).symm
  simp only [List.mem_singleton, exists_eq_left, line_reach]
  exact ⟨fun e => ⟨e, by unfold valid; rw [LN_length]; omega⟩, fun e => e.1⟩
theorem line_close0 (s : ByteArray) (hs : s.size ≤ 1000) : closeL (LN s) [] = [] :=
  (closeL_ext (line_may s hs) (by simp) (fun j => by simp)).symm

open Classical in
theorem line_run (s t : ByteArray) (hs : s.size ≤ 1000) (k : Nat) : runL (LN s) (upto t k) = if k ≤ s.size ∧ ∀ j : Nat, j < k → bt s j = bt t j then [(k : Int)] else [] := by
  induction k with
  | zero =>
    rw [if_pos ⟨Nat.zero_le _, fun j hj => absurd hj (by omega)⟩]
    exact line_close1 s hs 0 (Nat.zero_le _)
  | succ k ih =>
    rw [run_snoc, ih]
    by_cases h : k ≤ s.size ∧ ∀ j : Nat, j < k → bt s j = bt t j
    · rw [if_pos h]
      have hv : decide (valid (LN s) (k : Int)) = true := decide_eq_true (by unfold valid; rw [LN_length]; omega)
      have hx : nexts (LN s) [(k : Int)] (bt t k) = if k < s.size ∧ bt s k = bt t k then [(k : Int) + 1] else [] := by
        unfold nexts
        rw [List.filter_cons_of_pos (by exact hv)]
        simp only [List.filter_nil, List.flatMap_cons, List.flatMap_nil, List.append_nil]
        rcases Nat.lt_or_ge k s.size with h1 | h1
        · rw [nd_line s k h1]
          by_cases h2 : bt s k = bt t k
          · rw [if_pos ⟨h1, h2⟩]
            simp [Ed.has, h2]
          · rw [if_neg (fun h3 => h2 h3.2)]
            simp [Ed.has]
            omega
        · obtain rfl : k = s.size := by omega
          rw [nd_end, if_neg (fun h3 => absurd h3.1 (by omega))]
          rfl
      unfold stepL
      rw [hx]
      by_cases h2 : k < s.size ∧ bt s k = bt t k
      · rw [if_pos h2, if_pos]
        · exact line_close1 s hs (k + 1) (by omega)
        · refine ⟨by omega, fun j hj => ?_⟩
          rcases Nat.lt_or_ge j k with h3 | h3
          · exact h.2 j h3
          · obtain rfl : j = k := by omega
            exact h2.2
      · rw [if_neg h2, if_neg (fun h3 => h2 ⟨by omega, h3.2 k (by omega)⟩)]
        exact line_close0 s hs
    · rw [if_neg h, if_neg (fun h3 => h ⟨by omega, fun j hj => h3.2 j (by omega)⟩)]
      unfold stepL nexts
      exact line_close0 s hs
theorem bytes_ext {s t : ByteArray} (hl : s.size = t.size) (h : ∀ j : Nat, j < t.size → bt s j = bt t j) : s = t := by
  refine ByteArray.ext (Array.ext hl fun i h1 h2 => ?_)
  have h3 := h i h2
  have e1 := bt_at s (i : Int) (by simpa using h1)
  have e2 := bt_at t (i : Int) (by simpa using h2)
  simp only [Int.toNat_natCast] at e1 e2
  rw [← e1, ← e2] at h3
  exact UInt8.toNat_inj.1 (Int.natCast_inj.1 h3)
theorem line_accepts (s t : ByteArray) (hs : s.size ≤ 1000) : acceptsB (LN s) (bts t) = decide (s = t) := by
  unfold acceptsB bts
  rw [line_run s t hs]
  by_cases h : s = t
  · subst h
    rw [if_pos ⟨Nat.le_refl _, fun _ _ => rfl⟩, decide_eq_true rfl]
    simp only [endedB, List.any_cons, List.any_nil, Bool.or_false]
    rw [nd_end]
    rfl
  · rw [decide_eq_false h]
    split
    · rename_i h1
      simp only [endedB, List.any_cons, List.any_nil, Bool.or_false]
      rcases Nat.lt_or_ge t.size s.size with h2 | h2
      · rw [nd_line s t.size h2]; rfl
      · exact absurd (bytes_ext (by omega) h1.2) h
    · rfl
end Go.Proofs.Ytolfamfgoafhlaa.M
