-- Printed by the kit's print.py (called by this session's own script mkprint.sh) out of the translation: chosen functions in one namespace. Lean checks it.
import Derived.Test.YtolfamfgoafhlaaP0
import Derived.Test.YtolfamfgoafhlaaP6
import Derived.Test.YtolfamfgoafhlaaP7
namespace Go.Proofs.Ytolfamfgoafhlaa.P
open Go.RowKit Go.Proofs.YtolfamfgoafhlaaW.PrintWords Go.Proofs.YtolfamfgoafhlaaW.PrintLast Go.Proofs.YtolfamfgoafhlaaW.PrintMore
attribute [local go_sem] max2_int min2_int max_two min_two max_three min_three max_four min_four   -- for this text's walks alone
set_option linter.unusedVariables false
set_option linter.unusedSimpArgs false

/-! ### phalaroperef16_Ended: function 60 -/
def phalaroperef16_Ended.l0 : Nat → List (S46) → List Int → Int → Option (Bool)
  | 0, _, _, _ => none
  | k + 1, x0, x1, x5 => if x5 < (x1.length : Int) then (if 0 ≤ x5 then (if 0 ≤ (rd x1 x5) then (if (rd x1 x5) < (x0.length : Int) then (if ((rd_T46 x0 (rd x1 x5)).f0) = 4 then (some true) else (phalaroperef16_Ended.l0 k x0 x1 (wrap64 (x5 + 1)))) else (none)) else (none)) else (none)) else (some false)
def phalaroperef16_Ended.f (k : Nat) (l0 : List (S46)) (l1 : List Int) : Option (Bool) := phalaroperef16_Ended.l0 k l0 l1 0
theorem phalaroperef16_Ended.mono_l : ∀ k, (∀ y0 y1 y2, LeO (phalaroperef16_Ended.l0 k y0 y1 y2) (phalaroperef16_Ended.l0 (k + 1) y0 y1 y2))
  | 0 => fun _ _ _ r h => by simp [phalaroperef16_Ended.l0] at h
  | k + 1 => by
    have ih0 := phalaroperef16_Ended.mono_l k
    · intro y0 y1 y2
      unfold phalaroperef16_Ended.l0
      repeat' first
      | (with_reducible exact ih0 _ _ _)
      | (with_reducible exact LeO.refl _)
      | (with_reducible exact LeO.none _)
      | (with_reducible refine LeO.ite ?_ ?_)
      | (with_reducible refine LeO.bind ?_ (fun _ => ?_))
      | exact ih0 _ _ _
      | exact LeO.none _
      | refine LeO.ite ?_ ?_
      | refine LeO.bind ?_ (fun _ => ?_)
theorem phalaroperef16_Ended.mono : ∀ a0 a1 k, LeO (phalaroperef16_Ended.f k a0 a1) (phalaroperef16_Ended.f (k + 1) a0 a1) := by
  intro a0 a1 k
  have ih0 := phalaroperef16_Ended.mono_l k
  unfold phalaroperef16_Ended.f
  repeat' first
      | (with_reducible exact ih0 _ _ _)
      | (with_reducible exact LeO.refl _)
      | (with_reducible exact LeO.none _)
      | (with_reducible refine LeO.ite ?_ ?_)
      | (with_reducible refine LeO.bind ?_ (fun _ => ?_))
      | exact ih0 _ _ _
      | exact LeO.none _
      | refine LeO.ite ?_ ?_
      | refine LeO.bind ?_ (fun _ => ?_)
set_option maxHeartbeats 8000000 in
set_option maxRecDepth 100000 in
theorem phalaroperef16_Ended.calls (k : Nat) (A0 : Option Addr) (c0 : Nat) (l0 : List (S46)) (A1 : Option Addr) (c1 : Nat) (l1 : List Int) (r : Bool) (w : World) (hr0 : Kd.C k46 w A0 l0.length l0) (hc0 : l0.length ≤ c0) (hr1 : Kd.C (Kd.int .i64) w A1 l1.length l1) (hc1 : l1.length ≤ c1) (h : phalaroperef16_Ended.f k l0 l1 = some r) :
    Calls Try.prog 60 #[.slice A0 l0.length c0, .slice A1 l1.length c1] w fun e w' => e = .returned (.bool r) ∧ Drawn0 w w' := by
  have HR0 := Aside0.mk hr0
  have HC0 := Aside0.mk hc0
  clear hr0 hc0
  have HR1 := Aside0.mk hr1
  have HC1 := Aside0.mk hc1
  clear hr1 hc1
  have H : (phalaroperef16_Ended.l0 k l0 l1 0) = some r := h
  clear h
  have H' := Aside0.mk H
  clear H
  go_enter Try.func60, Try.ntmps60
  go_wp2
  go_loopg [5] k (fun kq v5 w' => ∃ (x5_1 : Int), v5 = .int .i64 x5_1 ∧ Aside0 (phalaroperef16_Ended.l0 kq l0 l1 x5_1 = some r) ∧ Aside0 (kq ≤ k) ∧ Drawn0 w w')
  case atStart => exact ⟨(0), (by first | rfl | (simp; done) | (simp [*]; done)), H', ⟨Nat.le_refl _⟩, by repeat (first | exact Drawn0.refl _ | apply Drawn0.step)⟩
  case round =>
    clear H'
    try clear c1
    try clear p2
    obtain ⟨x5_1, rfl, HA, HK1, ⟨m1, rfl⟩⟩ := hrel
    cases gk with
    | zero => exact absurd HA.out (by simp [phalaroperef16_Ended.l0])
    | succ k1 =>
      have H := HA.out
      clear HA
      simp only [phalaroperef16_Ended.l0] at H
      by_cases c3 : x5_1 < (l1.length : Int)
      · rw [if_pos c3] at H
        have c3b0 : decide (x5_1 < (l1.length : Int)) = true := decide_eq_true c3
        clear c3
        by_cases c4 : 0 ≤ x5_1
        · rw [if_pos c4] at H
          have c4b0 : decide (0 ≤ x5_1) = true := decide_eq_true c4
          clear c4
          by_cases c5 : 0 ≤ (rd l1 x5_1)
          · rw [if_pos c5] at H
            have c5b0 : decide (0 ≤ (rd l1 x5_1)) = true := decide_eq_true c5
            clear c5
            by_cases c6 : (rd l1 x5_1) < (l0.length : Int)
            · rw [if_pos c6] at H
              have c6b0 : decide ((rd l1 x5_1) < (l0.length : Int)) = true := decide_eq_true c6
              clear c6
              by_cases c7 : ((rd_T46 l0 (rd l1 x5_1)).f0) = 4
              · rw [if_pos c7] at H
                have c7b0 : (((rd_T46 l0 (rd l1 x5_1)).f0) == 4) = true := beq_iff_eq.mpr c7
                have c7b1 : (((rd_T46 l0 (rd l1 x5_1)).f0) != 4) = false := bne_eq_false_iff_eq.mpr c7
                clear c7
                obtain rfl := Option.some.inj H
                have p150 : 0 ≤ (x5_1 : Int) := of_decide_eq_true (by first | (with_reducible assumption) | assumption)
                have q150 : x5_1 < (l1.length : Int) := of_decide_eq_true (by first | (with_reducible assumption) | assumption)
                obtain ⟨ad150, e150, hx150_0⟩ := Kd.at_int HR1.out x5_1 p150 q150
                cases e150
                replace p150 := eq_true p150
                replace q150 := eq_true q150
                have p151 : 0 ≤ ((rd l1 x5_1) : Int) := of_decide_eq_true (by first | (with_reducible assumption) | assumption)
                have q151 : (rd l1 x5_1) < (l0.length : Int) := of_decide_eq_true (by first | (with_reducible assumption) | assumption)
                obtain ⟨ad151, A151_1, c151_1, A151_2, c151_2, e151, hx151_0, hx151_1, hx151_2, hx151_3, hx151_4, hl151_1, hi151_1, hl151_2, hi151_2⟩ := at_T46 HR0.out (rd l1 x5_1) p151 q151
                cases e151
                have HR151_1 := Aside0.mk hi151_1
                have HC151_1 := Aside0.mk hl151_1
                clear hi151_1 hl151_1
                have HR151_2 := Aside0.mk hi151_2
                have HC151_2 := Aside0.mk hl151_2
                clear hi151_2 hl151_2
                replace p151 := eq_true p151
                replace q151 := eq_true q151
                go_wp2
                go_ret
                exact ⟨by first | rfl | (simp; done) | (simp [*]; done), by repeat (first | exact Drawn0.refl _ | apply Drawn0.step)⟩
              · rw [if_neg c7] at H
                have c7b0 : (((rd_T46 l0 (rd l1 x5_1)).f0) == 4) = false := beq_eq_false_iff_ne.mpr c7
                have c7b1 : (((rd_T46 l0 (rd l1 x5_1)).f0) != 4) = true := bne_iff_ne.mpr c7
                have H' := Aside0.mk H
                clear H
                have p150 : 0 ≤ (x5_1 : Int) := of_decide_eq_true (by first | (with_reducible assumption) | assumption)
                have q150 : x5_1 < (l1.length : Int) := of_decide_eq_true (by first | (with_reducible assumption) | assumption)
                obtain ⟨ad150, e150, hx150_0⟩ := Kd.at_int HR1.out x5_1 p150 q150
                cases e150
                replace p150 := eq_true p150
                replace q150 := eq_true q150
                have p151 : 0 ≤ ((rd l1 x5_1) : Int) := of_decide_eq_true (by first | (with_reducible assumption) | assumption)
                have q151 : (rd l1 x5_1) < (l0.length : Int) := of_decide_eq_true (by first | (with_reducible assumption) | assumption)
                obtain ⟨ad151, A151_1, c151_1, A151_2, c151_2, e151, hx151_0, hx151_1, hx151_2, hx151_3, hx151_4, hl151_1, hi151_1, hl151_2, hi151_2⟩ := at_T46 HR0.out (rd l1 x5_1) p151 q151
                cases e151
                have HR151_1 := Aside0.mk hi151_1
                have HC151_1 := Aside0.mk hl151_1
                clear hi151_1 hl151_1
                have HR151_2 := Aside0.mk hi151_2
                have HC151_2 := Aside0.mk hl151_2
                clear hi151_2 hl151_2
                replace p151 := eq_true p151
                replace q151 := eq_true q151
                go_wp2
                go_roundg k1
                case measure => have := HK1.out; omega
                case rel => exact ⟨(wrap64 (x5_1 + 1)), (by first | rfl | (simp; done) | (simp [*]; done)), H', ⟨by have := HK1.out; omega⟩, by repeat (first | exact Drawn0.refl _ | apply Drawn0.step)⟩
            · rw [if_neg c6] at H
              exact absurd H (by simp)
          · rw [if_neg c5] at H
            exact absurd H (by simp)
        · rw [if_neg c4] at H
          exact absurd H (by simp)
      · rw [if_neg c3] at H
        have c3b0 : decide (x5_1 < (l1.length : Int)) = false := decide_eq_false c3
        clear c3
        obtain rfl := Option.some.inj H
        go_wp2
        go_ret
        exact ⟨by first | rfl | (simp; done) | (simp [*]; done), by repeat (first | exact Drawn0.refl _ | apply Drawn0.step)⟩

/-! ### phalaroperef16_Accepts: function 29 -/
def phalaroperef16_Accepts.l0 : Nat → List (S46) → ByteArray → List Int → Int → Option (Bool)
  | 0, _, _, _, _ => none
  | k + 1, x0, x1, x5, x6 => if x6 < (x1.size : Int) then (if 0 ≤ x6 then ((phalaroperef16_Step.f k x0 x5 (bt x1 x6)).bind fun t158 => (phalaroperef16_Accepts.l0 k x0 x1 t158 (wrap64 (x6 + 1)))) else (none)) else ((phalaroperef16_Ended.f k x0 x5).bind fun t161 => (some t161))
def phalaroperef16_Accepts.f (k : Nat) (l0 : List (S46)) (a1 : ByteArray) : Option (Bool) := (phalaroperef16_Close.f k l0 (([0] : List Int))).bind fun t155 => (phalaroperef16_Accepts.l0 k l0 a1 t155 0)
theorem phalaroperef16_Accepts.mono_l : ∀ k, (∀ y0 y1 y2 y3, LeO (phalaroperef16_Accepts.l0 k y0 y1 y2 y3) (phalaroperef16_Accepts.l0 (k + 1) y0 y1 y2 y3))
  | 0 => fun _ _ _ _ r h => by simp [phalaroperef16_Accepts.l0] at h
  | k + 1 => by
    have ih0 := phalaroperef16_Accepts.mono_l k
    · intro y0 y1 y2 y3
      unfold phalaroperef16_Accepts.l0
      repeat' first
      | (with_reducible exact ih0 _ _ _ _)
      | (with_reducible exact phalaroperef16_Close.mono _ _ _)
      | (with_reducible exact phalaroperef16_Ended.mono _ _ _)
      | (with_reducible exact phalaroperef16_Step.mono _ _ _ _)
      | (with_reducible exact LeO.refl _)
      | (with_reducible exact LeO.none _)
      | (with_reducible refine LeO.ite ?_ ?_)
      | (with_reducible refine LeO.bind ?_ (fun _ => ?_))
      | exact ih0 _ _ _ _
      | exact phalaroperef16_Close.mono _ _ _
      | exact phalaroperef16_Ended.mono _ _ _
      | exact phalaroperef16_Step.mono _ _ _ _
      | exact LeO.none _
      | refine LeO.ite ?_ ?_
      | refine LeO.bind ?_ (fun _ => ?_)
theorem phalaroperef16_Accepts.mono : ∀ a0 a1 k, LeO (phalaroperef16_Accepts.f k a0 a1) (phalaroperef16_Accepts.f (k + 1) a0 a1) := by
  intro a0 a1 k
  have ih0 := phalaroperef16_Accepts.mono_l k
  unfold phalaroperef16_Accepts.f
  repeat' first
      | (with_reducible exact ih0 _ _ _ _)
      | (with_reducible exact phalaroperef16_Close.mono _ _ _)
      | (with_reducible exact phalaroperef16_Ended.mono _ _ _)
      | (with_reducible exact phalaroperef16_Step.mono _ _ _ _)
      | (with_reducible exact LeO.refl _)
      | (with_reducible exact LeO.none _)
      | (with_reducible refine LeO.ite ?_ ?_)
      | (with_reducible refine LeO.bind ?_ (fun _ => ?_))
      | exact ih0 _ _ _ _
      | exact phalaroperef16_Close.mono _ _ _
      | exact phalaroperef16_Ended.mono _ _ _
      | exact phalaroperef16_Step.mono _ _ _ _
      | exact LeO.none _
      | refine LeO.ite ?_ ?_
      | refine LeO.bind ?_ (fun _ => ?_)
set_option maxHeartbeats 8000000 in
set_option maxRecDepth 100000 in
theorem phalaroperef16_Accepts.calls (k : Nat) (A0 : Option Addr) (c0 : Nat) (l0 : List (S46)) (a1 : ByteArray) (r : Bool) (w : World) (hr0 : Kd.C k46 w A0 l0.length l0) (hc0 : l0.length ≤ c0) (h : phalaroperef16_Accepts.f k l0 a1 = some r) :
    Calls Try.prog 29 #[.slice A0 l0.length c0, .string a1] w fun e w' => e = .returned (.bool r) ∧ Below w.heap.size w w' := by
  have HR0 := Aside0.mk hr0
  have HC0 := Aside0.mk hc0
  clear hr0 hc0
  have HB := Aside0.mk (Below.refl w.heap.size w)
  have H : ((phalaroperef16_Close.f k l0 (([0] : List Int))).bind fun t155 => (phalaroperef16_Accepts.l0 k l0 a1 t155 0)) = some r := h
  clear h
  obtain ⟨y152, hy152⟩ : ∃ y_ : List Int, y_ = (([0] : List Int)) := ⟨_, rfl⟩
  replace H : ((phalaroperef16_Close.f k l0 y152).bind fun t155 => (phalaroperef16_Accepts.l0 k l0 a1 t155 0)) = some r := by first | (rw [hy152]; with_reducible exact H) | (have H2_ := (Option.bind_some _ _).symm.trans H; rw [hy152]; with_reducible exact H2_) | (have H2_ := (Option.bind_some _ _).symm.trans H; with_reducible exact H2_) | with_reducible exact H | (rw [hy152]; exact H) | exact H
  have Ny152 := Aside0.mk hy152
  clear hy152
  replace H := Option.bind_eq_some_iff.mp H
  obtain ⟨t155, A30, H⟩ := H
  replace H : (phalaroperef16_Accepts.l0 k l0 a1 t155 0) = some r := H
  have A3 := Aside0.mk A30
  clear A30
  have H' := Aside0.mk H
  clear H
  go_enter Try.func29, Try.ntmps29
  go_wp2_with (first | ((with_reducible refine gate_dst (N := 8) rfl ?_); refine Kd.R_lit (Kd.int .i64) _ 3 ?hg (N := 8) ?hd (xs := ([0] : List Int)) (inner := [.int .i64 0]) (ok := fun _ => True) (okp := fun _ => True) ?hr ?hp (fun _ hk => hk) trivial (Below.refl _ _) (Nat.le_refl _) (by simp) ?_; (case hd => rfl); (case hg => rfl); (case hr => first | (go_simp; done) | (go_simp; rfl)); (case hp => exact (Reps.one (show Kd.M (Kd.int .i64) _ _ _ 0 [.int .i64 0] from rfl) (Reps.none _ _))); intro v153 w4 ho5 hb hg_ hnew_; clear hg_ hnew_; (first | rw [← Ny152.out] at ho5 | (simp only [Int.reduceToNat] at ho5; rw [← Ny152.out] at ho5)); have n0_ := Aside0.mk (Kd.R_lower ho5 (below_size (by repeat (first | (with_reducible first | exact HB.out | apply below_alloc | apply pw_below_drewN | apply below_drew1) | exact HB.out)))); have n1_ := Aside0.mk (below_step (by repeat (first | (with_reducible first | exact HB.out | apply below_alloc | apply pw_below_drewN | apply below_drew1) | exact HB.out)) hb); clear HB; have HO154 := n0_; have HB := n1_; clear n0_ n1_; clear hb ho5; obtain ⟨Ao6, co6, eo6⟩ := Kd.R_slice HO154.out; subst eo6) | ((with_reducible refine gate_callee (f := 26) rfl ?_); refine goesL_ (some 9) rfl rfl Try.func26 (by kernel_rfl) rfl #[.slice A0 l0.length c0, .slice Ao6 y152.length co6] rfl (by (try simp only [List.map_toArray, List.map_cons, List.map_nil]); first | done | rfl | (simp only [List.length_drop, List.length_take]; rfl)) ?_; (with_reducible refine (phalaroperef16_Close.calls k _ _ l0 _ _ y152 t155 _ ?side1 ?side2 ?side3 ?side4 A3.out).mono ?_); (case side1 => repeat (first | exact (Kd.C_below HR0.out HB.out) | (with_reducible refine Kd.C_alloc ?_ _) | (with_reducible refine Kd.C_drewN ?_ _) | (with_reducible refine Kd.C_drew ?_))); (case side2 => exact HC0.out); (case side3 => repeat (first | exact (Kd.R_reads' HO154.out).2.2 | (with_reducible refine Kd.C_alloc ?_ _) | (with_reducible refine Kd.C_drewN ?_ _) | (with_reducible refine Kd.C_drew ?_))); (case side4 => exact (Kd.R_reads' HO154.out).2.1); rintro e w7 ⟨v156, rfl, ho0, hb⟩; refine ⟨_, rfl, ?_⟩; have n0_ := Aside0.mk (Kd.R_elder' (by (with_reducible repeat (first | apply Kd.R_alloc | apply Kd.R_drewN | apply Kd.R_drew)); exact HO154.out) (Kd.R_base ho0) hb); have n1_ := Aside0.mk (Kd.R_lower (Kd.R_new' ho0 (Kd.R_lt (by (with_reducible repeat (first | apply Kd.R_alloc | apply Kd.R_drewN | apply Kd.R_drew)); exact HO154.out))) (below_size (by repeat (first | (with_reducible first | exact HB.out | apply below_alloc | apply pw_below_drewN | apply below_drew1) | exact HB.out)))); have n2_ := Aside0.mk (below_step (by repeat (first | (with_reducible first | exact HB.out | apply below_alloc | apply pw_below_drewN | apply below_drew1) | exact HB.out)) hb); clear HO154; clear HB; have HO154 := n0_; have HO157 := n1_; have HB := n2_; clear n0_ n1_ n2_; (try clear hb); (try clear hb2); (try clear hk); (try clear hi); (try clear ho0)))
  go_loopg [5, 6] k (fun kq v5 v6 w' => ∃ (x5_1 : List Int) (x6_1 : Int), v6 = .int .i64 x6_1 ∧ Aside0 (phalaroperef16_Accepts.l0 kq l0 a1 x5_1 x6_1 = some r) ∧ Aside0 (kq ≤ k) ∧ Aside0 (Kd.R (Kd.int .i64) 3 w' w.heap.size (fun _ => True) v5 x5_1) ∧ Aside0 (Below w.heap.size w w'))
  case atStart => exact ⟨(t155), (0), (by first | rfl | (simp; done) | (simp [*]; done)), H', ⟨Nat.le_refl _⟩, ⟨by (with_reducible repeat (first | apply Kd.R_alloc | apply Kd.R_drewN | apply Kd.R_drew)); exact Kd.R_mono HO157.out (fun _ hk => trivial)⟩, ⟨by repeat (first | (with_reducible first | exact HB.out | apply below_alloc | apply pw_below_drewN | apply below_drew1) | exact HB.out)⟩⟩
  case round =>
    clear H'
    try clear c2
    try clear p2
    obtain ⟨x5_1, x6_1, rfl, HA, HK1, HO_5, HB⟩ := hrel
    cases gk with
    | zero => exact absurd HA.out (by simp [phalaroperef16_Accepts.l0])
    | succ k1 =>
      have H := HA.out
      clear HA
      simp only [phalaroperef16_Accepts.l0] at H
      by_cases c8 : x6_1 < (a1.size : Int)
      · rw [if_pos c8] at H
        have c8b0 : decide (x6_1 < (a1.size : Int)) = true := decide_eq_true c8
        clear c8
        by_cases c9 : 0 ≤ x6_1
        · rw [if_pos c9] at H
          have c9b0 : decide (0 ≤ x6_1) = true := decide_eq_true c9
          clear c9
          replace H := Option.bind_eq_some_iff.mp H
          obtain ⟨t158, A110, H⟩ := H
          replace H : (phalaroperef16_Accepts.l0 k1 l0 a1 t158 (wrap64 (x6_1 + 1))) = some r := H
          have A11 := Aside0.mk A110
          clear A110
          have H' := Aside0.mk H
          clear H
          have p10 : 0 ≤ (x6_1 : Int) := of_decide_eq_true (by first | (with_reducible assumption) | assumption)
          have q10 : x6_1 < (a1.size : Int) := of_decide_eq_true (by first | (with_reducible assumption) | assumption)
          have hx10 := bt_at a1 x6_1
          replace p10 := eq_true p10
          replace q10 := eq_true q10
          obtain ⟨Ao12, co12, eo12⟩ := Kd.R_slice HO_5.out
          subst eo12
          go_wp2_with (first | ((with_reducible refine gate_callee (f := 28) rfl ?_); refine goesL_ (some 21) rfl rfl Try.func28 (by kernel_rfl) rfl #[.slice A0 l0.length c0, .slice Ao12 x5_1.length co12, .int .u8 (bt a1 x6_1)] rfl (by (try simp only [List.map_toArray, List.map_cons, List.map_nil]); first | done | rfl | (simp only [List.length_drop, List.length_take]; rfl)) ?_; (with_reducible refine (phalaroperef16_Step.calls k1 _ _ l0 _ _ x5_1 (bt a1 x6_1) t158 _ ?side1 ?side2 ?side3 ?side4 A11.out).mono ?_); (case side1 => repeat (first | exact (Kd.C_below HR0.out HB.out) | (with_reducible refine Kd.C_alloc ?_ _) | (with_reducible refine Kd.C_drewN ?_ _) | (with_reducible refine Kd.C_drew ?_))); (case side2 => exact HC0.out); (case side3 => repeat (first | exact (Kd.R_reads' HO_5.out).2.2 | (with_reducible refine Kd.C_alloc ?_ _) | (with_reducible refine Kd.C_drewN ?_ _) | (with_reducible refine Kd.C_drew ?_))); (case side4 => exact (Kd.R_reads' HO_5.out).2.1); rintro e w13 ⟨v159, rfl, ho0, hb⟩; refine ⟨_, rfl, ?_⟩; have n0_ := Aside0.mk (Kd.R_elder' (by (with_reducible repeat (first | apply Kd.R_alloc | apply Kd.R_drewN | apply Kd.R_drew)); exact HO_5.out) (Kd.R_base ho0) hb); have n1_ := Aside0.mk (Kd.R_lower (Kd.R_new' ho0 (Kd.R_lt (by (with_reducible repeat (first | apply Kd.R_alloc | apply Kd.R_drewN | apply Kd.R_drew)); exact HO_5.out))) (below_size (by repeat (first | (with_reducible first | exact HB.out | apply below_alloc | apply pw_below_drewN | apply below_drew1) | exact HB.out)))); have n2_ := Aside0.mk (below_step (by repeat (first | (with_reducible first | exact HB.out | apply below_alloc | apply pw_below_drewN | apply below_drew1) | exact HB.out)) hb); clear HO_5; clear HB; have HO_5 := n0_; have HO160 := n1_; have HB := n2_; clear n0_ n1_ n2_; (try clear hb); (try clear hb2); (try clear hk); (try clear hi); (try clear ho0)))
          go_roundg k1
          case measure => have := HK1.out; omega
          case rel => exact ⟨(t158), (wrap64 (x6_1 + 1)), (by first | rfl | (simp; done) | (simp [*]; done)), H', ⟨by have := HK1.out; omega⟩, ⟨by (with_reducible repeat (first | apply Kd.R_alloc | apply Kd.R_drewN | apply Kd.R_drew)); exact Kd.R_mono HO160.out (fun _ hk => trivial)⟩, ⟨by repeat (first | (with_reducible first | exact HB.out | apply below_alloc | apply pw_below_drewN | apply below_drew1) | exact HB.out)⟩⟩
        · rw [if_neg c9] at H
          exact absurd H (by simp)
      · rw [if_neg c8] at H
        have c8b0 : decide (x6_1 < (a1.size : Int)) = false := decide_eq_false c8
        clear c8
        replace H := Option.bind_eq_some_iff.mp H
        obtain ⟨t161, A140, H⟩ := H
        replace H : (some t161) = some r := H
        have A14 := Aside0.mk A140
        clear A140
        obtain rfl := Option.some.inj H
        obtain ⟨Ao15, co15, eo15⟩ := Kd.R_slice HO_5.out
        subst eo15
        go_wp2_with (first | ((with_reducible refine gate_callee (f := 60) rfl ?_); refine goesL_ (some 24) rfl rfl Try.func60 (by kernel_rfl) rfl #[.slice A0 l0.length c0, .slice Ao15 x5_1.length co15] rfl (by (try simp only [List.map_toArray, List.map_cons, List.map_nil]); first | done | rfl | (simp only [List.length_drop, List.length_take]; rfl)) ?_; (with_reducible refine (phalaroperef16_Ended.calls k1 _ _ l0 _ _ x5_1 t161 _ ?side1 ?side2 ?side3 ?side4 A14.out).mono ?_); (case side1 => repeat (first | exact (Kd.C_below HR0.out HB.out) | (with_reducible refine Kd.C_alloc ?_ _) | (with_reducible refine Kd.C_drewN ?_ _) | (with_reducible refine Kd.C_drew ?_))); (case side2 => exact HC0.out); (case side3 => repeat (first | exact (Kd.R_reads' HO_5.out).2.2 | (with_reducible refine Kd.C_alloc ?_ _) | (with_reducible refine Kd.C_drewN ?_ _) | (with_reducible refine Kd.C_drew ?_))); (case side4 => exact (Kd.R_reads' HO_5.out).2.1); rintro e w' ⟨rfl, ⟨nd, rfl⟩⟩; refine ⟨_, rfl, ?_⟩))
        go_ret
        exact ⟨by first | rfl | (simp [errW_none, errW_some] <;> rfl) | (simp [*, errW_none, errW_some] <;> rfl), by repeat (first | (with_reducible first | exact HB.out | apply below_alloc | apply pw_below_drewN | apply below_drew1) | exact HB.out)⟩

end Go.Proofs.Ytolfamfgoafhlaa.P
