-- Printed by the kit's print.py (called by this session's own script mkprint.sh) out of the translation: chosen functions in one namespace. Lean checks it.
import Derived.Test.YtolfamfgoafhlaaV0
namespace Go.Proofs.Ytolfamfgoafhlaa.V
open Go.RowKit Go.Proofs.YtolfamfgoafhlaaW.PrintWords Go.Proofs.YtolfamfgoafhlaaW.PrintLast Go.Proofs.YtolfamfgoafhlaaW.PrintMore
attribute [local go_sem] max2_int min2_int max_two min_two max_three min_three max_four min_four   -- for this text's walks alone
set_option linter.unusedVariables false
set_option linter.unusedSimpArgs false

/-! ### phalaropelaw17_made: function 32 -/
mutual
def phalaropelaw17_made.l0 : Nat → List (S46) → List (S33) → Int → Option ((List (S33)))
  | 0, _, _, _ => none
  | k + 1, x0, x3, x4 => if x4 < (x0.length : Int) then (if 0 ≤ x4 then (phalaropelaw17_made.l1 k x0 x3 x4 0 ((rd_T46 x0 x4).f0) ([] : List (S72)) ((rd_T46 x0 x4).f2) ((rd_T46 x0 x4).f3) ((rd_T46 x0 x4).f4)) else (none)) else (some x3)
def phalaropelaw17_made.l1 : Nat → List (S46) → List (S33) → Int → Int → Int → List (S72) → SV → Int → Int → Option ((List (S33)))
  | 0, _, _, _, _, _, _, _, _, _ => none
  | k + 1, x0, x3, x4, x6, x124000, x124001, x124002, x124003, x124004 => if 0 ≤ x4 then (if x4 < (x0.length : Int) then (if x6 < (((rd_T46 x0 x4).f1).length : Int) then (if 0 ≤ x6 then (if x124001.length < 8796093022208 then (phalaropelaw17_made.l1 k x0 x3 x4 (wrap64 (x6 + 1)) x124000 (x124001 ++ [(⟨(rd_T74 ((rd_T46 x0 x4).f1) x6).f0, (rd_T74 ((rd_T46 x0 x4).f1) x6).f1, (rd_T74 ((rd_T46 x0 x4).f1) x6).f2⟩ : S72)]) x124002 x124003 x124004) else (none)) else (none)) else (if x3.length < 1954687338268 then (phalaropelaw17_made.l0 k x0 (x3 ++ [(⟨x124000, x124001, x124002, x124003, x124004⟩ : S33)]) (wrap64 (x4 + 1))) else (none))) else (none)) else (none)
end
def phalaropelaw17_made.f (k : Nat) (l0 : List (S46)) : Option ((List (S33))) := phalaropelaw17_made.l0 k l0 ([] : List (S33)) 0
theorem phalaropelaw17_made.mono_l : ∀ k, (∀ y0 y1 y2, LeO (phalaropelaw17_made.l0 k y0 y1 y2) (phalaropelaw17_made.l0 (k + 1) y0 y1 y2)) ∧ (∀ y0 y1 y2 y3 y4 y5 y6 y7 y8, LeO (phalaropelaw17_made.l1 k y0 y1 y2 y3 y4 y5 y6 y7 y8) (phalaropelaw17_made.l1 (k + 1) y0 y1 y2 y3 y4 y5 y6 y7 y8))
  | 0 => ⟨fun _ _ _ r h => by simp [phalaropelaw17_made.l0] at h, fun _ _ _ _ _ _ _ _ _ r h => by simp [phalaropelaw17_made.l1] at h⟩
  | k + 1 => by
    obtain ⟨ih0, ih1⟩ := phalaropelaw17_made.mono_l k
    refine ⟨?_, ?_⟩
    · intro y0 y1 y2
      unfold phalaropelaw17_made.l0
      repeat' first
      | (with_reducible exact ih0 _ _ _)
      | (with_reducible exact ih1 _ _ _ _ _ _ _ _ _)
      | (with_reducible exact LeO.refl _)
      | (with_reducible exact LeO.none _)
      | (with_reducible refine LeO.ite ?_ ?_)
      | (with_reducible refine LeO.bind ?_ (fun _ => ?_))
      | exact ih0 _ _ _
      | exact ih1 _ _ _ _ _ _ _ _ _
      | exact LeO.none _
      | refine LeO.ite ?_ ?_
      | refine LeO.bind ?_ (fun _ => ?_)
    · intro y0 y1 y2 y3 y4 y5 y6 y7 y8
      unfold phalaropelaw17_made.l1
      repeat' first
      | (with_reducible exact ih0 _ _ _)
      | (with_reducible exact ih1 _ _ _ _ _ _ _ _ _)
      | (with_reducible exact LeO.refl _)
      | (with_reducible exact LeO.none _)
      | (with_reducible refine LeO.ite ?_ ?_)
      | (with_reducible refine LeO.bind ?_ (fun _ => ?_))
      | exact ih0 _ _ _
      | exact ih1 _ _ _ _ _ _ _ _ _
      | exact LeO.none _
      | refine LeO.ite ?_ ?_
      | refine LeO.bind ?_ (fun _ => ?_)
theorem phalaropelaw17_made.mono : ∀ a0 k, LeO (phalaropelaw17_made.f k a0) (phalaropelaw17_made.f (k + 1) a0) := by
  intro a0 k
  obtain ⟨ih0, ih1⟩ := phalaropelaw17_made.mono_l k
  unfold phalaropelaw17_made.f
  repeat' first
      | (with_reducible exact ih0 _ _ _)
      | (with_reducible exact ih1 _ _ _ _ _ _ _ _ _)
      | (with_reducible exact LeO.refl _)
      | (with_reducible exact LeO.none _)
      | (with_reducible refine LeO.ite ?_ ?_)
      | (with_reducible refine LeO.bind ?_ (fun _ => ?_))
      | exact ih0 _ _ _
      | exact ih1 _ _ _ _ _ _ _ _ _
      | exact LeO.none _
      | refine LeO.ite ?_ ?_
      | refine LeO.bind ?_ (fun _ => ?_)
def phalaropelaw17_made.T5 : Bool × List (List Nat × List Nat) := (true, [([], []), ([], []), ([0, 1], [0, 1]), ([2], [2]), ([3], [3]), ([], []), ([], []), ([5, 6], [5, 6]), ([7], [7]), ([8], [8]), ([], []), ([], []), ([10, 11], [10, 11]), ([12], [12]), ([13], [13]), ([], []), ([], []), ([15, 16], [15, 16]), ([17], [17]), ([18], [18]), ([4, 9, 14, 19], [4, 9, 14, 19]), ([], []), ([21, 20, 0, 1, 2, 3, 4, 5, 6, 7, 8, 9, 10, 11, 12, 13, 14, 15, 16, 17, 18, 19, 20, 21], [20, 21])])
def phalaropelaw17_made.B5 : List Nat := [0, 0, 3, 7, 15, 0, 0, 96, 224, 480, 0, 0, 3072, 7168, 15360, 0, 0, 98304, 229376, 491520, 1048575, 0, 4194303]
theorem phalaropelaw17_made.tab5 : rtab .any (opsOf Try.f32 5) = phalaropelaw17_made.T5 := by kernel_rfl
theorem phalaropelaw17_made.bits5 : waitsOk phalaropelaw17_made.T5.2 phalaropelaw17_made.B5 = true := by kernel_rfl
def phalaropelaw17_made.T9 : Bool × List (List Nat × List Nat) := (true, [([], []), ([0], [0]), ([], []), ([], []), ([2, 3], [2, 3]), ([4], [4]), ([5], [5]), ([], []), ([6, 7], [6, 7]), ([8], [8]), ([9], [9]), ([], []), ([], []), ([11, 12], [11, 12]), ([13], [13]), ([14], [14]), ([], []), ([15, 16], [15, 16]), ([17], [17]), ([18], [18]), ([], []), ([], []), ([20, 21], [20, 21]), ([22], [22]), ([23], [23]), ([], []), ([24, 25], [24, 25]), ([26], [26]), ([27], [27]), ([10, 19, 28], [10, 19, 28]), ([29], [29]), ([1, 30], [1, 30]), ([0, 1, 2, 3, 4, 5, 6, 7, 8, 9, 10, 11, 12, 13, 14, 15, 16, 17, 18, 19, 20, 21, 22, 23, 24, 25, 26, 27, 28, 29, 30, 31], []), ([32, 31, 31, 0, 1, 2, 3, 4, 5, 6, 7, 8, 9, 10, 11, 12, 13, 14, 15, 16, 17, 18, 19, 20, 21, 22, 23, 24, 25, 26, 27, 28, 29, 30, 31], [31, 32])])
def phalaropelaw17_made.B9 : List Nat := [0, 1, 0, 0, 12, 28, 60, 0, 252, 508, 1020, 0, 0, 6144, 14336, 30720, 0, 129024, 260096, 522240, 0, 0, 3145728, 7340032, 15728640, 0, 66060288, 133169152, 267386880, 536870908, 1073741820, 2147483647, 4294967295, 8589934591]
theorem phalaropelaw17_made.tab9 : rtab .any (opsOf Try.f32 9) = phalaropelaw17_made.T9 := by kernel_rfl
theorem phalaropelaw17_made.bits9 : waitsOk phalaropelaw17_made.T9.2 phalaropelaw17_made.B9 = true := by kernel_rfl
set_option maxHeartbeats 8000000 in
set_option maxRecDepth 100000 in
theorem phalaropelaw17_made.calls (k : Nat) (A0 : Option Addr) (c0 : Nat) (l0 : List (S46)) (r : List (S33)) (w : World) (hr0 : Kd.C k46 w A0 l0.length l0) (hc0 : l0.length ≤ c0) (h : phalaropelaw17_made.f k l0 = some r) :
    Calls Try.prog 32 #[.slice A0 l0.length c0] w fun e w' => ∃ v0_ : Value, e = .returned (v0_) ∧ Kd.S k33 33 w' w.heap.size (fun _ => True) v0_ r ∧ Below w.heap.size w w' := by
  have hu33 := Try.underlying33
  have hu72 := Try.underlying72
  have HR0 := Aside0.mk hr0
  have HC0 := Aside0.mk hc0
  clear hr0 hc0
  have HB := Aside0.mk (Below.refl w.heap.size w)
  have H : (phalaropelaw17_made.l0 k l0 ([] : List (S33)) 0) = some r := h
  clear h
  have H' := Aside0.mk H
  clear H
  go_enter Try.func32, Try.ntmps32
  go_wp2
  go_loopg [3, 4] k (fun kq v3 v4 w' => ∃ (x3_1 : List (S33)) (x4_1 : Int), v4 = .int .i64 x4_1 ∧ Aside0 (phalaropelaw17_made.l0 kq l0 x3_1 x4_1 = some r) ∧ Aside0 (kq ≤ k) ∧ Aside0 (Kd.S k33 33 w' w.heap.size (fun _ => True) v3 x3_1) ∧ Aside0 (Below w.heap.size w w'))
  case atStart => exact ⟨(([] : List (S33))), (0), (by first | rfl | (simp; done) | (simp [*]; done)), H', ⟨Nat.le_refl _⟩, ⟨by first | exact Kd.S_nil _ _ _ _ _ | exact Kd.N_nil _ _ _ _ _ | exact Kd.V_nil _ _ _ _ _ | exact Kd.Q_nil _ _ _ _ _ | exact Kd.R_nil _ _ _ _ _⟩, ⟨by repeat (first | (with_reducible first | exact HB.out | apply below_alloc | apply pw_below_drewN | apply below_drew1) | exact HB.out)⟩⟩
  case round =>
    clear H'
    obtain ⟨x3_1, x4_1, rfl, HA, HK1, HO_3, HB⟩ := hrel
    cases gk with
    | zero => exact absurd HA.out (by simp [phalaropelaw17_made.l0])
    | succ k1 =>
      have H := HA.out
      clear HA
      simp only [phalaropelaw17_made.l0] at H
      by_cases c2 : x4_1 < (l0.length : Int)
      · rw [if_pos c2] at H
        have c2b0 : decide (x4_1 < (l0.length : Int)) = true := decide_eq_true c2
        clear c2
        by_cases c3 : 0 ≤ x4_1
        · rw [if_pos c3] at H
          have c3b0 : decide (0 ≤ x4_1) = true := decide_eq_true c3
          clear c3
          have H' := Aside0.mk H
          clear H
          try go_wp2
          have n0_ := Aside0.mk (Kd.S_drew HO_3.out)
          have n1_ := Aside0.mk (below_drew1 HB.out)
          clear HO_3
          clear HB
          have HO_3 := n0_
          have HB := n1_
          clear n0_ n1_
          have p119 : 0 ≤ (x4_1 : Int) := of_decide_eq_true (by first | (with_reducible assumption) | assumption)
          have q119 : x4_1 < (l0.length : Int) := of_decide_eq_true (by first | (with_reducible assumption) | assumption)
          obtain ⟨ad119, A119_1, c119_1, e119, hx119_0, hx119_1, hx119_2, hx119_3, hx119_4, hl119_1, hi119_1⟩ := at_T46 HR0.out x4_1 p119 q119
          have hw119_4 := hx119_4
          have hw119_3 := hx119_3
          have hw119_2 := hx119_2
          have hw119_1 := hx119_1
          have hw119_0 := hx119_0
          cases e119
          replace hx119_0 := (HB.out.cell (World.block_lt_of_cell? w _ hx119_0)).trans hx119_0
          replace hx119_1 := (HB.out.cell (World.block_lt_of_cell? w _ hx119_1)).trans hx119_1
          replace hx119_2 := (HB.out.cell (World.block_lt_of_cell? w _ hx119_2)).trans hx119_2
          replace hx119_3 := (HB.out.cell (World.block_lt_of_cell? w _ hx119_3)).trans hx119_3
          replace hx119_4 := (HB.out.cell (World.block_lt_of_cell? w _ hx119_4)).trans hx119_4
          have HR119_1 := Aside0.mk hi119_1
          have HC119_1 := Aside0.mk hl119_1
          clear hi119_1 hl119_1
          replace p119 := eq_true p119
          replace q119 := eq_true q119
          have p120 : 0 ≤ (x4_1 : Int) := of_decide_eq_true (by first | (with_reducible assumption) | assumption)
          have q120 : x4_1 < (l0.length : Int) := of_decide_eq_true (by first | (with_reducible assumption) | assumption)
          obtain ⟨ad120, A120_1, c120_1, e120, hx120_0, hx120_1, hx120_2, hx120_3, hx120_4, hl120_1, hi120_1⟩ := at_T46 HR0.out x4_1 p120 q120
          have hw120_4 := hx120_4
          have hw120_3 := hx120_3
          have hw120_2 := hx120_2
          have hw120_1 := hx120_1
          have hw120_0 := hx120_0
          obtain rfl : ad119 = ad120 := (by injection e120)
          replace hx120_0 := (HB.out.cell (World.block_lt_of_cell? w _ hx120_0)).trans hx120_0
          replace hx120_1 := (HB.out.cell (World.block_lt_of_cell? w _ hx120_1)).trans hx120_1
          replace hx120_2 := (HB.out.cell (World.block_lt_of_cell? w _ hx120_2)).trans hx120_2
          replace hx120_3 := (HB.out.cell (World.block_lt_of_cell? w _ hx120_3)).trans hx120_3
          replace hx120_4 := (HB.out.cell (World.block_lt_of_cell? w _ hx120_4)).trans hx120_4
          have HR120_1 := Aside0.mk hi120_1
          have HC120_1 := Aside0.mk hl120_1
          clear hi120_1 hl120_1
          replace p120 := eq_true p120
          replace q120 := eq_true q120
          have ea_ := Option.some.inj (hx119_1.symm.trans hx120_1)
          injection ea_ with ea_ en_ ec_
          subst ea_
          subst ec_
          clear en_
          have p121 : 0 ≤ (x4_1 : Int) := of_decide_eq_true (by first | (with_reducible assumption) | assumption)
          have q121 : x4_1 < (l0.length : Int) := of_decide_eq_true (by first | (with_reducible assumption) | assumption)
          obtain ⟨ad121, A121_1, c121_1, e121, hx121_0, hx121_1, hx121_2, hx121_3, hx121_4, hl121_1, hi121_1⟩ := at_T46 HR0.out x4_1 p121 q121
          have hw121_4 := hx121_4
          have hw121_3 := hx121_3
          have hw121_2 := hx121_2
          have hw121_1 := hx121_1
          have hw121_0 := hx121_0
          obtain rfl : ad119 = ad121 := (by injection e121)
          replace hx121_0 := (HB.out.cell (World.block_lt_of_cell? w _ hx121_0)).trans hx121_0
          replace hx121_1 := (HB.out.cell (World.block_lt_of_cell? w _ hx121_1)).trans hx121_1
          replace hx121_2 := (HB.out.cell (World.block_lt_of_cell? w _ hx121_2)).trans hx121_2
          replace hx121_3 := (HB.out.cell (World.block_lt_of_cell? w _ hx121_3)).trans hx121_3
          replace hx121_4 := (HB.out.cell (World.block_lt_of_cell? w _ hx121_4)).trans hx121_4
          have HR121_1 := Aside0.mk hi121_1
          have HC121_1 := Aside0.mk hl121_1
          clear hi121_1 hl121_1
          replace p121 := eq_true p121
          replace q121 := eq_true q121
          have ea_ := Option.some.inj (hx119_1.symm.trans hx121_1)
          injection ea_ with ea_ en_ ec_
          subst ea_
          subst ec_
          clear en_
          have p122 : 0 ≤ (x4_1 : Int) := of_decide_eq_true (by first | (with_reducible assumption) | assumption)
          have q122 : x4_1 < (l0.length : Int) := of_decide_eq_true (by first | (with_reducible assumption) | assumption)
          obtain ⟨ad122, A122_1, c122_1, e122, hx122_0, hx122_1, hx122_2, hx122_3, hx122_4, hl122_1, hi122_1⟩ := at_T46 HR0.out x4_1 p122 q122
          have hw122_4 := hx122_4
          have hw122_3 := hx122_3
          have hw122_2 := hx122_2
          have hw122_1 := hx122_1
          have hw122_0 := hx122_0
          obtain rfl : ad119 = ad122 := (by injection e122)
          replace hx122_0 := (HB.out.cell (World.block_lt_of_cell? w _ hx122_0)).trans hx122_0
          replace hx122_1 := (HB.out.cell (World.block_lt_of_cell? w _ hx122_1)).trans hx122_1
          replace hx122_2 := (HB.out.cell (World.block_lt_of_cell? w _ hx122_2)).trans hx122_2
          replace hx122_3 := (HB.out.cell (World.block_lt_of_cell? w _ hx122_3)).trans hx122_3
          replace hx122_4 := (HB.out.cell (World.block_lt_of_cell? w _ hx122_4)).trans hx122_4
          have HR122_1 := Aside0.mk hi122_1
          have HC122_1 := Aside0.mk hl122_1
          clear hi122_1 hl122_1
          replace p122 := eq_true p122
          replace q122 := eq_true q122
          have ea_ := Option.some.inj (hx119_1.symm.trans hx122_1)
          injection ea_ with ea_ en_ ec_
          subst ea_
          subst ec_
          clear en_
          refine start_ (n := 23) (S := fun w' => w'.cell? (ad119.add ((x4_1).toNat * 5)) = some (.int .i64 ((rd_T46 l0 x4_1).f0)) ∧ w'.cell? ⟨(ad119.add ((x4_1).toNat * 5)).block, (ad119.add ((x4_1).toNat * 5)).off + 1, none⟩ = some (.slice A119_1 ((rd_T46 l0 x4_1).f1).length c119_1) ∧ w'.cell? ⟨(ad119.add ((x4_1).toNat * 5)).block, (ad119.add ((x4_1).toNat * 5)).off + 2, none⟩ = some (.slice ((rd_T46 l0 x4_1).f2).A ((rd_T46 l0 x4_1).f2).n ((rd_T46 l0 x4_1).f2).c) ∧ w'.cell? ⟨(ad119.add ((x4_1).toNat * 5)).block, (ad119.add ((x4_1).toNat * 5)).off + 3, none⟩ = some (.int .i64 ((rd_T46 l0 x4_1).f3)) ∧ w'.cell? ⟨(ad119.add ((x4_1).toNat * 5)).block, (ad119.add ((x4_1).toNat * 5)).off + 4, none⟩ = some (.int .i64 ((rd_T46 l0 x4_1).f4)) ∧ w'.cell? (ad119.add ((x4_1).toNat * 5)) = some (.int .i64 ((rd_T46 l0 x4_1).f0)) ∧ w'.cell? ⟨(ad119.add ((x4_1).toNat * 5)).block, (ad119.add ((x4_1).toNat * 5)).off + 1, none⟩ = some (.slice A119_1 ((rd_T46 l0 x4_1).f1).length c119_1) ∧ w'.cell? ⟨(ad119.add ((x4_1).toNat * 5)).block, (ad119.add ((x4_1).toNat * 5)).off + 2, none⟩ = some (.slice ((rd_T46 l0 x4_1).f2).A ((rd_T46 l0 x4_1).f2).n ((rd_T46 l0 x4_1).f2).c) ∧ w'.cell? ⟨(ad119.add ((x4_1).toNat * 5)).block, (ad119.add ((x4_1).toNat * 5)).off + 3, none⟩ = some (.int .i64 ((rd_T46 l0 x4_1).f3)) ∧ w'.cell? ⟨(ad119.add ((x4_1).toNat * 5)).block, (ad119.add ((x4_1).toNat * 5)).off + 4, none⟩ = some (.int .i64 ((rd_T46 l0 x4_1).f4)) ∧ w'.cell? (ad119.add ((x4_1).toNat * 5)) = some (.int .i64 ((rd_T46 l0 x4_1).f0)) ∧ w'.cell? ⟨(ad119.add ((x4_1).toNat * 5)).block, (ad119.add ((x4_1).toNat * 5)).off + 1, none⟩ = some (.slice A119_1 ((rd_T46 l0 x4_1).f1).length c119_1) ∧ w'.cell? ⟨(ad119.add ((x4_1).toNat * 5)).block, (ad119.add ((x4_1).toNat * 5)).off + 2, none⟩ = some (.slice ((rd_T46 l0 x4_1).f2).A ((rd_T46 l0 x4_1).f2).n ((rd_T46 l0 x4_1).f2).c) ∧ w'.cell? ⟨(ad119.add ((x4_1).toNat * 5)).block, (ad119.add ((x4_1).toNat * 5)).off + 3, none⟩ = some (.int .i64 ((rd_T46 l0 x4_1).f3)) ∧ w'.cell? ⟨(ad119.add ((x4_1).toNat * 5)).block, (ad119.add ((x4_1).toNat * 5)).off + 4, none⟩ = some (.int .i64 ((rd_T46 l0 x4_1).f4)) ∧ w'.cell? (ad119.add ((x4_1).toNat * 5)) = some (.int .i64 ((rd_T46 l0 x4_1).f0)) ∧ w'.cell? ⟨(ad119.add ((x4_1).toNat * 5)).block, (ad119.add ((x4_1).toNat * 5)).off + 1, none⟩ = some (.slice A119_1 ((rd_T46 l0 x4_1).f1).length c119_1) ∧ w'.cell? ⟨(ad119.add ((x4_1).toNat * 5)).block, (ad119.add ((x4_1).toNat * 5)).off + 2, none⟩ = some (.slice ((rd_T46 l0 x4_1).f2).A ((rd_T46 l0 x4_1).f2).n ((rd_T46 l0 x4_1).f2).c) ∧ w'.cell? ⟨(ad119.add ((x4_1).toNat * 5)).block, (ad119.add ((x4_1).toNat * 5)).off + 3, none⟩ = some (.int .i64 ((rd_T46 l0 x4_1).f3)) ∧ w'.cell? ⟨(ad119.add ((x4_1).toNat * 5)).block, (ad119.add ((x4_1).toNat * 5)).off + 4, none⟩ = some (.int .i64 ((rd_T46 l0 x4_1).f4))) (ds := []) #[false, false, false, false, false, false, false, false, false, false, false, false, false, false, false, false, false, false, false, false, false, false, false] (by kernel_rfl) rfl rfl ⟨((HB.out.cell (World.block_lt_of_cell? w _ hw119_0)).trans hw119_0), ((HB.out.cell (World.block_lt_of_cell? w _ hw119_1)).trans hw119_1), ((HB.out.cell (World.block_lt_of_cell? w _ hw119_2)).trans hw119_2), ((HB.out.cell (World.block_lt_of_cell? w _ hw119_3)).trans hw119_3), ((HB.out.cell (World.block_lt_of_cell? w _ hw119_4)).trans hw119_4), ((HB.out.cell (World.block_lt_of_cell? w _ hw120_0)).trans hw120_0), ((HB.out.cell (World.block_lt_of_cell? w _ hw120_1)).trans hw120_1), ((HB.out.cell (World.block_lt_of_cell? w _ hw120_2)).trans hw120_2), ((HB.out.cell (World.block_lt_of_cell? w _ hw120_3)).trans hw120_3), ((HB.out.cell (World.block_lt_of_cell? w _ hw120_4)).trans hw120_4), ((HB.out.cell (World.block_lt_of_cell? w _ hw121_0)).trans hw121_0), ((HB.out.cell (World.block_lt_of_cell? w _ hw121_1)).trans hw121_1), ((HB.out.cell (World.block_lt_of_cell? w _ hw121_2)).trans hw121_2), ((HB.out.cell (World.block_lt_of_cell? w _ hw121_3)).trans hw121_3), ((HB.out.cell (World.block_lt_of_cell? w _ hw121_4)).trans hw121_4), ((HB.out.cell (World.block_lt_of_cell? w _ hw122_0)).trans hw122_0), ((HB.out.cell (World.block_lt_of_cell? w _ hw122_1)).trans hw122_1), ((HB.out.cell (World.block_lt_of_cell? w _ hw122_2)).trans hw122_2), ((HB.out.cell (World.block_lt_of_cell? w _ hw122_3)).trans hw122_3), ((HB.out.cell (World.block_lt_of_cell? w _ hw122_4)).trans hw122_4)⟩ (fun hHeld => ?_); refine with_tabW phalaropelaw17_made.tab5 phalaropelaw17_made.bits5 (fun HT_ HW_ => ?_)
          generalize wr.drew = w4 at HO_3 HB HR119_1 HR120_1 HR121_1 HR122_1 hx119_0 hx119_1 hx119_2 hx119_3 hx119_4 hx120_0 hx120_1 hx120_2 hx120_3 hx120_4 hx121_0 hx121_1 hx121_2 hx121_3 hx121_4 hx122_0 hx122_1 hx122_2 hx122_3 hx122_4 hHeld ⊢
          refine pure_ (i := 0) (N := some 13) (v := ?_) (a' := ?_) #[true, false, false, false, false, false, false, false, false, false, false, false, false, false, false, false, false, false, false, false, false, false, false] rfl rfl (any_of HT_.out (by kernel_rfl)) (fun _ _ _ h => h) (Or.inl ⟨by rfl, ?_⟩) ?_ ?_
          rotate_left
          · intro w'
            go_simp
            with_reducible rfl
          rotate_left
          · simp only [Act.put, List.setIfInBounds_toArray, List.set_cons_zero, List.set_cons_succ, i64_w, i32_w]
            rfl
          refine pure_ (i := 1) (N := some 14) (v := ?_) (a' := ?_) #[true, true, false, false, false, false, false, false, false, false, false, false, false, false, false, false, false, false, false, false, false, false, false] rfl rfl (any_of HT_.out (by kernel_rfl)) (fun _ _ _ h => h) (Or.inl ⟨by rfl, ?_⟩) ?_ ?_
          rotate_left
          · intro w'
            go_simp
            with_reducible rfl
          rotate_left
          · simp only [Act.put, List.setIfInBounds_toArray, List.set_cons_zero, List.set_cons_succ, i64_w, i32_w]
            rfl
          refine pure_ (i := 2) (N := some 15) (v := ?_) (a' := ?_) #[true, true, true, false, false, false, false, false, false, false, false, false, false, false, false, false, false, false, false, false, false, false, false] rfl rfl (any_of HT_.out (by kernel_rfl)) (fun _ _ _ h => h) (Or.inl ⟨by rfl, ?_⟩) ?_ ?_
          rotate_left
          · intro w'
            go_simp
            with_reducible rfl
          rotate_left
          · simp only [Act.put, List.setIfInBounds_toArray, List.set_cons_zero, List.set_cons_succ, i64_w, i32_w]
            rfl
          refine pure_ (i := 3) (N := some 16) (v := ?_) (a' := ?_) #[true, true, true, true, false, false, false, false, false, false, false, false, false, false, false, false, false, false, false, false, false, false, false] rfl rfl (any_of HT_.out (by kernel_rfl)) (fun _ _ _ h => h) (Or.inl ⟨by rfl, ?_⟩) ?_ ?_
          rotate_left
          · intro w'
            go_simp
            with_reducible rfl
          rotate_left
          · simp only [Act.put, List.setIfInBounds_toArray, List.set_cons_zero, List.set_cons_succ, i64_w, i32_w]
            rfl
          refine pure_ (i := 5) (N := some 18) (v := ?_) (a' := ?_) #[true, true, true, true, false, true, false, false, false, false, false, false, false, false, false, false, false, false, false, false, false, false, false] rfl rfl (any_of HT_.out (by kernel_rfl)) (fun _ _ _ h => h) (Or.inl ⟨by rfl, ?_⟩) ?_ ?_
          rotate_left
          · intro w'
            go_simp
            with_reducible rfl
          rotate_left
          · simp only [Act.put, List.setIfInBounds_toArray, List.set_cons_zero, List.set_cons_succ, i64_w, i32_w]
            rfl
          refine pure_ (i := 6) (N := some 19) (v := ?_) (a' := ?_) #[true, true, true, true, false, true, true, false, false, false, false, false, false, false, false, false, false, false, false, false, false, false, false] rfl rfl (any_of HT_.out (by kernel_rfl)) (fun _ _ _ h => h) (Or.inl ⟨by rfl, ?_⟩) ?_ ?_
          rotate_left
          · intro w'
            go_simp
            with_reducible rfl
          rotate_left
          · simp only [Act.put, List.setIfInBounds_toArray, List.set_cons_zero, List.set_cons_succ, i64_w, i32_w]
            rfl
          refine pure_ (i := 7) (N := some 20) (v := ?_) (a' := ?_) #[true, true, true, true, false, true, true, true, false, false, false, false, false, false, false, false, false, false, false, false, false, false, false] rfl rfl (any_of HT_.out (by kernel_rfl)) (fun _ _ _ h => h) (Or.inl ⟨by rfl, ?_⟩) ?_ ?_
          rotate_left
          · intro w'
            go_simp
            with_reducible rfl
          rotate_left
          · simp only [Act.put, List.setIfInBounds_toArray, List.set_cons_zero, List.set_cons_succ, i64_w, i32_w]
            rfl
          refine pure_ (i := 8) (N := some 21) (v := ?_) (a' := ?_) #[true, true, true, true, false, true, true, true, true, false, false, false, false, false, false, false, false, false, false, false, false, false, false] rfl rfl (any_of HT_.out (by kernel_rfl)) (fun _ _ _ h => h) (Or.inl ⟨by rfl, ?_⟩) ?_ ?_
          rotate_left
          · intro w'
            go_simp
            with_reducible rfl
          rotate_left
          · simp only [Act.put, List.setIfInBounds_toArray, List.set_cons_zero, List.set_cons_succ, i64_w, i32_w]
            rfl
          refine pure_ (i := 10) (N := some 23) (v := ?_) (a' := ?_) #[true, true, true, true, false, true, true, true, true, false, true, false, false, false, false, false, false, false, false, false, false, false, false] rfl rfl (any_of HT_.out (by kernel_rfl)) (fun _ _ _ h => h) (Or.inl ⟨by rfl, ?_⟩) ?_ ?_
          rotate_left
          · intro w'
            go_simp
            with_reducible rfl
          rotate_left
          · simp only [Act.put, List.setIfInBounds_toArray, List.set_cons_zero, List.set_cons_succ, i64_w, i32_w]
            rfl
          refine pure_ (i := 11) (N := some 24) (v := ?_) (a' := ?_) #[true, true, true, true, false, true, true, true, true, false, true, true, false, false, false, false, false, false, false, false, false, false, false] rfl rfl (any_of HT_.out (by kernel_rfl)) (fun _ _ _ h => h) (Or.inl ⟨by rfl, ?_⟩) ?_ ?_
          rotate_left
          · intro w'
            go_simp
            with_reducible rfl
          rotate_left
          · simp only [Act.put, List.setIfInBounds_toArray, List.set_cons_zero, List.set_cons_succ, i64_w, i32_w]
            rfl
          refine pure_ (i := 12) (N := some 25) (v := ?_) (a' := ?_) #[true, true, true, true, false, true, true, true, true, false, true, true, true, false, false, false, false, false, false, false, false, false, false] rfl rfl (any_of HT_.out (by kernel_rfl)) (fun _ _ _ h => h) (Or.inl ⟨by rfl, ?_⟩) ?_ ?_
          rotate_left
          · intro w'
            go_simp
            with_reducible rfl
          rotate_left
          · simp only [Act.put, List.setIfInBounds_toArray, List.set_cons_zero, List.set_cons_succ, i64_w, i32_w]
            rfl
          refine pure_ (i := 13) (N := some 26) (v := ?_) (a' := ?_) #[true, true, true, true, false, true, true, true, true, false, true, true, true, true, false, false, false, false, false, false, false, false, false] rfl rfl (any_of HT_.out (by kernel_rfl)) (fun _ _ _ h => h) (Or.inl ⟨by rfl, ?_⟩) ?_ ?_
          rotate_left
          · intro w'
            go_simp
            with_reducible rfl
          rotate_left
          · simp only [Act.put, List.setIfInBounds_toArray, List.set_cons_zero, List.set_cons_succ, i64_w, i32_w]
            rfl
          refine pure_ (i := 15) (N := some 28) (v := ?_) (a' := ?_) #[true, true, true, true, false, true, true, true, true, false, true, true, true, true, false, true, false, false, false, false, false, false, false] rfl rfl (any_of HT_.out (by kernel_rfl)) (fun _ _ _ h => h) (Or.inl ⟨by rfl, ?_⟩) ?_ ?_
          rotate_left
          · intro w'
            go_simp
            with_reducible rfl
          rotate_left
          · simp only [Act.put, List.setIfInBounds_toArray, List.set_cons_zero, List.set_cons_succ, i64_w, i32_w]
            rfl
          refine pure_ (i := 16) (N := some 29) (v := ?_) (a' := ?_) #[true, true, true, true, false, true, true, true, true, false, true, true, true, true, false, true, true, false, false, false, false, false, false] rfl rfl (any_of HT_.out (by kernel_rfl)) (fun _ _ _ h => h) (Or.inl ⟨by rfl, ?_⟩) ?_ ?_
          rotate_left
          · intro w'
            go_simp
            with_reducible rfl
          rotate_left
          · simp only [Act.put, List.setIfInBounds_toArray, List.set_cons_zero, List.set_cons_succ, i64_w, i32_w]
            rfl
          refine pure_ (i := 17) (N := some 30) (v := ?_) (a' := ?_) #[true, true, true, true, false, true, true, true, true, false, true, true, true, true, false, true, true, true, false, false, false, false, false] rfl rfl (any_of HT_.out (by kernel_rfl)) (fun _ _ _ h => h) (Or.inl ⟨by rfl, ?_⟩) ?_ ?_
          rotate_left
          · intro w'
            go_simp
            with_reducible rfl
          rotate_left
          · simp only [Act.put, List.setIfInBounds_toArray, List.set_cons_zero, List.set_cons_succ, i64_w, i32_w]
            rfl
          refine pure_ (i := 18) (N := some 31) (v := ?_) (a' := ?_) #[true, true, true, true, false, true, true, true, true, false, true, true, true, true, false, true, true, true, true, false, false, false, false] rfl rfl (any_of HT_.out (by kernel_rfl)) (fun _ _ _ h => h) (Or.inl ⟨by rfl, ?_⟩) ?_ ?_
          rotate_left
          · intro w'
            go_simp
            with_reducible rfl
          rotate_left
          · simp only [Act.put, List.setIfInBounds_toArray, List.set_cons_zero, List.set_cons_succ, i64_w, i32_w]
            rfl
          refine take_ (i := 4) (N := some 17) (v := ?_) (a' := ?_) #[true, true, true, true, true, true, true, true, true, false, true, true, true, true, false, true, true, true, true, false, false, false, false] rfl rfl (take_ofW HT_.out HW_.out (by kernel_rfl)) (fun _ _ _ h => h) (Or.inl ⟨by rfl, ?_⟩) hHeld ?_ ?_
          rotate_left
          · rintro w' ⟨s0, s1, s2, s3, s4, s5, s6, s7, s8, s9, s10, s11, s12, s13, s14, s15, s16, s17, s18, s19⟩
            go_simp
            with_reducible rfl
          rotate_left
          · simp only [Act.put, List.setIfInBounds_toArray, List.set_cons_zero, List.set_cons_succ, i64_w, i32_w]
            rfl
          refine take_ (i := 9) (N := some 22) (v := ?_) (a' := ?_) #[true, true, true, true, true, true, true, true, true, true, true, true, true, true, false, true, true, true, true, false, false, false, false] rfl rfl (take_ofW HT_.out HW_.out (by kernel_rfl)) (fun _ _ _ h => h) (Or.inl ⟨by rfl, ?_⟩) hHeld ?_ ?_
          rotate_left
          · rintro w' ⟨s0, s1, s2, s3, s4, s5, s6, s7, s8, s9, s10, s11, s12, s13, s14, s15, s16, s17, s18, s19⟩
            go_simp
            with_reducible rfl
          rotate_left
          · simp only [Act.put, List.setIfInBounds_toArray, List.set_cons_zero, List.set_cons_succ, i64_w, i32_w]
            rfl
          refine take_ (i := 14) (N := some 27) (v := ?_) (a' := ?_) #[true, true, true, true, true, true, true, true, true, true, true, true, true, true, true, true, true, true, true, false, false, false, false] rfl rfl (take_ofW HT_.out HW_.out (by kernel_rfl)) (fun _ _ _ h => h) (Or.inl ⟨by rfl, ?_⟩) hHeld ?_ ?_
          rotate_left
          · rintro w' ⟨s0, s1, s2, s3, s4, s5, s6, s7, s8, s9, s10, s11, s12, s13, s14, s15, s16, s17, s18, s19⟩
            go_simp
            with_reducible rfl
          rotate_left
          · simp only [Act.put, List.setIfInBounds_toArray, List.set_cons_zero, List.set_cons_succ, i64_w, i32_w]
            rfl
          refine take_ (i := 19) (N := some 32) (v := ?_) (a' := ?_) #[true, true, true, true, true, true, true, true, true, true, true, true, true, true, true, true, true, true, true, true, false, false, false] rfl rfl (take_ofW HT_.out HW_.out (by kernel_rfl)) (fun _ _ _ h => h) (Or.inl ⟨by rfl, ?_⟩) hHeld ?_ ?_
          rotate_left
          · rintro w' ⟨s0, s1, s2, s3, s4, s5, s6, s7, s8, s9, s10, s11, s12, s13, s14, s15, s16, s17, s18, s19⟩
            go_simp
            with_reducible rfl
          rotate_left
          · simp only [Act.put, List.setIfInBounds_toArray, List.set_cons_zero, List.set_cons_succ, i64_w, i32_w]
            rfl
          refine pure_ (i := 20) (N := some 33) (v := ?_) (a' := ?_) #[true, true, true, true, true, true, true, true, true, true, true, true, true, true, true, true, true, true, true, true, true, false, false] rfl rfl (any_of HT_.out (by kernel_rfl)) (fun _ _ _ h => h) (Or.inl ⟨by rfl, ?_⟩) ?_ ?_
          rotate_left
          · intro w'
            go_simp
            with_reducible rfl
          rotate_left
          · simp only [Act.put, List.setIfInBounds_toArray, List.set_cons_zero, List.set_cons_succ, i64_w, i32_w]
            rfl
          refine one_ (i := 21) (N := some 5) #[true, true, true, true, true, true, true, true, true, true, true, true, true, true, true, true, true, true, true, true, true, true, false] rfl rfl (one_of HT_.out (by kernel_rfl)) (by decide) (fun K hK => ?_)
          refine box_step ?hg (N := 5) ?hd (cs := #[.int .i64 0, .slice none 0 0, .slice none 0 0, .int .i64 0, .int .i64 0]) (t := 33) ?hr ?_; (case hd => rfl); (case hg => rfl); (case hr => first | (go_simp; done) | (go_simp; rfl))
          intro gb123 hg w5 hbox hb
          have n0_ := Aside0.mk (Kd.S_below (Kd.S_elderB (by (with_reducible repeat (first | apply Kd.S_alloc | apply Kd.S_drewN | apply Kd.S_drew)); exact HO_3.out) gb123 (Nat.le_of_eq hg.symm)) hb)
          have n1_ := Aside0.mk (below_step (by repeat (first | (with_reducible first | exact HB.out | apply below_alloc | apply pw_below_drewN | apply below_drew1) | exact HB.out)) hb)
          have n2_ := Aside0.mk (hbox)
          have n3_ := Aside0.mk ((by rw [hg]; exact (below_size (by repeat (first | (with_reducible first | exact HB.out | apply below_alloc | apply pw_below_drewN | apply below_drew1) | exact HB.out))) : w.heap.size ≤ gb123))
          have n4_ := Aside0.mk ((by rw [hg]; exact (below_size (by repeat (first | (with_reducible first | exact HB.out | apply below_alloc | apply pw_below_drewN | apply below_drew1) | exact HB.out))) : w.heap.size ≤ gb123))
          clear HO_3
          clear HB
          have HO_3 := n0_
          have HB := n1_
          have BK123 := n2_
          have GW123 := n3_
          have GE123 := n4_
          clear n0_ n1_ n2_ n3_ n4_
          clear hb hbox hg
          refine hK.out _ _ ⟨((HB.out.cell (World.block_lt_of_cell? w _ hw119_0)).trans hw119_0), ((HB.out.cell (World.block_lt_of_cell? w _ hw119_1)).trans hw119_1), ((HB.out.cell (World.block_lt_of_cell? w _ hw119_2)).trans hw119_2), ((HB.out.cell (World.block_lt_of_cell? w _ hw119_3)).trans hw119_3), ((HB.out.cell (World.block_lt_of_cell? w _ hw119_4)).trans hw119_4), ((HB.out.cell (World.block_lt_of_cell? w _ hw120_0)).trans hw120_0), ((HB.out.cell (World.block_lt_of_cell? w _ hw120_1)).trans hw120_1), ((HB.out.cell (World.block_lt_of_cell? w _ hw120_2)).trans hw120_2), ((HB.out.cell (World.block_lt_of_cell? w _ hw120_3)).trans hw120_3), ((HB.out.cell (World.block_lt_of_cell? w _ hw120_4)).trans hw120_4), ((HB.out.cell (World.block_lt_of_cell? w _ hw121_0)).trans hw121_0), ((HB.out.cell (World.block_lt_of_cell? w _ hw121_1)).trans hw121_1), ((HB.out.cell (World.block_lt_of_cell? w _ hw121_2)).trans hw121_2), ((HB.out.cell (World.block_lt_of_cell? w _ hw121_3)).trans hw121_3), ((HB.out.cell (World.block_lt_of_cell? w _ hw121_4)).trans hw121_4), ((HB.out.cell (World.block_lt_of_cell? w _ hw122_0)).trans hw122_0), ((HB.out.cell (World.block_lt_of_cell? w _ hw122_1)).trans hw122_1), ((HB.out.cell (World.block_lt_of_cell? w _ hw122_2)).trans hw122_2), ((HB.out.cell (World.block_lt_of_cell? w _ hw122_3)).trans hw122_3), ((HB.out.cell (World.block_lt_of_cell? w _ hw122_4)).trans hw122_4)⟩ (fun hHeld => ?_)
          clear hK K
          refine norm_ (a' := ?_) ?_ ?_
          rotate_left
          · show Act.put _ (some 5) _ = _
            simp only [Act.put, List.setIfInBounds_toArray, List.set_cons_zero, List.set_cons_succ, i64_w, i32_w]
            rfl
          refine one_ (i := 22) (N := none) #[true, true, true, true, true, true, true, true, true, true, true, true, true, true, true, true, true, true, true, true, true, true, true] rfl rfl (one_of HT_.out (by kernel_rfl)) (by decide) (fun K hK => ?_)
          have hs6 : w5.cell? ⟨gb123, 0, none⟩ = some (.int .i64 0) := (blk_cell BK123.out 0).trans rfl
          have hfs6 := blk_frozen BK123.out 0
          have hs7 : w5.cell? ⟨gb123, 1, none⟩ = some (.slice none 0 0) := (blk_cell BK123.out 1).trans rfl
          have hfs7 := blk_frozen BK123.out 1
          have hs8 : w5.cell? ⟨gb123, 2, none⟩ = some (.slice none 0 0) := (blk_cell BK123.out 2).trans rfl
          have hfs8 := blk_frozen BK123.out 2
          have hs9 : w5.cell? ⟨gb123, 3, none⟩ = some (.int .i64 0) := (blk_cell BK123.out 3).trans rfl
          have hfs9 := blk_frozen BK123.out 3
          have hs10 : w5.cell? ⟨gb123, 4, none⟩ = some (.int .i64 0) := (blk_cell BK123.out 4).trans rfl
          have hfs10 := blk_frozen BK123.out 4
          refine skip_ (w1 := ?_) (by rfl) rfl ?_ ?_
          rotate_left
          · go_simp
            rfl
          refine hK.out _ _ ⟨((cell_far (p := ⟨gb123, _, none⟩) (by first | exact Nat.ne_of_lt (Nat.lt_of_lt_of_le (by have := World.block_lt_of_cell? _ _ hw119_0; first | rwa [add_block] at this | exact this) GW123.out) | (rw [add_block]; exact Nat.ne_of_lt (Nat.lt_of_lt_of_le (by have := World.block_lt_of_cell? _ _ hw119_0; first | rwa [add_block] at this | exact this) GW123.out)) | (show (Addr.add _ _).block ≠ _; rw [add_block]; exact Nat.ne_of_lt (Nat.lt_of_lt_of_le (by have := World.block_lt_of_cell? _ _ hw119_0; first | rwa [add_block] at this | exact this) GW123.out)) | (dsimp only; exact Nat.ne_of_lt (Nat.lt_of_lt_of_le (by have := World.block_lt_of_cell? _ _ hw119_0; first | rwa [add_block] at this | exact this) GW123.out))) _).trans (((cell_far (p := ⟨gb123, _, none⟩) (by first | exact Nat.ne_of_lt (Nat.lt_of_lt_of_le (by have := World.block_lt_of_cell? _ _ hw119_0; first | rwa [add_block] at this | exact this) GW123.out) | (rw [add_block]; exact Nat.ne_of_lt (Nat.lt_of_lt_of_le (by have := World.block_lt_of_cell? _ _ hw119_0; first | rwa [add_block] at this | exact this) GW123.out)) | (show (Addr.add _ _).block ≠ _; rw [add_block]; exact Nat.ne_of_lt (Nat.lt_of_lt_of_le (by have := World.block_lt_of_cell? _ _ hw119_0; first | rwa [add_block] at this | exact this) GW123.out)) | (dsimp only; exact Nat.ne_of_lt (Nat.lt_of_lt_of_le (by have := World.block_lt_of_cell? _ _ hw119_0; first | rwa [add_block] at this | exact this) GW123.out))) _).trans (((cell_far (p := ⟨gb123, _, none⟩) (by first | exact Nat.ne_of_lt (Nat.lt_of_lt_of_le (by have := World.block_lt_of_cell? _ _ hw119_0; first | rwa [add_block] at this | exact this) GW123.out) | (rw [add_block]; exact Nat.ne_of_lt (Nat.lt_of_lt_of_le (by have := World.block_lt_of_cell? _ _ hw119_0; first | rwa [add_block] at this | exact this) GW123.out)) | (show (Addr.add _ _).block ≠ _; rw [add_block]; exact Nat.ne_of_lt (Nat.lt_of_lt_of_le (by have := World.block_lt_of_cell? _ _ hw119_0; first | rwa [add_block] at this | exact this) GW123.out)) | (dsimp only; exact Nat.ne_of_lt (Nat.lt_of_lt_of_le (by have := World.block_lt_of_cell? _ _ hw119_0; first | rwa [add_block] at this | exact this) GW123.out))) _).trans (((cell_far (p := ⟨gb123, _, none⟩) (by first | exact Nat.ne_of_lt (Nat.lt_of_lt_of_le (by have := World.block_lt_of_cell? _ _ hw119_0; first | rwa [add_block] at this | exact this) GW123.out) | (rw [add_block]; exact Nat.ne_of_lt (Nat.lt_of_lt_of_le (by have := World.block_lt_of_cell? _ _ hw119_0; first | rwa [add_block] at this | exact this) GW123.out)) | (show (Addr.add _ _).block ≠ _; rw [add_block]; exact Nat.ne_of_lt (Nat.lt_of_lt_of_le (by have := World.block_lt_of_cell? _ _ hw119_0; first | rwa [add_block] at this | exact this) GW123.out)) | (dsimp only; exact Nat.ne_of_lt (Nat.lt_of_lt_of_le (by have := World.block_lt_of_cell? _ _ hw119_0; first | rwa [add_block] at this | exact this) GW123.out))) _).trans (((cell_far (p := ⟨gb123, _, none⟩) (by first | exact Nat.ne_of_lt (Nat.lt_of_lt_of_le (by have := World.block_lt_of_cell? _ _ hw119_0; first | rwa [add_block] at this | exact this) GW123.out) | (rw [add_block]; exact Nat.ne_of_lt (Nat.lt_of_lt_of_le (by have := World.block_lt_of_cell? _ _ hw119_0; first | rwa [add_block] at this | exact this) GW123.out)) | (show (Addr.add _ _).block ≠ _; rw [add_block]; exact Nat.ne_of_lt (Nat.lt_of_lt_of_le (by have := World.block_lt_of_cell? _ _ hw119_0; first | rwa [add_block] at this | exact this) GW123.out)) | (dsimp only; exact Nat.ne_of_lt (Nat.lt_of_lt_of_le (by have := World.block_lt_of_cell? _ _ hw119_0; first | rwa [add_block] at this | exact this) GW123.out))) _).trans (hHeld.1)))))))))), ((cell_far (p := ⟨gb123, _, none⟩) (by first | exact Nat.ne_of_lt (Nat.lt_of_lt_of_le (by have := World.block_lt_of_cell? _ _ hw119_1; first | rwa [add_block] at this | exact this) GW123.out) | (rw [add_block]; exact Nat.ne_of_lt (Nat.lt_of_lt_of_le (by have := World.block_lt_of_cell? _ _ hw119_1; first | rwa [add_block] at this | exact this) GW123.out)) | (show (Addr.add _ _).block ≠ _; rw [add_block]; exact Nat.ne_of_lt (Nat.lt_of_lt_of_le (by have := World.block_lt_of_cell? _ _ hw119_1; first | rwa [add_block] at this | exact this) GW123.out)) | (dsimp only; exact Nat.ne_of_lt (Nat.lt_of_lt_of_le (by have := World.block_lt_of_cell? _ _ hw119_1; first | rwa [add_block] at this | exact this) GW123.out))) _).trans (((cell_far (p := ⟨gb123, _, none⟩) (by first | exact Nat.ne_of_lt (Nat.lt_of_lt_of_le (by have := World.block_lt_of_cell? _ _ hw119_1; first | rwa [add_block] at this | exact this) GW123.out) | (rw [add_block]; exact Nat.ne_of_lt (Nat.lt_of_lt_of_le (by have := World.block_lt_of_cell? _ _ hw119_1; first | rwa [add_block] at this | exact this) GW123.out)) | (show (Addr.add _ _).block ≠ _; rw [add_block]; exact Nat.ne_of_lt (Nat.lt_of_lt_of_le (by have := World.block_lt_of_cell? _ _ hw119_1; first | rwa [add_block] at this | exact this) GW123.out)) | (dsimp only; exact Nat.ne_of_lt (Nat.lt_of_lt_of_le (by have := World.block_lt_of_cell? _ _ hw119_1; first | rwa [add_block] at this | exact this) GW123.out))) _).trans (((cell_far (p := ⟨gb123, _, none⟩) (by first | exact Nat.ne_of_lt (Nat.lt_of_lt_of_le (by have := World.block_lt_of_cell? _ _ hw119_1; first | rwa [add_block] at this | exact this) GW123.out) | (rw [add_block]; exact Nat.ne_of_lt (Nat.lt_of_lt_of_le (by have := World.block_lt_of_cell? _ _ hw119_1; first | rwa [add_block] at this | exact this) GW123.out)) | (show (Addr.add _ _).block ≠ _; rw [add_block]; exact Nat.ne_of_lt (Nat.lt_of_lt_of_le (by have := World.block_lt_of_cell? _ _ hw119_1; first | rwa [add_block] at this | exact this) GW123.out)) | (dsimp only; exact Nat.ne_of_lt (Nat.lt_of_lt_of_le (by have := World.block_lt_of_cell? _ _ hw119_1; first | rwa [add_block] at this | exact this) GW123.out))) _).trans (((cell_far (p := ⟨gb123, _, none⟩) (by first | exact Nat.ne_of_lt (Nat.lt_of_lt_of_le (by have := World.block_lt_of_cell? _ _ hw119_1; first | rwa [add_block] at this | exact this) GW123.out) | (rw [add_block]; exact Nat.ne_of_lt (Nat.lt_of_lt_of_le (by have := World.block_lt_of_cell? _ _ hw119_1; first | rwa [add_block] at this | exact this) GW123.out)) | (show (Addr.add _ _).block ≠ _; rw [add_block]; exact Nat.ne_of_lt (Nat.lt_of_lt_of_le (by have := World.block_lt_of_cell? _ _ hw119_1; first | rwa [add_block] at this | exact this) GW123.out)) | (dsimp only; exact Nat.ne_of_lt (Nat.lt_of_lt_of_le (by have := World.block_lt_of_cell? _ _ hw119_1; first | rwa [add_block] at this | exact this) GW123.out))) _).trans (((cell_far (p := ⟨gb123, _, none⟩) (by first | exact Nat.ne_of_lt (Nat.lt_of_lt_of_le (by have := World.block_lt_of_cell? _ _ hw119_1; first | rwa [add_block] at this | exact this) GW123.out) | (rw [add_block]; exact Nat.ne_of_lt (Nat.lt_of_lt_of_le (by have := World.block_lt_of_cell? _ _ hw119_1; first | rwa [add_block] at this | exact this) GW123.out)) | (show (Addr.add _ _).block ≠ _; rw [add_block]; exact Nat.ne_of_lt (Nat.lt_of_lt_of_le (by have := World.block_lt_of_cell? _ _ hw119_1; first | rwa [add_block] at this | exact this) GW123.out)) | (dsimp only; exact Nat.ne_of_lt (Nat.lt_of_lt_of_le (by have := World.block_lt_of_cell? _ _ hw119_1; first | rwa [add_block] at this | exact this) GW123.out))) _).trans (hHeld.2.1)))))))))), ((cell_far (p := ⟨gb123, _, none⟩) (by first | exact Nat.ne_of_lt (Nat.lt_of_lt_of_le (by have := World.block_lt_of_cell? _ _ hw119_2; first | rwa [add_block] at this | exact this) GW123.out) | (rw [add_block]; exact Nat.ne_of_lt (Nat.lt_of_lt_of_le (by have := World.block_lt_of_cell? _ _ hw119_2; first | rwa [add_block] at this | exact this) GW123.out)) | (show (Addr.add _ _).block ≠ _; rw [add_block]; exact Nat.ne_of_lt (Nat.lt_of_lt_of_le (by have := World.block_lt_of_cell? _ _ hw119_2; first | rwa [add_block] at this | exact this) GW123.out)) | (dsimp only; exact Nat.ne_of_lt (Nat.lt_of_lt_of_le (by have := World.block_lt_of_cell? _ _ hw119_2; first | rwa [add_block] at this | exact this) GW123.out))) _).trans (((cell_far (p := ⟨gb123, _, none⟩) (by first | exact Nat.ne_of_lt (Nat.lt_of_lt_of_le (by have := World.block_lt_of_cell? _ _ hw119_2; first | rwa [add_block] at this | exact this) GW123.out) | (rw [add_block]; exact Nat.ne_of_lt (Nat.lt_of_lt_of_le (by have := World.block_lt_of_cell? _ _ hw119_2; first | rwa [add_block] at this | exact this) GW123.out)) | (show (Addr.add _ _).block ≠ _; rw [add_block]; exact Nat.ne_of_lt (Nat.lt_of_lt_of_le (by have := World.block_lt_of_cell? _ _ hw119_2; first | rwa [add_block] at this | exact this) GW123.out)) | (dsimp only; exact Nat.ne_of_lt (Nat.lt_of_lt_of_le (by have := World.block_lt_of_cell? _ _ hw119_2; first | rwa [add_block] at this | exact this) GW123.out))) _).trans (((cell_far (p := ⟨gb123, _, none⟩) (by first | exact Nat.ne_of_lt (Nat.lt_of_lt_of_le (by have := World.block_lt_of_cell? _ _ hw119_2; first | rwa [add_block] at this | exact this) GW123.out) | (rw [add_block]; exact Nat.ne_of_lt (Nat.lt_of_lt_of_le (by have := World.block_lt_of_cell? _ _ hw119_2; first | rwa [add_block] at this | exact this) GW123.out)) | (show (Addr.add _ _).block ≠ _; rw [add_block]; exact Nat.ne_of_lt (Nat.lt_of_lt_of_le (by have := World.block_lt_of_cell? _ _ hw119_2; first | rwa [add_block] at this | exact this) GW123.out)) | (dsimp only; exact Nat.ne_of_lt (Nat.lt_of_lt_of_le (by have := World.block_lt_of_cell? _ _ hw119_2; first | rwa [add_block] at this | exact this) GW123.out))) _).trans (((cell_far (p := ⟨gb123, _, none⟩) (by first | exact Nat.ne_of_lt (Nat.lt_of_lt_of_le (by have := World.block_lt_of_cell? _ _ hw119_2; first | rwa [add_block] at this | exact this) GW123.out) | (rw [add_block]; exact Nat.ne_of_lt (Nat.lt_of_lt_of_le (by have := World.block_lt_of_cell? _ _ hw119_2; first | rwa [add_block] at this | exact this) GW123.out)) | (show (Addr.add _ _).block ≠ _; rw [add_block]; exact Nat.ne_of_lt (Nat.lt_of_lt_of_le (by have := World.block_lt_of_cell? _ _ hw119_2; first | rwa [add_block] at this | exact this) GW123.out)) | (dsimp only; exact Nat.ne_of_lt (Nat.lt_of_lt_of_le (by have := World.block_lt_of_cell? _ _ hw119_2; first | rwa [add_block] at this | exact this) GW123.out))) _).trans (((cell_far (p := ⟨gb123, _, none⟩) (by first | exact Nat.ne_of_lt (Nat.lt_of_lt_of_le (by have := World.block_lt_of_cell? _ _ hw119_2; first | rwa [add_block] at this | exact this) GW123.out) | (rw [add_block]; exact Nat.ne_of_lt (Nat.lt_of_lt_of_le (by have := World.block_lt_of_cell? _ _ hw119_2; first | rwa [add_block] at this | exact this) GW123.out)) | (show (Addr.add _ _).block ≠ _; rw [add_block]; exact Nat.ne_of_lt (Nat.lt_of_lt_of_le (by have := World.block_lt_of_cell? _ _ hw119_2; first | rwa [add_block] at this | exact this) GW123.out)) | (dsimp only; exact Nat.ne_of_lt (Nat.lt_of_lt_of_le (by have := World.block_lt_of_cell? _ _ hw119_2; first | rwa [add_block] at this | exact this) GW123.out))) _).trans (hHeld.2.2.1)))))))))), ((cell_far (p := ⟨gb123, _, none⟩) (by first | exact Nat.ne_of_lt (Nat.lt_of_lt_of_le (by have := World.block_lt_of_cell? _ _ hw119_3; first | rwa [add_block] at this | exact this) GW123.out) | (rw [add_block]; exact Nat.ne_of_lt (Nat.lt_of_lt_of_le (by have := World.block_lt_of_cell? _ _ hw119_3; first | rwa [add_block] at this | exact this) GW123.out)) | (show (Addr.add _ _).block ≠ _; rw [add_block]; exact Nat.ne_of_lt (Nat.lt_of_lt_of_le (by have := World.block_lt_of_cell? _ _ hw119_3; first | rwa [add_block] at this | exact this) GW123.out)) | (dsimp only; exact Nat.ne_of_lt (Nat.lt_of_lt_of_le (by have := World.block_lt_of_cell? _ _ hw119_3; first | rwa [add_block] at this | exact this) GW123.out))) _).trans (((cell_far (p := ⟨gb123, _, none⟩) (by first | exact Nat.ne_of_lt (Nat.lt_of_lt_of_le (by have := World.block_lt_of_cell? _ _ hw119_3; first | rwa [add_block] at this | exact this) GW123.out) | (rw [add_block]; exact Nat.ne_of_lt (Nat.lt_of_lt_of_le (by have := World.block_lt_of_cell? _ _ hw119_3; first | rwa [add_block] at this | exact this) GW123.out)) | (show (Addr.add _ _).block ≠ _; rw [add_block]; exact Nat.ne_of_lt (Nat.lt_of_lt_of_le (by have := World.block_lt_of_cell? _ _ hw119_3; first | rwa [add_block] at this | exact this) GW123.out)) | (dsimp only; exact Nat.ne_of_lt (Nat.lt_of_lt_of_le (by have := World.block_lt_of_cell? _ _ hw119_3; first | rwa [add_block] at this | exact this) GW123.out))) _).trans (((cell_far (p := ⟨gb123, _, none⟩) (by first | exact Nat.ne_of_lt (Nat.lt_of_lt_of_le (by have := World.block_lt_of_cell? _ _ hw119_3; first | rwa [add_block] at this | exact this) GW123.out) | (rw [add_block]; exact Nat.ne_of_lt (Nat.lt_of_lt_of_le (by have := World.block_lt_of_cell? _ _ hw119_3; first | rwa [add_block] at this | exact this) GW123.out)) | (show (Addr.add _ _).block ≠ _; rw [add_block]; exact Nat.ne_of_lt (Nat.lt_of_lt_of_le (by have := World.block_lt_of_cell? _ _ hw119_3; first | rwa [add_block] at this | exact this) GW123.out)) | (dsimp only; exact Nat.ne_of_lt (Nat.lt_of_lt_of_le (by have := World.block_lt_of_cell? _ _ hw119_3; first | rwa [add_block] at this | exact this) GW123.out))) _).trans (((cell_far (p := ⟨gb123, _, none⟩) (by first | exact Nat.ne_of_lt (Nat.lt_of_lt_of_le (by have := World.block_lt_of_cell? _ _ hw119_3; first | rwa [add_block] at this | exact this) GW123.out) | (rw [add_block]; exact Nat.ne_of_lt (Nat.lt_of_lt_of_le (by have := World.block_lt_of_cell? _ _ hw119_3; first | rwa [add_block] at this | exact this) GW123.out)) | (show (Addr.add _ _).block ≠ _; rw [add_block]; exact Nat.ne_of_lt (Nat.lt_of_lt_of_le (by have := World.block_lt_of_cell? _ _ hw119_3; first | rwa [add_block] at this | exact this) GW123.out)) | (dsimp only; exact Nat.ne_of_lt (Nat.lt_of_lt_of_le (by have := World.block_lt_of_cell? _ _ hw119_3; first | rwa [add_block] at this | exact this) GW123.out))) _).trans (((cell_far (p := ⟨gb123, _, none⟩) (by first | exact Nat.ne_of_lt (Nat.lt_of_lt_of_le (by have := World.block_lt_of_cell? _ _ hw119_3; first | rwa [add_block] at this | exact this) GW123.out) | (rw [add_block]; exact Nat.ne_of_lt (Nat.lt_of_lt_of_le (by have := World.block_lt_of_cell? _ _ hw119_3; first | rwa [add_block] at this | exact this) GW123.out)) | (show (Addr.add _ _).block ≠ _; rw [add_block]; exact Nat.ne_of_lt (Nat.lt_of_lt_of_le (by have := World.block_lt_of_cell? _ _ hw119_3; first | rwa [add_block] at this | exact this) GW123.out)) | (dsimp only; exact Nat.ne_of_lt (Nat.lt_of_lt_of_le (by have := World.block_lt_of_cell? _ _ hw119_3; first | rwa [add_block] at this | exact this) GW123.out))) _).trans (hHeld.2.2.2.1)))))))))), ((cell_far (p := ⟨gb123, _, none⟩) (by first | exact Nat.ne_of_lt (Nat.lt_of_lt_of_le (by have := World.block_lt_of_cell? _ _ hw119_4; first | rwa [add_block] at this | exact this) GW123.out) | (rw [add_block]; exact Nat.ne_of_lt (Nat.lt_of_lt_of_le (by have := World.block_lt_of_cell? _ _ hw119_4; first | rwa [add_block] at this | exact this) GW123.out)) | (show (Addr.add _ _).block ≠ _; rw [add_block]; exact Nat.ne_of_lt (Nat.lt_of_lt_of_le (by have := World.block_lt_of_cell? _ _ hw119_4; first | rwa [add_block] at this | exact this) GW123.out)) | (dsimp only; exact Nat.ne_of_lt (Nat.lt_of_lt_of_le (by have := World.block_lt_of_cell? _ _ hw119_4; first | rwa [add_block] at this | exact this) GW123.out))) _).trans (((cell_far (p := ⟨gb123, _, none⟩) (by first | exact Nat.ne_of_lt (Nat.lt_of_lt_of_le (by have := World.block_lt_of_cell? _ _ hw119_4; first | rwa [add_block] at this | exact this) GW123.out) | (rw [add_block]; exact Nat.ne_of_lt (Nat.lt_of_lt_of_le (by have := World.block_lt_of_cell? _ _ hw119_4; first | rwa [add_block] at this | exact this) GW123.out)) | (show (Addr.add _ _).block ≠ _; rw [add_block]; exact Nat.ne_of_lt (Nat.lt_of_lt_of_le (by have := World.block_lt_of_cell? _ _ hw119_4; first | rwa [add_block] at this | exact this) GW123.out)) | (dsimp only; exact Nat.ne_of_lt (Nat.lt_of_lt_of_le (by have := World.block_lt_of_cell? _ _ hw119_4; first | rwa [add_block] at this | exact this) GW123.out))) _).trans (((cell_far (p := ⟨gb123, _, none⟩) (by first | exact Nat.ne_of_lt (Nat.lt_of_lt_of_le (by have := World.block_lt_of_cell? _ _ hw119_4; first | rwa [add_block] at this | exact this) GW123.out) | (rw [add_block]; exact Nat.ne_of_lt (Nat.lt_of_lt_of_le (by have := World.block_lt_of_cell? _ _ hw119_4; first | rwa [add_block] at this | exact this) GW123.out)) | (show (Addr.add _ _).block ≠ _; rw [add_block]; exact Nat.ne_of_lt (Nat.lt_of_lt_of_le (by have := World.block_lt_of_cell? _ _ hw119_4; first | rwa [add_block] at this | exact this) GW123.out)) | (dsimp only; exact Nat.ne_of_lt (Nat.lt_of_lt_of_le (by have := World.block_lt_of_cell? _ _ hw119_4; first | rwa [add_block] at this | exact this) GW123.out))) _).trans (((cell_far (p := ⟨gb123, _, none⟩) (by first | exact Nat.ne_of_lt (Nat.lt_of_lt_of_le (by have := World.block_lt_of_cell? _ _ hw119_4; first | rwa [add_block] at this | exact this) GW123.out) | (rw [add_block]; exact Nat.ne_of_lt (Nat.lt_of_lt_of_le (by have := World.block_lt_of_cell? _ _ hw119_4; first | rwa [add_block] at this | exact this) GW123.out)) | (show (Addr.add _ _).block ≠ _; rw [add_block]; exact Nat.ne_of_lt (Nat.lt_of_lt_of_le (by have := World.block_lt_of_cell? _ _ hw119_4; first | rwa [add_block] at this | exact this) GW123.out)) | (dsimp only; exact Nat.ne_of_lt (Nat.lt_of_lt_of_le (by have := World.block_lt_of_cell? _ _ hw119_4; first | rwa [add_block] at this | exact this) GW123.out))) _).trans (((cell_far (p := ⟨gb123, _, none⟩) (by first | exact Nat.ne_of_lt (Nat.lt_of_lt_of_le (by have := World.block_lt_of_cell? _ _ hw119_4; first | rwa [add_block] at this | exact this) GW123.out) | (rw [add_block]; exact Nat.ne_of_lt (Nat.lt_of_lt_of_le (by have := World.block_lt_of_cell? _ _ hw119_4; first | rwa [add_block] at this | exact this) GW123.out)) | (show (Addr.add _ _).block ≠ _; rw [add_block]; exact Nat.ne_of_lt (Nat.lt_of_lt_of_le (by have := World.block_lt_of_cell? _ _ hw119_4; first | rwa [add_block] at this | exact this) GW123.out)) | (dsimp only; exact Nat.ne_of_lt (Nat.lt_of_lt_of_le (by have := World.block_lt_of_cell? _ _ hw119_4; first | rwa [add_block] at this | exact this) GW123.out))) _).trans (hHeld.2.2.2.2.1)))))))))), ((cell_far (p := ⟨gb123, _, none⟩) (by first | exact Nat.ne_of_lt (Nat.lt_of_lt_of_le (by have := World.block_lt_of_cell? _ _ hw120_0; first | rwa [add_block] at this | exact this) GW123.out) | (rw [add_block]; exact Nat.ne_of_lt (Nat.lt_of_lt_of_le (by have := World.block_lt_of_cell? _ _ hw120_0; first | rwa [add_block] at this | exact this) GW123.out)) | (show (Addr.add _ _).block ≠ _; rw [add_block]; exact Nat.ne_of_lt (Nat.lt_of_lt_of_le (by have := World.block_lt_of_cell? _ _ hw120_0; first | rwa [add_block] at this | exact this) GW123.out)) | (dsimp only; exact Nat.ne_of_lt (Nat.lt_of_lt_of_le (by have := World.block_lt_of_cell? _ _ hw120_0; first | rwa [add_block] at this | exact this) GW123.out))) _).trans (((cell_far (p := ⟨gb123, _, none⟩) (by first | exact Nat.ne_of_lt (Nat.lt_of_lt_of_le (by have := World.block_lt_of_cell? _ _ hw120_0; first | rwa [add_block] at this | exact this) GW123.out) | (rw [add_block]; exact Nat.ne_of_lt (Nat.lt_of_lt_of_le (by have := World.block_lt_of_cell? _ _ hw120_0; first | rwa [add_block] at this | exact this) GW123.out)) | (show (Addr.add _ _).block ≠ _; rw [add_block]; exact Nat.ne_of_lt (Nat.lt_of_lt_of_le (by have := World.block_lt_of_cell? _ _ hw120_0; first | rwa [add_block] at this | exact this) GW123.out)) | (dsimp only; exact Nat.ne_of_lt (Nat.lt_of_lt_of_le (by have := World.block_lt_of_cell? _ _ hw120_0; first | rwa [add_block] at this | exact this) GW123.out))) _).trans (((cell_far (p := ⟨gb123, _, none⟩) (by first | exact Nat.ne_of_lt (Nat.lt_of_lt_of_le (by have := World.block_lt_of_cell? _ _ hw120_0; first | rwa [add_block] at this | exact this) GW123.out) | (rw [add_block]; exact Nat.ne_of_lt (Nat.lt_of_lt_of_le (by have := World.block_lt_of_cell? _ _ hw120_0; first | rwa [add_block] at this | exact this) GW123.out)) | (show (Addr.add _ _).block ≠ _; rw [add_block]; exact Nat.ne_of_lt (Nat.lt_of_lt_of_le (by have := World.block_lt_of_cell? _ _ hw120_0; first | rwa [add_block] at this | exact this) GW123.out)) | (dsimp only; exact Nat.ne_of_lt (Nat.lt_of_lt_of_le (by have := World.block_lt_of_cell? _ _ hw120_0; first | rwa [add_block] at this | exact this) GW123.out))) _).trans (((cell_far (p := ⟨gb123, _, none⟩) (by first | exact Nat.ne_of_lt (Nat.lt_of_lt_of_le (by have := World.block_lt_of_cell? _ _ hw120_0; first | rwa [add_block] at this | exact this) GW123.out) | (rw [add_block]; exact Nat.ne_of_lt (Nat.lt_of_lt_of_le (by have := World.block_lt_of_cell? _ _ hw120_0; first | rwa [add_block] at this | exact this) GW123.out)) | (show (Addr.add _ _).block ≠ _; rw [add_block]; exact Nat.ne_of_lt (Nat.lt_of_lt_of_le (by have := World.block_lt_of_cell? _ _ hw120_0; first | rwa [add_block] at this | exact this) GW123.out)) | (dsimp only; exact Nat.ne_of_lt (Nat.lt_of_lt_of_le (by have := World.block_lt_of_cell? _ _ hw120_0; first | rwa [add_block] at this | exact this) GW123.out))) _).trans (((cell_far (p := ⟨gb123, _, none⟩) (by first | exact Nat.ne_of_lt (Nat.lt_of_lt_of_le (by have := World.block_lt_of_cell? _ _ hw120_0; first | rwa [add_block] at this | exact this) GW123.out) | (rw [add_block]; exact Nat.ne_of_lt (Nat.lt_of_lt_of_le (by have := World.block_lt_of_cell? _ _ hw120_0; first | rwa [add_block] at this | exact this) GW123.out)) | (show (Addr.add _ _).block ≠ _; rw [add_block]; exact Nat.ne_of_lt (Nat.lt_of_lt_of_le (by have := World.block_lt_of_cell? _ _ hw120_0; first | rwa [add_block] at this | exact this) GW123.out)) | (dsimp only; exact Nat.ne_of_lt (Nat.lt_of_lt_of_le (by have := World.block_lt_of_cell? _ _ hw120_0; first | rwa [add_block] at this | exact this) GW123.out))) _).trans (hHeld.2.2.2.2.2.1)))))))))), ((cell_far (p := ⟨gb123, _, none⟩) (by first | exact Nat.ne_of_lt (Nat.lt_of_lt_of_le (by have := World.block_lt_of_cell? _ _ hw120_1; first | rwa [add_block] at this | exact this) GW123.out) | (rw [add_block]; exact Nat.ne_of_lt (Nat.lt_of_lt_of_le (by have := World.block_lt_of_cell? _ _ hw120_1; first | rwa [add_block] at this | exact this) GW123.out)) | (show (Addr.add _ _).block ≠ _; rw [add_block]; exact Nat.ne_of_lt (Nat.lt_of_lt_of_le (by have := World.block_lt_of_cell? _ _ hw120_1; first | rwa [add_block] at this | exact this) GW123.out)) | (dsimp only; exact Nat.ne_of_lt (Nat.lt_of_lt_of_le (by have := World.block_lt_of_cell? _ _ hw120_1; first | rwa [add_block] at this | exact this) GW123.out))) _).trans (((cell_far (p := ⟨gb123, _, none⟩) (by first | exact Nat.ne_of_lt (Nat.lt_of_lt_of_le (by have := World.block_lt_of_cell? _ _ hw120_1; first | rwa [add_block] at this | exact this) GW123.out) | (rw [add_block]; exact Nat.ne_of_lt (Nat.lt_of_lt_of_le (by have := World.block_lt_of_cell? _ _ hw120_1; first | rwa [add_block] at this | exact this) GW123.out)) | (show (Addr.add _ _).block ≠ _; rw [add_block]; exact Nat.ne_of_lt (Nat.lt_of_lt_of_le (by have := World.block_lt_of_cell? _ _ hw120_1; first | rwa [add_block] at this | exact this) GW123.out)) | (dsimp only; exact Nat.ne_of_lt (Nat.lt_of_lt_of_le (by have := World.block_lt_of_cell? _ _ hw120_1; first | rwa [add_block] at this | exact this) GW123.out))) _).trans (((cell_far (p := ⟨gb123, _, none⟩) (by first | exact Nat.ne_of_lt (Nat.lt_of_lt_of_le (by have := World.block_lt_of_cell? _ _ hw120_1; first | rwa [add_block] at this | exact this) GW123.out) | (rw [add_block]; exact Nat.ne_of_lt (Nat.lt_of_lt_of_le (by have := World.block_lt_of_cell? _ _ hw120_1; first | rwa [add_block] at this | exact this) GW123.out)) | (show (Addr.add _ _).block ≠ _; rw [add_block]; exact Nat.ne_of_lt (Nat.lt_of_lt_of_le (by have := World.block_lt_of_cell? _ _ hw120_1; first | rwa [add_block] at this | exact this) GW123.out)) | (dsimp only; exact Nat.ne_of_lt (Nat.lt_of_lt_of_le (by have := World.block_lt_of_cell? _ _ hw120_1; first | rwa [add_block] at this | exact this) GW123.out))) _).trans (((cell_far (p := ⟨gb123, _, none⟩) (by first | exact Nat.ne_of_lt (Nat.lt_of_lt_of_le (by have := World.block_lt_of_cell? _ _ hw120_1; first | rwa [add_block] at this | exact this) GW123.out) | (rw [add_block]; exact Nat.ne_of_lt (Nat.lt_of_lt_of_le (by have := World.block_lt_of_cell? _ _ hw120_1; first | rwa [add_block] at this | exact this) GW123.out)) | (show (Addr.add _ _).block ≠ _; rw [add_block]; exact Nat.ne_of_lt (Nat.lt_of_lt_of_le (by have := World.block_lt_of_cell? _ _ hw120_1; first | rwa [add_block] at this | exact this) GW123.out)) | (dsimp only; exact Nat.ne_of_lt (Nat.lt_of_lt_of_le (by have := World.block_lt_of_cell? _ _ hw120_1; first | rwa [add_block] at this | exact this) GW123.out))) _).trans (((cell_far (p := ⟨gb123, _, none⟩) (by first | exact Nat.ne_of_lt (Nat.lt_of_lt_of_le (by have := World.block_lt_of_cell? _ _ hw120_1; first | rwa [add_block] at this | exact this) GW123.out) | (rw [add_block]; exact Nat.ne_of_lt (Nat.lt_of_lt_of_le (by have := World.block_lt_of_cell? _ _ hw120_1; first | rwa [add_block] at this | exact this) GW123.out)) | (show (Addr.add _ _).block ≠ _; rw [add_block]; exact Nat.ne_of_lt (Nat.lt_of_lt_of_le (by have := World.block_lt_of_cell? _ _ hw120_1; first | rwa [add_block] at this | exact this) GW123.out)) | (dsimp only; exact Nat.ne_of_lt (Nat.lt_of_lt_of_le (by have := World.block_lt_of_cell? _ _ hw120_1; first | rwa [add_block] at this | exact this) GW123.out))) _).trans (hHeld.2.2.2.2.2.2.1)))))))))), ((cell_far (p := ⟨gb123, _, none⟩) (by first | exact Nat.ne_of_lt (Nat.lt_of_lt_of_le (by have := World.block_lt_of_cell? _ _ hw120_2; first | rwa [add_block] at this | exact this) GW123.out) | (rw [add_block]; exact Nat.ne_of_lt (Nat.lt_of_lt_of_le (by have := World.block_lt_of_cell? _ _ hw120_2; first | rwa [add_block] at this | exact this) GW123.out)) | (show (Addr.add _ _).block ≠ _; rw [add_block]; exact Nat.ne_of_lt (Nat.lt_of_lt_of_le (by have := World.block_lt_of_cell? _ _ hw120_2; first | rwa [add_block] at this | exact this) GW123.out)) | (dsimp only; exact Nat.ne_of_lt (Nat.lt_of_lt_of_le (by have := World.block_lt_of_cell? _ _ hw120_2; first | rwa [add_block] at this | exact this) GW123.out))) _).trans (((cell_far (p := ⟨gb123, _, none⟩) (by first | exact Nat.ne_of_lt (Nat.lt_of_lt_of_le (by have := World.block_lt_of_cell? _ _ hw120_2; first | rwa [add_block] at this | exact this) GW123.out) | (rw [add_block]; exact Nat.ne_of_lt (Nat.lt_of_lt_of_le (by have := World.block_lt_of_cell? _ _ hw120_2; first | rwa [add_block] at this | exact this) GW123.out)) | (show (Addr.add _ _).block ≠ _; rw [add_block]; exact Nat.ne_of_lt (Nat.lt_of_lt_of_le (by have := World.block_lt_of_cell? _ _ hw120_2; first | rwa [add_block] at this | exact this) GW123.out)) | (dsimp only; exact Nat.ne_of_lt (Nat.lt_of_lt_of_le (by have := World.block_lt_of_cell? _ _ hw120_2; first | rwa [add_block] at this | exact this) GW123.out))) _).trans (((cell_far (p := ⟨gb123, _, none⟩) (by first | exact Nat.ne_of_lt (Nat.lt_of_lt_of_le (by have := World.block_lt_of_cell? _ _ hw120_2; first | rwa [add_block] at this | exact this) GW123.out) | (rw [add_block]; exact Nat.ne_of_lt (Nat.lt_of_lt_of_le (by have := World.block_lt_of_cell? _ _ hw120_2; first | rwa [add_block] at this | exact this) GW123.out)) | (show (Addr.add _ _).block ≠ _; rw [add_block]; exact Nat.ne_of_lt (Nat.lt_of_lt_of_le (by have := World.block_lt_of_cell? _ _ hw120_2; first | rwa [add_block] at this | exact this) GW123.out)) | (dsimp only; exact Nat.ne_of_lt (Nat.lt_of_lt_of_le (by have := World.block_lt_of_cell? _ _ hw120_2; first | rwa [add_block] at this | exact this) GW123.out))) _).trans (((cell_far (p := ⟨gb123, _, none⟩) (by first | exact Nat.ne_of_lt (Nat.lt_of_lt_of_le (by have := World.block_lt_of_cell? _ _ hw120_2; first | rwa [add_block] at this | exact this) GW123.out) | (rw [add_block]; exact Nat.ne_of_lt (Nat.lt_of_lt_of_le (by have := World.block_lt_of_cell? _ _ hw120_2; first | rwa [add_block] at this | exact this) GW123.out)) | (show (Addr.add _ _).block ≠ _; rw [add_block]; exact Nat.ne_of_lt (Nat.lt_of_lt_of_le (by have := World.block_lt_of_cell? _ _ hw120_2; first | rwa [add_block] at this | exact this) GW123.out)) | (dsimp only; exact Nat.ne_of_lt (Nat.lt_of_lt_of_le (by have := World.block_lt_of_cell? _ _ hw120_2; first | rwa [add_block] at this | exact this) GW123.out))) _).trans (((cell_far (p := ⟨gb123, _, none⟩) (by first | exact Nat.ne_of_lt (Nat.lt_of_lt_of_le (by have := World.block_lt_of_cell? _ _ hw120_2; first | rwa [add_block] at this | exact this) GW123.out) | (rw [add_block]; exact Nat.ne_of_lt (Nat.lt_of_lt_of_le (by have := World.block_lt_of_cell? _ _ hw120_2; first | rwa [add_block] at this | exact this) GW123.out)) | (show (Addr.add _ _).block ≠ _; rw [add_block]; exact Nat.ne_of_lt (Nat.lt_of_lt_of_le (by have := World.block_lt_of_cell? _ _ hw120_2; first | rwa [add_block] at this | exact this) GW123.out)) | (dsimp only; exact Nat.ne_of_lt (Nat.lt_of_lt_of_le (by have := World.block_lt_of_cell? _ _ hw120_2; first | rwa [add_block] at this | exact this) GW123.out))) _).trans (hHeld.2.2.2.2.2.2.2.1)))))))))), ((cell_far (p := ⟨gb123, _, none⟩) (by first | exact Nat.ne_of_lt (Nat.lt_of_lt_of_le (by have := World.block_lt_of_cell? _ _ hw120_3; first | rwa [add_block] at this | exact this) GW123.out) | (rw [add_block]; exact Nat.ne_of_lt (Nat.lt_of_lt_of_le (by have := World.block_lt_of_cell? _ _ hw120_3; first | rwa [add_block] at this | exact this) GW123.out)) | (show (Addr.add _ _).block ≠ _; rw [add_block]; exact Nat.ne_of_lt (Nat.lt_of_lt_of_le (by have := World.block_lt_of_cell? _ _ hw120_3; first | rwa [add_block] at this | exact this) GW123.out)) | (dsimp only; exact Nat.ne_of_lt (Nat.lt_of_lt_of_le (by have := World.block_lt_of_cell? _ _ hw120_3; first | rwa [add_block] at this | exact this) GW123.out))) _).trans (((cell_far (p := ⟨gb123, _, none⟩) (by first | exact Nat.ne_of_lt (Nat.lt_of_lt_of_le (by have := World.block_lt_of_cell? _ _ hw120_3; first | rwa [add_block] at this | exact this) GW123.out) | (rw [add_block]; exact Nat.ne_of_lt (Nat.lt_of_lt_of_le (by have := World.block_lt_of_cell? _ _ hw120_3; first | rwa [add_block] at this | exact this) GW123.out)) | (show (Addr.add _ _).block ≠ _; rw [add_block]; exact Nat.ne_of_lt (Nat.lt_of_lt_of_le (by have := World.block_lt_of_cell? _ _ hw120_3; first | rwa [add_block] at this | exact this) GW123.out)) | (dsimp only; exact Nat.ne_of_lt (Nat.lt_of_lt_of_le (by have := World.block_lt_of_cell? _ _ hw120_3; first | rwa [add_block] at this | exact this) GW123.out))) _).trans (((cell_far (p := ⟨gb123, _, none⟩) (by first | exact Nat.ne_of_lt (Nat.lt_of_lt_of_le (by have := World.block_lt_of_cell? _ _ hw120_3; first | rwa [add_block] at this | exact this) GW123.out) | (rw [add_block]; exact Nat.ne_of_lt (Nat.lt_of_lt_of_le (by have := World.block_lt_of_cell? _ _ hw120_3; first | rwa [add_block] at this | exact this) GW123.out)) | (show (Addr.add _ _).block ≠ _; rw [add_block]; exact Nat.ne_of_lt (Nat.lt_of_lt_of_le (by have := World.block_lt_of_cell? _ _ hw120_3; first | rwa [add_block] at this | exact this) GW123.out)) | (dsimp only; exact Nat.ne_of_lt (Nat.lt_of_lt_of_le (by have := World.block_lt_of_cell? _ _ hw120_3; first | rwa [add_block] at this | exact this) GW123.out))) _).trans (((cell_far (p := ⟨gb123, _, none⟩) (by first | exact Nat.ne_of_lt (Nat.lt_of_lt_of_le (by have := World.block_lt_of_cell? _ _ hw120_3; first | rwa [add_block] at this | exact this) GW123.out) | (rw [add_block]; exact Nat.ne_of_lt (Nat.lt_of_lt_of_le (by have := World.block_lt_of_cell? _ _ hw120_3; first | rwa [add_block] at this | exact this) GW123.out)) | (show (Addr.add _ _).block ≠ _; rw [add_block]; exact Nat.ne_of_lt (Nat.lt_of_lt_of_le (by have := World.block_lt_of_cell? _ _ hw120_3; first | rwa [add_block] at this | exact this) GW123.out)) | (dsimp only; exact Nat.ne_of_lt (Nat.lt_of_lt_of_le (by have := World.block_lt_of_cell? _ _ hw120_3; first | rwa [add_block] at this | exact this) GW123.out))) _).trans (((cell_far (p := ⟨gb123, _, none⟩) (by first | exact Nat.ne_of_lt (Nat.lt_of_lt_of_le (by have := World.block_lt_of_cell? _ _ hw120_3; first | rwa [add_block] at this | exact this) GW123.out) | (rw [add_block]; exact Nat.ne_of_lt (Nat.lt_of_lt_of_le (by have := World.block_lt_of_cell? _ _ hw120_3; first | rwa [add_block] at this | exact this) GW123.out)) | (show (Addr.add _ _).block ≠ _; rw [add_block]; exact Nat.ne_of_lt (Nat.lt_of_lt_of_le (by have := World.block_lt_of_cell? _ _ hw120_3; first | rwa [add_block] at this | exact this) GW123.out)) | (dsimp only; exact Nat.ne_of_lt (Nat.lt_of_lt_of_le (by have := World.block_lt_of_cell? _ _ hw120_3; first | rwa [add_block] at this | exact this) GW123.out))) _).trans (hHeld.2.2.2.2.2.2.2.2.1)))))))))), ((cell_far (p := ⟨gb123, _, none⟩) (by first | exact Nat.ne_of_lt (Nat.lt_of_lt_of_le (by have := World.block_lt_of_cell? _ _ hw120_4; first | rwa [add_block] at this | exact this) GW123.out) | (rw [add_block]; exact Nat.ne_of_lt (Nat.lt_of_lt_of_le (by have := World.block_lt_of_cell? _ _ hw120_4; first | rwa [add_block] at this | exact this) GW123.out)) | (show (Addr.add _ _).block ≠ _; rw [add_block]; exact Nat.ne_of_lt (Nat.lt_of_lt_of_le (by have := World.block_lt_of_cell? _ _ hw120_4; first | rwa [add_block] at this | exact this) GW123.out)) | (dsimp only; exact Nat.ne_of_lt (Nat.lt_of_lt_of_le (by have := World.block_lt_of_cell? _ _ hw120_4; first | rwa [add_block] at this | exact this) GW123.out))) _).trans (((cell_far (p := ⟨gb123, _, none⟩) (by first | exact Nat.ne_of_lt (Nat.lt_of_lt_of_le (by have := World.block_lt_of_cell? _ _ hw120_4; first | rwa [add_block] at this | exact this) GW123.out) | (rw [add_block]; exact Nat.ne_of_lt (Nat.lt_of_lt_of_le (by have := World.block_lt_of_cell? _ _ hw120_4; first | rwa [add_block] at this | exact this) GW123.out)) | (show (Addr.add _ _).block ≠ _; rw [add_block]; exact Nat.ne_of_lt (Nat.lt_of_lt_of_le (by have := World.block_lt_of_cell? _ _ hw120_4; first | rwa [add_block] at this | exact this) GW123.out)) | (dsimp only; exact Nat.ne_of_lt (Nat.lt_of_lt_of_le (by have := World.block_lt_of_cell? _ _ hw120_4; first | rwa [add_block] at this | exact this) GW123.out))) _).trans (((cell_far (p := ⟨gb123, _, none⟩) (by first | exact Nat.ne_of_lt (Nat.lt_of_lt_of_le (by have := World.block_lt_of_cell? _ _ hw120_4; first | rwa [add_block] at this | exact this) GW123.out) | (rw [add_block]; exact Nat.ne_of_lt (Nat.lt_of_lt_of_le (by have := World.block_lt_of_cell? _ _ hw120_4; first | rwa [add_block] at this | exact this) GW123.out)) | (show (Addr.add _ _).block ≠ _; rw [add_block]; exact Nat.ne_of_lt (Nat.lt_of_lt_of_le (by have := World.block_lt_of_cell? _ _ hw120_4; first | rwa [add_block] at this | exact this) GW123.out)) | (dsimp only; exact Nat.ne_of_lt (Nat.lt_of_lt_of_le (by have := World.block_lt_of_cell? _ _ hw120_4; first | rwa [add_block] at this | exact this) GW123.out))) _).trans (((cell_far (p := ⟨gb123, _, none⟩) (by first | exact Nat.ne_of_lt (Nat.lt_of_lt_of_le (by have := World.block_lt_of_cell? _ _ hw120_4; first | rwa [add_block] at this | exact this) GW123.out) | (rw [add_block]; exact Nat.ne_of_lt (Nat.lt_of_lt_of_le (by have := World.block_lt_of_cell? _ _ hw120_4; first | rwa [add_block] at this | exact this) GW123.out)) | (show (Addr.add _ _).block ≠ _; rw [add_block]; exact Nat.ne_of_lt (Nat.lt_of_lt_of_le (by have := World.block_lt_of_cell? _ _ hw120_4; first | rwa [add_block] at this | exact this) GW123.out)) | (dsimp only; exact Nat.ne_of_lt (Nat.lt_of_lt_of_le (by have := World.block_lt_of_cell? _ _ hw120_4; first | rwa [add_block] at this | exact this) GW123.out))) _).trans (((cell_far (p := ⟨gb123, _, none⟩) (by first | exact Nat.ne_of_lt (Nat.lt_of_lt_of_le (by have := World.block_lt_of_cell? _ _ hw120_4; first | rwa [add_block] at this | exact this) GW123.out) | (rw [add_block]; exact Nat.ne_of_lt (Nat.lt_of_lt_of_le (by have := World.block_lt_of_cell? _ _ hw120_4; first | rwa [add_block] at this | exact this) GW123.out)) | (show (Addr.add _ _).block ≠ _; rw [add_block]; exact Nat.ne_of_lt (Nat.lt_of_lt_of_le (by have := World.block_lt_of_cell? _ _ hw120_4; first | rwa [add_block] at this | exact this) GW123.out)) | (dsimp only; exact Nat.ne_of_lt (Nat.lt_of_lt_of_le (by have := World.block_lt_of_cell? _ _ hw120_4; first | rwa [add_block] at this | exact this) GW123.out))) _).trans (hHeld.2.2.2.2.2.2.2.2.2.1)))))))))), ((cell_far (p := ⟨gb123, _, none⟩) (by first | exact Nat.ne_of_lt (Nat.lt_of_lt_of_le (by have := World.block_lt_of_cell? _ _ hw121_0; first | rwa [add_block] at this | exact this) GW123.out) | (rw [add_block]; exact Nat.ne_of_lt (Nat.lt_of_lt_of_le (by have := World.block_lt_of_cell? _ _ hw121_0; first | rwa [add_block] at this | exact this) GW123.out)) | (show (Addr.add _ _).block ≠ _; rw [add_block]; exact Nat.ne_of_lt (Nat.lt_of_lt_of_le (by have := World.block_lt_of_cell? _ _ hw121_0; first | rwa [add_block] at this | exact this) GW123.out)) | (dsimp only; exact Nat.ne_of_lt (Nat.lt_of_lt_of_le (by have := World.block_lt_of_cell? _ _ hw121_0; first | rwa [add_block] at this | exact this) GW123.out))) _).trans (((cell_far (p := ⟨gb123, _, none⟩) (by first | exact Nat.ne_of_lt (Nat.lt_of_lt_of_le (by have := World.block_lt_of_cell? _ _ hw121_0; first | rwa [add_block] at this | exact this) GW123.out) | (rw [add_block]; exact Nat.ne_of_lt (Nat.lt_of_lt_of_le (by have := World.block_lt_of_cell? _ _ hw121_0; first | rwa [add_block] at this | exact this) GW123.out)) | (show (Addr.add _ _).block ≠ _; rw [add_block]; exact Nat.ne_of_lt (Nat.lt_of_lt_of_le (by have := World.block_lt_of_cell? _ _ hw121_0; first | rwa [add_block] at this | exact this) GW123.out)) | (dsimp only; exact Nat.ne_of_lt (Nat.lt_of_lt_of_le (by have := World.block_lt_of_cell? _ _ hw121_0; first | rwa [add_block] at this | exact this) GW123.out))) _).trans (((cell_far (p := ⟨gb123, _, none⟩) (by first | exact Nat.ne_of_lt (Nat.lt_of_lt_of_le (by have := World.block_lt_of_cell? _ _ hw121_0; first | rwa [add_block] at this | exact this) GW123.out) | (rw [add_block]; exact Nat.ne_of_lt (Nat.lt_of_lt_of_le (by have := World.block_lt_of_cell? _ _ hw121_0; first | rwa [add_block] at this | exact this) GW123.out)) | (show (Addr.add _ _).block ≠ _; rw [add_block]; exact Nat.ne_of_lt (Nat.lt_of_lt_of_le (by have := World.block_lt_of_cell? _ _ hw121_0; first | rwa [add_block] at this | exact this) GW123.out)) | (dsimp only; exact Nat.ne_of_lt (Nat.lt_of_lt_of_le (by have := World.block_lt_of_cell? _ _ hw121_0; first | rwa [add_block] at this | exact this) GW123.out))) _).trans (((cell_far (p := ⟨gb123, _, none⟩) (by first | exact Nat.ne_of_lt (Nat.lt_of_lt_of_le (by have := World.block_lt_of_cell? _ _ hw121_0; first | rwa [add_block] at this | exact this) GW123.out) | (rw [add_block]; exact Nat.ne_of_lt (Nat.lt_of_lt_of_le (by have := World.block_lt_of_cell? _ _ hw121_0; first | rwa [add_block] at this | exact this) GW123.out)) | (show (Addr.add _ _).block ≠ _; rw [add_block]; exact Nat.ne_of_lt (Nat.lt_of_lt_of_le (by have := World.block_lt_of_cell? _ _ hw121_0; first | rwa [add_block] at this | exact this) GW123.out)) | (dsimp only; exact Nat.ne_of_lt (Nat.lt_of_lt_of_le (by have := World.block_lt_of_cell? _ _ hw121_0; first | rwa [add_block] at this | exact this) GW123.out))) _).trans (((cell_far (p := ⟨gb123, _, none⟩) (by first | exact Nat.ne_of_lt (Nat.lt_of_lt_of_le (by have := World.block_lt_of_cell? _ _ hw121_0; first | rwa [add_block] at this | exact this) GW123.out) | (rw [add_block]; exact Nat.ne_of_lt (Nat.lt_of_lt_of_le (by have := World.block_lt_of_cell? _ _ hw121_0; first | rwa [add_block] at this | exact this) GW123.out)) | (show (Addr.add _ _).block ≠ _; rw [add_block]; exact Nat.ne_of_lt (Nat.lt_of_lt_of_le (by have := World.block_lt_of_cell? _ _ hw121_0; first | rwa [add_block] at this | exact this) GW123.out)) | (dsimp only; exact Nat.ne_of_lt (Nat.lt_of_lt_of_le (by have := World.block_lt_of_cell? _ _ hw121_0; first | rwa [add_block] at this | exact this) GW123.out))) _).trans (hHeld.2.2.2.2.2.2.2.2.2.2.1)))))))))), ((cell_far (p := ⟨gb123, _, none⟩) (by first | exact Nat.ne_of_lt (Nat.lt_of_lt_of_le (by have := World.block_lt_of_cell? _ _ hw121_1; first | rwa [add_block] at this | exact this) GW123.out) | (rw [add_block]; exact Nat.ne_of_lt (Nat.lt_of_lt_of_le (by have := World.block_lt_of_cell? _ _ hw121_1; first | rwa [add_block] at this | exact this) GW123.out)) | (show (Addr.add _ _).block ≠ _; rw [add_block]; exact Nat.ne_of_lt (Nat.lt_of_lt_of_le (by have := World.block_lt_of_cell? _ _ hw121_1; first | rwa [add_block] at this | exact this) GW123.out)) | (dsimp only; exact Nat.ne_of_lt (Nat.lt_of_lt_of_le (by have := World.block_lt_of_cell? _ _ hw121_1; first | rwa [add_block] at this | exact this) GW123.out))) _).trans (((cell_far (p := ⟨gb123, _, none⟩) (by first | exact Nat.ne_of_lt (Nat.lt_of_lt_of_le (by have := World.block_lt_of_cell? _ _ hw121_1; first | rwa [add_block] at this | exact this) GW123.out) | (rw [add_block]; exact Nat.ne_of_lt (Nat.lt_of_lt_of_le (by have := World.block_lt_of_cell? _ _ hw121_1; first | rwa [add_block] at this | exact this) GW123.out)) | (show (Addr.add _ _).block ≠ _; rw [add_block]; exact Nat.ne_of_lt (Nat.lt_of_lt_of_le (by have := World.block_lt_of_cell? _ _ hw121_1; first | rwa [add_block] at this | exact this) GW123.out)) | (dsimp only; exact Nat.ne_of_lt (Nat.lt_of_lt_of_le (by have := World.block_lt_of_cell? _ _ hw121_1; first | rwa [add_block] at this | exact this) GW123.out))) _).trans (((cell_far (p := ⟨gb123, _, none⟩) (by first | exact Nat.ne_of_lt (Nat.lt_of_lt_of_le (by have := World.block_lt_of_cell? _ _ hw121_1; first | rwa [add_block] at this | exact this) GW123.out) | (rw [add_block]; exact Nat.ne_of_lt (Nat.lt_of_lt_of_le (by have := World.block_lt_of_cell? _ _ hw121_1; first | rwa [add_block] at this | exact this) GW123.out)) | (show (Addr.add _ _).block ≠ _; rw [add_block]; exact Nat.ne_of_lt (Nat.lt_of_lt_of_le (by have := World.block_lt_of_cell? _ _ hw121_1; first | rwa [add_block] at this | exact this) GW123.out)) | (dsimp only; exact Nat.ne_of_lt (Nat.lt_of_lt_of_le (by have := World.block_lt_of_cell? _ _ hw121_1; first | rwa [add_block] at this | exact this) GW123.out))) _).trans (((cell_far (p := ⟨gb123, _, none⟩) (by first | exact Nat.ne_of_lt (Nat.lt_of_lt_of_le (by have := World.block_lt_of_cell? _ _ hw121_1; first | rwa [add_block] at this | exact this) GW123.out) | (rw [add_block]; exact Nat.ne_of_lt (Nat.lt_of_lt_of_le (by have := World.block_lt_of_cell? _ _ hw121_1; first | rwa [add_block] at this | exact this) GW123.out)) | (show (Addr.add _ _).block ≠ _; rw [add_block]; exact Nat.ne_of_lt (Nat.lt_of_lt_of_le (by have := World.block_lt_of_cell? _ _ hw121_1; first | rwa [add_block] at this | exact this) GW123.out)) | (dsimp only; exact Nat.ne_of_lt (Nat.lt_of_lt_of_le (by have := World.block_lt_of_cell? _ _ hw121_1; first | rwa [add_block] at this | exact this) GW123.out))) _).trans (((cell_far (p := ⟨gb123, _, none⟩) (by first | exact Nat.ne_of_lt (Nat.lt_of_lt_of_le (by have := World.block_lt_of_cell? _ _ hw121_1; first | rwa [add_block] at this | exact this) GW123.out) | (rw [add_block]; exact Nat.ne_of_lt (Nat.lt_of_lt_of_le (by have := World.block_lt_of_cell? _ _ hw121_1; first | rwa [add_block] at this | exact this) GW123.out)) | (show (Addr.add _ _).block ≠ _; rw [add_block]; exact Nat.ne_of_lt (Nat.lt_of_lt_of_le (by have := World.block_lt_of_cell? _ _ hw121_1; first | rwa [add_block] at this | exact this) GW123.out)) | (dsimp only; exact Nat.ne_of_lt (Nat.lt_of_lt_of_le (by have := World.block_lt_of_cell? _ _ hw121_1; first | rwa [add_block] at this | exact this) GW123.out))) _).trans (hHeld.2.2.2.2.2.2.2.2.2.2.2.1)))))))))), ((cell_far (p := ⟨gb123, _, none⟩) (by first | exact Nat.ne_of_lt (Nat.lt_of_lt_of_le (by have := World.block_lt_of_cell? _ _ hw121_2; first | rwa [add_block] at this | exact this) GW123.out) | (rw [add_block]; exact Nat.ne_of_lt (Nat.lt_of_lt_of_le (by have := World.block_lt_of_cell? _ _ hw121_2; first | rwa [add_block] at this | exact this) GW123.out)) | (show (Addr.add _ _).block ≠ _; rw [add_block]; exact Nat.ne_of_lt (Nat.lt_of_lt_of_le (by have := World.block_lt_of_cell? _ _ hw121_2; first | rwa [add_block] at this | exact this) GW123.out)) | (dsimp only; exact Nat.ne_of_lt (Nat.lt_of_lt_of_le (by have := World.block_lt_of_cell? _ _ hw121_2; first | rwa [add_block] at this | exact this) GW123.out))) _).trans (((cell_far (p := ⟨gb123, _, none⟩) (by first | exact Nat.ne_of_lt (Nat.lt_of_lt_of_le (by have := World.block_lt_of_cell? _ _ hw121_2; first | rwa [add_block] at this | exact this) GW123.out) | (rw [add_block]; exact Nat.ne_of_lt (Nat.lt_of_lt_of_le (by have := World.block_lt_of_cell? _ _ hw121_2; first | rwa [add_block] at this | exact this) GW123.out)) | (show (Addr.add _ _).block ≠ _; rw [add_block]; exact Nat.ne_of_lt (Nat.lt_of_lt_of_le (by have := World.block_lt_of_cell? _ _ hw121_2; first | rwa [add_block] at this | exact this) GW123.out)) | (dsimp only; exact Nat.ne_of_lt (Nat.lt_of_lt_of_le (by have := World.block_lt_of_cell? _ _ hw121_2; first | rwa [add_block] at this | exact this) GW123.out))) _).trans (((cell_far (p := ⟨gb123, _, none⟩) (by first | exact Nat.ne_of_lt (Nat.lt_of_lt_of_le (by have := World.block_lt_of_cell? _ _ hw121_2; first | rwa [add_block] at this | exact this) GW123.out) | (rw [add_block]; exact Nat.ne_of_lt (Nat.lt_of_lt_of_le (by have := World.block_lt_of_cell? _ _ hw121_2; first | rwa [add_block] at this | exact this) GW123.out)) | (show (Addr.add _ _).block ≠ _; rw [add_block]; exact Nat.ne_of_lt (Nat.lt_of_lt_of_le (by have := World.block_lt_of_cell? _ _ hw121_2; first | rwa [add_block] at this | exact this) GW123.out)) | (dsimp only; exact Nat.ne_of_lt (Nat.lt_of_lt_of_le (by have := World.block_lt_of_cell? _ _ hw121_2; first | rwa [add_block] at this | exact this) GW123.out))) _).trans (((cell_far (p := ⟨gb123, _, none⟩) (by first | exact Nat.ne_of_lt (Nat.lt_of_lt_of_le (by have := World.block_lt_of_cell? _ _ hw121_2; first | rwa [add_block] at this | exact this) GW123.out) | (rw [add_block]; exact Nat.ne_of_lt (Nat.lt_of_lt_of_le (by have := World.block_lt_of_cell? _ _ hw121_2; first | rwa [add_block] at this | exact this) GW123.out)) | (show (Addr.add _ _).block ≠ _; rw [add_block]; exact Nat.ne_of_lt (Nat.lt_of_lt_of_le (by have := World.block_lt_of_cell? _ _ hw121_2; first | rwa [add_block] at this | exact this) GW123.out)) | (dsimp only; exact Nat.ne_of_lt (Nat.lt_of_lt_of_le (by have := World.block_lt_of_cell? _ _ hw121_2; first | rwa [add_block] at this | exact this) GW123.out))) _).trans (((cell_far (p := ⟨gb123, _, none⟩) (by first | exact Nat.ne_of_lt (Nat.lt_of_lt_of_le (by have := World.block_lt_of_cell? _ _ hw121_2; first | rwa [add_block] at this | exact this) GW123.out) | (rw [add_block]; exact Nat.ne_of_lt (Nat.lt_of_lt_of_le (by have := World.block_lt_of_cell? _ _ hw121_2; first | rwa [add_block] at this | exact this) GW123.out)) | (show (Addr.add _ _).block ≠ _; rw [add_block]; exact Nat.ne_of_lt (Nat.lt_of_lt_of_le (by have := World.block_lt_of_cell? _ _ hw121_2; first | rwa [add_block] at this | exact this) GW123.out)) | (dsimp only; exact Nat.ne_of_lt (Nat.lt_of_lt_of_le (by have := World.block_lt_of_cell? _ _ hw121_2; first | rwa [add_block] at this | exact this) GW123.out))) _).trans (hHeld.2.2.2.2.2.2.2.2.2.2.2.2.1)))))))))), ((cell_far (p := ⟨gb123, _, none⟩) (by first | exact Nat.ne_of_lt (Nat.lt_of_lt_of_le (by have := World.block_lt_of_cell? _ _ hw121_3; first | rwa [add_block] at this | exact this) GW123.out) | (rw [add_block]; exact Nat.ne_of_lt (Nat.lt_of_lt_of_le (by have := World.block_lt_of_cell? _ _ hw121_3; first | rwa [add_block] at this | exact this) GW123.out)) | (show (Addr.add _ _).block ≠ _; rw [add_block]; exact Nat.ne_of_lt (Nat.lt_of_lt_of_le (by have := World.block_lt_of_cell? _ _ hw121_3; first | rwa [add_block] at this | exact this) GW123.out)) | (dsimp only; exact Nat.ne_of_lt (Nat.lt_of_lt_of_le (by have := World.block_lt_of_cell? _ _ hw121_3; first | rwa [add_block] at this | exact this) GW123.out))) _).trans (((cell_far (p := ⟨gb123, _, none⟩) (by first | exact Nat.ne_of_lt (Nat.lt_of_lt_of_le (by have := World.block_lt_of_cell? _ _ hw121_3; first | rwa [add_block] at this | exact this) GW123.out) | (rw [add_block]; exact Nat.ne_of_lt (Nat.lt_of_lt_of_le (by have := World.block_lt_of_cell? _ _ hw121_3; first | rwa [add_block] at this | exact this) GW123.out)) | (show (Addr.add _ _).block ≠ _; rw [add_block]; exact Nat.ne_of_lt (Nat.lt_of_lt_of_le (by have := World.block_lt_of_cell? _ _ hw121_3; first | rwa [add_block] at this | exact this) GW123.out)) | (dsimp only; exact Nat.ne_of_lt (Nat.lt_of_lt_of_le (by have := World.block_lt_of_cell? _ _ hw121_3; first | rwa [add_block] at this | exact this) GW123.out))) _).trans (((cell_far (p := ⟨gb123, _, none⟩) (by first | exact Nat.ne_of_lt (Nat.lt_of_lt_of_le (by have := World.block_lt_of_cell? _ _ hw121_3; first | rwa [add_block] at this | exact this) GW123.out) | (rw [add_block]; exact Nat.ne_of_lt (Nat.lt_of_lt_of_le (by have := World.block_lt_of_cell? _ _ hw121_3; first | rwa [add_block] at this | exact this) GW123.out)) | (show (Addr.add _ _).block ≠ _; rw [add_block]; exact Nat.ne_of_lt (Nat.lt_of_lt_of_le (by have := World.block_lt_of_cell? _ _ hw121_3; first | rwa [add_block] at this | exact this) GW123.out)) | (dsimp only; exact Nat.ne_of_lt (Nat.lt_of_lt_of_le (by have := World.block_lt_of_cell? _ _ hw121_3; first | rwa [add_block] at this | exact this) GW123.out))) _).trans (((cell_far (p := ⟨gb123, _, none⟩) (by first | exact Nat.ne_of_lt (Nat.lt_of_lt_of_le (by have := World.block_lt_of_cell? _ _ hw121_3; first | rwa [add_block] at this | exact this) GW123.out) | (rw [add_block]; exact Nat.ne_of_lt (Nat.lt_of_lt_of_le (by have := World.block_lt_of_cell? _ _ hw121_3; first | rwa [add_block] at this | exact this) GW123.out)) | (show (Addr.add _ _).block ≠ _; rw [add_block]; exact Nat.ne_of_lt (Nat.lt_of_lt_of_le (by have := World.block_lt_of_cell? _ _ hw121_3; first | rwa [add_block] at this | exact this) GW123.out)) | (dsimp only; exact Nat.ne_of_lt (Nat.lt_of_lt_of_le (by have := World.block_lt_of_cell? _ _ hw121_3; first | rwa [add_block] at this | exact this) GW123.out))) _).trans (((cell_far (p := ⟨gb123, _, none⟩) (by first | exact Nat.ne_of_lt (Nat.lt_of_lt_of_le (by have := World.block_lt_of_cell? _ _ hw121_3; first | rwa [add_block] at this | exact this) GW123.out) | (rw [add_block]; exact Nat.ne_of_lt (Nat.lt_of_lt_of_le (by have := World.block_lt_of_cell? _ _ hw121_3; first | rwa [add_block] at this | exact this) GW123.out)) | (show (Addr.add _ _).block ≠ _; rw [add_block]; exact Nat.ne_of_lt (Nat.lt_of_lt_of_le (by have := World.block_lt_of_cell? _ _ hw121_3; first | rwa [add_block] at this | exact this) GW123.out)) | (dsimp only; exact Nat.ne_of_lt (Nat.lt_of_lt_of_le (by have := World.block_lt_of_cell? _ _ hw121_3; first | rwa [add_block] at this | exact this) GW123.out))) _).trans (hHeld.2.2.2.2.2.2.2.2.2.2.2.2.2.1)))))))))), ((cell_far (p := ⟨gb123, _, none⟩) (by first | exact Nat.ne_of_lt (Nat.lt_of_lt_of_le (by have := World.block_lt_of_cell? _ _ hw121_4; first | rwa [add_block] at this | exact this) GW123.out) | (rw [add_block]; exact Nat.ne_of_lt (Nat.lt_of_lt_of_le (by have := World.block_lt_of_cell? _ _ hw121_4; first | rwa [add_block] at this | exact this) GW123.out)) | (show (Addr.add _ _).block ≠ _; rw [add_block]; exact Nat.ne_of_lt (Nat.lt_of_lt_of_le (by have := World.block_lt_of_cell? _ _ hw121_4; first | rwa [add_block] at this | exact this) GW123.out)) | (dsimp only; exact Nat.ne_of_lt (Nat.lt_of_lt_of_le (by have := World.block_lt_of_cell? _ _ hw121_4; first | rwa [add_block] at this | exact this) GW123.out))) _).trans (((cell_far (p := ⟨gb123, _, none⟩) (by first | exact Nat.ne_of_lt (Nat.lt_of_lt_of_le (by have := World.block_lt_of_cell? _ _ hw121_4; first | rwa [add_block] at this | exact this) GW123.out) | (rw [add_block]; exact Nat.ne_of_lt (Nat.lt_of_lt_of_le (by have := World.block_lt_of_cell? _ _ hw121_4; first | rwa [add_block] at this | exact this) GW123.out)) | (show (Addr.add _ _).block ≠ _; rw [add_block]; exact Nat.ne_of_lt (Nat.lt_of_lt_of_le (by have := World.block_lt_of_cell? _ _ hw121_4; first | rwa [add_block] at this | exact this) GW123.out)) | (dsimp only; exact Nat.ne_of_lt (Nat.lt_of_lt_of_le (by have := World.block_lt_of_cell? _ _ hw121_4; first | rwa [add_block] at this | exact this) GW123.out))) _).trans (((cell_far (p := ⟨gb123, _, none⟩) (by first | exact Nat.ne_of_lt (Nat.lt_of_lt_of_le (by have := World.block_lt_of_cell? _ _ hw121_4; first | rwa [add_block] at this | exact this) GW123.out) | (rw [add_block]; exact Nat.ne_of_lt (Nat.lt_of_lt_of_le (by have := World.block_lt_of_cell? _ _ hw121_4; first | rwa [add_block] at this | exact this) GW123.out)) | (show (Addr.add _ _).block ≠ _; rw [add_block]; exact Nat.ne_of_lt (Nat.lt_of_lt_of_le (by have := World.block_lt_of_cell? _ _ hw121_4; first | rwa [add_block] at this | exact this) GW123.out)) | (dsimp only; exact Nat.ne_of_lt (Nat.lt_of_lt_of_le (by have := World.block_lt_of_cell? _ _ hw121_4; first | rwa [add_block] at this | exact this) GW123.out))) _).trans (((cell_far (p := ⟨gb123, _, none⟩) (by first | exact Nat.ne_of_lt (Nat.lt_of_lt_of_le (by have := World.block_lt_of_cell? _ _ hw121_4; first | rwa [add_block] at this | exact this) GW123.out) | (rw [add_block]; exact Nat.ne_of_lt (Nat.lt_of_lt_of_le (by have := World.block_lt_of_cell? _ _ hw121_4; first | rwa [add_block] at this | exact this) GW123.out)) | (show (Addr.add _ _).block ≠ _; rw [add_block]; exact Nat.ne_of_lt (Nat.lt_of_lt_of_le (by have := World.block_lt_of_cell? _ _ hw121_4; first | rwa [add_block] at this | exact this) GW123.out)) | (dsimp only; exact Nat.ne_of_lt (Nat.lt_of_lt_of_le (by have := World.block_lt_of_cell? _ _ hw121_4; first | rwa [add_block] at this | exact this) GW123.out))) _).trans (((cell_far (p := ⟨gb123, _, none⟩) (by first | exact Nat.ne_of_lt (Nat.lt_of_lt_of_le (by have := World.block_lt_of_cell? _ _ hw121_4; first | rwa [add_block] at this | exact this) GW123.out) | (rw [add_block]; exact Nat.ne_of_lt (Nat.lt_of_lt_of_le (by have := World.block_lt_of_cell? _ _ hw121_4; first | rwa [add_block] at this | exact this) GW123.out)) | (show (Addr.add _ _).block ≠ _; rw [add_block]; exact Nat.ne_of_lt (Nat.lt_of_lt_of_le (by have := World.block_lt_of_cell? _ _ hw121_4; first | rwa [add_block] at this | exact this) GW123.out)) | (dsimp only; exact Nat.ne_of_lt (Nat.lt_of_lt_of_le (by have := World.block_lt_of_cell? _ _ hw121_4; first | rwa [add_block] at this | exact this) GW123.out))) _).trans (hHeld.2.2.2.2.2.2.2.2.2.2.2.2.2.2.1)))))))))), ((cell_far (p := ⟨gb123, _, none⟩) (by first | exact Nat.ne_of_lt (Nat.lt_of_lt_of_le (by have := World.block_lt_of_cell? _ _ hw122_0; first | rwa [add_block] at this | exact this) GW123.out) | (rw [add_block]; exact Nat.ne_of_lt (Nat.lt_of_lt_of_le (by have := World.block_lt_of_cell? _ _ hw122_0; first | rwa [add_block] at this | exact this) GW123.out)) | (show (Addr.add _ _).block ≠ _; rw [add_block]; exact Nat.ne_of_lt (Nat.lt_of_lt_of_le (by have := World.block_lt_of_cell? _ _ hw122_0; first | rwa [add_block] at this | exact this) GW123.out)) | (dsimp only; exact Nat.ne_of_lt (Nat.lt_of_lt_of_le (by have := World.block_lt_of_cell? _ _ hw122_0; first | rwa [add_block] at this | exact this) GW123.out))) _).trans (((cell_far (p := ⟨gb123, _, none⟩) (by first | exact Nat.ne_of_lt (Nat.lt_of_lt_of_le (by have := World.block_lt_of_cell? _ _ hw122_0; first | rwa [add_block] at this | exact this) GW123.out) | (rw [add_block]; exact Nat.ne_of_lt (Nat.lt_of_lt_of_le (by have := World.block_lt_of_cell? _ _ hw122_0; first | rwa [add_block] at this | exact this) GW123.out)) | (show (Addr.add _ _).block ≠ _; rw [add_block]; exact Nat.ne_of_lt (Nat.lt_of_lt_of_le (by have := World.block_lt_of_cell? _ _ hw122_0; first | rwa [add_block] at this | exact this) GW123.out)) | (dsimp only; exact Nat.ne_of_lt (Nat.lt_of_lt_of_le (by have := World.block_lt_of_cell? _ _ hw122_0; first | rwa [add_block] at this | exact this) GW123.out))) _).trans (((cell_far (p := ⟨gb123, _, none⟩) (by first | exact Nat.ne_of_lt (Nat.lt_of_lt_of_le (by have := World.block_lt_of_cell? _ _ hw122_0; first | rwa [add_block] at this | exact this) GW123.out) | (rw [add_block]; exact Nat.ne_of_lt (Nat.lt_of_lt_of_le (by have := World.block_lt_of_cell? _ _ hw122_0; first | rwa [add_block] at this | exact this) GW123.out)) | (show (Addr.add _ _).block ≠ _; rw [add_block]; exact Nat.ne_of_lt (Nat.lt_of_lt_of_le (by have := World.block_lt_of_cell? _ _ hw122_0; first | rwa [add_block] at this | exact this) GW123.out)) | (dsimp only; exact Nat.ne_of_lt (Nat.lt_of_lt_of_le (by have := World.block_lt_of_cell? _ _ hw122_0; first | rwa [add_block] at this | exact this) GW123.out))) _).trans (((cell_far (p := ⟨gb123, _, none⟩) (by first | exact Nat.ne_of_lt (Nat.lt_of_lt_of_le (by have := World.block_lt_of_cell? _ _ hw122_0; first | rwa [add_block] at this | exact this) GW123.out) | (rw [add_block]; exact Nat.ne_of_lt (Nat.lt_of_lt_of_le (by have := World.block_lt_of_cell? _ _ hw122_0; first | rwa [add_block] at this | exact this) GW123.out)) | (show (Addr.add _ _).block ≠ _; rw [add_block]; exact Nat.ne_of_lt (Nat.lt_of_lt_of_le (by have := World.block_lt_of_cell? _ _ hw122_0; first | rwa [add_block] at this | exact this) GW123.out)) | (dsimp only; exact Nat.ne_of_lt (Nat.lt_of_lt_of_le (by have := World.block_lt_of_cell? _ _ hw122_0; first | rwa [add_block] at this | exact this) GW123.out))) _).trans (((cell_far (p := ⟨gb123, _, none⟩) (by first | exact Nat.ne_of_lt (Nat.lt_of_lt_of_le (by have := World.block_lt_of_cell? _ _ hw122_0; first | rwa [add_block] at this | exact this) GW123.out) | (rw [add_block]; exact Nat.ne_of_lt (Nat.lt_of_lt_of_le (by have := World.block_lt_of_cell? _ _ hw122_0; first | rwa [add_block] at this | exact this) GW123.out)) | (show (Addr.add _ _).block ≠ _; rw [add_block]; exact Nat.ne_of_lt (Nat.lt_of_lt_of_le (by have := World.block_lt_of_cell? _ _ hw122_0; first | rwa [add_block] at this | exact this) GW123.out)) | (dsimp only; exact Nat.ne_of_lt (Nat.lt_of_lt_of_le (by have := World.block_lt_of_cell? _ _ hw122_0; first | rwa [add_block] at this | exact this) GW123.out))) _).trans (hHeld.2.2.2.2.2.2.2.2.2.2.2.2.2.2.2.1)))))))))), ((cell_far (p := ⟨gb123, _, none⟩) (by first | exact Nat.ne_of_lt (Nat.lt_of_lt_of_le (by have := World.block_lt_of_cell? _ _ hw122_1; first | rwa [add_block] at this | exact this) GW123.out) | (rw [add_block]; exact Nat.ne_of_lt (Nat.lt_of_lt_of_le (by have := World.block_lt_of_cell? _ _ hw122_1; first | rwa [add_block] at this | exact this) GW123.out)) | (show (Addr.add _ _).block ≠ _; rw [add_block]; exact Nat.ne_of_lt (Nat.lt_of_lt_of_le (by have := World.block_lt_of_cell? _ _ hw122_1; first | rwa [add_block] at this | exact this) GW123.out)) | (dsimp only; exact Nat.ne_of_lt (Nat.lt_of_lt_of_le (by have := World.block_lt_of_cell? _ _ hw122_1; first | rwa [add_block] at this | exact this) GW123.out))) _).trans (((cell_far (p := ⟨gb123, _, none⟩) (by first | exact Nat.ne_of_lt (Nat.lt_of_lt_of_le (by have := World.block_lt_of_cell? _ _ hw122_1; first | rwa [add_block] at this | exact this) GW123.out) | (rw [add_block]; exact Nat.ne_of_lt (Nat.lt_of_lt_of_le (by have := World.block_lt_of_cell? _ _ hw122_1; first | rwa [add_block] at this | exact this) GW123.out)) | (show (Addr.add _ _).block ≠ _; rw [add_block]; exact Nat.ne_of_lt (Nat.lt_of_lt_of_le (by have := World.block_lt_of_cell? _ _ hw122_1; first | rwa [add_block] at this | exact this) GW123.out)) | (dsimp only; exact Nat.ne_of_lt (Nat.lt_of_lt_of_le (by have := World.block_lt_of_cell? _ _ hw122_1; first | rwa [add_block] at this | exact this) GW123.out))) _).trans (((cell_far (p := ⟨gb123, _, none⟩) (by first | exact Nat.ne_of_lt (Nat.lt_of_lt_of_le (by have := World.block_lt_of_cell? _ _ hw122_1; first | rwa [add_block] at this | exact this) GW123.out) | (rw [add_block]; exact Nat.ne_of_lt (Nat.lt_of_lt_of_le (by have := World.block_lt_of_cell? _ _ hw122_1; first | rwa [add_block] at this | exact this) GW123.out)) | (show (Addr.add _ _).block ≠ _; rw [add_block]; exact Nat.ne_of_lt (Nat.lt_of_lt_of_le (by have := World.block_lt_of_cell? _ _ hw122_1; first | rwa [add_block] at this | exact this) GW123.out)) | (dsimp only; exact Nat.ne_of_lt (Nat.lt_of_lt_of_le (by have := World.block_lt_of_cell? _ _ hw122_1; first | rwa [add_block] at this | exact this) GW123.out))) _).trans (((cell_far (p := ⟨gb123, _, none⟩) (by first | exact Nat.ne_of_lt (Nat.lt_of_lt_of_le (by have := World.block_lt_of_cell? _ _ hw122_1; first | rwa [add_block] at this | exact this) GW123.out) | (rw [add_block]; exact Nat.ne_of_lt (Nat.lt_of_lt_of_le (by have := World.block_lt_of_cell? _ _ hw122_1; first | rwa [add_block] at this | exact this) GW123.out)) | (show (Addr.add _ _).block ≠ _; rw [add_block]; exact Nat.ne_of_lt (Nat.lt_of_lt_of_le (by have := World.block_lt_of_cell? _ _ hw122_1; first | rwa [add_block] at this | exact this) GW123.out)) | (dsimp only; exact Nat.ne_of_lt (Nat.lt_of_lt_of_le (by have := World.block_lt_of_cell? _ _ hw122_1; first | rwa [add_block] at this | exact this) GW123.out))) _).trans (((cell_far (p := ⟨gb123, _, none⟩) (by first | exact Nat.ne_of_lt (Nat.lt_of_lt_of_le (by have := World.block_lt_of_cell? _ _ hw122_1; first | rwa [add_block] at this | exact this) GW123.out) | (rw [add_block]; exact Nat.ne_of_lt (Nat.lt_of_lt_of_le (by have := World.block_lt_of_cell? _ _ hw122_1; first | rwa [add_block] at this | exact this) GW123.out)) | (show (Addr.add _ _).block ≠ _; rw [add_block]; exact Nat.ne_of_lt (Nat.lt_of_lt_of_le (by have := World.block_lt_of_cell? _ _ hw122_1; first | rwa [add_block] at this | exact this) GW123.out)) | (dsimp only; exact Nat.ne_of_lt (Nat.lt_of_lt_of_le (by have := World.block_lt_of_cell? _ _ hw122_1; first | rwa [add_block] at this | exact this) GW123.out))) _).trans (hHeld.2.2.2.2.2.2.2.2.2.2.2.2.2.2.2.2.1)))))))))), ((cell_far (p := ⟨gb123, _, none⟩) (by first | exact Nat.ne_of_lt (Nat.lt_of_lt_of_le (by have := World.block_lt_of_cell? _ _ hw122_2; first | rwa [add_block] at this | exact this) GW123.out) | (rw [add_block]; exact Nat.ne_of_lt (Nat.lt_of_lt_of_le (by have := World.block_lt_of_cell? _ _ hw122_2; first | rwa [add_block] at this | exact this) GW123.out)) | (show (Addr.add _ _).block ≠ _; rw [add_block]; exact Nat.ne_of_lt (Nat.lt_of_lt_of_le (by have := World.block_lt_of_cell? _ _ hw122_2; first | rwa [add_block] at this | exact this) GW123.out)) | (dsimp only; exact Nat.ne_of_lt (Nat.lt_of_lt_of_le (by have := World.block_lt_of_cell? _ _ hw122_2; first | rwa [add_block] at this | exact this) GW123.out))) _).trans (((cell_far (p := ⟨gb123, _, none⟩) (by first | exact Nat.ne_of_lt (Nat.lt_of_lt_of_le (by have := World.block_lt_of_cell? _ _ hw122_2; first | rwa [add_block] at this | exact this) GW123.out) | (rw [add_block]; exact Nat.ne_of_lt (Nat.lt_of_lt_of_le (by have := World.block_lt_of_cell? _ _ hw122_2; first | rwa [add_block] at this | exact this) GW123.out)) | (show (Addr.add _ _).block ≠ _; rw [add_block]; exact Nat.ne_of_lt (Nat.lt_of_lt_of_le (by have := World.block_lt_of_cell? _ _ hw122_2; first | rwa [add_block] at this | exact this) GW123.out)) | (dsimp only; exact Nat.ne_of_lt (Nat.lt_of_lt_of_le (by have := World.block_lt_of_cell? _ _ hw122_2; first | rwa [add_block] at this | exact this) GW123.out))) _).trans (((cell_far (p := ⟨gb123, _, none⟩) (by first | exact Nat.ne_of_lt (Nat.lt_of_lt_of_le (by have := World.block_lt_of_cell? _ _ hw122_2; first | rwa [add_block] at this | exact this) GW123.out) | (rw [add_block]; exact Nat.ne_of_lt (Nat.lt_of_lt_of_le (by have := World.block_lt_of_cell? _ _ hw122_2; first | rwa [add_block] at this | exact this) GW123.out)) | (show (Addr.add _ _).block ≠ _; rw [add_block]; exact Nat.ne_of_lt (Nat.lt_of_lt_of_le (by have := World.block_lt_of_cell? _ _ hw122_2; first | rwa [add_block] at this | exact this) GW123.out)) | (dsimp only; exact Nat.ne_of_lt (Nat.lt_of_lt_of_le (by have := World.block_lt_of_cell? _ _ hw122_2; first | rwa [add_block] at this | exact this) GW123.out))) _).trans (((cell_far (p := ⟨gb123, _, none⟩) (by first | exact Nat.ne_of_lt (Nat.lt_of_lt_of_le (by have := World.block_lt_of_cell? _ _ hw122_2; first | rwa [add_block] at this | exact this) GW123.out) | (rw [add_block]; exact Nat.ne_of_lt (Nat.lt_of_lt_of_le (by have := World.block_lt_of_cell? _ _ hw122_2; first | rwa [add_block] at this | exact this) GW123.out)) | (show (Addr.add _ _).block ≠ _; rw [add_block]; exact Nat.ne_of_lt (Nat.lt_of_lt_of_le (by have := World.block_lt_of_cell? _ _ hw122_2; first | rwa [add_block] at this | exact this) GW123.out)) | (dsimp only; exact Nat.ne_of_lt (Nat.lt_of_lt_of_le (by have := World.block_lt_of_cell? _ _ hw122_2; first | rwa [add_block] at this | exact this) GW123.out))) _).trans (((cell_far (p := ⟨gb123, _, none⟩) (by first | exact Nat.ne_of_lt (Nat.lt_of_lt_of_le (by have := World.block_lt_of_cell? _ _ hw122_2; first | rwa [add_block] at this | exact this) GW123.out) | (rw [add_block]; exact Nat.ne_of_lt (Nat.lt_of_lt_of_le (by have := World.block_lt_of_cell? _ _ hw122_2; first | rwa [add_block] at this | exact this) GW123.out)) | (show (Addr.add _ _).block ≠ _; rw [add_block]; exact Nat.ne_of_lt (Nat.lt_of_lt_of_le (by have := World.block_lt_of_cell? _ _ hw122_2; first | rwa [add_block] at this | exact this) GW123.out)) | (dsimp only; exact Nat.ne_of_lt (Nat.lt_of_lt_of_le (by have := World.block_lt_of_cell? _ _ hw122_2; first | rwa [add_block] at this | exact this) GW123.out))) _).trans (hHeld.2.2.2.2.2.2.2.2.2.2.2.2.2.2.2.2.2.1)))))))))), ((cell_far (p := ⟨gb123, _, none⟩) (by first | exact Nat.ne_of_lt (Nat.lt_of_lt_of_le (by have := World.block_lt_of_cell? _ _ hw122_3; first | rwa [add_block] at this | exact this) GW123.out) | (rw [add_block]; exact Nat.ne_of_lt (Nat.lt_of_lt_of_le (by have := World.block_lt_of_cell? _ _ hw122_3; first | rwa [add_block] at this | exact this) GW123.out)) | (show (Addr.add _ _).block ≠ _; rw [add_block]; exact Nat.ne_of_lt (Nat.lt_of_lt_of_le (by have := World.block_lt_of_cell? _ _ hw122_3; first | rwa [add_block] at this | exact this) GW123.out)) | (dsimp only; exact Nat.ne_of_lt (Nat.lt_of_lt_of_le (by have := World.block_lt_of_cell? _ _ hw122_3; first | rwa [add_block] at this | exact this) GW123.out))) _).trans (((cell_far (p := ⟨gb123, _, none⟩) (by first | exact Nat.ne_of_lt (Nat.lt_of_lt_of_le (by have := World.block_lt_of_cell? _ _ hw122_3; first | rwa [add_block] at this | exact this) GW123.out) | (rw [add_block]; exact Nat.ne_of_lt (Nat.lt_of_lt_of_le (by have := World.block_lt_of_cell? _ _ hw122_3; first | rwa [add_block] at this | exact this) GW123.out)) | (show (Addr.add _ _).block ≠ _; rw [add_block]; exact Nat.ne_of_lt (Nat.lt_of_lt_of_le (by have := World.block_lt_of_cell? _ _ hw122_3; first | rwa [add_block] at this | exact this) GW123.out)) | (dsimp only; exact Nat.ne_of_lt (Nat.lt_of_lt_of_le (by have := World.block_lt_of_cell? _ _ hw122_3; first | rwa [add_block] at this | exact this) GW123.out))) _).trans (((cell_far (p := ⟨gb123, _, none⟩) (by first | exact Nat.ne_of_lt (Nat.lt_of_lt_of_le (by have := World.block_lt_of_cell? _ _ hw122_3; first | rwa [add_block] at this | exact this) GW123.out) | (rw [add_block]; exact Nat.ne_of_lt (Nat.lt_of_lt_of_le (by have := World.block_lt_of_cell? _ _ hw122_3; first | rwa [add_block] at this | exact this) GW123.out)) | (show (Addr.add _ _).block ≠ _; rw [add_block]; exact Nat.ne_of_lt (Nat.lt_of_lt_of_le (by have := World.block_lt_of_cell? _ _ hw122_3; first | rwa [add_block] at this | exact this) GW123.out)) | (dsimp only; exact Nat.ne_of_lt (Nat.lt_of_lt_of_le (by have := World.block_lt_of_cell? _ _ hw122_3; first | rwa [add_block] at this | exact this) GW123.out))) _).trans (((cell_far (p := ⟨gb123, _, none⟩) (by first | exact Nat.ne_of_lt (Nat.lt_of_lt_of_le (by have := World.block_lt_of_cell? _ _ hw122_3; first | rwa [add_block] at this | exact this) GW123.out) | (rw [add_block]; exact Nat.ne_of_lt (Nat.lt_of_lt_of_le (by have := World.block_lt_of_cell? _ _ hw122_3; first | rwa [add_block] at this | exact this) GW123.out)) | (show (Addr.add _ _).block ≠ _; rw [add_block]; exact Nat.ne_of_lt (Nat.lt_of_lt_of_le (by have := World.block_lt_of_cell? _ _ hw122_3; first | rwa [add_block] at this | exact this) GW123.out)) | (dsimp only; exact Nat.ne_of_lt (Nat.lt_of_lt_of_le (by have := World.block_lt_of_cell? _ _ hw122_3; first | rwa [add_block] at this | exact this) GW123.out))) _).trans (((cell_far (p := ⟨gb123, _, none⟩) (by first | exact Nat.ne_of_lt (Nat.lt_of_lt_of_le (by have := World.block_lt_of_cell? _ _ hw122_3; first | rwa [add_block] at this | exact this) GW123.out) | (rw [add_block]; exact Nat.ne_of_lt (Nat.lt_of_lt_of_le (by have := World.block_lt_of_cell? _ _ hw122_3; first | rwa [add_block] at this | exact this) GW123.out)) | (show (Addr.add _ _).block ≠ _; rw [add_block]; exact Nat.ne_of_lt (Nat.lt_of_lt_of_le (by have := World.block_lt_of_cell? _ _ hw122_3; first | rwa [add_block] at this | exact this) GW123.out)) | (dsimp only; exact Nat.ne_of_lt (Nat.lt_of_lt_of_le (by have := World.block_lt_of_cell? _ _ hw122_3; first | rwa [add_block] at this | exact this) GW123.out))) _).trans (hHeld.2.2.2.2.2.2.2.2.2.2.2.2.2.2.2.2.2.2.1)))))))))), ((cell_far (p := ⟨gb123, _, none⟩) (by first | exact Nat.ne_of_lt (Nat.lt_of_lt_of_le (by have := World.block_lt_of_cell? _ _ hw122_4; first | rwa [add_block] at this | exact this) GW123.out) | (rw [add_block]; exact Nat.ne_of_lt (Nat.lt_of_lt_of_le (by have := World.block_lt_of_cell? _ _ hw122_4; first | rwa [add_block] at this | exact this) GW123.out)) | (show (Addr.add _ _).block ≠ _; rw [add_block]; exact Nat.ne_of_lt (Nat.lt_of_lt_of_le (by have := World.block_lt_of_cell? _ _ hw122_4; first | rwa [add_block] at this | exact this) GW123.out)) | (dsimp only; exact Nat.ne_of_lt (Nat.lt_of_lt_of_le (by have := World.block_lt_of_cell? _ _ hw122_4; first | rwa [add_block] at this | exact this) GW123.out))) _).trans (((cell_far (p := ⟨gb123, _, none⟩) (by first | exact Nat.ne_of_lt (Nat.lt_of_lt_of_le (by have := World.block_lt_of_cell? _ _ hw122_4; first | rwa [add_block] at this | exact this) GW123.out) | (rw [add_block]; exact Nat.ne_of_lt (Nat.lt_of_lt_of_le (by have := World.block_lt_of_cell? _ _ hw122_4; first | rwa [add_block] at this | exact this) GW123.out)) | (show (Addr.add _ _).block ≠ _; rw [add_block]; exact Nat.ne_of_lt (Nat.lt_of_lt_of_le (by have := World.block_lt_of_cell? _ _ hw122_4; first | rwa [add_block] at this | exact this) GW123.out)) | (dsimp only; exact Nat.ne_of_lt (Nat.lt_of_lt_of_le (by have := World.block_lt_of_cell? _ _ hw122_4; first | rwa [add_block] at this | exact this) GW123.out))) _).trans (((cell_far (p := ⟨gb123, _, none⟩) (by first | exact Nat.ne_of_lt (Nat.lt_of_lt_of_le (by have := World.block_lt_of_cell? _ _ hw122_4; first | rwa [add_block] at this | exact this) GW123.out) | (rw [add_block]; exact Nat.ne_of_lt (Nat.lt_of_lt_of_le (by have := World.block_lt_of_cell? _ _ hw122_4; first | rwa [add_block] at this | exact this) GW123.out)) | (show (Addr.add _ _).block ≠ _; rw [add_block]; exact Nat.ne_of_lt (Nat.lt_of_lt_of_le (by have := World.block_lt_of_cell? _ _ hw122_4; first | rwa [add_block] at this | exact this) GW123.out)) | (dsimp only; exact Nat.ne_of_lt (Nat.lt_of_lt_of_le (by have := World.block_lt_of_cell? _ _ hw122_4; first | rwa [add_block] at this | exact this) GW123.out))) _).trans (((cell_far (p := ⟨gb123, _, none⟩) (by first | exact Nat.ne_of_lt (Nat.lt_of_lt_of_le (by have := World.block_lt_of_cell? _ _ hw122_4; first | rwa [add_block] at this | exact this) GW123.out) | (rw [add_block]; exact Nat.ne_of_lt (Nat.lt_of_lt_of_le (by have := World.block_lt_of_cell? _ _ hw122_4; first | rwa [add_block] at this | exact this) GW123.out)) | (show (Addr.add _ _).block ≠ _; rw [add_block]; exact Nat.ne_of_lt (Nat.lt_of_lt_of_le (by have := World.block_lt_of_cell? _ _ hw122_4; first | rwa [add_block] at this | exact this) GW123.out)) | (dsimp only; exact Nat.ne_of_lt (Nat.lt_of_lt_of_le (by have := World.block_lt_of_cell? _ _ hw122_4; first | rwa [add_block] at this | exact this) GW123.out))) _).trans (((cell_far (p := ⟨gb123, _, none⟩) (by first | exact Nat.ne_of_lt (Nat.lt_of_lt_of_le (by have := World.block_lt_of_cell? _ _ hw122_4; first | rwa [add_block] at this | exact this) GW123.out) | (rw [add_block]; exact Nat.ne_of_lt (Nat.lt_of_lt_of_le (by have := World.block_lt_of_cell? _ _ hw122_4; first | rwa [add_block] at this | exact this) GW123.out)) | (show (Addr.add _ _).block ≠ _; rw [add_block]; exact Nat.ne_of_lt (Nat.lt_of_lt_of_le (by have := World.block_lt_of_cell? _ _ hw122_4; first | rwa [add_block] at this | exact this) GW123.out)) | (dsimp only; exact Nat.ne_of_lt (Nat.lt_of_lt_of_le (by have := World.block_lt_of_cell? _ _ hw122_4; first | rwa [add_block] at this | exact this) GW123.out))) _).trans (hHeld.2.2.2.2.2.2.2.2.2.2.2.2.2.2.2.2.2.2.2))))))))))⟩ (fun hHeld => ?_)
          clear hK K
          refine done_ (done_of HT_.out (by kernel_rfl)) ?_
          try go_wp2
          go_loopg [6] k1 (fun kq v6 w' => ∃ (x6_2 : Int) (x124001_2 : List (S72)) (u124001 : Value), v6 = .int .i64 x6_2 ∧ Aside0 (phalaropelaw17_made.l1 kq l0 x3_1 x4_1 x6_2 ((rd_T46 l0 x4_1).f0) x124001_2 ((rd_T46 l0 x4_1).f2) ((rd_T46 l0 x4_1).f3) ((rd_T46 l0 x4_1).f4) = some r) ∧ Aside0 (kq ≤ k1) ∧ Aside0 (Kd.S k33 33 w' w.heap.size (fun k_ => some k_ ≠ (u124001 : Value).ownBlock ∧ k_ ≠ gb123) u3 x3_1) ∧ Aside0 (Kd.R k72 72 w' w.heap.size (fun _ => True) u124001 x124001_2) ∧ Aside0 (w'.heap[gb123]? = some (.cells #[.int .i64 ((rd_T46 l0 x4_1).f0), u124001, .slice (((rd_T46 l0 x4_1).f2)).A (((rd_T46 l0 x4_1).f2)).n (((rd_T46 l0 x4_1).f2)).c, .int .i64 ((rd_T46 l0 x4_1).f3), .int .i64 ((rd_T46 l0 x4_1).f4)] 33 (0, 0))) ∧ Aside0 (Below w.heap.size w w'))
          case atStart => exact ⟨(0), (([] : List (S72))), (.slice none 0 0), (by first | rfl | (simp; done) | (simp [*]; done)), H', ⟨Nat.le_refl _⟩, ⟨by (with_reducible repeat (first | apply Kd.S_alloc | apply Kd.S_drewN | apply Kd.S_drew)); exact Kd.S_mono (Kd.S_far (p := ⟨gb123, 4, none⟩) (Kd.S_far (p := ⟨gb123, 3, none⟩) (Kd.S_far (p := ⟨gb123, 2, none⟩) (Kd.S_far (p := ⟨gb123, 1, none⟩) (Kd.S_far (p := ⟨gb123, 0, none⟩) (Kd.S_mono HO_3.out (fun k_ hk => (⟨hk, hk.2⟩ : _ ∧ k_ ≠ gb123))) (fun _ hk => hk.2) (.int .i64 ((rd_T46 l0 x4_1).f0))) (fun _ hk => hk.2) (.slice none 0 0)) (fun _ hk => hk.2) (.slice ((rd_T46 l0 x4_1).f2).A ((rd_T46 l0 x4_1).f2).n ((rd_T46 l0 x4_1).f2).c)) (fun _ hk => hk.2) (.int .i64 ((rd_T46 l0 x4_1).f3))) (fun _ hk => hk.2) (.int .i64 ((rd_T46 l0 x4_1).f4))) (fun _ hk => ⟨(by simp [Value.ownBlock]), hk.1.2⟩)⟩, ⟨by first | exact Kd.R_nil _ _ _ _ _ | exact Kd.N_nil _ _ _ _ _ | exact Kd.V_nil _ _ _ _ _ | exact Kd.Q_nil _ _ _ _ _ | exact Kd.S_nil _ _ _ _ _⟩, ⟨by (with_reducible repeat (first | refine blk_drewN ?_ _ | refine blk_drew ?_ | refine blk_alloc ?_ _)); refine blk_put (cs := #[.int .i64 ((rd_T46 l0 x4_1).f0), .slice none 0 0, .slice ((rd_T46 l0 x4_1).f2).A ((rd_T46 l0 x4_1).f2).n ((rd_T46 l0 x4_1).f2).c, .int .i64 ((rd_T46 l0 x4_1).f3), .int .i64 0]) ?_ 4 _ rfl; (with_reducible repeat (first | refine blk_drewN ?_ _ | refine blk_drew ?_ | refine blk_alloc ?_ _)); refine blk_put (cs := #[.int .i64 ((rd_T46 l0 x4_1).f0), .slice none 0 0, .slice ((rd_T46 l0 x4_1).f2).A ((rd_T46 l0 x4_1).f2).n ((rd_T46 l0 x4_1).f2).c, .int .i64 0, .int .i64 0]) ?_ 3 _ rfl; (with_reducible repeat (first | refine blk_drewN ?_ _ | refine blk_drew ?_ | refine blk_alloc ?_ _)); refine blk_put (cs := #[.int .i64 ((rd_T46 l0 x4_1).f0), .slice none 0 0, .slice none 0 0, .int .i64 0, .int .i64 0]) ?_ 2 _ rfl; (with_reducible repeat (first | refine blk_drewN ?_ _ | refine blk_drew ?_ | refine blk_alloc ?_ _)); refine blk_put (cs := #[.int .i64 ((rd_T46 l0 x4_1).f0), .slice none 0 0, .slice none 0 0, .int .i64 0, .int .i64 0]) ?_ 1 _ rfl; (with_reducible repeat (first | refine blk_drewN ?_ _ | refine blk_drew ?_ | refine blk_alloc ?_ _)); refine blk_put (cs := #[.int .i64 0, .slice none 0 0, .slice none 0 0, .int .i64 0, .int .i64 0]) ?_ 0 _ rfl; (with_reducible repeat (first | refine blk_drewN ?_ _ | refine blk_drew ?_ | refine blk_alloc ?_ _)); exact BK123.out⟩, ⟨by repeat (first | (with_reducible first | exact HB.out | apply below_alloc | apply pw_below_drewN | apply below_drew1 | refine below_set ?_ GE123.out) | exact HB.out)⟩⟩
          case round =>
            clear H'
            try clear c1
            try clear p1
            try clear q1
            try clear hx1
            try clear c2
            try clear c2b0
            try clear p2
            try clear c3
            try clear c3b0
            try clear hx119_0
            try clear hx119_1
            try clear hx119_2
            try clear hx119_3
            try clear hx119_4
            try clear hx120_0
            try clear hx120_1
            try clear hx120_2
            try clear hx120_3
            try clear hx120_4
            try clear hx121_0
            try clear hx121_1
            try clear hx121_2
            try clear hx121_3
            try clear hx121_4
            try clear hx122_0
            try clear hx122_1
            try clear hx122_2
            try clear hx122_3
            try clear hx122_4
            try clear p119
            try clear p120
            try clear p121
            try clear p122
            try clear q119
            try clear q120
            try clear q121
            try clear q122
            obtain ⟨x6_2, x124001_2, u124001, rfl, HA, HK2, HO_3, HO_124001, BK123, HB⟩ := hrel
            cases gk with
            | zero => exact absurd HA.out (by simp [phalaropelaw17_made.l1])
            | succ k2 =>
              have H := HA.out
              clear HA
              simp only [phalaropelaw17_made.l1] at H
              by_cases c11 : 0 ≤ x4_1
              · rw [if_pos c11] at H
                have c11b0 : decide (0 ≤ x4_1) = true := decide_eq_true c11
                clear c11
                by_cases c12 : x4_1 < (l0.length : Int)
                · rw [if_pos c12] at H
                  have c12b0 : decide (x4_1 < (l0.length : Int)) = true := decide_eq_true c12
                  clear c12
                  by_cases c13 : x6_2 < (((rd_T46 l0 x4_1).f1).length : Int)
                  · rw [if_pos c13] at H
                    have c13b0 : decide (x6_2 < (((rd_T46 l0 x4_1).f1).length : Int)) = true := decide_eq_true c13
                    clear c13
                    by_cases c14 : 0 ≤ x6_2
                    · rw [if_pos c14] at H
                      have c14b0 : decide (0 ≤ x6_2) = true := decide_eq_true c14
                      clear c14
                      by_cases c15 : x124001_2.length < 8796093022208
                      · rw [if_pos c15] at H
                        have LMc15 := Aside0.mk c15
                        clear c15
                        obtain ⟨y131, hy131⟩ : ∃ y_ : List (S72), y_ = (x124001_2 ++ [(⟨(rd_T74 ((rd_T46 l0 x4_1).f1) x6_2).f0, (rd_T74 ((rd_T46 l0 x4_1).f1) x6_2).f1, (rd_T74 ((rd_T46 l0 x4_1).f1) x6_2).f2⟩ : S72)]) := ⟨_, rfl⟩
                        replace H : (phalaropelaw17_made.l1 k2 l0 x3_1 x4_1 (wrap64 (x6_2 + 1)) ((rd_T46 l0 x4_1).f0) y131 ((rd_T46 l0 x4_1).f2) ((rd_T46 l0 x4_1).f3) ((rd_T46 l0 x4_1).f4)) = some r := by first | (rw [hy131]; with_reducible exact H) | (have H2_ := (Option.bind_some _ _).symm.trans H; rw [hy131]; with_reducible exact H2_) | (have H2_ := (Option.bind_some _ _).symm.trans H; with_reducible exact H2_) | with_reducible exact H | (rw [hy131]; exact H) | exact H
                        have Ny131 := Aside0.mk hy131
                        clear hy131
                        have H' := Aside0.mk H
                        clear H
                        have p124 : 0 ≤ (x4_1 : Int) := of_decide_eq_true (by first | (with_reducible assumption) | assumption)
                        have q124 : x4_1 < (l0.length : Int) := of_decide_eq_true (by first | (with_reducible assumption) | assumption)
                        obtain ⟨ad124, A124_1, c124_1, e124, hx124_0, hx124_1, hx124_2, hx124_3, hx124_4, hl124_1, hi124_1⟩ := at_T46 HR0.out x4_1 p124 q124
                        obtain rfl : ad119 = ad124 := (by injection e124)
                        replace hx124_0 := (HB.out.cell (World.block_lt_of_cell? w _ hx124_0)).trans hx124_0
                        replace hx124_1 := (HB.out.cell (World.block_lt_of_cell? w _ hx124_1)).trans hx124_1
                        replace hx124_2 := (HB.out.cell (World.block_lt_of_cell? w _ hx124_2)).trans hx124_2
                        replace hx124_3 := (HB.out.cell (World.block_lt_of_cell? w _ hx124_3)).trans hx124_3
                        replace hx124_4 := (HB.out.cell (World.block_lt_of_cell? w _ hx124_4)).trans hx124_4
                        have HR124_1 := Aside0.mk hi124_1
                        have HC124_1 := Aside0.mk hl124_1
                        clear hi124_1 hl124_1
                        replace p124 := eq_true p124
                        replace q124 := eq_true q124
                        try go_wp2
                        have n0_ := Aside0.mk (Kd.S_drew HO_3.out)
                        have n1_ := Aside0.mk (Kd.R_drew HO_124001.out)
                        have n2_ := Aside0.mk (blk_drew BK123.out)
                        have n3_ := Aside0.mk (below_drew1 HB.out)
                        clear HO_3
                        clear HO_124001
                        clear BK123
                        clear HB
                        have HO_3 := n0_
                        have HO_124001 := n1_
                        have BK123 := n2_
                        have HB := n3_
                        clear n0_ n1_ n2_ n3_
                        have p125 : 0 ≤ (x4_1 : Int) := of_decide_eq_true (by first | (with_reducible assumption) | assumption)
                        have q125 : x4_1 < (l0.length : Int) := of_decide_eq_true (by first | (with_reducible assumption) | assumption)
                        obtain ⟨ad125, A125_1, c125_1, e125, hx125_0, hx125_1, hx125_2, hx125_3, hx125_4, hl125_1, hi125_1⟩ := at_T46 HR0.out x4_1 p125 q125
                        have hw125_4 := hx125_4
                        have hw125_3 := hx125_3
                        have hw125_2 := hx125_2
                        have hw125_1 := hx125_1
                        have hw125_0 := hx125_0
                        obtain rfl : ad119 = ad125 := (by injection e125)
                        replace hx125_0 := (HB.out.cell (World.block_lt_of_cell? w _ hx125_0)).trans hx125_0
                        replace hx125_1 := (HB.out.cell (World.block_lt_of_cell? w _ hx125_1)).trans hx125_1
                        replace hx125_2 := (HB.out.cell (World.block_lt_of_cell? w _ hx125_2)).trans hx125_2
                        replace hx125_3 := (HB.out.cell (World.block_lt_of_cell? w _ hx125_3)).trans hx125_3
                        replace hx125_4 := (HB.out.cell (World.block_lt_of_cell? w _ hx125_4)).trans hx125_4
                        have HR125_1 := Aside0.mk hi125_1
                        have HC125_1 := Aside0.mk hl125_1
                        clear hi125_1 hl125_1
                        replace p125 := eq_true p125
                        replace q125 := eq_true q125
                        have p126 : 0 ≤ (x6_2 : Int) := of_decide_eq_true (by first | (with_reducible assumption) | assumption)
                        have q126 : x6_2 < (((rd_T46 l0 x4_1).f1).length : Int) := of_decide_eq_true (by first | (with_reducible assumption) | assumption)
                        obtain ⟨ad126, e126, hx126_0, hx126_1, hx126_2⟩ := at_T74 HR125_1.out x6_2 p126 q126
                        have hw126_2 := hx126_2
                        have hw126_1 := hx126_1
                        have hw126_0 := hx126_0
                        cases e126
                        replace hx126_0 := (HB.out.cell (World.block_lt_of_cell? w _ hx126_0)).trans hx126_0
                        replace hx126_1 := (HB.out.cell (World.block_lt_of_cell? w _ hx126_1)).trans hx126_1
                        replace hx126_2 := (HB.out.cell (World.block_lt_of_cell? w _ hx126_2)).trans hx126_2
                        replace p126 := eq_true p126
                        replace q126 := eq_true q126
                        have p127 : 0 ≤ (x4_1 : Int) := of_decide_eq_true (by first | (with_reducible assumption) | assumption)
                        have q127 : x4_1 < (l0.length : Int) := of_decide_eq_true (by first | (with_reducible assumption) | assumption)
                        obtain ⟨ad127, A127_1, c127_1, e127, hx127_0, hx127_1, hx127_2, hx127_3, hx127_4, hl127_1, hi127_1⟩ := at_T46 HR0.out x4_1 p127 q127
                        have hw127_4 := hx127_4
                        have hw127_3 := hx127_3
                        have hw127_2 := hx127_2
                        have hw127_1 := hx127_1
                        have hw127_0 := hx127_0
                        obtain rfl : ad119 = ad127 := (by injection e127)
                        replace hx127_0 := (HB.out.cell (World.block_lt_of_cell? w _ hx127_0)).trans hx127_0
                        replace hx127_1 := (HB.out.cell (World.block_lt_of_cell? w _ hx127_1)).trans hx127_1
                        replace hx127_2 := (HB.out.cell (World.block_lt_of_cell? w _ hx127_2)).trans hx127_2
                        replace hx127_3 := (HB.out.cell (World.block_lt_of_cell? w _ hx127_3)).trans hx127_3
                        replace hx127_4 := (HB.out.cell (World.block_lt_of_cell? w _ hx127_4)).trans hx127_4
                        have HR127_1 := Aside0.mk hi127_1
                        have HC127_1 := Aside0.mk hl127_1
                        clear hi127_1 hl127_1
                        replace p127 := eq_true p127
                        replace q127 := eq_true q127
                        have ea_ := Option.some.inj (hx125_1.symm.trans hx127_1)
                        injection ea_ with ea_ en_ ec_
                        subst ea_
                        subst ec_
                        clear en_
                        have p128 : 0 ≤ (x6_2 : Int) := of_decide_eq_true (by first | (with_reducible assumption) | assumption)
                        have q128 : x6_2 < (((rd_T46 l0 x4_1).f1).length : Int) := of_decide_eq_true (by first | (with_reducible assumption) | assumption)
                        obtain ⟨ad128, e128, hx128_0, hx128_1, hx128_2⟩ := at_T74 HR127_1.out x6_2 p128 q128
                        have hw128_2 := hx128_2
                        have hw128_1 := hx128_1
                        have hw128_0 := hx128_0
                        cases e128
                        replace hx128_0 := (HB.out.cell (World.block_lt_of_cell? w _ hx128_0)).trans hx128_0
                        replace hx128_1 := (HB.out.cell (World.block_lt_of_cell? w _ hx128_1)).trans hx128_1
                        replace hx128_2 := (HB.out.cell (World.block_lt_of_cell? w _ hx128_2)).trans hx128_2
                        replace p128 := eq_true p128
                        replace q128 := eq_true q128
                        have p129 : 0 ≤ (x4_1 : Int) := of_decide_eq_true (by first | (with_reducible assumption) | assumption)
                        have q129 : x4_1 < (l0.length : Int) := of_decide_eq_true (by first | (with_reducible assumption) | assumption)
                        obtain ⟨ad129, A129_1, c129_1, e129, hx129_0, hx129_1, hx129_2, hx129_3, hx129_4, hl129_1, hi129_1⟩ := at_T46 HR0.out x4_1 p129 q129
                        have hw129_4 := hx129_4
                        have hw129_3 := hx129_3
                        have hw129_2 := hx129_2
                        have hw129_1 := hx129_1
                        have hw129_0 := hx129_0
                        obtain rfl : ad119 = ad129 := (by injection e129)
                        replace hx129_0 := (HB.out.cell (World.block_lt_of_cell? w _ hx129_0)).trans hx129_0
                        replace hx129_1 := (HB.out.cell (World.block_lt_of_cell? w _ hx129_1)).trans hx129_1
                        replace hx129_2 := (HB.out.cell (World.block_lt_of_cell? w _ hx129_2)).trans hx129_2
                        replace hx129_3 := (HB.out.cell (World.block_lt_of_cell? w _ hx129_3)).trans hx129_3
                        replace hx129_4 := (HB.out.cell (World.block_lt_of_cell? w _ hx129_4)).trans hx129_4
                        have HR129_1 := Aside0.mk hi129_1
                        have HC129_1 := Aside0.mk hl129_1
                        clear hi129_1 hl129_1
                        replace p129 := eq_true p129
                        replace q129 := eq_true q129
                        have ea_ := Option.some.inj (hx125_1.symm.trans hx129_1)
                        injection ea_ with ea_ en_ ec_
                        subst ea_
                        subst ec_
                        clear en_
                        have p130 : 0 ≤ (x6_2 : Int) := of_decide_eq_true (by first | (with_reducible assumption) | assumption)
                        have q130 : x6_2 < (((rd_T46 l0 x4_1).f1).length : Int) := of_decide_eq_true (by first | (with_reducible assumption) | assumption)
                        obtain ⟨ad130, e130, hx130_0, hx130_1, hx130_2⟩ := at_T74 HR129_1.out x6_2 p130 q130
                        have hw130_2 := hx130_2
                        have hw130_1 := hx130_1
                        have hw130_0 := hx130_0
                        cases e130
                        replace hx130_0 := (HB.out.cell (World.block_lt_of_cell? w _ hx130_0)).trans hx130_0
                        replace hx130_1 := (HB.out.cell (World.block_lt_of_cell? w _ hx130_1)).trans hx130_1
                        replace hx130_2 := (HB.out.cell (World.block_lt_of_cell? w _ hx130_2)).trans hx130_2
                        replace p130 := eq_true p130
                        replace q130 := eq_true q130
                        refine start_ (n := 34) (S := fun w' => w'.cell? ⟨gb123, 0, none⟩ = some (.int .i64 ((rd_T46 l0 x4_1).f0)) ∧ w'.cell? ⟨gb123, 1, none⟩ = some (u124001) ∧ w'.cell? ⟨gb123, 2, none⟩ = some (.slice (((rd_T46 l0 x4_1).f2)).A (((rd_T46 l0 x4_1).f2)).n (((rd_T46 l0 x4_1).f2)).c) ∧ w'.cell? ⟨gb123, 3, none⟩ = some (.int .i64 ((rd_T46 l0 x4_1).f3)) ∧ w'.cell? ⟨gb123, 4, none⟩ = some (.int .i64 ((rd_T46 l0 x4_1).f4)) ∧ w'.cell? (ad119.add ((x4_1).toNat * 5)) = some (.int .i64 ((rd_T46 l0 x4_1).f0)) ∧ w'.cell? ⟨(ad119.add ((x4_1).toNat * 5)).block, (ad119.add ((x4_1).toNat * 5)).off + 1, none⟩ = some (.slice (some ad126) ((rd_T46 l0 x4_1).f1).length c125_1) ∧ w'.cell? ⟨(ad119.add ((x4_1).toNat * 5)).block, (ad119.add ((x4_1).toNat * 5)).off + 2, none⟩ = some (.slice ((rd_T46 l0 x4_1).f2).A ((rd_T46 l0 x4_1).f2).n ((rd_T46 l0 x4_1).f2).c) ∧ w'.cell? ⟨(ad119.add ((x4_1).toNat * 5)).block, (ad119.add ((x4_1).toNat * 5)).off + 3, none⟩ = some (.int .i64 ((rd_T46 l0 x4_1).f3)) ∧ w'.cell? ⟨(ad119.add ((x4_1).toNat * 5)).block, (ad119.add ((x4_1).toNat * 5)).off + 4, none⟩ = some (.int .i64 ((rd_T46 l0 x4_1).f4)) ∧ w'.cell? (ad126.add ((x6_2).toNat * 3)) = some (.int .u8 ((rd_T74 ((rd_T46 l0 x4_1).f1) x6_2).f0)) ∧ w'.cell? ⟨(ad126.add ((x6_2).toNat * 3)).block, (ad126.add ((x6_2).toNat * 3)).off + 1, none⟩ = some (.int .u8 ((rd_T74 ((rd_T46 l0 x4_1).f1) x6_2).f1)) ∧ w'.cell? ⟨(ad126.add ((x6_2).toNat * 3)).block, (ad126.add ((x6_2).toNat * 3)).off + 2, none⟩ = some (.int .i64 ((rd_T74 ((rd_T46 l0 x4_1).f1) x6_2).f2)) ∧ w'.cell? (ad119.add ((x4_1).toNat * 5)) = some (.int .i64 ((rd_T46 l0 x4_1).f0)) ∧ w'.cell? ⟨(ad119.add ((x4_1).toNat * 5)).block, (ad119.add ((x4_1).toNat * 5)).off + 1, none⟩ = some (.slice (some ad126) ((rd_T46 l0 x4_1).f1).length c125_1) ∧ w'.cell? ⟨(ad119.add ((x4_1).toNat * 5)).block, (ad119.add ((x4_1).toNat * 5)).off + 2, none⟩ = some (.slice ((rd_T46 l0 x4_1).f2).A ((rd_T46 l0 x4_1).f2).n ((rd_T46 l0 x4_1).f2).c) ∧ w'.cell? ⟨(ad119.add ((x4_1).toNat * 5)).block, (ad119.add ((x4_1).toNat * 5)).off + 3, none⟩ = some (.int .i64 ((rd_T46 l0 x4_1).f3)) ∧ w'.cell? ⟨(ad119.add ((x4_1).toNat * 5)).block, (ad119.add ((x4_1).toNat * 5)).off + 4, none⟩ = some (.int .i64 ((rd_T46 l0 x4_1).f4)) ∧ w'.cell? (ad126.add ((x6_2).toNat * 3)) = some (.int .u8 ((rd_T74 ((rd_T46 l0 x4_1).f1) x6_2).f0)) ∧ w'.cell? ⟨(ad126.add ((x6_2).toNat * 3)).block, (ad126.add ((x6_2).toNat * 3)).off + 1, none⟩ = some (.int .u8 ((rd_T74 ((rd_T46 l0 x4_1).f1) x6_2).f1)) ∧ w'.cell? ⟨(ad126.add ((x6_2).toNat * 3)).block, (ad126.add ((x6_2).toNat * 3)).off + 2, none⟩ = some (.int .i64 ((rd_T74 ((rd_T46 l0 x4_1).f1) x6_2).f2)) ∧ w'.cell? (ad119.add ((x4_1).toNat * 5)) = some (.int .i64 ((rd_T46 l0 x4_1).f0)) ∧ w'.cell? ⟨(ad119.add ((x4_1).toNat * 5)).block, (ad119.add ((x4_1).toNat * 5)).off + 1, none⟩ = some (.slice (some ad126) ((rd_T46 l0 x4_1).f1).length c125_1) ∧ w'.cell? ⟨(ad119.add ((x4_1).toNat * 5)).block, (ad119.add ((x4_1).toNat * 5)).off + 2, none⟩ = some (.slice ((rd_T46 l0 x4_1).f2).A ((rd_T46 l0 x4_1).f2).n ((rd_T46 l0 x4_1).f2).c) ∧ w'.cell? ⟨(ad119.add ((x4_1).toNat * 5)).block, (ad119.add ((x4_1).toNat * 5)).off + 3, none⟩ = some (.int .i64 ((rd_T46 l0 x4_1).f3)) ∧ w'.cell? ⟨(ad119.add ((x4_1).toNat * 5)).block, (ad119.add ((x4_1).toNat * 5)).off + 4, none⟩ = some (.int .i64 ((rd_T46 l0 x4_1).f4)) ∧ w'.cell? (ad126.add ((x6_2).toNat * 3)) = some (.int .u8 ((rd_T74 ((rd_T46 l0 x4_1).f1) x6_2).f0)) ∧ w'.cell? ⟨(ad126.add ((x6_2).toNat * 3)).block, (ad126.add ((x6_2).toNat * 3)).off + 1, none⟩ = some (.int .u8 ((rd_T74 ((rd_T46 l0 x4_1).f1) x6_2).f1)) ∧ w'.cell? ⟨(ad126.add ((x6_2).toNat * 3)).block, (ad126.add ((x6_2).toNat * 3)).off + 2, none⟩ = some (.int .i64 ((rd_T74 ((rd_T46 l0 x4_1).f1) x6_2).f2))) (ds := [33]) #[false, false, false, false, false, false, false, false, false, false, false, false, false, false, false, false, false, false, false, false, false, false, false, false, false, false, false, false, false, false, false, false, false, false] (by kernel_rfl) rfl rfl ⟨(blk_cell BK123.out 0).trans rfl, (blk_cell BK123.out 1).trans rfl, (blk_cell BK123.out 2).trans rfl, (blk_cell BK123.out 3).trans rfl, (blk_cell BK123.out 4).trans rfl, ((HB.out.cell (World.block_lt_of_cell? w _ hw125_0)).trans hw125_0), ((HB.out.cell (World.block_lt_of_cell? w _ hw125_1)).trans hw125_1), ((HB.out.cell (World.block_lt_of_cell? w _ hw125_2)).trans hw125_2), ((HB.out.cell (World.block_lt_of_cell? w _ hw125_3)).trans hw125_3), ((HB.out.cell (World.block_lt_of_cell? w _ hw125_4)).trans hw125_4), ((HB.out.cell (World.block_lt_of_cell? w _ hw126_0)).trans hw126_0), ((HB.out.cell (World.block_lt_of_cell? w _ hw126_1)).trans hw126_1), ((HB.out.cell (World.block_lt_of_cell? w _ hw126_2)).trans hw126_2), ((HB.out.cell (World.block_lt_of_cell? w _ hw127_0)).trans hw127_0), ((HB.out.cell (World.block_lt_of_cell? w _ hw127_1)).trans hw127_1), ((HB.out.cell (World.block_lt_of_cell? w _ hw127_2)).trans hw127_2), ((HB.out.cell (World.block_lt_of_cell? w _ hw127_3)).trans hw127_3), ((HB.out.cell (World.block_lt_of_cell? w _ hw127_4)).trans hw127_4), ((HB.out.cell (World.block_lt_of_cell? w _ hw128_0)).trans hw128_0), ((HB.out.cell (World.block_lt_of_cell? w _ hw128_1)).trans hw128_1), ((HB.out.cell (World.block_lt_of_cell? w _ hw128_2)).trans hw128_2), ((HB.out.cell (World.block_lt_of_cell? w _ hw129_0)).trans hw129_0), ((HB.out.cell (World.block_lt_of_cell? w _ hw129_1)).trans hw129_1), ((HB.out.cell (World.block_lt_of_cell? w _ hw129_2)).trans hw129_2), ((HB.out.cell (World.block_lt_of_cell? w _ hw129_3)).trans hw129_3), ((HB.out.cell (World.block_lt_of_cell? w _ hw129_4)).trans hw129_4), ((HB.out.cell (World.block_lt_of_cell? w _ hw130_0)).trans hw130_0), ((HB.out.cell (World.block_lt_of_cell? w _ hw130_1)).trans hw130_1), ((HB.out.cell (World.block_lt_of_cell? w _ hw130_2)).trans hw130_2)⟩ (fun hHeld => ?_); refine with_tabW phalaropelaw17_made.tab9 phalaropelaw17_made.bits9 (fun HT_ HW_ => ?_)
                        generalize wr.drew = w16 at HO_3 HO_124001 BK123 HB HR125_1 HR127_1 HR129_1 hx125_0 hx125_1 hx125_2 hx125_3 hx125_4 hx126_0 hx126_1 hx126_2 hx127_0 hx127_1 hx127_2 hx127_3 hx127_4 hx128_0 hx128_1 hx128_2 hx129_0 hx129_1 hx129_2 hx129_3 hx129_4 hx130_0 hx130_1 hx130_2 hHeld ⊢
                        refine pure_ (i := 0) (N := some 44) (v := ?_) (a' := ?_) #[true, false, false, false, false, false, false, false, false, false, false, false, false, false, false, false, false, false, false, false, false, false, false, false, false, false, false, false, false, false, false, false, false, false] rfl rfl (any_of HT_.out (by kernel_rfl)) (fun _ _ _ h => h) (Or.inl ⟨by rfl, ?_⟩) ?_ ?_
                        rotate_left
                        · intro w'
                          go_simp
                          with_reducible rfl
                        rotate_left
                        · simp only [Act.put, List.setIfInBounds_toArray, List.set_cons_zero, List.set_cons_succ, i64_w, i32_w]
                          rfl
                        refine pure_ (i := 2) (N := some 46) (v := ?_) (a' := ?_) #[true, false, true, false, false, false, false, false, false, false, false, false, false, false, false, false, false, false, false, false, false, false, false, false, false, false, false, false, false, false, false, false, false, false] rfl rfl (any_of HT_.out (by kernel_rfl)) (fun _ _ _ h => h) (Or.inl ⟨by rfl, ?_⟩) ?_ ?_
                        rotate_left
                        · intro w'
                          go_simp
                          with_reducible rfl
                        rotate_left
                        · simp only [Act.put, List.setIfInBounds_toArray, List.set_cons_zero, List.set_cons_succ, i64_w, i32_w]
                          rfl
                        refine pure_ (i := 3) (N := some 47) (v := ?_) (a' := ?_) #[true, false, true, true, false, false, false, false, false, false, false, false, false, false, false, false, false, false, false, false, false, false, false, false, false, false, false, false, false, false, false, false, false, false] rfl rfl (any_of HT_.out (by kernel_rfl)) (fun _ _ _ h => h) (Or.inl ⟨by rfl, ?_⟩) ?_ ?_
                        rotate_left
                        · intro w'
                          go_simp
                          with_reducible rfl
                        rotate_left
                        · simp only [Act.put, List.setIfInBounds_toArray, List.set_cons_zero, List.set_cons_succ, i64_w, i32_w]
                          rfl
                        refine pure_ (i := 4) (N := some 48) (v := ?_) (a' := ?_) #[true, false, true, true, true, false, false, false, false, false, false, false, false, false, false, false, false, false, false, false, false, false, false, false, false, false, false, false, false, false, false, false, false, false] rfl rfl (any_of HT_.out (by kernel_rfl)) (fun _ _ _ h => h) (Or.inl ⟨by rfl, ?_⟩) ?_ ?_
                        rotate_left
                        · intro w'
                          go_simp
                          with_reducible rfl
                        rotate_left
                        · simp only [Act.put, List.setIfInBounds_toArray, List.set_cons_zero, List.set_cons_succ, i64_w, i32_w]
                          rfl
                        refine pure_ (i := 5) (N := some 49) (v := ?_) (a' := ?_) #[true, false, true, true, true, true, false, false, false, false, false, false, false, false, false, false, false, false, false, false, false, false, false, false, false, false, false, false, false, false, false, false, false, false] rfl rfl (any_of HT_.out (by kernel_rfl)) (fun _ _ _ h => h) (Or.inl ⟨by rfl, ?_⟩) ?_ ?_
                        rotate_left
                        · intro w'
                          go_simp
                          with_reducible rfl
                        rotate_left
                        · simp only [Act.put, List.setIfInBounds_toArray, List.set_cons_zero, List.set_cons_succ, i64_w, i32_w]
                          rfl
                        refine pure_ (i := 7) (N := some 51) (v := ?_) (a' := ?_) #[true, false, true, true, true, true, false, true, false, false, false, false, false, false, false, false, false, false, false, false, false, false, false, false, false, false, false, false, false, false, false, false, false, false] rfl rfl (any_of HT_.out (by kernel_rfl)) (fun _ _ _ h => h) (Or.inl ⟨by rfl, ?_⟩) ?_ ?_
                        rotate_left
                        · intro w'
                          go_simp
                          with_reducible rfl
                        rotate_left
                        · simp only [Act.put, List.setIfInBounds_toArray, List.set_cons_zero, List.set_cons_succ, i64_w, i32_w]
                          rfl
                        refine pure_ (i := 11) (N := some 55) (v := ?_) (a' := ?_) #[true, false, true, true, true, true, false, true, false, false, false, true, false, false, false, false, false, false, false, false, false, false, false, false, false, false, false, false, false, false, false, false, false, false] rfl rfl (any_of HT_.out (by kernel_rfl)) (fun _ _ _ h => h) (Or.inl ⟨by rfl, ?_⟩) ?_ ?_
                        rotate_left
                        · intro w'
                          go_simp
                          with_reducible rfl
                        rotate_left
                        · simp only [Act.put, List.setIfInBounds_toArray, List.set_cons_zero, List.set_cons_succ, i64_w, i32_w]
                          rfl
                        refine pure_ (i := 12) (N := some 56) (v := ?_) (a' := ?_) #[true, false, true, true, true, true, false, true, false, false, false, true, true, false, false, false, false, false, false, false, false, false, false, false, false, false, false, false, false, false, false, false, false, false] rfl rfl (any_of HT_.out (by kernel_rfl)) (fun _ _ _ h => h) (Or.inl ⟨by rfl, ?_⟩) ?_ ?_
                        rotate_left
                        · intro w'
                          go_simp
                          with_reducible rfl
                        rotate_left
                        · simp only [Act.put, List.setIfInBounds_toArray, List.set_cons_zero, List.set_cons_succ, i64_w, i32_w]
                          rfl
                        refine pure_ (i := 13) (N := some 57) (v := ?_) (a' := ?_) #[true, false, true, true, true, true, false, true, false, false, false, true, true, true, false, false, false, false, false, false, false, false, false, false, false, false, false, false, false, false, false, false, false, false] rfl rfl (any_of HT_.out (by kernel_rfl)) (fun _ _ _ h => h) (Or.inl ⟨by rfl, ?_⟩) ?_ ?_
                        rotate_left
                        · intro w'
                          go_simp
                          with_reducible rfl
                        rotate_left
                        · simp only [Act.put, List.setIfInBounds_toArray, List.set_cons_zero, List.set_cons_succ, i64_w, i32_w]
                          rfl
                        refine pure_ (i := 14) (N := some 58) (v := ?_) (a' := ?_) #[true, false, true, true, true, true, false, true, false, false, false, true, true, true, true, false, false, false, false, false, false, false, false, false, false, false, false, false, false, false, false, false, false, false] rfl rfl (any_of HT_.out (by kernel_rfl)) (fun _ _ _ h => h) (Or.inl ⟨by rfl, ?_⟩) ?_ ?_
                        rotate_left
                        · intro w'
                          go_simp
                          with_reducible rfl
                        rotate_left
                        · simp only [Act.put, List.setIfInBounds_toArray, List.set_cons_zero, List.set_cons_succ, i64_w, i32_w]
                          rfl
                        refine pure_ (i := 16) (N := some 60) (v := ?_) (a' := ?_) #[true, false, true, true, true, true, false, true, false, false, false, true, true, true, true, false, true, false, false, false, false, false, false, false, false, false, false, false, false, false, false, false, false, false] rfl rfl (any_of HT_.out (by kernel_rfl)) (fun _ _ _ h => h) (Or.inl ⟨by rfl, ?_⟩) ?_ ?_
                        rotate_left
                        · intro w'
                          go_simp
                          with_reducible rfl
                        rotate_left
                        · simp only [Act.put, List.setIfInBounds_toArray, List.set_cons_zero, List.set_cons_succ, i64_w, i32_w]
                          rfl
                        refine pure_ (i := 20) (N := some 64) (v := ?_) (a' := ?_) #[true, false, true, true, true, true, false, true, false, false, false, true, true, true, true, false, true, false, false, false, true, false, false, false, false, false, false, false, false, false, false, false, false, false] rfl rfl (any_of HT_.out (by kernel_rfl)) (fun _ _ _ h => h) (Or.inl ⟨by rfl, ?_⟩) ?_ ?_
                        rotate_left
                        · intro w'
                          go_simp
                          with_reducible rfl
                        rotate_left
                        · simp only [Act.put, List.setIfInBounds_toArray, List.set_cons_zero, List.set_cons_succ, i64_w, i32_w]
                          rfl
                        refine pure_ (i := 21) (N := some 65) (v := ?_) (a' := ?_) #[true, false, true, true, true, true, false, true, false, false, false, true, true, true, true, false, true, false, false, false, true, true, false, false, false, false, false, false, false, false, false, false, false, false] rfl rfl (any_of HT_.out (by kernel_rfl)) (fun _ _ _ h => h) (Or.inl ⟨by rfl, ?_⟩) ?_ ?_
                        rotate_left
                        · intro w'
                          go_simp
                          with_reducible rfl
                        rotate_left
                        · simp only [Act.put, List.setIfInBounds_toArray, List.set_cons_zero, List.set_cons_succ, i64_w, i32_w]
                          rfl
                        refine pure_ (i := 22) (N := some 66) (v := ?_) (a' := ?_) #[true, false, true, true, true, true, false, true, false, false, false, true, true, true, true, false, true, false, false, false, true, true, true, false, false, false, false, false, false, false, false, false, false, false] rfl rfl (any_of HT_.out (by kernel_rfl)) (fun _ _ _ h => h) (Or.inl ⟨by rfl, ?_⟩) ?_ ?_
                        rotate_left
                        · intro w'
                          go_simp
                          with_reducible rfl
                        rotate_left
                        · simp only [Act.put, List.setIfInBounds_toArray, List.set_cons_zero, List.set_cons_succ, i64_w, i32_w]
                          rfl
                        refine pure_ (i := 23) (N := some 67) (v := ?_) (a' := ?_) #[true, false, true, true, true, true, false, true, false, false, false, true, true, true, true, false, true, false, false, false, true, true, true, true, false, false, false, false, false, false, false, false, false, false] rfl rfl (any_of HT_.out (by kernel_rfl)) (fun _ _ _ h => h) (Or.inl ⟨by rfl, ?_⟩) ?_ ?_
                        rotate_left
                        · intro w'
                          go_simp
                          with_reducible rfl
                        rotate_left
                        · simp only [Act.put, List.setIfInBounds_toArray, List.set_cons_zero, List.set_cons_succ, i64_w, i32_w]
                          rfl
                        refine pure_ (i := 25) (N := some 69) (v := ?_) (a' := ?_) #[true, false, true, true, true, true, false, true, false, false, false, true, true, true, true, false, true, false, false, false, true, true, true, true, false, true, false, false, false, false, false, false, false, false] rfl rfl (any_of HT_.out (by kernel_rfl)) (fun _ _ _ h => h) (Or.inl ⟨by rfl, ?_⟩) ?_ ?_
                        rotate_left
                        · intro w'
                          go_simp
                          with_reducible rfl
                        rotate_left
                        · simp only [Act.put, List.setIfInBounds_toArray, List.set_cons_zero, List.set_cons_succ, i64_w, i32_w]
                          rfl
                        refine take_ (i := 1) (N := some 45) (v := ?_) (a' := ?_) #[true, true, true, true, true, true, false, true, false, false, false, true, true, true, true, false, true, false, false, false, true, true, true, true, false, true, false, false, false, false, false, false, false, false] rfl rfl (take_ofW HT_.out HW_.out (by kernel_rfl)) (fun _ _ _ h => h) (Or.inl ⟨by rfl, ?_⟩) hHeld ?_ ?_
                        rotate_left
                        · rintro w' ⟨s0, s1, s2, s3, s4, s5, s6, s7, s8, s9, s10, s11, s12, s13, s14, s15, s16, s17, s18, s19, s20, s21, s22, s23, s24, s25, s26, s27, s28⟩
                          go_simp
                          with_reducible rfl
                        rotate_left
                        · simp only [Act.put, List.setIfInBounds_toArray, List.set_cons_zero, List.set_cons_succ, i64_w, i32_w]
                          rfl
                        refine take_ (i := 6) (N := some 50) (v := ?_) (a' := ?_) #[true, true, true, true, true, true, true, true, false, false, false, true, true, true, true, false, true, false, false, false, true, true, true, true, false, true, false, false, false, false, false, false, false, false] rfl rfl (take_ofW HT_.out HW_.out (by kernel_rfl)) (fun _ _ _ h => h) (Or.inl ⟨by rfl, ?_⟩) hHeld ?_ ?_
                        rotate_left
                        · rintro w' ⟨s0, s1, s2, s3, s4, s5, s6, s7, s8, s9, s10, s11, s12, s13, s14, s15, s16, s17, s18, s19, s20, s21, s22, s23, s24, s25, s26, s27, s28⟩
                          go_simp
                          with_reducible rfl
                        rotate_left
                        · simp only [Act.put, List.setIfInBounds_toArray, List.set_cons_zero, List.set_cons_succ, i64_w, i32_w]
                          rfl
                        refine pure_ (i := 8) (N := some 52) (v := ?_) (a' := ?_) #[true, true, true, true, true, true, true, true, true, false, false, true, true, true, true, false, true, false, false, false, true, true, true, true, false, true, false, false, false, false, false, false, false, false] rfl rfl (any_of HT_.out (by kernel_rfl)) (fun _ _ _ h => h) (Or.inl ⟨by rfl, ?_⟩) ?_ ?_
                        rotate_left
                        · intro w'
                          go_simp
                          with_reducible rfl
                        rotate_left
                        · simp only [Act.put, List.setIfInBounds_toArray, List.set_cons_zero, List.set_cons_succ, i64_w, i32_w]
                          rfl
                        refine pure_ (i := 9) (N := some 53) (v := ?_) (a' := ?_) #[true, true, true, true, true, true, true, true, true, true, false, true, true, true, true, false, true, false, false, false, true, true, true, true, false, true, false, false, false, false, false, false, false, false] rfl rfl (any_of HT_.out (by kernel_rfl)) (fun _ _ _ h => h) (Or.inl ⟨by rfl, ?_⟩) ?_ ?_
                        rotate_left
                        · intro w'
                          go_simp
                          with_reducible rfl
                        rotate_left
                        · simp only [Act.put, List.setIfInBounds_toArray, List.set_cons_zero, List.set_cons_succ, i64_w, i32_w]
                          rfl
                        refine take_ (i := 10) (N := some 54) (v := ?_) (a' := ?_) #[true, true, true, true, true, true, true, true, true, true, true, true, true, true, true, false, true, false, false, false, true, true, true, true, false, true, false, false, false, false, false, false, false, false] rfl rfl (take_ofW HT_.out HW_.out (by kernel_rfl)) (fun _ _ _ h => h) (Or.inl ⟨by rfl, ?_⟩) hHeld ?_ ?_
                        rotate_left
                        · rintro w' ⟨s0, s1, s2, s3, s4, s5, s6, s7, s8, s9, s10, s11, s12, s13, s14, s15, s16, s17, s18, s19, s20, s21, s22, s23, s24, s25, s26, s27, s28⟩
                          go_simp
                          with_reducible rfl
                        rotate_left
                        · simp only [Act.put, List.setIfInBounds_toArray, List.set_cons_zero, List.set_cons_succ, i64_w, i32_w]
                          rfl
                        refine take_ (i := 15) (N := some 59) (v := ?_) (a' := ?_) #[true, true, true, true, true, true, true, true, true, true, true, true, true, true, true, true, true, false, false, false, true, true, true, true, false, true, false, false, false, false, false, false, false, false] rfl rfl (take_ofW HT_.out HW_.out (by kernel_rfl)) (fun _ _ _ h => h) (Or.inl ⟨by rfl, ?_⟩) hHeld ?_ ?_
                        rotate_left
                        · rintro w' ⟨s0, s1, s2, s3, s4, s5, s6, s7, s8, s9, s10, s11, s12, s13, s14, s15, s16, s17, s18, s19, s20, s21, s22, s23, s24, s25, s26, s27, s28⟩
                          go_simp
                          with_reducible rfl
                        rotate_left
                        · simp only [Act.put, List.setIfInBounds_toArray, List.set_cons_zero, List.set_cons_succ, i64_w, i32_w]
                          rfl
                        refine pure_ (i := 17) (N := some 61) (v := ?_) (a' := ?_) #[true, true, true, true, true, true, true, true, true, true, true, true, true, true, true, true, true, true, false, false, true, true, true, true, false, true, false, false, false, false, false, false, false, false] rfl rfl (any_of HT_.out (by kernel_rfl)) (fun _ _ _ h => h) (Or.inl ⟨by rfl, ?_⟩) ?_ ?_
                        rotate_left
                        · intro w'
                          go_simp
                          with_reducible rfl
                        rotate_left
                        · simp only [Act.put, List.setIfInBounds_toArray, List.set_cons_zero, List.set_cons_succ, i64_w, i32_w]
                          rfl
                        refine pure_ (i := 18) (N := some 62) (v := ?_) (a' := ?_) #[true, true, true, true, true, true, true, true, true, true, true, true, true, true, true, true, true, true, true, false, true, true, true, true, false, true, false, false, false, false, false, false, false, false] rfl rfl (any_of HT_.out (by kernel_rfl)) (fun _ _ _ h => h) (Or.inl ⟨by rfl, ?_⟩) ?_ ?_
                        rotate_left
                        · intro w'
                          go_simp
                          with_reducible rfl
                        rotate_left
                        · simp only [Act.put, List.setIfInBounds_toArray, List.set_cons_zero, List.set_cons_succ, i64_w, i32_w]
                          rfl
                        refine take_ (i := 19) (N := some 63) (v := ?_) (a' := ?_) #[true, true, true, true, true, true, true, true, true, true, true, true, true, true, true, true, true, true, true, true, true, true, true, true, false, true, false, false, false, false, false, false, false, false] rfl rfl (take_ofW HT_.out HW_.out (by kernel_rfl)) (fun _ _ _ h => h) (Or.inl ⟨by rfl, ?_⟩) hHeld ?_ ?_
                        rotate_left
                        · rintro w' ⟨s0, s1, s2, s3, s4, s5, s6, s7, s8, s9, s10, s11, s12, s13, s14, s15, s16, s17, s18, s19, s20, s21, s22, s23, s24, s25, s26, s27, s28⟩
                          go_simp
                          with_reducible rfl
                        rotate_left
                        · simp only [Act.put, List.setIfInBounds_toArray, List.set_cons_zero, List.set_cons_succ, i64_w, i32_w]
                          rfl
                        refine take_ (i := 24) (N := some 68) (v := ?_) (a' := ?_) #[true, true, true, true, true, true, true, true, true, true, true, true, true, true, true, true, true, true, true, true, true, true, true, true, true, true, false, false, false, false, false, false, false, false] rfl rfl (take_ofW HT_.out HW_.out (by kernel_rfl)) (fun _ _ _ h => h) (Or.inl ⟨by rfl, ?_⟩) hHeld ?_ ?_
                        rotate_left
                        · rintro w' ⟨s0, s1, s2, s3, s4, s5, s6, s7, s8, s9, s10, s11, s12, s13, s14, s15, s16, s17, s18, s19, s20, s21, s22, s23, s24, s25, s26, s27, s28⟩
                          go_simp
                          with_reducible rfl
                        rotate_left
                        · simp only [Act.put, List.setIfInBounds_toArray, List.set_cons_zero, List.set_cons_succ, i64_w, i32_w]
                          rfl
                        refine pure_ (i := 26) (N := some 70) (v := ?_) (a' := ?_) #[true, true, true, true, true, true, true, true, true, true, true, true, true, true, true, true, true, true, true, true, true, true, true, true, true, true, true, false, false, false, false, false, false, false] rfl rfl (any_of HT_.out (by kernel_rfl)) (fun _ _ _ h => h) (Or.inl ⟨by rfl, ?_⟩) ?_ ?_
                        rotate_left
                        · intro w'
                          go_simp
                          with_reducible rfl
                        rotate_left
                        · simp only [Act.put, List.setIfInBounds_toArray, List.set_cons_zero, List.set_cons_succ, i64_w, i32_w]
                          rfl
                        refine pure_ (i := 27) (N := some 71) (v := ?_) (a' := ?_) #[true, true, true, true, true, true, true, true, true, true, true, true, true, true, true, true, true, true, true, true, true, true, true, true, true, true, true, true, false, false, false, false, false, false] rfl rfl (any_of HT_.out (by kernel_rfl)) (fun _ _ _ h => h) (Or.inl ⟨by rfl, ?_⟩) ?_ ?_
                        rotate_left
                        · intro w'
                          go_simp
                          with_reducible rfl
                        rotate_left
                        · simp only [Act.put, List.setIfInBounds_toArray, List.set_cons_zero, List.set_cons_succ, i64_w, i32_w]
                          rfl
                        refine take_ (i := 28) (N := some 72) (v := ?_) (a' := ?_) #[true, true, true, true, true, true, true, true, true, true, true, true, true, true, true, true, true, true, true, true, true, true, true, true, true, true, true, true, true, false, false, false, false, false] rfl rfl (take_ofW HT_.out HW_.out (by kernel_rfl)) (fun _ _ _ h => h) (Or.inl ⟨by rfl, ?_⟩) hHeld ?_ ?_
                        rotate_left
                        · rintro w' ⟨s0, s1, s2, s3, s4, s5, s6, s7, s8, s9, s10, s11, s12, s13, s14, s15, s16, s17, s18, s19, s20, s21, s22, s23, s24, s25, s26, s27, s28⟩
                          go_simp
                          with_reducible rfl
                        rotate_left
                        · simp only [Act.put, List.setIfInBounds_toArray, List.set_cons_zero, List.set_cons_succ, i64_w, i32_w]
                          rfl
                        refine pure_ (i := 29) (N := some 73) (v := ?_) (a' := ?_) #[true, true, true, true, true, true, true, true, true, true, true, true, true, true, true, true, true, true, true, true, true, true, true, true, true, true, true, true, true, true, false, false, false, false] rfl rfl (any_of HT_.out (by kernel_rfl)) (fun _ _ _ h => h) (Or.inl ⟨by rfl, ?_⟩) ?_ ?_
                        rotate_left
                        · intro w'
                          go_simp
                          with_reducible rfl
                        rotate_left
                        · simp only [Act.put, List.setIfInBounds_toArray, List.set_cons_zero, List.set_cons_succ, i64_w, i32_w]
                          rfl
                        refine one_ (i := 30) (N := some 74) #[true, true, true, true, true, true, true, true, true, true, true, true, true, true, true, true, true, true, true, true, true, true, true, true, true, true, true, true, true, true, true, false, false, false] rfl rfl (one_of HT_.out (by kernel_rfl)) (by decide) (fun K hK => ?_)
                        refine value_ (w1 := ?_) (v := ?_) (by rfl) rfl ?_ ?_
                        rotate_left 2
                        · go_simp
                          constructor
                          · rfl
                          · rfl
                        refine hK.out _ _ ⟨(blk_cell (blk_alloc BK123.out _) 0).trans rfl, (blk_cell (blk_alloc BK123.out _) 1).trans rfl, (blk_cell (blk_alloc BK123.out _) 2).trans rfl, (blk_cell (blk_alloc BK123.out _) 3).trans rfl, (blk_cell (blk_alloc BK123.out _) 4).trans rfl, (World.cell?_alloc_lt _ _ _ (World.block_lt_of_cell? _ _ (((HB.out.cell (World.block_lt_of_cell? w _ hw125_0)).trans hw125_0)))).trans (((HB.out.cell (World.block_lt_of_cell? w _ hw125_0)).trans hw125_0)), (World.cell?_alloc_lt _ _ _ (World.block_lt_of_cell? _ _ (((HB.out.cell (World.block_lt_of_cell? w _ hw125_1)).trans hw125_1)))).trans (((HB.out.cell (World.block_lt_of_cell? w _ hw125_1)).trans hw125_1)), (World.cell?_alloc_lt _ _ _ (World.block_lt_of_cell? _ _ (((HB.out.cell (World.block_lt_of_cell? w _ hw125_2)).trans hw125_2)))).trans (((HB.out.cell (World.block_lt_of_cell? w _ hw125_2)).trans hw125_2)), (World.cell?_alloc_lt _ _ _ (World.block_lt_of_cell? _ _ (((HB.out.cell (World.block_lt_of_cell? w _ hw125_3)).trans hw125_3)))).trans (((HB.out.cell (World.block_lt_of_cell? w _ hw125_3)).trans hw125_3)), (World.cell?_alloc_lt _ _ _ (World.block_lt_of_cell? _ _ (((HB.out.cell (World.block_lt_of_cell? w _ hw125_4)).trans hw125_4)))).trans (((HB.out.cell (World.block_lt_of_cell? w _ hw125_4)).trans hw125_4)), (World.cell?_alloc_lt _ _ _ (World.block_lt_of_cell? _ _ (((HB.out.cell (World.block_lt_of_cell? w _ hw126_0)).trans hw126_0)))).trans (((HB.out.cell (World.block_lt_of_cell? w _ hw126_0)).trans hw126_0)), (World.cell?_alloc_lt _ _ _ (World.block_lt_of_cell? _ _ (((HB.out.cell (World.block_lt_of_cell? w _ hw126_1)).trans hw126_1)))).trans (((HB.out.cell (World.block_lt_of_cell? w _ hw126_1)).trans hw126_1)), (World.cell?_alloc_lt _ _ _ (World.block_lt_of_cell? _ _ (((HB.out.cell (World.block_lt_of_cell? w _ hw126_2)).trans hw126_2)))).trans (((HB.out.cell (World.block_lt_of_cell? w _ hw126_2)).trans hw126_2)), (World.cell?_alloc_lt _ _ _ (World.block_lt_of_cell? _ _ (((HB.out.cell (World.block_lt_of_cell? w _ hw127_0)).trans hw127_0)))).trans (((HB.out.cell (World.block_lt_of_cell? w _ hw127_0)).trans hw127_0)), (World.cell?_alloc_lt _ _ _ (World.block_lt_of_cell? _ _ (((HB.out.cell (World.block_lt_of_cell? w _ hw127_1)).trans hw127_1)))).trans (((HB.out.cell (World.block_lt_of_cell? w _ hw127_1)).trans hw127_1)), (World.cell?_alloc_lt _ _ _ (World.block_lt_of_cell? _ _ (((HB.out.cell (World.block_lt_of_cell? w _ hw127_2)).trans hw127_2)))).trans (((HB.out.cell (World.block_lt_of_cell? w _ hw127_2)).trans hw127_2)), (World.cell?_alloc_lt _ _ _ (World.block_lt_of_cell? _ _ (((HB.out.cell (World.block_lt_of_cell? w _ hw127_3)).trans hw127_3)))).trans (((HB.out.cell (World.block_lt_of_cell? w _ hw127_3)).trans hw127_3)), (World.cell?_alloc_lt _ _ _ (World.block_lt_of_cell? _ _ (((HB.out.cell (World.block_lt_of_cell? w _ hw127_4)).trans hw127_4)))).trans (((HB.out.cell (World.block_lt_of_cell? w _ hw127_4)).trans hw127_4)), (World.cell?_alloc_lt _ _ _ (World.block_lt_of_cell? _ _ (((HB.out.cell (World.block_lt_of_cell? w _ hw128_0)).trans hw128_0)))).trans (((HB.out.cell (World.block_lt_of_cell? w _ hw128_0)).trans hw128_0)), (World.cell?_alloc_lt _ _ _ (World.block_lt_of_cell? _ _ (((HB.out.cell (World.block_lt_of_cell? w _ hw128_1)).trans hw128_1)))).trans (((HB.out.cell (World.block_lt_of_cell? w _ hw128_1)).trans hw128_1)), (World.cell?_alloc_lt _ _ _ (World.block_lt_of_cell? _ _ (((HB.out.cell (World.block_lt_of_cell? w _ hw128_2)).trans hw128_2)))).trans (((HB.out.cell (World.block_lt_of_cell? w _ hw128_2)).trans hw128_2)), (World.cell?_alloc_lt _ _ _ (World.block_lt_of_cell? _ _ (((HB.out.cell (World.block_lt_of_cell? w _ hw129_0)).trans hw129_0)))).trans (((HB.out.cell (World.block_lt_of_cell? w _ hw129_0)).trans hw129_0)), (World.cell?_alloc_lt _ _ _ (World.block_lt_of_cell? _ _ (((HB.out.cell (World.block_lt_of_cell? w _ hw129_1)).trans hw129_1)))).trans (((HB.out.cell (World.block_lt_of_cell? w _ hw129_1)).trans hw129_1)), (World.cell?_alloc_lt _ _ _ (World.block_lt_of_cell? _ _ (((HB.out.cell (World.block_lt_of_cell? w _ hw129_2)).trans hw129_2)))).trans (((HB.out.cell (World.block_lt_of_cell? w _ hw129_2)).trans hw129_2)), (World.cell?_alloc_lt _ _ _ (World.block_lt_of_cell? _ _ (((HB.out.cell (World.block_lt_of_cell? w _ hw129_3)).trans hw129_3)))).trans (((HB.out.cell (World.block_lt_of_cell? w _ hw129_3)).trans hw129_3)), (World.cell?_alloc_lt _ _ _ (World.block_lt_of_cell? _ _ (((HB.out.cell (World.block_lt_of_cell? w _ hw129_4)).trans hw129_4)))).trans (((HB.out.cell (World.block_lt_of_cell? w _ hw129_4)).trans hw129_4)), (World.cell?_alloc_lt _ _ _ (World.block_lt_of_cell? _ _ (((HB.out.cell (World.block_lt_of_cell? w _ hw130_0)).trans hw130_0)))).trans (((HB.out.cell (World.block_lt_of_cell? w _ hw130_0)).trans hw130_0)), (World.cell?_alloc_lt _ _ _ (World.block_lt_of_cell? _ _ (((HB.out.cell (World.block_lt_of_cell? w _ hw130_1)).trans hw130_1)))).trans (((HB.out.cell (World.block_lt_of_cell? w _ hw130_1)).trans hw130_1)), (World.cell?_alloc_lt _ _ _ (World.block_lt_of_cell? _ _ (((HB.out.cell (World.block_lt_of_cell? w _ hw130_2)).trans hw130_2)))).trans (((HB.out.cell (World.block_lt_of_cell? w _ hw130_2)).trans hw130_2))⟩ (fun hHeld => ?_)
                        clear hK K
                        refine norm_ (a' := ?_) ?_ ?_
                        rotate_left
                        · show Act.put _ (some 74) _ = _
                          simp only [Act.put, List.setIfInBounds_toArray, List.set_cons_zero, List.set_cons_succ, i64_w, i32_w]
                          rfl
                        refine one_ (i := 31) (N := some 75) #[true, true, true, true, true, true, true, true, true, true, true, true, true, true, true, true, true, true, true, true, true, true, true, true, true, true, true, true, true, true, true, true, false, false] rfl rfl (one_of HT_.out (by kernel_rfl)) (by decide) (fun K hK => ?_)
                        refine Kd.R_append_step k72 (w0 := w) w.heap.size (by rfl) (.tmp 45) (.tmp 74) 31 72 (.agg #[(.int .u8 0), (.int .u8 0), (.int .i64 0)]) 16 rfl Try.underlying31 info72 rfl (by decide) (by omega) u124001 x124001_2 (⟨(rd_T74 ((rd_T46 l0 x4_1).f1) x6_2).f0, (rd_T74 ((rd_T46 l0 x4_1).f1) x6_2).f1, (rd_T74 ((rd_T46 l0 x4_1).f1) x6_2).f2⟩ : S72) [.int .u8 ((rd_T74 ((rd_T46 l0 x4_1).f1) x6_2).f0), .int .u8 ((rd_T74 ((rd_T46 l0 x4_1).f1) x6_2).f1), .int .i64 ((rd_T74 ((rd_T46 l0 x4_1).f1) x6_2).f2)] (fun _ => True) (fun _ => False) rfl rfl ?aP (fun _ hk => hk.elim) ?aF ?aO ?aB ?aS ?aL ?_
                        (case aP => exact k72_mkM _ _ _ (⟨(rd_T74 ((rd_T46 l0 x4_1).f1) x6_2).f0, (rd_T74 ((rd_T46 l0 x4_1).f1) x6_2).f1, (rd_T74 ((rd_T46 l0 x4_1).f1) x6_2).f2⟩ : S72))
                        (case aB => exact (by repeat (first | (with_reducible first | exact HB.out | apply below_alloc | apply pw_below_drewN | apply below_drew1 | refine below_set ?_ GE123.out) | exact HB.out)))
                        (case aF => exact (fun _ _ => trivial))
                        (case aO => exact (by (with_reducible repeat (first | apply Kd.R_alloc | apply Kd.R_drewN | apply Kd.R_drew)); exact HO_124001.out))
                        (case aS => exact (below_size (by repeat (first | (with_reducible first | exact HB.out | apply below_alloc | apply pw_below_drewN | apply below_drew1 | refine below_set ?_ GE123.out) | exact HB.out))))
                        (case aL => have := LMc15.out; omega)
                        intro v132 w17 ho hb hg hat
                        rw [← Ny131.out] at ho
                        have n0_ := Aside0.mk (Kd.S_after (ok := (fun k_ => k_ ≠ gb123)) (by (with_reducible repeat (first | apply Kd.S_alloc | apply Kd.S_drewN | apply Kd.S_drew)); exact Kd.S_mono HO_3.out (fun _ hk => ⟨hk.2, hk.1⟩)) hg hat)
                        have n1_ := Aside0.mk (blk_grown (g := gb123) (o := .cells #[.int .i64 ((rd_T46 l0 x4_1).f0), u124001, .slice (((rd_T46 l0 x4_1).f2)).A (((rd_T46 l0 x4_1).f2)).n (((rd_T46 l0 x4_1).f2)).c, .int .i64 ((rd_T46 l0 x4_1).f3), .int .i64 ((rd_T46 l0 x4_1).f4)] 33 (0, 0)) (by (with_reducible repeat (first | refine blk_drewN ?_ _ | refine blk_drew ?_ | refine blk_alloc ?_ _)); exact BK123.out) hg (Kd.R_ne HO_124001.out BK123.out (by decide)))
                        have n2_ := Aside0.mk (hb)
                        have n3_ := Aside0.mk (ho)
                        clear HO_3
                        clear BK123
                        clear HB
                        clear HO_124001
                        have HO_3 := n0_
                        have BK123 := n1_
                        have HB := n2_
                        have HO133 := n3_
                        clear n0_ n1_ n2_ n3_
                        clear ho hb hg hat
                        obtain ⟨Ao18, co18, eo18⟩ := Kd.R_slice HO133.out
                        (first | subst eo18 | (injection eo18 with f1_ f2_ f3_; have f4_ := f1_.symm; have f5_ := f3_.symm; clear f1_ f2_ f3_; subst f4_; subst f5_))
                        refine hK.out _ _ ⟨(blk_cell BK123.out 0).trans rfl, (blk_cell BK123.out 1).trans rfl, (blk_cell BK123.out 2).trans rfl, (blk_cell BK123.out 3).trans rfl, (blk_cell BK123.out 4).trans rfl, ((HB.out.cell (World.block_lt_of_cell? w _ hw125_0)).trans hw125_0), ((HB.out.cell (World.block_lt_of_cell? w _ hw125_1)).trans hw125_1), ((HB.out.cell (World.block_lt_of_cell? w _ hw125_2)).trans hw125_2), ((HB.out.cell (World.block_lt_of_cell? w _ hw125_3)).trans hw125_3), ((HB.out.cell (World.block_lt_of_cell? w _ hw125_4)).trans hw125_4), ((HB.out.cell (World.block_lt_of_cell? w _ hw126_0)).trans hw126_0), ((HB.out.cell (World.block_lt_of_cell? w _ hw126_1)).trans hw126_1), ((HB.out.cell (World.block_lt_of_cell? w _ hw126_2)).trans hw126_2), ((HB.out.cell (World.block_lt_of_cell? w _ hw127_0)).trans hw127_0), ((HB.out.cell (World.block_lt_of_cell? w _ hw127_1)).trans hw127_1), ((HB.out.cell (World.block_lt_of_cell? w _ hw127_2)).trans hw127_2), ((HB.out.cell (World.block_lt_of_cell? w _ hw127_3)).trans hw127_3), ((HB.out.cell (World.block_lt_of_cell? w _ hw127_4)).trans hw127_4), ((HB.out.cell (World.block_lt_of_cell? w _ hw128_0)).trans hw128_0), ((HB.out.cell (World.block_lt_of_cell? w _ hw128_1)).trans hw128_1), ((HB.out.cell (World.block_lt_of_cell? w _ hw128_2)).trans hw128_2), ((HB.out.cell (World.block_lt_of_cell? w _ hw129_0)).trans hw129_0), ((HB.out.cell (World.block_lt_of_cell? w _ hw129_1)).trans hw129_1), ((HB.out.cell (World.block_lt_of_cell? w _ hw129_2)).trans hw129_2), ((HB.out.cell (World.block_lt_of_cell? w _ hw129_3)).trans hw129_3), ((HB.out.cell (World.block_lt_of_cell? w _ hw129_4)).trans hw129_4), ((HB.out.cell (World.block_lt_of_cell? w _ hw130_0)).trans hw130_0), ((HB.out.cell (World.block_lt_of_cell? w _ hw130_1)).trans hw130_1), ((HB.out.cell (World.block_lt_of_cell? w _ hw130_2)).trans hw130_2)⟩ (fun hHeld => ?_)
                        clear hK K
                        refine norm_ (a' := ?_) ?_ ?_
                        rotate_left
                        · show Act.put _ (some 75) _ = _
                          simp only [Act.put, List.setIfInBounds_toArray, List.set_cons_zero, List.set_cons_succ, i64_w, i32_w]
                          rfl
                        refine pure_ (i := 32) (N := some 76) (v := ?_) (a' := ?_) #[true, true, true, true, true, true, true, true, true, true, true, true, true, true, true, true, true, true, true, true, true, true, true, true, true, true, true, true, true, true, true, true, true, false] rfl rfl (any_of HT_.out (by kernel_rfl)) (fun _ _ _ h => h) (Or.inl ⟨by rfl, ?_⟩) ?_ ?_
                        rotate_left
                        · intro w'
                          go_simp
                          with_reducible rfl
                        rotate_left
                        · simp only [Act.put, List.setIfInBounds_toArray, List.set_cons_zero, List.set_cons_succ, i64_w, i32_w]
                          rfl
                        refine last_ (i := 33) (N := none) #[true, true, true, true, true, true, true, true, true, true, true, true, true, true, true, true, true, true, true, true, true, true, true, true, true, true, true, true, true, true, true, true, true, true] rfl rfl (one_of HT_.out (by kernel_rfl)) (by decide) (fun K hK => ?_)
                        have hs19 : w17.cell? ⟨gb123, 1, none⟩ = some (u124001) := (blk_cell BK123.out 1).trans rfl
                        have hfs19 := blk_frozen BK123.out 1
                        refine skip_ (w1 := ?_) (by rfl) rfl ?_ ?_
                        rotate_left
                        · go_simp
                          rfl
                        refine hK.out _ _ ?_
                        clear hK K
                        refine done_ (done_of HT_.out (by kernel_rfl)) ?_
                        try go_wp2
                        go_roundg k2
                        case measure => have := HK1.out; have := HK2.out; omega
                        case rel => exact ⟨(wrap64 (x6_2 + 1)), (y131), (.slice Ao18 y131.length co18), (by first | rfl | (simp; done) | (simp [*]; done)), H', ⟨by have := HK1.out; have := HK2.out; omega⟩, ⟨by (with_reducible repeat (first | apply Kd.S_alloc | apply Kd.S_drewN | apply Kd.S_drew)); exact Kd.S_mono (Kd.S_far (p := ⟨gb123, 1, none⟩) (Kd.S_mono HO_3.out (fun k_ hk => (⟨hk, hk.1⟩ : _ ∧ k_ ≠ gb123))) (fun _ hk => hk.2) (.slice Ao18 y131.length co18)) (fun _ hk => ⟨hk.1.2, hk.1.1⟩)⟩, ⟨by (with_reducible repeat (first | apply Kd.R_alloc | apply Kd.R_drewN | apply Kd.R_drew)); exact Kd.R_mono (Kd.R_far (p := ⟨gb123, 1, none⟩) (Kd.R_types HO133.out BK123.out (by decide)) (fun _ hk => hk.2) (.slice Ao18 y131.length co18)) (fun _ hk => trivial)⟩, ⟨by (with_reducible repeat (first | refine blk_drewN ?_ _ | refine blk_drew ?_ | refine blk_alloc ?_ _)); refine blk_put (cs := #[.int .i64 ((rd_T46 l0 x4_1).f0), u124001, .slice (((rd_T46 l0 x4_1).f2)).A (((rd_T46 l0 x4_1).f2)).n (((rd_T46 l0 x4_1).f2)).c, .int .i64 ((rd_T46 l0 x4_1).f3), .int .i64 ((rd_T46 l0 x4_1).f4)]) ?_ 1 _ rfl; (with_reducible repeat (first | refine blk_drewN ?_ _ | refine blk_drew ?_ | refine blk_alloc ?_ _)); exact BK123.out⟩, ⟨by repeat (first | (with_reducible first | exact HB.out | apply below_alloc | apply pw_below_drewN | apply below_drew1 | refine below_set ?_ GE123.out) | exact HB.out)⟩⟩
                      · rw [if_neg c15] at H
                        exact absurd H (by simp)
                    · rw [if_neg c14] at H
                      exact absurd H (by simp)
                  · rw [if_neg c13] at H
                    have c13b0 : decide (x6_2 < (((rd_T46 l0 x4_1).f1).length : Int)) = false := decide_eq_false c13
                    clear c13
                    by_cases c20 : x3_1.length < 1954687338268
                    · rw [if_pos c20] at H
                      have LMc20 := Aside0.mk c20
                      clear c20
                      obtain ⟨y134, hy134⟩ : ∃ y_ : List (S33), y_ = (x3_1 ++ [(⟨((rd_T46 l0 x4_1).f0), x124001_2, ((rd_T46 l0 x4_1).f2), ((rd_T46 l0 x4_1).f3), ((rd_T46 l0 x4_1).f4)⟩ : S33)]) := ⟨_, rfl⟩
                      replace H : (phalaropelaw17_made.l0 k2 l0 y134 (wrap64 (x4_1 + 1))) = some r := by first | (rw [hy134]; with_reducible exact H) | (have H2_ := (Option.bind_some _ _).symm.trans H; rw [hy134]; with_reducible exact H2_) | (have H2_ := (Option.bind_some _ _).symm.trans H; with_reducible exact H2_) | with_reducible exact H | (rw [hy134]; exact H) | exact H
                      have Ny134 := Aside0.mk hy134
                      clear hy134
                      have H' := Aside0.mk H
                      clear H
                      have p124 : 0 ≤ (x4_1 : Int) := of_decide_eq_true (by first | (with_reducible assumption) | assumption)
                      have q124 : x4_1 < (l0.length : Int) := of_decide_eq_true (by first | (with_reducible assumption) | assumption)
                      obtain ⟨ad124, A124_1, c124_1, e124, hx124_0, hx124_1, hx124_2, hx124_3, hx124_4, hl124_1, hi124_1⟩ := at_T46 HR0.out x4_1 p124 q124
                      obtain rfl : ad119 = ad124 := (by injection e124)
                      replace hx124_0 := (HB.out.cell (World.block_lt_of_cell? w _ hx124_0)).trans hx124_0
                      replace hx124_1 := (HB.out.cell (World.block_lt_of_cell? w _ hx124_1)).trans hx124_1
                      replace hx124_2 := (HB.out.cell (World.block_lt_of_cell? w _ hx124_2)).trans hx124_2
                      replace hx124_3 := (HB.out.cell (World.block_lt_of_cell? w _ hx124_3)).trans hx124_3
                      replace hx124_4 := (HB.out.cell (World.block_lt_of_cell? w _ hx124_4)).trans hx124_4
                      have HR124_1 := Aside0.mk hi124_1
                      have HC124_1 := Aside0.mk hl124_1
                      clear hi124_1 hl124_1
                      replace p124 := eq_true p124
                      replace q124 := eq_true q124
                      have hcz21_0 : wr.cell? ⟨gb123, 0, none⟩ = some (.int .i64 ((rd_T46 l0 x4_1).f0)) := (blk_cell BK123.out 0).trans rfl
                      have hcz21_1 : wr.cell? ⟨gb123, 1, none⟩ = some (u124001) := (blk_cell BK123.out 1).trans rfl
                      have hcz21_2 : wr.cell? ⟨gb123, 2, none⟩ = some (.slice (((rd_T46 l0 x4_1).f2)).A (((rd_T46 l0 x4_1).f2)).n (((rd_T46 l0 x4_1).f2)).c) := (blk_cell BK123.out 2).trans rfl
                      have hcz21_3 : wr.cell? ⟨gb123, 3, none⟩ = some (.int .i64 ((rd_T46 l0 x4_1).f3)) := (blk_cell BK123.out 3).trans rfl
                      have hcz21_4 : wr.cell? ⟨gb123, 4, none⟩ = some (.int .i64 ((rd_T46 l0 x4_1).f4)) := (blk_cell BK123.out 4).trans rfl
                      have hfz21_0 := blk_frozen BK123.out 0
                      have hfz21_1 := blk_frozen BK123.out 1
                      have hfz21_2 := blk_frozen BK123.out 2
                      have hfz21_3 := blk_frozen BK123.out 3
                      have hfz21_4 := blk_frozen BK123.out 4
                      obtain ⟨Ao23, co23, eo23⟩ := Kd.R_slice HO_124001.out
                      subst eo23
                      go_wp2_with (first | ((with_reducible refine gate_builtin (b := .append) (xs := #[.tmp 77, .tmp 79]) rfl ?_); at_builtin; refine Kd.S_append k33 (w0 := w) w.heap.size rfl (.tmp 77) (.tmp 79) 26 33 (.agg #[(.int .i64 0), (.slice none 0 0), (.slice none 0 0), (.int .i64 0), (.int .i64 0)]) 72 rfl Try.underlying26 info33 rfl (by decide) (by omega) u3 x3_1 (⟨((rd_T46 l0 x4_1).f0), x124001_2, ((rd_T46 l0 x4_1).f2), ((rd_T46 l0 x4_1).f3), ((rd_T46 l0 x4_1).f4)⟩ : S33) [.int .i64 ((rd_T46 l0 x4_1).f0), .slice Ao23 x124001_2.length co23, .slice (((rd_T46 l0 x4_1).f2)).A (((rd_T46 l0 x4_1).f2)).n (((rd_T46 l0 x4_1).f2)).c, .int .i64 ((rd_T46 l0 x4_1).f3), .int .i64 ((rd_T46 l0 x4_1).f4)] (fun k_ => k_ ≠ gb123) (fun k_ => some k_ = (.slice Ao23 x124001_2.length co23 : Value).ownBlock) rfl rfl ?aP (fun k_ hk_ => ((Kd.R_mono (ok' := fun k_ => ((fun k_ => k_ ≠ gb123)) k_ ∧ some k_ ≠ (u3 : Value).ownBlock) (Kd.R_types (Kd.R_apart' (HO_124001.out) (Kd.S_typed HO_3.out) (by decide)) BK123.out (by decide)) (fun k_ hk => ⟨hk.2, hk.1.2⟩))).1 k_ hk_.symm) ?aF ?aO ?aB ?aS ?aL ?_; (case aP => exact k33_mkM _ _ _ (⟨((rd_T46 l0 x4_1).f0), x124001_2, ((rd_T46 l0 x4_1).f2), ((rd_T46 l0 x4_1).f3), ((rd_T46 l0 x4_1).f4)⟩ : S33) (Kd.R_mono (Kd.R_tight rfl (Kd.R_mono (ok' := fun k_ => ((fun k_ => k_ ≠ gb123)) k_ ∧ some k_ ≠ (u3 : Value).ownBlock) (Kd.R_types (Kd.R_apart' (HO_124001.out) (Kd.S_typed HO_3.out) (by decide)) BK123.out (by decide)) (fun k_ hk => ⟨hk.2, hk.1.2⟩))) (fun _ h_ => h_))); (case aB => exact (by repeat (first | (with_reducible first | exact HB.out | apply below_alloc | apply pw_below_drewN | apply below_drew1 | refine below_set ?_ GE123.out) | exact HB.out))); (case aF => exact (fun k_ hk => Kd.freshB (g := gb123) (o := .cells #[.int .i64 ((rd_T46 l0 x4_1).f0), .slice Ao23 x124001_2.length co23, .slice (((rd_T46 l0 x4_1).f2)).A (((rd_T46 l0 x4_1).f2)).n (((rd_T46 l0 x4_1).f2)).c, .int .i64 ((rd_T46 l0 x4_1).f3), .int .i64 ((rd_T46 l0 x4_1).f4)] 33 (0, 0)) (by (with_reducible repeat (first | refine blk_drewN ?_ _ | refine blk_drew ?_ | refine blk_alloc ?_ _)); exact BK123.out) k_ hk)); (case aO => exact (by (with_reducible repeat (first | apply Kd.S_alloc | apply Kd.S_drewN | apply Kd.S_drew)); exact Kd.S_mono HO_3.out (fun k_ hk => ⟨hk.2, fun e_ => hk.1 e_⟩))); (case aS => exact (below_size (by repeat (first | (with_reducible first | exact HB.out | apply below_alloc | apply pw_below_drewN | apply below_drew1 | refine below_set ?_ GE123.out) | exact HB.out)))); (case aL => have := LMc20.out; omega); intro v135 w22 ho hb hg hat; rw [← Ny134.out] at ho; have n0_ := Aside0.mk (blk_grown (g := gb123) (o := .cells #[.int .i64 ((rd_T46 l0 x4_1).f0), .slice Ao23 x124001_2.length co23, .slice (((rd_T46 l0 x4_1).f2)).A (((rd_T46 l0 x4_1).f2)).n (((rd_T46 l0 x4_1).f2)).c, .int .i64 ((rd_T46 l0 x4_1).f3), .int .i64 ((rd_T46 l0 x4_1).f4)] 33 (0, 0)) (by (with_reducible repeat (first | refine blk_drewN ?_ _ | refine blk_drew ?_ | refine blk_alloc ?_ _)); exact BK123.out) hg (Kd.S_away HO_3.out (fun _ hk => hk.2))); have n1_ := Aside0.mk (hb); have n2_ := Aside0.mk (ho); clear BK123; clear HB; clear HO_3; clear HO_124001; have BK123 := n0_; have HB := n1_; have HO136 := n2_; clear n0_ n1_ n2_; clear ho hb hg hat))
                      go_roundg k2
                      case measure => have := HK1.out; have := HK2.out; omega
                      case rel => exact ⟨(y134), (wrap64 (x4_1 + 1)), (by first | rfl | (simp; done) | (simp [*]; done)), H', ⟨by have := HK1.out; have := HK2.out; omega⟩, ⟨by (with_reducible repeat (first | apply Kd.S_alloc | apply Kd.S_drewN | apply Kd.S_drew)); exact Kd.S_mono HO136.out (fun _ hk => trivial)⟩, ⟨by repeat (first | (with_reducible first | exact HB.out | apply below_alloc | apply pw_below_drewN | apply below_drew1 | refine below_set ?_ GE123.out) | exact HB.out)⟩⟩
                    · rw [if_neg c20] at H
                      exact absurd H (by simp)
                · rw [if_neg c12] at H
                  exact absurd H (by simp)
              · rw [if_neg c11] at H
                exact absurd H (by simp)
        · rw [if_neg c3] at H
          exact absurd H (by simp)
      · rw [if_neg c2] at H
        have c2b0 : decide (x4_1 < (l0.length : Int)) = false := decide_eq_false c2
        clear c2
        obtain rfl := Option.some.inj H
        go_wp2
        go_ret
        exact ⟨_, by first | rfl | (simp [errW_none, errW_some] <;> rfl) | (simp [*, errW_none, errW_some] <;> rfl), by (with_reducible repeat (first | apply Kd.S_alloc | apply Kd.S_drewN | apply Kd.S_drew)); exact HO_3.out, by repeat (first | (with_reducible first | exact HB.out | apply below_alloc | apply pw_below_drewN | apply below_drew1) | exact HB.out)⟩

end Go.Proofs.Ytolfamfgoafhlaa.V
