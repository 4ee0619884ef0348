import Derived.Test.YtolfamfgoafhlaaK1
import Derived.Test.YtolfamfgoafhlaaB1
import Derived.Test.YtolfamfgoafhlaaR3
namespace Go.Proofs.Ytolfamfgoafhlaa.M
open Go.RowKit Go.Proofs.YtolfamfgoafhlaaW.PrintWords Go.Proofs.YtolfamfgoafhlaaW.PrintLast Go.Proofs.YtolfamfgoafhlaaW.PrintMore
open Go.Proofs.Ytolfamfgoafhlaa.P Go.Proofs.Ytolfamfgoafhlaa.L
attribute [local go_sem] max2_int

/-! ### the plain law -/
theorem closeL_idem {m : List Nd} (h : mayB m = true) (a : List Int) : closeL m (closeL m a) = closeL m a := by
  refine (closeL_ext h (closeL_sorted m a) (fun j => ?_)).symm
  rw [mem_closeL h]
  constructor
  · rintro ⟨x, hx, hr⟩
    exact ⟨j, (mem_closeL h a j).2 ⟨x, hx, hr⟩, .refl (hr.valid_ h)⟩
  · rintro ⟨x, hx, hr⟩
    obtain ⟨y, hy, hr2⟩ := (mem_closeL h a x).1 hx
    exact ⟨y, hy, hr2.trans hr⟩
theorem closeL_both {m : List Nd} (h : mayB m = true) (a b : List Int) : closeL m (a ++ b) = closeL m (closeL m a ++ closeL m b) := by
  refine closeL_ext h (closeL_sorted m _) (fun j => ?_)
  rw [mem_closeL h]
  constructor
  · rintro ⟨x, hx, hr⟩
    refine ⟨j, ?_, .refl (hr.valid_ h)⟩
    rw [List.mem_append, mem_closeL h, mem_closeL h]
    rcases List.mem_append.1 hx with hx | hx
    · exact .inl ⟨x, hx, hr⟩
    · exact .inr ⟨x, hx, hr⟩
  · rintro ⟨x, hx, hr⟩
    rw [List.mem_append, mem_closeL h, mem_closeL h] at hx
    rcases hx with ⟨y, hy, hr2⟩ | ⟨y, hy, hr2⟩
    · exact ⟨y, List.mem_append_left _ hy, hr2.trans hr⟩
    · exact ⟨y, List.mem_append_right _ hy, hr2.trans hr⟩
theorem sub_length : ∀ {l1 l2 : List Int}, l1.Pairwise (· < ·) → (∀ x ∈ l1, x ∈ l2) → l1.length ≤ l2.length
  | [], _, _, _ => Nat.zero_le _
  | x :: xs, l2, hp, hs => by
    rw [List.pairwise_cons] at hp
    have hx := hs x List.mem_cons_self
    have h1 := sub_length (l2 := l2.erase x) hp.2 (fun y hy => (List.mem_erase_of_ne (by have := hp.1 y hy; omega)).2 (hs y (List.mem_cons_of_mem _ hy)))
    rw [List.length_erase_of_mem hx] at h1
    have := List.length_pos_of_mem hx
    simp only [List.length_cons]
    omega
theorem both_le {m : List Nd} (h : mayB m = true) (a b : List Int) : (closeL m (a ++ b)).length ≤ (closeL m a).length + (closeL m b).length := by
  rw [← List.length_append]
  refine sub_length (closeL_sorted m _) (fun j hj => ?_)
  obtain ⟨x, hx, hr⟩ := (mem_closeL h _ j).1 hj
  rw [List.mem_append, mem_closeL h, mem_closeL h]
  rcases List.mem_append.1 hx with hx | hx
  · exact .inl ⟨x, hx, hr⟩
  · exact .inr ⟨x, hx, hr⟩
theorem left_le {m : List Nd} (h : mayB m = true) (a b : List Int) : (closeL m a).length ≤ (closeL m (a ++ b)).length :=
  sub_length (closeL_sorted m _) (fun j hj => by
    obtain ⟨x, hx, hr⟩ := (mem_closeL h _ j).1 hj
    exact (mem_closeL h _ j).2 ⟨x, List.mem_append_left _ hx, hr⟩)
theorem right_le {m : List Nd} (h : mayB m = true) (a b : List Int) : (closeL m b).length ≤ (closeL m (a ++ b)).length :=
  sub_length (closeL_sorted m _) (fun j hj => by
    obtain ⟨x, hx, hr⟩ := (mem_closeL h _ j).1 hj
    exact (mem_closeL h _ j).2 ⟨x, List.mem_append_right _ hx, hr⟩)
theorem closeL_len (m : List Nd) (a : List Int) : (closeL m a).length ≤ m.length := by
  have := sub_length (l2 := (List.range m.length).map Int.ofNat) (closeL_sorted m a) (fun j hj => by
    have hv := closeL_valid hj
    exact List.mem_map.2 ⟨j.toNat, List.mem_range.2 (by have := hv.1; have := hv.2; omega), by have := hv.1; simp; omega⟩)
  simpa using this
theorem closeL_wf {m : List Nd} (hm : m.length ≤ 1000000) {a : List Int} : ∀ x ∈ closeL m a, (Lit.int .i64 x).wf = true := fun x hx => wf_lt hm (closeL_valid hx).1 (closeL_valid hx).2
theorem z1_wf {a b z : List Int} (ha : ∀ x ∈ a, (Lit.int .i64 x).wf = true) (hb : ∀ x ∈ b, (Lit.int .i64 x).wf = true) (hz : z = a ++ b) : ∀ x ∈ z, (Lit.int .i64 x).wf = true := fun x hx => by
  rw [hz, List.mem_append] at hx
  exact hx.elim (ha x) (hb x)
theorem z2_wf {m : List Nd} (hm : m.length ≤ 1000000) {a b z : List Int} (hz : z = closeL m a ++ closeL m b) : ∀ x ∈ z, (Lit.int .i64 x).wf = true := z1_wf (closeL_wf hm) (closeL_wf hm) hz
theorem emptyR (w : World) : (Kd.scalar (Value.int .i64) (fun _ => rfl)).R 3 (w.alloc (.cells #[] 3)) w.heap.size (fun _ => True) (.slice (some ⟨w.heap.size, 0, none⟩) 0 0) ([] : List Int) := by
  refine ⟨fun _ _ => trivial, [], ?_, Reps.none _ _⟩
  have h2 := World.ownsRow_lit (base := w.heap.size) (e := 3) (size := 1) w #[] 0 (Nat.le_refl _) (by unfold maxLen; omega) rfl
  exact h2

set_option maxRecDepth 100000 in
set_option maxHeartbeats 2000000 in
theorem machineClose_main (w : World) (A : Option Addr) (c : Nat) (l : List S46) (hc : l.length ≤ c) (hC : Kd.C k46 w A l.length l) (hok : ∀ y ∈ l, Ok46 y)
    (A1 : Option Addr) (c1 : Nat) (at1 : List Int) (hC1 : (Kd.int .i64).C w A1 at1.length at1) (hwf1 : ∀ y ∈ at1, (Lit.int .i64 y).wf = true)
    (A2 : Option Addr) (c2 : Nat) (at2 : List Int) (hC2 : (Kd.int .i64).C w A2 at2.length at2) (hwf2 : ∀ y ∈ at2, (Lit.int .i64 y).wf = true)
    (hF : fewB l = true) (hM : mayB (N46 l) = true) (g1 : at1.length ≤ 100) (g2 : at2.length ≤ 100) (p q bo z1 z2 : List Int) (h0 : closeL (N46 l) at1 = p) (h1 : closeL (N46 l) at2 = q) (h2 : closeL (N46 l) z1 = bo) (h3 : closeL (N46 l) z2 = bo) (h4 : closeL (N46 l) p = p)
    (hz1 : at1 ++ at2 = z1) (hz2 : p ++ q = z2) (hwp : ∀ y ∈ p, (Lit.int .i64 y).wf = true) (hw1 : ∀ y ∈ z1, (Lit.int .i64 y).wf = true) (hw2 : ∀ y ∈ z2, (Lit.int .i64 y).wf = true) (k1 : p.length ≤ 100) (k2 : q.length ≤ 100) (k3 : bo.length ≤ 100)
    (k4 : bo.length ≤ p.length + q.length) (k5 : p.length ≤ bo.length) (k6 : q.length ≤ bo.length) :
    Calls Try.prog 3 #[.slice A l.length c, .slice A1 at1.length c1, .slice A2 at2.length c2] w fun e w' => e = .returned (.bool true) ∧ Below w.heap.size w w' := by
  have b1 : decide ((at1.length : Int) > 100) = false := decide_eq_false (by omega)
  have b2 : decide ((at2.length : Int) > 100) = false := decide_eq_false (by omega)
  have d1 : decide ((bo.length : Int) ≤ (p.length : Int) + (q.length : Int)) = true := decide_eq_true (by omega)
  have d2 : decide (max (p.length : Int) (q.length : Int) ≤ (bo.length : Int)) = true := decide_eq_true (by omega)
  have HC := Lib.hid hC
  have HA := Lib.hid hC1
  have HW := Lib.hid hwf1
  have HA2 := Lib.hid hC2
  have HW2 := Lib.hid hwf2
  have HO := Lib.hid hok
  have Hc := Lib.hid hc
  have HF := Lib.hid hF
  have HM := Lib.hid hM
  have H0 := Lib.hid h0
  have H1 := Lib.hid h1
  have H2 := Lib.hid h2
  have H3 := Lib.hid h3
  have H4 := Lib.hid h4
  have Hz1 := Lib.hid hz1
  have Hz2 := Lib.hid hz2
  have HWp := Lib.hid hwp
  have HWz1 := Lib.hid hw1
  have HWz2 := Lib.hid hw2
  clear hC hC1 hwf1 hC2 hwf2 hok hc hF hM h0 h1 h2 h3 h4 hz1 hz2 hwp hw1 hw2
  go_enter Try.func3, Try.ntmps3
  go_wp2_with (first
    | (go_at_call 17; refine (awake16 _).mono ?_; rintro e w4 ⟨rfl, hb4⟩; have HB := Lib.hid hb4; clear hb4)
    | (go_at_call 18; refine (few_calls A c l _ (Kd.C_below HC.out HB.out) Hc.out).mono ?_; rw [HF.out]; rintro e w4 ⟨rfl, hb4⟩; have HB := Lib.hid (HB.out.trans (hb4.mono HB.out.size)); clear hb4)
    | (go_at_call 19; refine (refmay_calls A c l _ (Kd.C_below HC.out HB.out) Hc.out (by have := (fewB_small HF.out).1; omega) (fun x hx => by have := (fewB_small HF.out).2 x hx; omega)).mono ?_; rw [HM.out]; rintro e w4 ⟨rfl, hb4⟩; have HB := Lib.hid (HB.out.trans (hb4.mono HB.out.size)); clear hb4)
    | (go_at_call 20; refine (made16_reads A c l _ (Kd.C_below HC.out HB.out) Hc.out (fewB_Small HF.out)).mono ?_; rintro e w4 ⟨A5, c5, rfl, hl5, hv, hb4⟩; have HD := Lib.hid hv; have HB := Lib.hid (HB.out.trans (hb4.mono HB.out.size)); clear hb4 hv)
    | (have HN' := HS1; clear HN'; go_at_call 22; refine (same_calls A9 c9 bo A11 c11 bo _ (by omega) HBoth.out hc9 HParts.out hc11).mono ?_; rw [decide_eq_true rfl]; rintro e w4 ⟨rfl, hb4⟩; have HB := Lib.hid (HB.out.trans (hb4.mono HB.out.size)); clear hb4; have HS2 := Lib.hid trivial)
    | (have HN' := HPP; clear HN'; go_at_call 22; refine (same_calls A12 c12 p A6 c6 p _ (by omega) HPP.out hc12 HP.out hc6).mono ?_; rw [decide_eq_true rfl]; rintro e w4 ⟨rfl, hb4⟩; have HBoth := Lib.hid (Kd.C_below HBoth.out hb4); have HParts := Lib.hid (Kd.C_below HParts.out hb4); have HB := Lib.hid (HB.out.trans (hb4.mono HB.out.size)); clear hb4; have HS1 := Lib.hid trivial)
    | (have HN' := HParts; clear HN'; go_at_call 21; refine (close_calls _ (made_fit (fewB_Small HF.out) HO.out) A5 A6 c5 c6 p _ HD.out HP.out HWp.out).mono ?_; rw [N33_p33, H4.out]; rintro e w4 ⟨v, rfl, hv, hb4⟩; obtain ⟨A12, c12, rfl, hc12, hc7⟩ := Kd.R_reads hv; clear hv; have HPP := Lib.hid hc7; clear hc7; have HP := Lib.hid (Kd.C_below HP.out hb4); have HBoth := Lib.hid (Kd.C_below HBoth.out hb4); have HParts := Lib.hid (Kd.C_below HParts.out hb4); have HB := Lib.hid (HB.out.trans (hb4.mono HB.out.size)); clear hb4)
    | (have HN' := HX4; clear HN'; go_at_call 21; refine (close_calls _ (made_fit (fewB_Small HF.out) HO.out) A5 A10 c5 c10 z2 _ HD.out HX4.out HWz2.out).mono ?_; rw [N33_p33, H3.out]; rintro e w4 ⟨v, rfl, hv, hb4⟩; obtain ⟨A11, c11, rfl, hc11, hc7⟩ := Kd.R_reads hv; clear hv; have HParts := Lib.hid hc7; clear hc7; have HP := Lib.hid (Kd.C_below HP.out hb4); have HQ := Lib.hid (Kd.C_below HQ.out hb4); have HD := Lib.hid (Kd.C_below HD.out hb4); have HBoth := Lib.hid (Kd.C_below HBoth.out hb4); have HB := Lib.hid (HB.out.trans (hb4.mono HB.out.size)); clear hb4)
    | (have HN' := HX2; clear HN'; go_at_call 21; refine (close_calls _ (made_fit (fewB_Small HF.out) HO.out) A5 A8 c5 c8 z1 _ HD.out HX2.out HWz1.out).mono ?_; rw [N33_p33, H2.out]; rintro e w4 ⟨v, rfl, hv, hb4⟩; obtain ⟨A9, c9, rfl, hc9, hc7⟩ := Kd.R_reads hv; clear hv; have HBoth := Lib.hid hc7; clear hc7; have HP := Lib.hid (Kd.C_below HP.out hb4); have HQ := Lib.hid (Kd.C_below HQ.out hb4); have HD := Lib.hid (Kd.C_below HD.out hb4); have HB := Lib.hid (HB.out.trans (hb4.mono HB.out.size)); clear hb4)
    | (have HN' := HY3; clear HN'; (with_reducible refine gate_builtin (b := .append) (xs := _) rfl ?_); at_builtin; refine Kd.R_append_row (h1 := fun _ => rfl) (Value.int .i64) (0 : Int) (w0 := w4) w4.heap.size rfl _ _ 23 3 (.int .i64 0) 8 rfl Try.underlying23 info3 rfl (by omega) v1 _ q A7 q.length c7 (fun _ => True) rfl rfl (fun _ _ => trivial) HX.out (Kd.C_below HQ.out (HY3.out)) HY3.out HY3.out.size (by simp; omega) ?_; intro v2 w6 hr6 hb6 hg6 hat6; rw [List.nil_append, Hz2.out] at hr6; obtain ⟨A10, c10, rfl, hc10, hc8⟩ := Kd.R_reads hr6; have HX4 := Lib.hid hc8; clear hg6 hat6 hr6 hc8; have HP := Lib.hid (Kd.C_below HP.out hb6); have HQ := Lib.hid (Kd.C_below HQ.out hb6); have HD := Lib.hid (Kd.C_below HD.out hb6); have HBoth := Lib.hid (Kd.C_below HBoth.out hb6); have HB := Lib.hid (HB.out.trans (hb6.mono HB.out.size)); clear hb6; obtain ⟨w4, rfl⟩ : ∃ w4 : World, w4 = w6 := ⟨_, rfl⟩)
    | (have HN' := HBoth; clear HN'; (with_reducible refine gate_builtin (b := .append) (xs := _) rfl ?_); at_builtin; refine Kd.R_append_row (h1 := fun _ => rfl) (Value.int .i64) (0 : Int) (w0 := w4) w4.heap.size rfl _ _ 23 3 (.int .i64 0) 8 rfl Try.underlying23 info3 rfl (by omega) _ [] p A6 p.length c6 (fun _ => True) rfl rfl (fun _ _ => trivial) (emptyR w4) (Kd.C_below HP.out ((Below.refl _ _).alloc (Nat.le_refl _) _)) ((Below.refl _ _).alloc (Nat.le_refl _) _) (by simp) (by simp; omega) ?_; intro v1 w5 hr5 hb5 hg5 hat5; have HX := Lib.hid hr5; have HY3 := Lib.hid hb5; clear hg5 hat5 hr5 hb5)
    | (have HN' := HY1; clear HN'; (with_reducible refine gate_builtin (b := .append) (xs := _) rfl ?_); at_builtin; refine Kd.R_append_row (h1 := fun _ => rfl) (Value.int .i64) (0 : Int) (w0 := w4) w4.heap.size rfl _ _ 23 3 (.int .i64 0) 8 rfl Try.underlying23 info3 rfl (by omega) v1 _ at2 A2 at2.length c2 (fun _ => True) rfl rfl (fun _ _ => trivial) HX.out (Kd.C_below HA2.out (HB.out.trans (HY1.out.mono HB.out.size))) HY1.out HY1.out.size (by simp; omega) ?_; intro v2 w6 hr6 hb6 hg6 hat6; rw [List.nil_append, Hz1.out] at hr6; obtain ⟨A8, c8, rfl, hc8, hc8⟩ := Kd.R_reads hr6; have HX2 := Lib.hid hc8; clear hg6 hat6 hr6 hc8; have HP := Lib.hid (Kd.C_below HP.out hb6); have HQ := Lib.hid (Kd.C_below HQ.out hb6); have HD := Lib.hid (Kd.C_below HD.out hb6); have HB := Lib.hid (HB.out.trans (hb6.mono HB.out.size)); clear hb6; obtain ⟨w4, rfl⟩ : ∃ w4 : World, w4 = w6 := ⟨_, rfl⟩)
    | (have HN' := HQ; clear HN'; (with_reducible refine gate_builtin (b := .append) (xs := _) rfl ?_); at_builtin; refine Kd.R_append_row (h1 := fun _ => rfl) (Value.int .i64) (0 : Int) (w0 := w4) w4.heap.size rfl _ _ 23 3 (.int .i64 0) 8 rfl Try.underlying23 info3 rfl (by omega) _ [] at1 A1 at1.length c1 (fun _ => True) rfl rfl (fun _ _ => trivial) (emptyR w4) (Kd.C_below HA.out ((HB.out).trans (((Below.refl _ _).alloc (Nat.le_refl _) _).mono HB.out.size))) ((Below.refl _ _).alloc (Nat.le_refl _) _) (by simp) (by simp; omega) ?_; intro v1 w5 hr5 hb5 hg5 hat5; have HX := Lib.hid hr5; have HY1 := Lib.hid hb5; clear hg5 hat5 hr5 hb5)
    | (have HN' := HP; clear HN'; go_at_call 21; refine (close_calls _ (made_fit (fewB_Small HF.out) HO.out) A5 A2 c5 c2 at2 _ HD.out (Kd.C_below HA2.out HB.out) HW2.out).mono ?_; rw [N33_p33, H1.out]; rintro e w4 ⟨v, rfl, hv, hb4⟩; obtain ⟨A7, c7, rfl, hc7, hc7⟩ := Kd.R_reads hv; clear hv; have HQ := Lib.hid hc7; clear hc7; have HP := Lib.hid (Kd.C_below HP.out hb4); have HD := Lib.hid (Kd.C_below HD.out hb4); have HB := Lib.hid (HB.out.trans (hb4.mono HB.out.size)); clear hb4)
    | (go_at_call 21; refine (close_calls _ (made_fit (fewB_Small HF.out) HO.out) A5 A1 c5 c1 at1 _ HD.out (Kd.C_below HA.out HB.out) HW.out).mono ?_; rw [N33_p33, H0.out]; rintro e w4 ⟨v, rfl, hv, hb4⟩; obtain ⟨A6, c6, rfl, hc6, hc7⟩ := Kd.R_reads hv; clear hv; have HP := Lib.hid hc7; clear hc7; have HD := Lib.hid (Kd.C_below HD.out hb4); have HB := Lib.hid (HB.out.trans (hb4.mono HB.out.size)); clear hb4))
  go_ret
  exact ⟨by first | rfl | simp [*], HB.out⟩

set_option maxRecDepth 100000 in
set_option maxHeartbeats 2000000 in
theorem machineClose_walk (w : World) (A : Option Addr) (c : Nat) (l : List S46) (hc : l.length ≤ c) (hC : Kd.C k46 w A l.length l) (hok : ∀ y ∈ l, Ok46 y)
    (A1 : Option Addr) (c1 : Nat) (at1 : List Int) (_ : at1.length ≤ c1) (hC1 : (Kd.int .i64).C w A1 at1.length at1) (hwf1 : ∀ y ∈ at1, (Lit.int .i64 y).wf = true)
    (A2 : Option Addr) (c2 : Nat) (at2 : List Int) (_ : at2.length ≤ c2) (hC2 : (Kd.int .i64).C w A2 at2.length at2) (hwf2 : ∀ y ∈ at2, (Lit.int .i64 y).wf = true) :
    Calls Try.prog 3 #[.slice A l.length c, .slice A1 at1.length c1, .slice A2 at2.length c2] w fun e w' => e = .returned (.bool true) ∧ Below w.heap.size w w' := by
  have HC := Lib.hid hC
  have HA := Lib.hid hC1
  have HW := Lib.hid hwf1
  have HA2 := Lib.hid hC2
  have HW2 := Lib.hid hwf2
  have HO := Lib.hid hok
  have Hc := Lib.hid hc
  clear hC hC1 hwf1 hC2 hwf2 hok hc
  cases hF : fewB l with
  | false =>
    have HF := Lib.hid hF
    clear hF
    go_enter Try.func3, Try.ntmps3
    go_wp2_with (first
      | (go_at_call 17; refine (awake16 _).mono ?_; rintro e w4 ⟨rfl, hb4⟩; have HB := Lib.hid hb4; clear hb4)
      | (go_at_call 18; refine (few_calls A c l _ (Kd.C_below HC.out HB.out) Hc.out).mono ?_; rw [HF.out]; rintro e w4 ⟨rfl, hb4⟩; have HB := Lib.hid (HB.out.trans (hb4.mono HB.out.size)); clear hb4))
    go_ret
    exact ⟨rfl, HB.out⟩
  | true =>
    have HF := Lib.hid hF
    clear hF
    by_cases g1 : at1.length ≤ 100
    · have b1 : decide ((at1.length : Int) > 100) = false := decide_eq_false (by omega)
      by_cases g2 : at2.length ≤ 100
      · have b2 : decide ((at2.length : Int) > 100) = false := decide_eq_false (by omega)
        cases hM : mayB (N46 l) with
        | false =>
          have HM := Lib.hid hM
          clear hM
          go_enter Try.func3, Try.ntmps3
          go_wp2_with (first
            | (go_at_call 17; refine (awake16 _).mono ?_; rintro e w4 ⟨rfl, hb4⟩; have HB := Lib.hid hb4; clear hb4)
            | (go_at_call 18; refine (few_calls A c l _ (Kd.C_below HC.out HB.out) Hc.out).mono ?_; rw [HF.out]; rintro e w4 ⟨rfl, hb4⟩; have HB := Lib.hid (HB.out.trans (hb4.mono HB.out.size)); clear hb4)
            | (go_at_call 19; refine (refmay_calls A c l _ (Kd.C_below HC.out HB.out) Hc.out (by have := (fewB_small HF.out).1; omega) (fun x hx => by have := (fewB_small HF.out).2 x hx; omega)).mono ?_; rw [HM.out]; rintro e w4 ⟨rfl, hb4⟩; have HB := Lib.hid (HB.out.trans (hb4.mono HB.out.size)); clear hb4))
          go_ret
          exact ⟨rfl, HB.out⟩
        | true =>
          have hlen : ∀ a : List Int, (closeL (N46 l) a).length ≤ 100 := fun a => by have := closeL_len (N46 l) a; rw [N46_length] at this; have := (fewB_small HF.out).1; omega
          have hN : (N46 l).length ≤ 1000000 := by rw [N46_length]; have := (fewB_small HF.out).1; omega
          exact machineClose_main w A c l Hc.out HC.out HO.out A1 c1 at1 HA.out HW.out A2 c2 at2 HA2.out HW2.out HF.out hM g1 g2 _ _ _ _ _ rfl rfl rfl (closeL_both hM at1 at2).symm (closeL_idem hM at1) rfl rfl (closeL_wf hN) (z1_wf HW.out HW2.out rfl) (z2_wf hN rfl) (hlen _) (hlen _) (hlen _) (both_le hM _ _) (left_le hM _ _) (right_le hM _ _)
      · have b2 : decide ((at2.length : Int) > 100) = true := decide_eq_true (by omega)
        go_enter Try.func3, Try.ntmps3
        go_wp2_with (first
          | (go_at_call 17; refine (awake16 _).mono ?_; rintro e w4 ⟨rfl, hb4⟩; have HB := Lib.hid hb4; clear hb4)
          | (go_at_call 18; refine (few_calls A c l _ (Kd.C_below HC.out HB.out) Hc.out).mono ?_; rw [HF.out]; rintro e w4 ⟨rfl, hb4⟩; have HB := Lib.hid (HB.out.trans (hb4.mono HB.out.size)); clear hb4))
        go_ret
        exact ⟨rfl, HB.out⟩
    · have b1 : decide ((at1.length : Int) > 100) = true := decide_eq_true (by omega)
      go_enter Try.func3, Try.ntmps3
      go_wp2_with (first
        | (go_at_call 17; refine (awake16 _).mono ?_; rintro e w4 ⟨rfl, hb4⟩; have HB := Lib.hid hb4; clear hb4)
        | (go_at_call 18; refine (few_calls A c l _ (Kd.C_below HC.out HB.out) Hc.out).mono ?_; rw [HF.out]; rintro e w4 ⟨rfl, hb4⟩; have HB := Lib.hid (HB.out.trans (hb4.mono HB.out.size)); clear hb4))
      go_ret
      exact ⟨rfl, HB.out⟩
end Go.Proofs.Ytolfamfgoafhlaa.M
