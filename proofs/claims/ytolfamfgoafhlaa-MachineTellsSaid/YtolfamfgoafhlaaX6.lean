import Derived.Test.YtolfamfgoafhlaaK1
import Derived.Test.YtolfamfgoafhlaaB1
import Derived.Test.YtolfamfgoafhlaaR5
namespace Go.Proofs.Ytolfamfgoafhlaa.M
open Go.RowKit Go.Proofs.YtolfamfgoafhlaaW.PrintWords Go.Proofs.YtolfamfgoafhlaaW.PrintLast Go.Proofs.YtolfamfgoafhlaaW.PrintMore
open Go.Proofs.Ytolfamfgoafhlaa.P Go.Proofs.Ytolfamfgoafhlaa.L

theorem closeL_le (m : List Nd) (a : List Int) : (closeL m a).length ≤ m.length := by
  by_cases hM : mayB m = true
  · unfold closeL
    rw [hM, if_pos rfl]
    have h1 : ∀ s : List Bool, (listOf s).length ≤ s.length := fun s => by
      unfold listOf
      rw [List.length_map]
      exact Nat.le_trans (List.length_filter_le _ _) (by simp)
    refine Nat.le_trans (h1 _) ?_
    rw [pass_length, init_length]
    exact Nat.le_refl _
  · unfold closeL
    rw [if_neg hM]
    exact Nat.zero_le _

set_option maxRecDepth 100000 in
set_option maxHeartbeats 2000000 in
theorem machineTells_nil (w : World) (A : Option Addr) (c : Nat) (l : List S46) (hc : l.length ≤ c) (hC : Kd.C k46 w A l.length l) (hok : ∀ y ∈ l, Ok46 y) (A1 : Option Addr) (c1 : Nat) (at_ : List Int) (hc1 : at_.length ≤ c1) (hC1 : (Kd.int .i64).C w A1 at_.length at_) (hwf : ∀ y ∈ at_, (Lit.int .i64 y).wf = true) (s : ByteArray)
    (hF : fewB l = true) (g1 : at_.length ≤ 100) (_ : s.size ≤ 200) (hs : s.size = 0) (bM bA : Bool) (q st : List Int) (h0 : mayB (N46 l) = bM) (h1 : closeL (N46 l) at_ = q) (h2 : stepL (N46 l) at_ (0) = st) (h3 : acceptsB (N46 l) (bts s) = bA) (k1 : q.length ≤ 1000) (k2 : st.length ≤ 1000) :
    Calls Try.prog 6 #[.slice A l.length c, .slice A1 at_.length c1, .string s] w fun e w' => e = .returned (.bool true) ∧ Below w.heap.size w w' := by
  have b1 : decide ((at_.length : Int) > 100) = false := decide_eq_false (by omega)
  have b2 : decide ((s.size : Int) > 200) = false := decide_eq_false (by omega)
  have b3 : decide ((s.size : Int) > 0) = false := decide_eq_false (by omega)
  have HC := Lib.hid hC
  have HA := Lib.hid hC1
  have HW := Lib.hid hwf
  have HO := Lib.hid hok
  have Hc := Lib.hid hc
  have Hc1 := Lib.hid hc1
  have HF := Lib.hid hF
  have H0 := Lib.hid h0
  have H1 := Lib.hid h1
  have H2 := Lib.hid h2
  have H3 := Lib.hid h3
  clear hC hC1 hwf hok hc hc1 hF h0 h1 h2 h3
  go_enter Try.func6, Try.ntmps6
  go_wp2_with (first
    | (go_at_call 17; refine (awake16 _).mono ?_; rintro e w4 ⟨rfl, hb4⟩; have HB := Lib.hid hb4; clear hb4)
    | (go_at_call 18; refine (few_calls A c l _ (Kd.C_below HC.out HB.out) Hc.out).mono ?_; rw [HF.out]; rintro e w4 ⟨rfl, hb4⟩; have HB := Lib.hid (HB.out.trans (hb4.mono HB.out.size)); clear hb4)
    | (go_at_call 20; refine (made16_reads A c l _ (Kd.C_below HC.out HB.out) Hc.out (fewB_Small HF.out)).mono ?_; rintro e w4 ⟨A5, c5, rfl, hl5, hv, hb4⟩; have HD := Lib.hid hv; have HB := Lib.hid (HB.out.trans (hb4.mono HB.out.size)); clear hb4 hv)
    | (go_at_call 23; refine (may_calls _ (made_fit (fewB_Small HF.out) HO.out) A5 c5 _ HD.out).mono ?_; rw [N33_p33, H0.out]; rintro e w4 ⟨rfl, hb4⟩; have HD := Lib.hid (Kd.C_below HD.out hb4); have HB := Lib.hid (HB.out.trans (hb4.mono HB.out.size)); clear hb4)
    | (go_at_call 19; refine (refmay_calls A c l _ (Kd.C_below HC.out HB.out) Hc.out (by have := (fewB_small HF.out).1; omega) (fun x hx => by have := (fewB_small HF.out).2 x hx; omega)).mono ?_; rw [H0.out]; rintro e w4 ⟨rfl, hb4⟩; have HD := Lib.hid (Kd.C_below HD.out hb4); have HB := Lib.hid (HB.out.trans (hb4.mono HB.out.size)); clear hb4)
    | (go_at_call 21; refine (close_calls _ (made_fit (fewB_Small HF.out) HO.out) A5 A1 c5 c1 at_ _ HD.out (Kd.C_below HA.out HB.out) HW.out).mono ?_; rw [N33_p33, H1.out]; rintro e w4 ⟨v, rfl, hv, hb4⟩; obtain ⟨A6, c6, rfl, hc6, hC6⟩ := Kd.R_reads hv; have HQ1 := Lib.hid hC6; clear hv hC6; have HD := Lib.hid (Kd.C_below HD.out hb4); have HB := Lib.hid (HB.out.trans (hb4.mono HB.out.size)); clear hb4)
    | (go_at_call 26; refine (refclose_calls A c l _ (Kd.C_below HC.out HB.out) Hc.out (by have := (fewB_small HF.out).1; omega) (fun x hx => by have := (fewB_small HF.out).2 x hx; omega) A1 c1 at_ (Kd.C_below HA.out HB.out) Hc1.out (by omega)).mono ?_; rw [H1.out]; rintro e w4 ⟨v, rfl, hv, hb4⟩; obtain ⟨A7, c7, rfl, hc7, hC7⟩ := Kd.R_reads hv; have HQ2 := Lib.hid hC7; clear hv hC7; have HD := Lib.hid (Kd.C_below HD.out hb4); have HQ1 := Lib.hid (Kd.C_below HQ1.out hb4); have HB := Lib.hid (HB.out.trans (hb4.mono HB.out.size)); clear hb4)
    | (have HN' := HS1; clear HN'; go_at_call 22; refine (same_calls A8 c8 st A9 c9 st _ (by omega) HT1.out hc8 HT2.out hc9).mono ?_; rw [decide_eq_true rfl]; rintro e w4 ⟨rfl, hb4⟩; have HD := Lib.hid (Kd.C_below HD.out hb4); have HB := Lib.hid (HB.out.trans (hb4.mono HB.out.size)); clear hb4)
    | (go_at_call 22; refine (same_calls A6 c6 q A7 c7 q _ (by omega) HQ1.out hc6 HQ2.out hc7).mono ?_; rw [decide_eq_true rfl]; rintro e w4 ⟨rfl, hb4⟩; have HD := Lib.hid (Kd.C_below HD.out hb4); have HB := Lib.hid (HB.out.trans (hb4.mono HB.out.size)); clear hb4; have HS1 := Lib.hid trivial)
    | (go_at_call 27; refine (step_calls _ (made_fit (fewB_Small HF.out) HO.out) A5 A1 c5 c1 at_ 0 _ HD.out (Kd.C_below HA.out HB.out)).mono ?_; rw [N33_p33, H2.out]; rintro e w4 ⟨v, rfl, hv, hb4⟩; obtain ⟨A8, c8, rfl, hc8, hC8⟩ := Kd.R_reads hv; have HT1 := Lib.hid hC8; clear hv hC8; have HD := Lib.hid (Kd.C_below HD.out hb4); have HB := Lib.hid (HB.out.trans (hb4.mono HB.out.size)); clear hb4)
    | (go_at_call 28; refine (refstep_calls A c l _ (Kd.C_below HC.out HB.out) Hc.out (by have := (fewB_small HF.out).1; omega) (fun x hx => by have := (fewB_small HF.out).2 x hx; omega) A1 c1 at_ 0 (Kd.C_below HA.out HB.out) Hc1.out (by omega)).mono ?_; rw [H2.out]; rintro e w4 ⟨v, rfl, hv, hb4⟩; obtain ⟨A9, c9, rfl, hc9, hC9⟩ := Kd.R_reads hv; have HT2 := Lib.hid hC9; clear hv hC9; have HD := Lib.hid (Kd.C_below HD.out hb4); have HT1 := Lib.hid (Kd.C_below HT1.out hb4); have HB := Lib.hid (HB.out.trans (hb4.mono HB.out.size)); clear hb4)
    | (go_at_call 24; refine (accepts_calls _ (made_fit (fewB_Small HF.out) HO.out) A5 c5 s _ HD.out (by omega)).mono ?_; rw [N33_p33, H3.out]; rintro e w4 ⟨rfl, hb4⟩; have HD := Lib.hid (Kd.C_below HD.out hb4); have HB := Lib.hid (HB.out.trans (hb4.mono HB.out.size)); clear hb4)
    | (go_at_call 29; refine (refaccepts_calls A c l _ (Kd.C_below HC.out HB.out) Hc.out (by have := (fewB_small HF.out).1; omega) (fun x hx => by have := (fewB_small HF.out).2 x hx; omega) s (by omega)).mono ?_; rw [H3.out]; rintro e w4 ⟨rfl, hb4⟩; have HD := Lib.hid (Kd.C_below HD.out hb4); have HB := Lib.hid (HB.out.trans (hb4.mono HB.out.size)); clear hb4))
  go_ret
  exact ⟨by simp, HB.out⟩

set_option maxRecDepth 100000 in
set_option maxHeartbeats 2000000 in
theorem machineTells_some (w : World) (A : Option Addr) (c : Nat) (l : List S46) (hc : l.length ≤ c) (hC : Kd.C k46 w A l.length l) (hok : ∀ y ∈ l, Ok46 y) (A1 : Option Addr) (c1 : Nat) (at_ : List Int) (hc1 : at_.length ≤ c1) (hC1 : (Kd.int .i64).C w A1 at_.length at_) (hwf : ∀ y ∈ at_, (Lit.int .i64 y).wf = true) (s : ByteArray)
    (hF : fewB l = true) (g1 : at_.length ≤ 100) (g2 : s.size ≤ 200) (hs : 0 < s.size) (bM bA : Bool) (q st : List Int) (h0 : mayB (N46 l) = bM) (h1 : closeL (N46 l) at_ = q) (h2 : stepL (N46 l) at_ ((bt s 0)) = st) (h3 : acceptsB (N46 l) (bts s) = bA) (k1 : q.length ≤ 1000) (k2 : st.length ≤ 1000) :
    Calls Try.prog 6 #[.slice A l.length c, .slice A1 at_.length c1, .string s] w fun e w' => e = .returned (.bool true) ∧ Below w.heap.size w w' := by
  have b1 : decide ((at_.length : Int) > 100) = false := decide_eq_false (by omega)
  have b2 : decide ((s.size : Int) > 200) = false := decide_eq_false (by omega)
  have b3 : decide ((s.size : Int) > 0) = true := decide_eq_true (by omega)
  have hbt := bt_at s 0
  simp only [Int.toNat_zero] at hbt
  have HC := Lib.hid hC
  have HA := Lib.hid hC1
  have HW := Lib.hid hwf
  have HO := Lib.hid hok
  have Hc := Lib.hid hc
  have Hc1 := Lib.hid hc1
  have HF := Lib.hid hF
  have H0 := Lib.hid h0
  have H1 := Lib.hid h1
  have H2 := Lib.hid h2
  have H3 := Lib.hid h3
  clear hC hC1 hwf hok hc hc1 hF h0 h1 h2 h3
  go_enter Try.func6, Try.ntmps6
  go_wp2_with (first
    | (go_at_call 17; refine (awake16 _).mono ?_; rintro e w4 ⟨rfl, hb4⟩; have HB := Lib.hid hb4; clear hb4)
    | (go_at_call 18; refine (few_calls A c l _ (Kd.C_below HC.out HB.out) Hc.out).mono ?_; rw [HF.out]; rintro e w4 ⟨rfl, hb4⟩; have HB := Lib.hid (HB.out.trans (hb4.mono HB.out.size)); clear hb4)
    | (go_at_call 20; refine (made16_reads A c l _ (Kd.C_below HC.out HB.out) Hc.out (fewB_Small HF.out)).mono ?_; rintro e w4 ⟨A5, c5, rfl, hl5, hv, hb4⟩; have HD := Lib.hid hv; have HB := Lib.hid (HB.out.trans (hb4.mono HB.out.size)); clear hb4 hv)
    | (go_at_call 23; refine (may_calls _ (made_fit (fewB_Small HF.out) HO.out) A5 c5 _ HD.out).mono ?_; rw [N33_p33, H0.out]; rintro e w4 ⟨rfl, hb4⟩; have HD := Lib.hid (Kd.C_below HD.out hb4); have HB := Lib.hid (HB.out.trans (hb4.mono HB.out.size)); clear hb4)
    | (go_at_call 19; refine (refmay_calls A c l _ (Kd.C_below HC.out HB.out) Hc.out (by have := (fewB_small HF.out).1; omega) (fun x hx => by have := (fewB_small HF.out).2 x hx; omega)).mono ?_; rw [H0.out]; rintro e w4 ⟨rfl, hb4⟩; have HD := Lib.hid (Kd.C_below HD.out hb4); have HB := Lib.hid (HB.out.trans (hb4.mono HB.out.size)); clear hb4)
    | (go_at_call 21; refine (close_calls _ (made_fit (fewB_Small HF.out) HO.out) A5 A1 c5 c1 at_ _ HD.out (Kd.C_below HA.out HB.out) HW.out).mono ?_; rw [N33_p33, H1.out]; rintro e w4 ⟨v, rfl, hv, hb4⟩; obtain ⟨A6, c6, rfl, hc6, hC6⟩ := Kd.R_reads hv; have HQ1 := Lib.hid hC6; clear hv hC6; have HD := Lib.hid (Kd.C_below HD.out hb4); have HB := Lib.hid (HB.out.trans (hb4.mono HB.out.size)); clear hb4)
    | (go_at_call 26; refine (refclose_calls A c l _ (Kd.C_below HC.out HB.out) Hc.out (by have := (fewB_small HF.out).1; omega) (fun x hx => by have := (fewB_small HF.out).2 x hx; omega) A1 c1 at_ (Kd.C_below HA.out HB.out) Hc1.out (by omega)).mono ?_; rw [H1.out]; rintro e w4 ⟨v, rfl, hv, hb4⟩; obtain ⟨A7, c7, rfl, hc7, hC7⟩ := Kd.R_reads hv; have HQ2 := Lib.hid hC7; clear hv hC7; have HD := Lib.hid (Kd.C_below HD.out hb4); have HQ1 := Lib.hid (Kd.C_below HQ1.out hb4); have HB := Lib.hid (HB.out.trans (hb4.mono HB.out.size)); clear hb4)
    | (have HN' := HS1; clear HN'; go_at_call 22; refine (same_calls A8 c8 st A9 c9 st _ (by omega) HT1.out hc8 HT2.out hc9).mono ?_; rw [decide_eq_true rfl]; rintro e w4 ⟨rfl, hb4⟩; have HD := Lib.hid (Kd.C_below HD.out hb4); have HB := Lib.hid (HB.out.trans (hb4.mono HB.out.size)); clear hb4)
    | (go_at_call 22; refine (same_calls A6 c6 q A7 c7 q _ (by omega) HQ1.out hc6 HQ2.out hc7).mono ?_; rw [decide_eq_true rfl]; rintro e w4 ⟨rfl, hb4⟩; have HD := Lib.hid (Kd.C_below HD.out hb4); have HB := Lib.hid (HB.out.trans (hb4.mono HB.out.size)); clear hb4; have HS1 := Lib.hid trivial)
    | (go_at_call 27; refine (step_calls _ (made_fit (fewB_Small HF.out) HO.out) A5 A1 c5 c1 at_ (bt s 0) _ HD.out (Kd.C_below HA.out HB.out)).mono ?_; rw [N33_p33, H2.out]; rintro e w4 ⟨v, rfl, hv, hb4⟩; obtain ⟨A8, c8, rfl, hc8, hC8⟩ := Kd.R_reads hv; have HT1 := Lib.hid hC8; clear hv hC8; have HD := Lib.hid (Kd.C_below HD.out hb4); have HB := Lib.hid (HB.out.trans (hb4.mono HB.out.size)); clear hb4)
    | (go_at_call 28; refine (refstep_calls A c l _ (Kd.C_below HC.out HB.out) Hc.out (by have := (fewB_small HF.out).1; omega) (fun x hx => by have := (fewB_small HF.out).2 x hx; omega) A1 c1 at_ (bt s 0) (Kd.C_below HA.out HB.out) Hc1.out (by omega)).mono ?_; rw [H2.out]; rintro e w4 ⟨v, rfl, hv, hb4⟩; obtain ⟨A9, c9, rfl, hc9, hC9⟩ := Kd.R_reads hv; have HT2 := Lib.hid hC9; clear hv hC9; have HD := Lib.hid (Kd.C_below HD.out hb4); have HT1 := Lib.hid (Kd.C_below HT1.out hb4); have HB := Lib.hid (HB.out.trans (hb4.mono HB.out.size)); clear hb4)
    | (go_at_call 24; refine (accepts_calls _ (made_fit (fewB_Small HF.out) HO.out) A5 c5 s _ HD.out (by omega)).mono ?_; rw [N33_p33, H3.out]; rintro e w4 ⟨rfl, hb4⟩; have HD := Lib.hid (Kd.C_below HD.out hb4); have HB := Lib.hid (HB.out.trans (hb4.mono HB.out.size)); clear hb4)
    | (go_at_call 29; refine (refaccepts_calls A c l _ (Kd.C_below HC.out HB.out) Hc.out (by have := (fewB_small HF.out).1; omega) (fun x hx => by have := (fewB_small HF.out).2 x hx; omega) s (by omega)).mono ?_; rw [H3.out]; rintro e w4 ⟨rfl, hb4⟩; have HD := Lib.hid (Kd.C_below HD.out hb4); have HB := Lib.hid (HB.out.trans (hb4.mono HB.out.size)); clear hb4))
  go_ret
  exact ⟨by simp, HB.out⟩

set_option maxRecDepth 100000 in
theorem machineTells_walk (w : World) (A : Option Addr) (c : Nat) (l : List S46) (hc : l.length ≤ c) (hC : Kd.C k46 w A l.length l) (hok : ∀ y ∈ l, Ok46 y) (A1 : Option Addr) (c1 : Nat) (at_ : List Int) (hc1 : at_.length ≤ c1) (hC1 : (Kd.int .i64).C w A1 at_.length at_) (hwf : ∀ y ∈ at_, (Lit.int .i64 y).wf = true) (s : ByteArray) :
    Calls Try.prog 6 #[.slice A l.length c, .slice A1 at_.length c1, .string s] w fun e w' => e = .returned (.bool true) ∧ Below w.heap.size w w' := by
  cases hF : fewB l with
  | false =>
    have HC := Lib.hid hC
    have Hc := Lib.hid hc
    have HF := Lib.hid hF
    clear hF hC hc
    go_enter Try.func6, Try.ntmps6
    go_wp2_with (first
      | (go_at_call 17; refine (awake16 _).mono ?_; rintro e w4 ⟨rfl, hb4⟩; have HB := Lib.hid hb4; clear hb4)
      | (go_at_call 18; refine (few_calls A c l _ (Kd.C_below HC.out HB.out) Hc.out).mono ?_; rw [HF.out]; rintro e w4 ⟨rfl, hb4⟩; have HB := Lib.hid (HB.out.trans (hb4.mono HB.out.size)); clear hb4))
    go_ret
    exact ⟨rfl, HB.out⟩
  | true =>
    by_cases g1 : at_.length ≤ 100
    · by_cases g2 : s.size ≤ 200
      · have hl : ∀ a : List Int, (closeL (N46 l) a).length ≤ 1000 := fun a => by
          have h1 := closeL_le (N46 l) a
          rw [N46_length] at h1
          have h2 := (fewB_small hF).1
          omega
        by_cases hs : s.size = 0
        · exact machineTells_nil w A c l hc hC hok A1 c1 at_ hc1 hC1 hwf s hF g1 g2 hs _ _ _ _ rfl rfl rfl rfl (hl _) (hl _)
        · exact machineTells_some w A c l hc hC hok A1 c1 at_ hc1 hC1 hwf s hF g1 g2 (by omega) _ _ _ _ rfl rfl rfl rfl (hl _) (hl _)
      · have b1 : decide ((at_.length : Int) > 100) = false := decide_eq_false (by omega)
        have b2 : decide ((s.size : Int) > 200) = true := decide_eq_true (by omega)
        have HC := Lib.hid hC
        have Hc := Lib.hid hc
        have HF := Lib.hid hF
        clear hF hC hc
        go_enter Try.func6, Try.ntmps6
        go_wp2_with (first
          | (go_at_call 17; refine (awake16 _).mono ?_; rintro e w4 ⟨rfl, hb4⟩; have HB := Lib.hid hb4; clear hb4)
          | (go_at_call 18; refine (few_calls A c l _ (Kd.C_below HC.out HB.out) Hc.out).mono ?_; rw [HF.out]; rintro e w4 ⟨rfl, hb4⟩; have HB := Lib.hid (HB.out.trans (hb4.mono HB.out.size)); clear hb4))
        go_ret
        exact ⟨rfl, HB.out⟩
    · have b1 : decide ((at_.length : Int) > 100) = true := decide_eq_true (by omega)
      have HC := Lib.hid hC
      have Hc := Lib.hid hc
      have HF := Lib.hid hF
      clear hF hC hc
      go_enter Try.func6, Try.ntmps6
      go_wp2_with (first
        | (go_at_call 17; refine (awake16 _).mono ?_; rintro e w4 ⟨rfl, hb4⟩; have HB := Lib.hid hb4; clear hb4)
        | (go_at_call 18; refine (few_calls A c l _ (Kd.C_below HC.out HB.out) Hc.out).mono ?_; rw [HF.out]; rintro e w4 ⟨rfl, hb4⟩; have HB := Lib.hid (HB.out.trans (hb4.mono HB.out.size)); clear hb4))
      go_ret
      exact ⟨rfl, HB.out⟩
end Go.Proofs.Ytolfamfgoafhlaa.M
