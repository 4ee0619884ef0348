import Derived.Test.YtolfamfgoafhlaaK1
import Derived.Test.YtolfamfgoafhlaaB1
namespace Go.Proofs.Ytolfamfgoafhlaa.M
open Go.RowKit Go.Proofs.YtolfamfgoafhlaaW.PrintWords Go.Proofs.YtolfamfgoafhlaaW.PrintLast Go.Proofs.YtolfamfgoafhlaaW.PrintMore
open Go.Proofs.Ytolfamfgoafhlaa.P Go.Proofs.Ytolfamfgoafhlaa.L

theorem VRs.snoc {w : World} {l : List S33} {rv : List V.S33} (h : VRs w l rv) {x : S33} {y : V.S33} (hxy : VR33 w x y) : VRs w (l ++ [x]) (rv ++ [y]) := by
  refine ⟨by simp [h.1], fun j a b ha hb => ?_⟩
  rcases Nat.lt_or_ge j l.length with h1 | h1
  · rw [List.getElem?_append_left h1] at ha
    rw [List.getElem?_append_left (by rw [h.1]; exact h1)] at hb
    exact h.2 j a b ha hb
  · rw [List.getElem?_append_right h1] at ha
    rw [List.getElem?_append_right (by rw [h.1]; exact h1), h.1] at hb
    rcases hj : j - l.length with _ | q
    · rw [hj] at ha hb
      simp at ha hb
      subst ha hb
      exact hxy
    · rw [hj] at ha; simp at ha
theorem fit_snoc {l : List S33} (h : Fit l) {x : S33} (hx : FitN x) : Fit (l ++ [x]) := by
  intro y hy
  rw [List.mem_append, List.mem_singleton] at hy
  rcases hy with hy | rfl
  · exact h y hy
  · exact hx
theorem bad_may' (l : List S33) : mayB (N33 (l ++ [⟨3, [], [], 0, 0⟩])) = false := by
  rw [Bool.eq_false_iff]
  intro h
  have h1 := ((may_iff _).1 h).2.2 l.length (by rw [N33_length]; simp)
  rw [nd_N33 _ _ (by simp)] at h1
  have e : rd_T33 (l ++ [⟨3, [], [], 0, 0⟩]) (l.length : Int) = ⟨3, [], [], 0, 0⟩ := by simp [rd_T33]
  rw [e] at h1
  simp [nodeOk, nn, upB] at h1
  omega
theorem no_close {m : List Nd} (h : mayB m = false) (l : List Int) : closeL m l = [] := by unfold closeL; rw [h]; rfl
theorem no_step {m : List Nd} (h : mayB m = false) (l : List Int) (c : Int) : stepL m l c = [] := no_close h _
theorem no_accepts {m : List Nd} (h : mayB m = false) (s : List Int) : acceptsB m s = false := by
  have h1 : runL m s = [] := by
    unfold runL
    rcases List.eq_nil_or_concat s with rfl | ⟨l', x, rfl⟩
    · exact no_close h _
    · rw [List.concat_eq_append, List.foldl_append]
      exact no_close h _
  unfold acceptsB
  rw [h1]
  rfl

theorem nil_may : mayB (N33 []) = false := rfl
theorem nil_fit : Fit [] := fun x hx => by cases hx
theorem nil33 (w : World) : Kd.C k33 w none 0 [] := ⟨rfl, by simp, fun h => absurd h (by omega)⟩
def badL (l : List S46) : List S33 := P33s l ++ [⟨3, [], [], 0, 0⟩]
theorem bad_rel {w : World} {l : List S46} {rv : List V.S33} (h : VRs w (P33s l) rv) : VRs w (badL l) (rv ++ [⟨3, [], V.svNil, 0, 0⟩]) := h.snoc ⟨rfl, rfl, rfl, Nat.le_refl _, int_nil _, rfl, rfl⟩
theorem bad_may (l : List S46) : mayB (N33 (badL l)) = false := bad_may' _
theorem bad_fit {l : List S46} (h : Small l) (hok : ∀ x ∈ l, Ok46 x) : Fit (badL l) := fit_snoc (made_fit h hok) ⟨by simp, by simp, fun e he => by cases he⟩

set_option maxRecDepth 100000 in
set_option maxHeartbeats 1000000 in
theorem machineNobody_walk (w : World) (A : Option Addr) (c : Nat) (l : List S46) (hc : l.length ≤ c) (hC : Kd.C k46 w A l.length l) (hok : ∀ y ∈ l, Ok46 y) (A1 : Option Addr) (c1 : Nat) (at_ : List Int) (_ : at_.length ≤ c1) (hC1 : (Kd.int .i64).C w A1 at_.length at_) (hwf : ∀ y ∈ at_, (Lit.int .i64 y).wf = true) (s : ByteArray) :
    Calls Try.prog 8 #[.slice A l.length c, .slice A1 at_.length c1, .string s] w fun e w' => e = .returned (.bool true) ∧ Below w.heap.size w w' := by
  have HC := Lib.hid hC
  have HA := Lib.hid hC1
  have HW := Lib.hid hwf
  have HO := Lib.hid hok
  have Hc := Lib.hid hc
  clear hC hC1 hwf hok hc
  cases hF : fewB l with
  | false =>
    have HF := Lib.hid hF
    clear hF
    go_enter Try.func8, Try.ntmps8
    go_wp2_with (first
      | (go_at_call 17; refine (awake16 _).mono ?_; rintro e w4 ⟨rfl, hb4⟩; have HB := Lib.hid hb4; clear hb4)
      | (go_at_call 18; refine (few_calls A c l _ (Kd.C_below HC.out HB.out) Hc.out).mono ?_; rw [HF.out]; rintro e w4 ⟨rfl, hb4⟩; have HB := Lib.hid (HB.out.trans (hb4.mono HB.out.size)); clear hb4))
    go_ret
    exact ⟨rfl, HB.out⟩
  | true =>
    have HF := Lib.hid hF
    clear hF
    by_cases g1 : at_.length ≤ 100
    · have b1 : decide ((at_.length : Int) > 100) = false := decide_eq_false (by omega)
      by_cases g2 : s.size ≤ 200
      · have b2 : decide ((s.size : Int) > 200) = false := decide_eq_false (by omega)
        go_enter Try.func8, Try.ntmps8
        go_wp2_with (first
          | (go_at_call 17; refine (awake16 _).mono ?_; rintro e w4 ⟨rfl, hb4⟩; have HB := Lib.hid hb4; clear hb4)
          | (go_at_call 18; refine (few_calls A c l _ (Kd.C_below HC.out HB.out) Hc.out).mono ?_; rw [HF.out]; rintro e w4 ⟨rfl, hb4⟩; have HB := Lib.hid (HB.out.trans (hb4.mono HB.out.size)); clear hb4)
          | (have HN' := HN; clear HN'; go_at_call 23; refine (may_calls [] nil_fit none 0 _ (nil33 _)).mono ?_; rw [nil_may]; rintro e w4 ⟨rfl, hb4⟩; have HB := Lib.hid (HB.out.trans (hb4.mono HB.out.size)); clear hb4)
          | (have HN' := HN; clear HN'; go_at_call 24; refine (accepts_calls [] nil_fit none 0 s _ (nil33 _) (by omega)).mono ?_; rw [no_accepts nil_may]; rintro e w4 ⟨rfl, hb4⟩; have HB := Lib.hid (HB.out.trans (hb4.mono HB.out.size)); clear hb4)
          | (go_at_call 20; refine (made16_calls A c l w _ HC.out HB.out Hc.out (fewB_Small HF.out)).mono ?_; rintro e w4 ⟨v, rv, rfl, hv, hr, hb4⟩; have HV := Lib.hid (Kd.S_lower hv HB.out.size); have HR := Lib.hid hr; have HB := Lib.hid (HB.out.trans (hb4.mono HB.out.size)); clear hb4 hv hr)
          | ((with_reducible refine gate_builtin (b := .append) (xs := _) rfl ?_); at_builtin; refine Kd.S_append V.k33 (w0 := w) w.heap.size rfl _ _ 26 33 (.agg #[(.int .i64 0), (.slice none 0 0), (.slice none 0 0), (.int .i64 0), (.int .i64 0)]) 72 rfl Try.underlying26 info33 rfl (by decide) (by omega) v rv (⟨3, [], V.svNil, 0, 0⟩ : V.S33) [.int .i64 3, .slice none 0 0, .slice none 0 0, .int .i64 0, .int .i64 0] (fun _ => True) (fun _ => False) rfl rfl ?aP (fun k_ hk_ => hk_.elim) ?aF ?aO ?aB ?aS ?aL ?_; (case aP => exact V.k33_mkM _ _ _ (⟨3, [], V.svNil, 0, 0⟩ : V.S33) (Kd.R_nil _ _ _ _ _)); (case aF => exact (fun _ _ => trivial)); (case aO => exact Kd.S_mono HV.out (fun k_ hk => ⟨trivial, fun e_ => e_⟩)); (case aB => exact HB.out); (case aS => exact HB.out.size); (case aL => have h1 := HR.out.1; have h2 := (fewB_small HF.out).1; rw [P33s_length] at h1; omega); intro v1 w5 ho hb hg hat; obtain ⟨A5, c5, e5, hl5, hC5⟩ := Kd.S_reads ho; have hr5 := bad_rel HR.out; rw [hr5.1] at e5 hl5; subst e5; have HD := Lib.hid ((hr5.below hb).C hC5); have HB := Lib.hid hb; clear ho hg hat hb hC5 hr5)
          | (go_at_call 23; refine (may_calls _ (bad_fit (fewB_Small HF.out) HO.out) A5 c5 _ HD.out).mono ?_; rw [bad_may]; rintro e w4 ⟨rfl, hb4⟩; have HD := Lib.hid (Kd.C_below HD.out hb4); have HB := Lib.hid (HB.out.trans (hb4.mono HB.out.size)); clear hb4)
          | (go_at_call 24; refine (accepts_calls _ (bad_fit (fewB_Small HF.out) HO.out) A5 c5 s _ HD.out (by omega)).mono ?_; rw [no_accepts (bad_may _)]; rintro e w4 ⟨rfl, hb4⟩; have HD := Lib.hid (Kd.C_below HD.out hb4); have HB := Lib.hid (HB.out.trans (hb4.mono HB.out.size)); clear hb4)
          | (go_at_call 21; refine (close_calls _ (bad_fit (fewB_Small HF.out) HO.out) A5 A1 c5 c1 at_ _ HD.out (Kd.C_below HA.out HB.out) HW.out).mono ?_; rw [no_close (bad_may _)]; rintro e w4 ⟨v, rfl, hv, hb4⟩; obtain ⟨A6, c6, rfl, hl6, hc6⟩ := Kd.R_reads hv; clear hv hl6 hc6; have HD := Lib.hid (Kd.C_below HD.out hb4); have HB := Lib.hid (HB.out.trans (hb4.mono HB.out.size)); clear hb4)
          | (go_at_call 27; refine (step_calls _ (bad_fit (fewB_Small HF.out) HO.out) A5 A1 c5 c1 at_ 97 _ HD.out (Kd.C_below HA.out HB.out)).mono ?_; rw [no_step (bad_may _)]; rintro e w4 ⟨v, rfl, hv, hb4⟩; obtain ⟨A6, c6, rfl, hl6, hc6⟩ := Kd.R_reads hv; clear hv hl6 hc6; have HD := Lib.hid (Kd.C_below HD.out hb4); have HB := Lib.hid (HB.out.trans (hb4.mono HB.out.size)); clear hb4; have HN := Lib.hid trivial))
        go_ret
        exact ⟨rfl, HB.out⟩
      · have b2 : decide ((s.size : Int) > 200) = true := decide_eq_true (by omega)
        go_enter Try.func8, Try.ntmps8
        go_wp2_with (first
          | (go_at_call 17; refine (awake16 _).mono ?_; rintro e w4 ⟨rfl, hb4⟩; have HB := Lib.hid hb4; clear hb4)
          | (go_at_call 18; refine (few_calls A c l _ (Kd.C_below HC.out HB.out) Hc.out).mono ?_; rw [HF.out]; rintro e w4 ⟨rfl, hb4⟩; have HB := Lib.hid (HB.out.trans (hb4.mono HB.out.size)); clear hb4))
        go_ret
        exact ⟨rfl, HB.out⟩
    · have b1 : decide ((at_.length : Int) > 100) = true := decide_eq_true (by omega)
      go_enter Try.func8, Try.ntmps8
      go_wp2_with (first
        | (go_at_call 17; refine (awake16 _).mono ?_; rintro e w4 ⟨rfl, hb4⟩; have HB := Lib.hid hb4; clear hb4)
        | (go_at_call 18; refine (few_calls A c l _ (Kd.C_below HC.out HB.out) Hc.out).mono ?_; rw [HF.out]; rintro e w4 ⟨rfl, hb4⟩; have HB := Lib.hid (HB.out.trans (hb4.mono HB.out.size)); clear hb4))
      go_ret
      exact ⟨rfl, HB.out⟩
end Go.Proofs.Ytolfamfgoafhlaa.M
