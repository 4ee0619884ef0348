import Derived.Test.YtolfamfgoafhlaaK2
namespace Go.Proofs.Ytolfamfgoafhlaa.M
open Go.RowKit Go.Proofs.YtolfamfgoafhlaaW.PrintWords Go.Proofs.YtolfamfgoafhlaaW.PrintLast Go.Proofs.YtolfamfgoafhlaaW.PrintMore
open Go.Proofs.Ytolfamfgoafhlaa.P Go.Proofs.Ytolfamfgoafhlaa.L

theorem str_beq (s t : ByteArray) : (s.toList == t.toList) = decide (s = t) := by
  rw [Bool.eq_iff_iff, beq_iff_eq, ByteArray.toList_eq, ByteArray.toList_eq, decide_eq_true_eq]
  exact ⟨fun h => ByteArray.ext (Array.toList_inj.mp h), fun h => by rw [h]⟩

set_option maxRecDepth 100000 in
theorem machineLine_walk (s t : ByteArray) (w : World) : Calls Try.prog 5 #[.string s, .string t] w fun e w' => e = .returned (.bool true) ∧ Below w.heap.size w w' := by
  by_cases g1 : s.size ≤ 100
  · have b1 : decide ((s.size : Int) > 100) = false := decide_eq_false (by omega)
    by_cases g2 : t.size ≤ 200
    · have b2 : decide ((t.size : Int) > 200) = false := decide_eq_false (by omega)
      obtain ⟨k, hk⟩ := (line_ev s (by omega)).rounds
      have hself : acceptsB (N33 (lineL s)) (bts s) = true := by
        have := line_accepts s s (by omega)
        rwa [decide_eq_true rfl] at this
      have hother : acceptsB (N33 (lineL s)) (bts t) = (s.toList == t.toList) := by
        rw [str_beq]; exact line_accepts s t (by omega)
      have HS := Lib.hid hself
      have HO := Lib.hid hother
      clear hself hother
      cases b3 : (s.toList == t.toList)
      · go_enter Try.func5, Try.ntmps5
        go_wp2_with (first
          | (go_at_call 17; refine (awake16 _).mono ?_; rintro e w4 ⟨rfl, hb4⟩; have HB := Lib.hid hb4; clear hb4)
          | (go_at_call 25; refine (phalaropelaw16_line.calls k s _ _ hk).mono ?_; rintro e w4 ⟨v, rfl, hv, hb4⟩; obtain ⟨A, c, rfl, hl, hc⟩ := Kd.S_reads hv; have HR := Lib.hid hc; have HB := Lib.hid (HB.out.trans (hb4.mono HB.out.size)); clear hb4 hc hv hl)
          | (go_at_call 23; refine (may_calls _ (line_fit s) _ c _ HR.out).mono ?_; rw [show mayB (N33 (lineL s)) = true from line_may s (by omega)]; rintro e w4 ⟨rfl, hb4⟩; have HR := Lib.hid (Kd.C_below HR.out hb4); have HB := Lib.hid (HB.out.trans (hb4.mono HB.out.size)); clear hb4)
          | (go_at_call 24; refine (accepts_calls _ (line_fit s) _ c _ _ HR.out (by omega)).mono ?_; (first | rw [HO.out, b3] | rw [HS.out]); rintro e w4 ⟨rfl, hb4⟩; have HR := Lib.hid (Kd.C_below HR.out hb4); have HB := Lib.hid (HB.out.trans (hb4.mono HB.out.size)); clear hb4)
          | (go_at_call 21; refine (close_calls _ (line_fit s) _ _ c 1 [0] _ (Kd.C_below HR.out ((Below.refl _ _).alloc (Nat.le_refl _) _)) (int_one _ 0) (by simp; decide)).mono ?_; rw [show closeL (N33 (lineL s)) [0] = [0] from line_close1 s (by omega) 0 (Nat.zero_le _)]; rintro e w4 ⟨v, rfl, hv, hb4⟩; obtain ⟨A5, c5, rfl, hl5, hc5⟩ := Kd.R_reads hv; have HB := Lib.hid ((HB.out.alloc HB.out.size _).trans (hb4.mono (HB.out.alloc HB.out.size _).size)); clear hv hl5 hc5 hb4))
        go_ret
        exact ⟨rfl, HB.out⟩
      · go_enter Try.func5, Try.ntmps5
        go_wp2_with (first
          | (go_at_call 17; refine (awake16 _).mono ?_; rintro e w4 ⟨rfl, hb4⟩; have HB := Lib.hid hb4; clear hb4)
          | (go_at_call 25; refine (phalaropelaw16_line.calls k s _ _ hk).mono ?_; rintro e w4 ⟨v, rfl, hv, hb4⟩; obtain ⟨A, c, rfl, hl, hc⟩ := Kd.S_reads hv; have HR := Lib.hid hc; have HB := Lib.hid (HB.out.trans (hb4.mono HB.out.size)); clear hb4 hc hv hl)
          | (go_at_call 23; refine (may_calls _ (line_fit s) _ c _ HR.out).mono ?_; rw [show mayB (N33 (lineL s)) = true from line_may s (by omega)]; rintro e w4 ⟨rfl, hb4⟩; have HR := Lib.hid (Kd.C_below HR.out hb4); have HB := Lib.hid (HB.out.trans (hb4.mono HB.out.size)); clear hb4)
          | (go_at_call 24; refine (accepts_calls _ (line_fit s) _ c _ _ HR.out (by omega)).mono ?_; (first | rw [HO.out, b3] | rw [HS.out]); rintro e w4 ⟨rfl, hb4⟩; have HR := Lib.hid (Kd.C_below HR.out hb4); have HB := Lib.hid (HB.out.trans (hb4.mono HB.out.size)); clear hb4)
          | (go_at_call 21; refine (close_calls _ (line_fit s) _ _ c 1 [0] _ (Kd.C_below HR.out ((Below.refl _ _).alloc (Nat.le_refl _) _)) (int_one _ 0) (by simp; decide)).mono ?_; rw [show closeL (N33 (lineL s)) [0] = [0] from line_close1 s (by omega) 0 (Nat.zero_le _)]; rintro e w4 ⟨v, rfl, hv, hb4⟩; obtain ⟨A5, c5, rfl, hl5, hc5⟩ := Kd.R_reads hv; have HB := Lib.hid ((HB.out.alloc HB.out.size _).trans (hb4.mono (HB.out.alloc HB.out.size _).size)); clear hv hl5 hc5 hb4))
        go_ret
        exact ⟨rfl, HB.out⟩
    · have b2 : decide ((t.size : Int) > 200) = true := decide_eq_true (by omega)
      go_enter Try.func5, Try.ntmps5
      go_wp2_with (first
        | (go_at_call 17; refine (awake16 _).mono ?_; rintro e w4 ⟨rfl, hb4⟩; have HB := Lib.hid hb4; clear hb4))
      go_ret
      exact ⟨rfl, HB.out⟩
  · have b1 : decide ((s.size : Int) > 100) = true := decide_eq_true (by omega)
    go_enter Try.func5, Try.ntmps5
    go_wp2_with (first
      | (go_at_call 17; refine (awake16 _).mono ?_; rintro e w4 ⟨rfl, hb4⟩; have HB := Lib.hid hb4; clear hb4))
    go_ret
    exact ⟨rfl, HB.out⟩
end Go.Proofs.Ytolfamfgoafhlaa.M
