import Derived.Test.YtolfamfgoafhlaaM4
namespace Go.Proofs.Ytolfamfgoafhlaa.M
open Go.RowKit Go.Proofs.YtolfamfgoafhlaaW.PrintWords Go.Proofs.YtolfamfgoafhlaaW.PrintLast Go.Proofs.YtolfamfgoafhlaaW.PrintMore
open Go.Proofs.Ytolfamfgoafhlaa.P Go.Proofs.Ytolfamfgoafhlaa.L
set_option maxHeartbeats 400000 in
theorem up_calls (at_ many x : Int) (b1 b2 : Nat) (w : World) (h1 : w.cell? ⟨b1, 0, none⟩ = some (.int .i64 at_)) (h2 : w.cell? ⟨b2, 0, none⟩ = some (.int .i64 many)) :
    Calls Try.prog 79 #[.int .i64 x, .pointer (some ⟨b1, 0, none⟩), .pointer (some ⟨b2, 0, none⟩)] w fun e w' => e = .returned (.bool (upB at_ many x)) ∧ w = w' := by
  by_cases c1 : at_ < x
  · by_cases c2 : x < many
    · have e1 : upB at_ many x = true := by simp [upB, c1, c2]
      have E1 := Lib.hid e1
      clear e1
      go_enter Try.func79, Try.ntmps79
      go_wp2
      go_ret
      exact ⟨by rw [E1.out]; rfl, rfl⟩
    · have e1 : upB at_ many x = false := by simp [upB, c2]
      have E1 := Lib.hid e1
      clear e1
      go_enter Try.func79, Try.ntmps79
      go_wp2
      go_ret
      exact ⟨by rw [E1.out]; rfl, rfl⟩
  · have e1 : upB at_ many x = false := by simp [upB, c1]
    have E1 := Lib.hid e1
    clear e1
    go_enter Try.func79, Try.ntmps79
    go_wp2
    go_ret
    exact ⟨by rw [E1.out]; rfl, rfl⟩

set_option maxHeartbeats 400000 in
theorem notup_calls (at_ many x : Int) (b1 b2 b3 : Nat) (w : World) (h1 : w.cell? ⟨b1, 0, none⟩ = some (.int .i64 at_)) (h2 : w.cell? ⟨b2, 0, none⟩ = some (.int .i64 many))
    (h3 : w.cell? ⟨b3, 0, none⟩ = some (.func (.func 79) #[] #[.pointer (some ⟨b1, 0, none⟩), .pointer (some ⟨b2, 0, none⟩)])) :
    Calls Try.prog 81 #[.int .i64 x, .pointer (some ⟨b3, 0, none⟩)] w fun e w' => e = .returned (.bool (!upB at_ many x)) ∧ w = w' := by
  go_enter Try.func81, Try.ntmps81
  go_wp2_with (go_at_call 79; refine (up_calls at_ many x b1 b2 _ h1 h2).mono ?_; rintro e w' ⟨rfl, rfl⟩)
  go_ret
  exact ⟨rfl, rfl⟩


set_option maxRecDepth 100000 in
/-- slices.IndexFunc over whole numbers, at the predicate of the closure 58 (one captured pointer), which reads only. -/
theorem index58 (p : Int → Bool) (q : Value) (A : Option Addr) (c : Nat) (l : List Int) (w : World) (hc : (Kd.int .i64).C w A l.length l)
    (hp : ∀ x ∈ l, Calls Try.prog 58 #[.int .i64 x, q] w fun e w' => e = .returned (.bool (p x)) ∧ w = w') :
    Calls Try.prog 82 #[.slice A l.length c, .func (.func 58) #[] #[q]] w fun e w' => (∃ i : Int, e = .returned (.int .i64 i) ∧ decide (0 ≤ i) = l.any p) ∧ w = w' := by
  have HC := Lib.hid hc
  have HP := Lib.hid hp
  clear hc hp
  have hm := HC.out.2.1
  go_enter Try.func82, Try.ntmps82
  go_wp2
  go_loop [8] (fun v => ∃ k : Nat, k ≤ l.length ∧ v = .int .i64 k ∧ Aside0 (∀ x ∈ l.take k, p x = false)) (fun v => l.length - (RowKit.intOf v).toNat)
  case atStart => exact ⟨0, Nat.zero_le _, rfl, ⟨by simp⟩⟩
  case round =>
    obtain ⟨k, hk, rfl, HK⟩ := hrel
    by_cases hlt : k < l.length
    · obtain ⟨ad, rfl, hx⟩ := Kd.at_int HC.out (k : Int) (by omega) (by omega)
      simp only [Int.toNat_natCast] at hx
      have hmem : rd l k ∈ l := rd_mem l k hlt
      have HM := Lib.hid hmem
      clear hmem
      go_wp2_with (go_at_call 58; refine (HP.out _ HM.out).mono ?_; rintro e w' ⟨rfl, rfl⟩)
      · have hp1 : p (rd l k) = true := by assumption
        go_ret
        exact ⟨⟨(k : Int), rfl, by rw [List.any_eq_true.2 ⟨_, HM.out, hp1⟩]; simp⟩, rfl⟩
      · have hp1 : p (rd l k) = false := by assumption
        have h2 := all_snoc (P := fun x => p x = false) l k hlt HK.out hp1
        go_round
        case rel => exact ⟨k + 1, by omega, by go_num, ⟨h2⟩⟩
        case measure => simp [RowKit.intOf]; omega
    · have h2 : l.any p = false := by
        rw [List.any_eq_false]
        intro x hx
        have := HK.out x (by rw [List.take_of_length_le (by omega)]; exact hx)
        simp [this]
      have H2 := Lib.hid h2
      clear h2
      go_wp2
      go_ret
      exact ⟨⟨-1, rfl, by rw [H2.out]; rfl⟩, rfl⟩
set_option maxRecDepth 100000 in
/-- slices.ContainsFunc, likewise. -/
theorem contains58 (p : Int → Bool) (q : Value) (A : Option Addr) (c : Nat) (l : List Int) (w : World) (hc : (Kd.int .i64).C w A l.length l)
    (hp : ∀ x ∈ l, Calls Try.prog 58 #[.int .i64 x, q] w fun e w' => e = .returned (.bool (p x)) ∧ w = w') :
    Calls Try.prog 57 #[.slice A l.length c, .func (.func 58) #[] #[q]] w fun e w' => e = .returned (.bool (l.any p)) ∧ w = w' := by
  have HI := Lib.hid (index58 p q A c l w hc hp)
  clear hc hp
  generalize l.any p = r at *
  go_enter Try.func57, Try.ntmps57
  go_wp2_with (go_at_call 82; refine HI.out.mono ?_; rintro e w' ⟨⟨i, rfl, hi⟩, rfl⟩)
  go_ret
  exact ⟨by rw [← hi]; rfl, rfl⟩

set_option maxRecDepth 100000 in
/-- slices.IndexFunc over whole numbers, at the predicate of the closure 81 (one captured pointer), which reads only. -/
theorem index81 (p : Int → Bool) (q : Value) (A : Option Addr) (c : Nat) (l : List Int) (w : World) (hc : (Kd.int .i64).C w A l.length l)
    (hp : ∀ x ∈ l, Calls Try.prog 81 #[.int .i64 x, q] w fun e w' => e = .returned (.bool (p x)) ∧ w = w') :
    Calls Try.prog 82 #[.slice A l.length c, .func (.func 81) #[] #[q]] w fun e w' => (∃ i : Int, e = .returned (.int .i64 i) ∧ decide (0 ≤ i) = l.any p) ∧ w = w' := by
  have HC := Lib.hid hc
  have HP := Lib.hid hp
  clear hc hp
  have hm := HC.out.2.1
  go_enter Try.func82, Try.ntmps82
  go_wp2
  go_loop [8] (fun v => ∃ k : Nat, k ≤ l.length ∧ v = .int .i64 k ∧ Aside0 (∀ x ∈ l.take k, p x = false)) (fun v => l.length - (RowKit.intOf v).toNat)
  case atStart => exact ⟨0, Nat.zero_le _, rfl, ⟨by simp⟩⟩
  case round =>
    obtain ⟨k, hk, rfl, HK⟩ := hrel
    by_cases hlt : k < l.length
    · obtain ⟨ad, rfl, hx⟩ := Kd.at_int HC.out (k : Int) (by omega) (by omega)
      simp only [Int.toNat_natCast] at hx
      have hmem : rd l k ∈ l := rd_mem l k hlt
      have HM := Lib.hid hmem
      clear hmem
      go_wp2_with (go_at_call 81; refine (HP.out _ HM.out).mono ?_; rintro e w' ⟨rfl, rfl⟩)
      · have hp1 : p (rd l k) = true := by assumption
        go_ret
        exact ⟨⟨(k : Int), rfl, by rw [List.any_eq_true.2 ⟨_, HM.out, hp1⟩]; simp⟩, rfl⟩
      · have hp1 : p (rd l k) = false := by assumption
        have h2 := all_snoc (P := fun x => p x = false) l k hlt HK.out hp1
        go_round
        case rel => exact ⟨k + 1, by omega, by go_num, ⟨h2⟩⟩
        case measure => simp [RowKit.intOf]; omega
    · have h2 : l.any p = false := by
        rw [List.any_eq_false]
        intro x hx
        have := HK.out x (by rw [List.take_of_length_le (by omega)]; exact hx)
        simp [this]
      have H2 := Lib.hid h2
      clear h2
      go_wp2
      go_ret
      exact ⟨⟨-1, rfl, by rw [H2.out]; rfl⟩, rfl⟩
set_option maxRecDepth 100000 in
/-- slices.ContainsFunc, likewise. -/
theorem contains81 (p : Int → Bool) (q : Value) (A : Option Addr) (c : Nat) (l : List Int) (w : World) (hc : (Kd.int .i64).C w A l.length l)
    (hp : ∀ x ∈ l, Calls Try.prog 81 #[.int .i64 x, q] w fun e w' => e = .returned (.bool (p x)) ∧ w = w') :
    Calls Try.prog 57 #[.slice A l.length c, .func (.func 81) #[] #[q]] w fun e w' => e = .returned (.bool (l.any p)) ∧ w = w' := by
  have HI := Lib.hid (index81 p q A c l w hc hp)
  clear hc hp
  generalize l.any p = r at *
  go_enter Try.func57, Try.ntmps57
  go_wp2_with (go_at_call 82; refine HI.out.mono ?_; rintro e w' ⟨⟨i, rfl, hi⟩, rfl⟩)
  go_ret
  exact ⟨by rw [← hi]; rfl, rfl⟩

end Go.Proofs.Ytolfamfgoafhlaa.M
