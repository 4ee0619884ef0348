import Derived.Test.YtolfamfgoafhlaaR2
namespace Go.Proofs.Ytolfamfgoafhlaa.M
open Go.RowKit Go.Proofs.YtolfamfgoafhlaaW.PrintWords Go.Proofs.YtolfamfgoafhlaaW.PrintLast Go.Proofs.YtolfamfgoafhlaaW.PrintMore
open Go.Proofs.Ytolfamfgoafhlaa.P Go.Proofs.Ytolfamfgoafhlaa.L

theorem nd_N46 (m : List S46) (i : Nat) (h : i < m.length) : nd (N46 m) i = n46 m[i] := by
  simp [nd, N46, List.getD_eq_getElem?_getD, List.getElem?_eq_getElem h]
theorem mayB_bad (m : List S46) (i : Nat) (h : i < m.length) (hb : nodeOk (n46 m[i]) i m.length = false) : mayB (N46 m) = false := by
  rw [Bool.eq_false_iff]
  intro h1
  have h2 := ((may_iff _).1 h1).2.2 i (by rw [N46_length]; exact h)
  rw [nd_N46 m i h, N46_length, hb] at h2
  cases h2
theorem may_loop (m : List S46) (hm : m.length ≤ 1000) (hs : ∀ x ∈ m, x.f1.length ≤ 1000 ∧ x.f2.length ≤ 1000) (d : Nat) : ∀ i : Nat, i ≤ m.length → m.length - i = d → (∀ (j : Nat) (h : j < m.length), j < i → nodeOk (n46 m[j]) j m.length = true) → Ev (fun k => phalaroperef16_May.l0 k m i) (mayB (N46 m)) := by
  induction d with
  | zero =>
    intro i hi hd ho
    obtain rfl : i = m.length := by omega
    refine Ev.step (g := fun k => phalaroperef16_May.l0 k m (m.length : Int)) (f := fun k => phalaroperef16_May.j1 k m (m.length : Int) false) (fun k => ?_) (Ev.step (f := fun _ => some (mayB (N46 m))) (fun k => ?_) (Ev.now _))
    · simp only [phalaroperef16_May.l0]
      rw [if_neg (nltc _ _ (Nat.le_refl _))]
    · simp only [phalaroperef16_May.j1]
      rw [if_neg (by simp)]
      by_cases h1 : 1 ≤ m.length
      · have : mayB (N46 m) = true := by
          rw [may_iff, N46_length]
          exact ⟨h1, by omega, fun j hj => by rw [nd_N46 m j hj]; exact ho j hj hj⟩
        rw [if_pos (by omega), this, decide_eq_true (by omega)]
      · have : mayB (N46 m) = false := by
          rw [Bool.eq_false_iff]
          intro h2
          have := ((may_iff _).1 h2).1
          rw [N46_length] at this
          exact h1 this
        rw [if_neg (by omega), this]
  | succ d ih =>
    intro i hi hd ho
    have hlt : i < m.length := by omega
    have hbad := mayB_bad m i hlt
    have hn : nodeOk (n46 m[i]) i m.length = true → Ev (fun k => phalaroperef16_May.l0 k m ((i + 1 : Nat) : Int)) (mayB (N46 m)) := fun h => ih (i + 1) (by omega) (by omega) (fun j hj hji => by
      rcases Nat.lt_or_ge j i with h3 | h3
      · exact ho j hj h3
      · obtain rfl : j = i := by omega
        exact h)
    have hsi := hs m[i] (List.getElem_mem hlt)
    refine Ev.step (g := fun k => phalaroperef16_May.l0 k m i) (f := fun k => phalaroperef16_May.j1 k m i true) (fun k => ?_) ?_
    · simp only [phalaroperef16_May.l0]
      rw [if_pos (ltc _ _ hlt), decide_eq_true (by omega)]
    · generalize hx : m[i] = x at *
      have e := rd46n m i hlt
      rw [hx] at e
      have hj2 : nodeOk (n46 x) i m.length = false → Ev (fun k => phalaroperef16_May.j2 k m i true x.f0 x.f1 x.f2 x.f3 x.f4) (mayB (N46 m)) := fun h => by
        refine Ev.step (f := fun _ => some (mayB (N46 m))) (fun k => ?_) (Ev.now _)
        simp only [phalaroperef16_May.j2]
        rw [if_pos trivial, hbad h]
      have hgo : ∀ (hx1 : x.f0 ≠ 1 → x.f1 = []) (hxe : x.f0 = 1 → eaterB x.f1 x.f2 x.f4 m.length = true) (h14 : 1 ≤ x.f0 ∧ x.f0 ≤ 4), Ev (fun k => phalaroperef16_May.j2 k m i false x.f0 x.f1 x.f2 x.f3 x.f4) (mayB (N46 m)) := fun hx1 hxe h14 => by
        refine Ev.step (fun k => ?_) (may_forks m (by omega) x (by omega) i hlt hx1 hxe h14 _ hbad hn _ 0 (Nat.zero_le _) rfl (.inr rfl) (fun j _ h => absurd h (by omega)))
        simp only [phalaroperef16_May.j2]
        rw [if_neg (by simp)]
        rfl
      by_cases c1 : x.f0 < 1
      · refine Ev.step (fun k => ?_) (hj2 (by rw [nodeOk_46, if_neg (by omega), if_neg (by omega), if_neg (by omega), if_neg (by omega)]))
        simp only [phalaroperef16_May.j1]
        rw [if_pos trivial, if_pos (by omega), if_pos (ltc _ _ hlt), e, if_pos c1]
      · by_cases c2 : x.f0 > 4
        · refine Ev.step (fun k => ?_) (hj2 (by rw [nodeOk_46, if_neg (by omega), if_neg (by omega), if_neg (by omega), if_neg (by omega)]))
          simp only [phalaroperef16_May.j1]
          rw [if_pos trivial, if_pos (by omega), if_pos (ltc _ _ hlt), e, if_neg c1, if_pos c2]
        · by_cases c3 : x.f0 = 1
          · refine Ev.step (g := fun k => phalaroperef16_May.j1 k m i true) (f := fun k => (phalaroperef16_eater.f k x.f0 x.f1 x.f2 x.f3 x.f4 (m.length : Int)).bind fun t => phalaroperef16_May.j2 k m i (!t) x.f0 x.f1 x.f2 x.f3 x.f4) (fun k => ?_) (Ev.bind (eater_ev m.length x.f0 x.f3 x.f4 x.f1 x.f2 (by omega)) ?_)
            · simp only [phalaroperef16_May.j1]
              rw [if_pos trivial, if_pos (by omega), if_pos (ltc _ _ hlt), e, if_neg c1, if_neg c2, if_pos c3]
            · cases hE : eaterB x.f1 x.f2 x.f4 m.length with
              | true => exact hgo (fun h => absurd c3 h) (fun _ => hE) ⟨by omega, by omega⟩
              | false => exact hj2 (by rw [nodeOk_46, if_pos c3]; exact hE)
          · by_cases c4 : (x.f1.length : Int) > 0
            · have hne : x.f1 ≠ [] := fun h => by rw [h] at c4; simp at c4
              refine Ev.step (fun k => ?_) (hj2 (by rw [nodeOk_46, if_neg c3, decide_eq_false hne]; simp))
              simp only [phalaroperef16_May.j1]
              rw [if_pos trivial, if_pos (by omega), if_pos (ltc _ _ hlt), e, if_neg c1, if_neg c2, if_neg c3, if_pos c4]
            · refine Ev.step (fun k => ?_) (hgo (fun _ => List.eq_nil_of_length_eq_zero (by omega)) (fun h => absurd h c3) ⟨by omega, by omega⟩)
              simp only [phalaroperef16_May.j1]
              rw [if_pos trivial, if_pos (by omega), if_pos (ltc _ _ hlt), e, if_neg c1, if_neg c2, if_neg c3, if_neg c4]
theorem refmay_calls (A : Option Addr) (c : Nat) (m : List S46) (w : World) (hC : Kd.C k46 w A m.length m) (hc : m.length ≤ c) (hm : m.length ≤ 1000) (hs : ∀ x ∈ m, x.f1.length ≤ 1000 ∧ x.f2.length ≤ 1000) :
    Calls Try.prog 19 #[.slice A m.length c] w fun e w' => e = .returned (.bool (mayB (N46 m))) ∧ Below w.heap.size w w' := by
  obtain ⟨k, hk⟩ := (Ev.congr (g := fun k => phalaroperef16_May.f k m) (fun _ => rfl) (may_loop m hm hs _ 0 (Nat.zero_le _) rfl (fun j _ h => absurd h (by omega)))).rounds
  exact (phalaroperef16_May.calls k A c m _ w hC hc hk).mono fun e w' ⟨he, hw⟩ => ⟨he, hw⟩
end Go.Proofs.Ytolfamfgoafhlaa.M
