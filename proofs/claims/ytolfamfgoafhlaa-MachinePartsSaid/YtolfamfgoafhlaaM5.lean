import Derived.Test.YtolfamfgoafhlaaS4
namespace Go.Proofs.Ytolfamfgoafhlaa.M
open Go.RowKit Go.Proofs.YtolfamfgoafhlaaW.PrintWords Go.Proofs.YtolfamfgoafhlaaW.PrintLast
open Go.Proofs.Ytolfamfgoafhlaa.P Go.Proofs.Ytolfamfgoafhlaa.L

/-- Nodes that are no greater than any of the statements' machines; bytes are bytes. -/
def FitN (x : S33) : Prop := x.f1.length ≤ 1000000 ∧ x.f2.length ≤ 1000000 ∧ ∀ e ∈ x.f1, 0 ≤ e.f0 ∧ e.f0 ≤ 255
def Fit (m : List S33) : Prop := ∀ x ∈ m, FitN x

theorem lift8 (es : List S72) (h : ∀ e ∈ es, 0 ≤ e.f0 ∧ e.f0 ≤ 255) : ∃ l : List E8, vals l = es := by
  induction es with
  | nil => exact ⟨[], rfl⟩
  | cons e es ih =>
    obtain ⟨l, hl⟩ := ih (fun x hx => h x (List.mem_cons_of_mem _ hx))
    exact ⟨⟨e, h e List.mem_cons_self⟩ :: l, by show e :: vals l = e :: es; rw [hl]⟩
theorem ed8_vals (l : List E8) : l.map ed8 = (vals l).map ed := by simp [vals, List.map_map, Function.comp_def, ed8, ed]
theorem ed8_nil (l : List E8) : decide (l = []) = decide ((vals l).map ed = []) := by
  cases l <;> simp [vals]

/-- (Node).right: may a node be, at its place? -/
theorem right_calls (x : S33) (hx : FitN x) (at_ many : Int) (A1 A2 : Option Addr) (c1 c2 : Nat) (w : World) (h1 : Kd.C k72 w A1 x.f1.length x.f1) (h2 : (Kd.int .i64).C w A2 x.f2.length x.f2) :
    Calls Try.prog 55 #[.agg #[.int .i64 x.f0, .slice A1 x.f1.length c1, .slice A2 x.f2.length c2, .int .i64 x.f3, .int .i64 x.f4], .int .i64 at_, .int .i64 many] w fun e w' => e = .returned (.bool (nodeOk (nn x) at_ many)) ∧ Below w.heap.size w w' := by
  obtain ⟨kd, es, fs, tg, dst⟩ := x
  obtain ⟨n1, n2, n3⟩ := hx
  simp only at h1 h2 n1 n2 n3 ⊢
  obtain ⟨l, rfl⟩ := lift8 es n3
  rw [vals_length] at h1 n1 ⊢
  by_cases k1 : kd = 1
  · subst k1
    refine (right_eat l fs tg dst at_ many A1 A2 c1 c2 w n1 h1 h2).mono fun e w' ⟨he, hw⟩ => ⟨?_, hw⟩
    rw [he, ed8_vals]
    rfl
  · by_cases k2 : kd = 2
    · subst k2
      refine (right_fork l fs tg dst at_ many A1 A2 c1 c2 w n1 h2).mono fun e w' ⟨he, hw⟩ => ⟨?_, hw⟩
      rw [he, ed8_nil]
      rfl
    · by_cases k3 : kd = 3
      · subst k3
        refine (right_mark l fs tg dst at_ many A1 A2 c1 c2 w n1 (by omega)).mono fun e w' ⟨he, hw⟩ => ⟨?_, hw⟩
        rw [he, ed8_nil]
        rfl
      · by_cases k4 : kd = 4
        · subst k4
          refine (right_end l fs tg dst at_ many A1 A2 c1 c2 w n1 (by omega)).mono fun e w' ⟨he, hw⟩ => ⟨?_, hw⟩
          rw [he, ed8_nil]
          rfl
        · refine (right_none kd k1 k2 k3 k4 _ _ tg dst at_ many A1 A2 c1 c2 w).mono fun e w' ⟨he, hw⟩ => ⟨?_, hw⟩
          rw [he]
          simp [nodeOk, nn, k1, k2, k3, k4]

theorem rd33_mem (l : List S33) (k : Nat) (h : k < l.length) : rd_T33 l k ∈ l := by
  simp only [rd_T33, Int.toNat_natCast, List.getD_eq_getElem?_getD, List.getElem?_eq_getElem h, Option.getD_some]
  exact List.getElem_mem h

set_option maxRecDepth 100000 in
set_option maxHeartbeats 1000000 in
/-- machine.May. -/
theorem may_calls (m : List S33) (hf : Fit m) (A : Option Addr) (c : Nat) (w : World) (hC : Kd.C k33 w A m.length m) :
    Calls Try.prog 23 #[.slice A m.length c] w fun e w' => e = .returned (.bool (mayB (N33 m))) ∧ Below w.heap.size w w' := by
  have hml := hC.2.1
  have HC := Lib.hid hC
  have HF := Lib.hid hf
  clear hC hf
  by_cases h1 : m.length < 1
  · have hr : mayB (N33 m) = false := by rw [Bool.eq_false_iff]; intro h; have := ((may_iff _).1 h).1; rw [N33_length] at this; omega
    have HR := Lib.hid hr
    clear hr
    go_enter Try.func23, Try.ntmps23
    go_wp2
    go_ret
    exact ⟨by rw [HR.out]; rfl, Below.refl _ _⟩
  · by_cases h2 : 100000 < m.length
    · have hr : mayB (N33 m) = false := by rw [Bool.eq_false_iff]; intro h; have := ((may_iff _).1 h).2.1; rw [N33_length] at this; omega
      have HR := Lib.hid hr
      clear hr
      have h1' : 1 ≤ m.length := by omega
      go_enter Try.func23, Try.ntmps23
      go_wp2
      go_ret
      exact ⟨by rw [HR.out]; rfl, Below.refl _ _⟩
    · have h1' : 1 ≤ m.length := by omega
      have h2' : m.length ≤ 100000 := by omega
      clear h1 h2
      have d1 : decide (m.length < 1) = false := decide_eq_false (by omega)
      have d2 : decide (100000 < m.length) = false := decide_eq_false (by omega)
      go_enter Try.func23, Try.ntmps23
      go_wp2
      go_loopw [15] (fun v wr => ∃ k : Nat, k ≤ m.length ∧ v = .int .i64 k ∧ Aside0 (∀ j : Nat, j < k → nodeOk (nd (N33 m) j) j m.length = true) ∧ Aside0 (Below w.heap.size w wr)) (fun v _ => m.length - (RowKit.intOf v).toNat)
      case atStart => exact ⟨0, Nat.zero_le _, rfl, ⟨fun _ h => absurd h (by omega)⟩, ⟨Below.refl _ _⟩⟩
      case round =>
        obtain ⟨k, hk, rfl, HI, HB⟩ := hrel
        by_cases hlt : k < m.length
        · obtain ⟨ad, A1, c1, A2, c2, eA, hx0, hx1, hx2, hx3, hx4, hl1, hi1, hl2, hi2⟩ := at_T33 HC.out (k : Int) (by omega) (by omega)
          subst eA
          simp only [Int.toNat_natCast] at hx0 hx1 hx2 hx3 hx4
          have hz0 := (HB.out.cell (World.block_lt_of_cell? w _ hx0)).trans hx0
          have hz1 := (HB.out.cell (World.block_lt_of_cell? w _ hx1)).trans hx1
          have hz2 := (HB.out.cell (World.block_lt_of_cell? w _ hx2)).trans hx2
          have hz3 := (HB.out.cell (World.block_lt_of_cell? w _ hx3)).trans hx3
          have hz4 := (HB.out.cell (World.block_lt_of_cell? w _ hx4)).trans hx4
          have hfx := HF.out _ (rd33_mem m k hlt)
          have hnd : nd (N33 m) (k : Int) = nn (rd_T33 m k) := nd_N33 m k (by simpa using hlt)
          have hba := HB.out.alloc HB.out.size (.cells #[.int .i64 (rd_T33 m k).f0, .slice A1 (rd_T33 m k).f1.length c1, .slice A2 (rd_T33 m k).f2.length c2, .int .i64 (rd_T33 m k).f3, .int .i64 (rd_T33 m k).f4] 33)
          have HBA := Lib.hid hba
          have hr := fun W hW => right_calls (rd_T33 m k) hfx (k : Int) (m.length : Int) A1 A2 c1 c2 W (Kd.C_below hi1 hW) (Kd.C_below hi2 hW)
          have HRt := Lib.hid hr
          rw [← hnd] at HRt
          have HNd := Lib.hid hnd
          clear hx0 hx1 hx2 hx3 hx4 hi1 hi2 hfx hnd hba hr
          cases hok : nodeOk (nd (N33 m) k) k m.length with
          | true =>
            have HOk := Lib.hid hok
            have hn : ∀ j : Nat, j < k + 1 → nodeOk (nd (N33 m) j) j m.length = true := fun j hj => by
              rcases Nat.lt_or_ge j k with h3 | h3
              · exact HI.out j h3
              · obtain rfl : j = k := by omega
                exact hok
            have HN := Lib.hid hn
            clear hok hn
            go_wp2_with (go_at_call 55; refine (HRt.out _ HBA.out).mono ?_; rw [HOk.out]; rintro e w2 ⟨rfl, hb2⟩)
            go_roundw
            case rel => exact ⟨k + 1, by omega, by go_num, ⟨HN.out⟩, ⟨HBA.out.trans (hb2.mono HBA.out.size)⟩⟩
            case measure => simp [RowKit.intOf]; omega
          | false =>
            have HOk := Lib.hid hok
            have hr : mayB (N33 m) = false := by
              rw [Bool.eq_false_iff]; intro h
              have := ((may_iff _).1 h).2.2 k (by rw [N33_length]; exact hlt)
              rw [N33_length, hok] at this
              cases this
            have HR := Lib.hid hr
            clear hr hok
            go_wp2_with (go_at_call 55; refine (HRt.out _ HBA.out).mono ?_; rw [HOk.out]; rintro e w2 ⟨rfl, hb2⟩)
            go_ret
            exact ⟨by rw [HR.out]; rfl, HBA.out.trans (hb2.mono HBA.out.size)⟩
        · have hr : mayB (N33 m) = true := (may_iff _).2 ⟨by rw [N33_length]; exact h1', by rw [N33_length]; exact h2', fun i hi => by rw [N33_length] at hi ⊢; exact HI.out i (by omega)⟩
          have HR := Lib.hid hr
          clear hr
          go_wp2
          go_ret
          exact ⟨by rw [HR.out]; rfl, HB.out⟩
end Go.Proofs.Ytolfamfgoafhlaa.M
