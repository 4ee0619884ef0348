import Derived.Test.YtolfamfgoafhlaaS2
import Derived.BigQuiet
import Derived.Deep.QuietTactic
namespace Go.Proofs.Ytolfamfgoafhlaa.M
open Go.RowKit Go.Proofs.YtolfamfgoafhlaaW.PrintWords Go.Proofs.YtolfamfgoafhlaaW.PrintLast
open Go.Proofs.Ytolfamfgoafhlaa.P Go.Proofs.Ytolfamfgoafhlaa.L

def ed8 (x : E8) : Ed := ⟨x.1.f0, x.1.f1, x.1.f2⟩

set_option maxRecDepth 100000 in
set_option maxHeartbeats 1000000 in
/-- eats: may edges be? -/
theorem eats_calls (A : Option Addr) (c : Nat) (l : List E8) (hN : l.length ≤ 1000000) (many : Int) (w : World) (hl : Kd.C k72 w A l.length (vals l)) :
    Calls Try.prog 80 #[.slice A l.length c, .int .i64 many] w fun e w' => e = .returned (.bool (edgesOk (l.map ed8) many)) ∧ Below w.heap.size w w' := by
  have hb0 : Below w.heap.size w (w.alloc (.cells #[.slice A l.length c] 31)) := (Below.refl _ _).alloc (Nat.le_refl _) _
  have hx0 : (w.alloc (.cells #[.slice A l.length c] 31)).cell? ⟨w.heap.size, 0, none⟩ = some (.slice A l.length c) := by
    have := cells_new w #[.slice A l.length c] 31 0 _ rfl
    rwa [add_plain] at this
  have HB0 := Lib.hid hb0
  have HX0 := Lib.hid hx0
  have HL := Lib.hid hl
  clear hb0 hx0 hl
  go_enter Try.func80, Try.ntmps80
  go_wp2_with (first | (go_at_call 95; refine (values_calls A _ c _).mono ?_; rintro e w1 ⟨rfl, rfl⟩) | (go_at_call 94; refine (sortedFunc_calls w.heap.size A c l hN w _ HB0.out (by simp) HX0.out HL.out).mono ?_; rintro e w2 ⟨l', A', c', rfl, hperm, hsort, hlc, hC, hb2⟩))
  have hB2 : Below w.heap.size w w2 := HB0.out.trans (hb2.mono HB0.out.size)
  have HB2 := Lib.hid hB2
  have HC := Lib.hid hC
  have HPm := Lib.hid hperm
  have HSt := Lib.hid hsort
  have hll : l'.length ≤ 1000000 := by rw [hperm.length_eq]; exact hN
  clear hB2 hC hperm hsort hb2
  go_loopw [12] (fun v wr => ∃ k : Nat, k ≤ l'.length ∧ v = .int .i64 k ∧ Aside0 (∀ (j : Nat) (hj : j < l'.length), j < k → edgeOk many (ed8 l'[j]) = true ∧ ∀ _ : 0 < j, (l'[j - 1]'(by omega)).1.f1 < l'[j].1.f0) ∧ Aside0 (Below w2.heap.size w2 wr)) (fun v _ => l'.length - (RowKit.intOf v).toNat)
  case atStart => exact ⟨0, Nat.zero_le _, rfl, ⟨fun _ _ h => absurd h (by omega)⟩, ⟨Below.refl _ _⟩⟩
  case round =>
    obtain ⟨k, hk, rfl, HI, HB3⟩ := hrel
    by_cases hlt : k < l'.length
    · obtain ⟨ad, eA, hy0, hy1, hy2⟩ := at_T72 HC.out (k : Int) (by omega) (by omega)
      subst eA
      rw [rd_vals l' k hlt] at hy0 hy1 hy2
      simp only [Int.toNat_natCast] at hy0 hy1 hy2
      have hx0 := (HB3.out.cell (World.block_lt_of_cell? w2 _ hy0)).trans hy0
      have hx1 := (HB3.out.cell (World.block_lt_of_cell? w2 _ hy1)).trans hy1
      have hx2 := (HB3.out.cell (World.block_lt_of_cell? w2 _ hy2)).trans hy2
      clear hy0 hy1 hy2
      have hbad : edgeOk many (ed8 l'[k]) = false → edgesOk (l.map ed8) many = false := fun h => by
        rw [← edgesOk_perm (HPm.out.map ed8) many]
        exact edgesOk_bad (k := k) (by simpa using hlt) (by simpa using h)
      have HBad := Lib.hid hbad
      have hend : Below w.heap.size w (wr.alloc (.cells #[.int .u8 l'[k].1.f0, .int .u8 l'[k].1.f1, .int .i64 l'[k].1.f2] 72)) := (HB2.out.trans (HB3.out.mono HB2.out.size)).alloc (by have := HB2.out.size; have := HB3.out.size; omega) _
      have HEnd := Lib.hid hend
      have hgo : edgeOk many (ed8 l'[k]) = true → (∀ _ : 0 < k, (l'[k - 1]'(by omega)).1.f1 < l'[k].1.f0) → ∀ (j : Nat) (hj : j < l'.length), j < k + 1 → edgeOk many (ed8 l'[j]) = true ∧ ∀ _ : 0 < j, (l'[j - 1]'(by omega)).1.f1 < l'[j].1.f0 := fun h1 h2 j hj hjk => by
        rcases Nat.lt_or_ge j k with h3 | h3
        · exact HI.out j hj h3
        · obtain rfl : j = k := by omega
          exact ⟨h1, h2⟩
      have HGo := Lib.hid hgo
      have hmt : ∀ _ : 0 < k, l'[k].1.f0 ≤ l'[k].1.f1 → l'[k].1.f0 ≤ (l'[k - 1]'(by omega)).1.f1 → edgesOk (l.map ed8) many = false := fun h0 h1 h2 => by
        rw [← edgesOk_perm (HPm.out.map ed8) many]
        exact edgesOk_meet (k := k) (by rw [List.pairwise_map]; exact HSt.out) (by simpa using hlt) h0 (by simpa [ed8] using h1) (by simpa [ed8] using h2)
      have HMt := Lib.hid hmt
      clear hbad hend hgo hmt
      by_cases b1 : l'[k].1.f1 < l'[k].1.f0
      · have hr := HBad.out (by unfold edgeOk ed8; simp; omega)
        have HR := Lib.hid hr
        clear hr HBad HGo HMt
        generalize l'[k].1 = x at *
        have d1 : decide (x.f1 < x.f0) = true := by simpa using b1
        go_wp2
        go_quiet (fail)
        go_wp2
        go_ret
        exact ⟨by rw [HR.out]; rfl, pw_below_drewN HEnd.out _⟩
      · by_cases b2 : l'[k].1.f2 < 0
        · have hr := HBad.out (by unfold edgeOk ed8; simp; omega)
          have HR := Lib.hid hr
          clear hr HBad HGo HMt
          generalize l'[k].1 = x at *
          have d1 : decide (x.f1 < x.f0) = false := by simpa using b1
          have d2 : decide (x.f2 < 0) = true := by simpa using b2
          go_wp2
          go_quiet (fail)
          go_wp2
          go_ret
          exact ⟨by rw [HR.out]; rfl, pw_below_drewN HEnd.out _⟩
        · by_cases b3 : many ≤ l'[k].1.f2
          · have hr := HBad.out (by unfold edgeOk ed8; simp; omega)
            have HR := Lib.hid hr
            clear hr HBad HGo HMt
            generalize l'[k].1 = x at *
            have d1 : decide (x.f1 < x.f0) = false := by simpa using b1
            have d2 : decide (x.f2 < 0) = false := by simpa using b2
            have d3 : decide (many ≤ x.f2) = true := by simpa using b3
            go_wp2
            go_quiet (fail)
            go_wp2
            go_ret
            exact ⟨by rw [HR.out]; rfl, pw_below_drewN HEnd.out _⟩
          · have hok : edgeOk many (ed8 l'[k]) = true := by unfold edgeOk ed8; simp; omega
            rcases Nat.eq_zero_or_pos k with h0 | h0
            · have hk0 : k ≤ 0 := by omega
              have d4 : decide (0 < k) = false := by simp; omega
              have hn := HGo.out hok (fun h => absurd h (by omega))
              have HN := Lib.hid hn
              clear hn hok HBad HGo HMt h0
              generalize l'[k].1 = x at *
              have d1 : decide (x.f1 < x.f0) = false := by simpa using b1
              have d2 : decide (x.f2 < 0) = false := by simpa using b2
              have d3 : decide (many ≤ x.f2) = false := by simpa using b3
              go_wp2
              go_quiet (fail)
              go_wp2
              go_roundw
              case rel => exact ⟨k + 1, by omega, by go_num, ⟨HN.out⟩, ⟨pw_below_drewN (HB3.out.alloc HB3.out.size _) _⟩⟩
              case measure => simp [RowKit.intOf]; omega
            · by_cases b4 : l'[k].1.f0 ≤ (l'[k - 1]'(by omega)).1.f1
              · have hr := HMt.out h0 (by omega) b4
                have HR := Lib.hid hr
                obtain ⟨ad2, eA2, hz0, hz1, hz2⟩ := at_T72 HC.out ((k - 1 : Nat) : Int) (by omega) (by omega)
                rw [rd_vals l' (k - 1) (by omega)] at hz1
                cases eA2
                have hzz := (HB3.out.cell (World.block_lt_of_cell? w2 _ hz1)).trans hz1
                simp only [Int.toNat_natCast] at hzz
                have hzw := (((Below.refl _ wr).alloc (Nat.le_refl _) (.cells #[.int .u8 l'[k].1.f0, .int .u8 l'[k].1.f1, .int .i64 l'[k].1.f2] 72)).cell (World.block_lt_of_cell? wr _ hzz)).trans hzz
                clear hr HBad HGo HMt hok hz0 hz1 hz2
                generalize l'[k].1 = x at *
                generalize (l'[k - 1]'(by omega)).1 = y at *
                have d1 : decide (x.f1 < x.f0) = false := by simpa using b1
                have d2 : decide (x.f2 < 0) = false := by simpa using b2
                have d3 : decide (many ≤ x.f2) = false := by simpa using b3
                have d4 : decide (x.f0 ≤ y.f1) = true := by simpa using b4
                have i1 : (0 : Int) ≤ (k : Int) - 1 := by omega
                have i2 : (k : Int) - 1 < (l'.length : Int) := by omega
                have i3 : ((k : Int) - 1).toNat = k - 1 := by omega
                have j1 : (1 : Int) ≤ (k : Int) := by omega
                have j2 : 1 ≤ k := by omega
                have j3 : (k : Int) < (l'.length : Int) + 1 := by omega
                have j4 : k < l'.length + 1 := by omega
                have j5 : (k : Int) ≤ (l'.length : Int) := by omega
                have i4 : IntKind.i64.wrap ((k : Int) - 1) = (k : Int) - 1 := IntWalk.i64_in _ (by omega)
                have d5 : decide (0 < k) = true := by simpa using h0
                go_wp2
                go_quiet (fail)
                go_wp2
                go_ret
                exact ⟨by rw [HR.out]; rfl, pw_below_drewN HEnd.out _⟩
              · have hn := HGo.out hok (fun _ => by omega)
                have HN := Lib.hid hn
                obtain ⟨ad2, eA2, hz0, hz1, hz2⟩ := at_T72 HC.out ((k - 1 : Nat) : Int) (by omega) (by omega)
                rw [rd_vals l' (k - 1) (by omega)] at hz1
                cases eA2
                have hzz := (HB3.out.cell (World.block_lt_of_cell? w2 _ hz1)).trans hz1
                simp only [Int.toNat_natCast] at hzz
                have hzw := (((Below.refl _ wr).alloc (Nat.le_refl _) (.cells #[.int .u8 l'[k].1.f0, .int .u8 l'[k].1.f1, .int .i64 l'[k].1.f2] 72)).cell (World.block_lt_of_cell? wr _ hzz)).trans hzz
                clear hn HBad HGo HMt hok hz0 hz1 hz2
                generalize l'[k].1 = x at *
                generalize (l'[k - 1]'(by omega)).1 = y at *
                have d1 : decide (x.f1 < x.f0) = false := by simpa using b1
                have d2 : decide (x.f2 < 0) = false := by simpa using b2
                have d3 : decide (many ≤ x.f2) = false := by simpa using b3
                have d4 : decide (x.f0 ≤ y.f1) = false := by simpa using b4
                have i1 : (0 : Int) ≤ (k : Int) - 1 := by omega
                have i2 : (k : Int) - 1 < (l'.length : Int) := by omega
                have i3 : ((k : Int) - 1).toNat = k - 1 := by omega
                have j1 : (1 : Int) ≤ (k : Int) := by omega
                have j2 : 1 ≤ k := by omega
                have j3 : (k : Int) < (l'.length : Int) + 1 := by omega
                have j4 : k < l'.length + 1 := by omega
                have j5 : (k : Int) ≤ (l'.length : Int) := by omega
                have i4 : IntKind.i64.wrap ((k : Int) - 1) = (k : Int) - 1 := IntWalk.i64_in _ (by omega)
                have d5 : decide (0 < k) = true := by simpa using h0
                go_wp2
                go_quiet (fail)
                clear i1 i2 i3 i4 j1 j2 j3 j4 j5
                go_wp2
                go_roundw
                case rel => exact ⟨k + 1, by omega, by go_num, ⟨HN.out⟩, ⟨pw_below_drewN (HB3.out.alloc HB3.out.size _) _⟩⟩
                case measure => simp [RowKit.intOf]; omega
    · have hr : edgesOk (l.map ed8) many = true := by
        rw [← edgesOk_perm (HPm.out.map ed8) many]
        refine edgesOk_adj (by rw [List.pairwise_map]; exact HSt.out) (fun j hj => ?_)
        have hj' : j < l'.length := by simpa using hj
        have := HI.out j hj' (by omega)
        exact ⟨by simpa using this.1, fun h0 => by simpa [ed8] using this.2 h0⟩
      have HR := Lib.hid hr
      have hend : Below w.heap.size w wr := HB2.out.trans (HB3.out.mono HB2.out.size)
      clear hr
      go_wp2
      go_ret
      exact ⟨by rw [HR.out]; rfl, hend⟩
end Go.Proofs.Ytolfamfgoafhlaa.M
