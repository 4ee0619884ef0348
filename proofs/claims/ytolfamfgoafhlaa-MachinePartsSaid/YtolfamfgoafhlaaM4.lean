import Derived.Test.YtolfamfgoafhlaaM3
namespace Go.Proofs.Ytolfamfgoafhlaa.M
open Go.RowKit Go.Proofs.YtolfamfgoafhlaaW.PrintWords Go.Proofs.YtolfamfgoafhlaaW.PrintLast Go.Proofs.YtolfamfgoafhlaaW.PrintMore
open Go.Proofs.Ytolfamfgoafhlaa.P Go.Proofs.Ytolfamfgoafhlaa.L

theorem rd72_nat (l : List S72) (k : Nat) (h : k < l.length) : rd_T72 l k = l[k] := by simp [rd_T72, List.getD_eq_getElem?_getD, List.getElem?_eq_getElem h]
theorem rd72_mem (l : List S72) (k : Nat) (h : k < l.length) : rd_T72 l k ∈ l := by rw [rd72_nat l k h]; exact List.getElem_mem h
theorem all_snoc72 {P : S72 → Prop} (l : List S72) (k : Nat) (h : k < l.length) (h1 : ∀ x ∈ l.take k, P x) (h2 : P (rd_T72 l k)) : ∀ x ∈ l.take (k + 1), P x := by
  intro x hx
  rw [List.take_succ_eq_append_getElem h, List.mem_append] at hx
  rcases hx with hx | hx
  · exact h1 x hx
  · rw [List.mem_singleton.1 hx, ← rd72_nat l k h]
    exact h2

set_option maxRecDepth 100000 in
/-- stepped: what is close to where a byte leads, of a machine that may be. -/
theorem stepped_calls (m : List S33) (hM : mayB (N33 m) = true) (A A1 : Option Addr) (c c1 : Nat) (at_ : List Int) (ch : Int) (w : World) (hC : Kd.C k33 w A m.length m) (hA : (Kd.int .i64).C w A1 at_.length at_) :
    Calls Try.prog 56 #[.slice A m.length c, .slice A1 at_.length c1, .int .u8 ch] w fun e w' => ∃ v, e = .returned v ∧ Kd.R (Kd.int .i64) 3 w' w.heap.size (fun _ => True) v (stepL (N33 m) at_ ch) ∧ Below w.heap.size w w' := by
  have hlen : m.length ≤ 100000 := by have := ((may_iff _).1 hM).2.1; rwa [N33_length] at this
  have hal := hA.2.1
  have HC := Lib.hid hC
  have HM := Lib.hid hM
  have HA := Lib.hid hA
  clear hC hM hA
  have hB2 : Below w.heap.size w (w.alloc (.map #[] 0)) := (Below.refl _ _).alloc (Nat.le_refl _) _
  have hS2 := SetIs.made w m.length
  have HB2 := Lib.hid hB2
  have HS2 := Lib.hid hS2
  clear hB2 hS2
  have hmm := @run_makeMap Try.prog
  go_enter Try.func56, Try.ntmps56
  go_wp2
  go_loopw [15] (fun v wr => ∃ (k : Nat) (T : Int → Bool), k ≤ at_.length ∧ v = .int .i64 k ∧ Aside0 (SetIs wr w.heap.size m.length T) ∧ Aside0 (Grow (N33 m) (fun i => ∃ a ∈ nexts (N33 m) at_ ch, L.Reach (N33 m) a i) (fun _ => false) T) ∧ Aside0 (∀ x ∈ at_.take k, valid (N33 m) x → ∀ e ∈ (nd (N33 m) x).es, e.has ch = true → T e.dst = true) ∧ Aside0 (Below w.heap.size w wr)) (fun v _ => at_.length - (RowKit.intOf v).toNat)
  case atStart => exact ⟨0, _, Nat.zero_le _, rfl, ⟨HS2.out⟩, ⟨Grow.refl _ _ _⟩, ⟨by simp⟩, ⟨HB2.out⟩⟩
  case round =>
    obtain ⟨k, T, hk, rfl, HT, HG, HIN, HBr⟩ := hrel
    by_cases hlt : k < at_.length
    · obtain ⟨ad2, eA2, hy⟩ := Kd.at_int HA.out (k : Int) (by omega) (by omega)
      subst eA2
      have hz := (HBr.out.cell (World.block_lt_of_cell? w _ hy)).trans hy
      simp only [Int.toNat_natCast] at hz
      clear hy
      have hmem := rd_mem at_ k hlt
      generalize hf : rd at_ k = x at *
      have Hf := Lib.hid hf
      clear hf
      have Hmem := Lib.hid hmem
      clear hmem
      by_cases hv : 0 ≤ x ∧ x < (m.length : Int)
      · obtain ⟨v0, v1⟩ := hv
        have hvx : valid (N33 m) x := ⟨v0, by rw [N33_length]; exact v1⟩
        have hes : (nd (N33 m) x).es = (rd_T33 m x).f1.map ed := by rw [nd_N33 m x (by omega)]; rfl
        obtain ⟨ad, A3, c3, A4, c4, eA, hx0, hx1, hx2, hx3, hx4, hl1, hi1, hl2, hi2⟩ := at_T33 HC.out x v0 v1
        subst eA
        generalize (rd_T33 m x).f1 = es at hes hx1 hl1 hi1
        have Hes := Lib.hid hes
        have Hvx := Lib.hid hvx
        have HI1 := Lib.hid hi1
        have hel := hi1.2.1
        clear hes hvx hi1 hi2 hl2 hx0 hx2 hx3 hx4
        have hz1 := (HBr.out.cell (World.block_lt_of_cell? w _ hx1)).trans hx1
        have d0 : decide (x < 0) = false := by simp; omega
        have d1 : decide ((m.length : Int) ≤ x) = false := by simp; omega
        have hdst : ∀ e ∈ es, 0 ≤ e.f2 ∧ e.f2 < (m.length : Int) := fun e he => by
          have := edge_to HM.out Hvx.out (e := ed e) (by rw [Hes.out]; exact List.mem_map_of_mem he)
          rwa [N33_length] at this
        have hnx : ∀ e ∈ es, (ed e).has ch = true → e.f2 ∈ nexts (N33 m) at_ ch := fun e he hh => (mem_nexts _ _ _ _).2 ⟨x, Hmem.out, Hvx.out, ed e, by rw [Hes.out]; exact List.mem_map_of_mem he, hh, rfl⟩
        have Hdst := Lib.hid hdst
        have Hnx := Lib.hid hnx
        clear hdst hnx
        go_wp2
        clear hz1
        obtain ⟨wo, rfl⟩ : ∃ wo : World, wo = wr := ⟨_, rfl⟩
        go_loopw [33] (fun v wi => ∃ (q : Nat) (U : Int → Bool), q ≤ es.length ∧ v = .int .i64 q ∧ Aside0 (SetIs wi w.heap.size m.length U) ∧ Aside0 (Grow (N33 m) (fun i => ∃ a ∈ nexts (N33 m) at_ ch, L.Reach (N33 m) a i) (fun _ => false) U) ∧ Aside0 (∀ i, T i = true → U i = true) ∧ Aside0 (∀ e ∈ es.take q, (ed e).has ch = true → U e.f2 = true) ∧ Aside0 (Below w.heap.size w wi)) (fun v _ => es.length - (RowKit.intOf v).toNat)
        case atStart => exact ⟨0, T, Nat.zero_le _, rfl, HT, HG, ⟨fun _ h => h⟩, ⟨by simp⟩, HBr⟩
        case round =>
          obtain ⟨q, U, hq, rfl, HU, HGU, HTU, HIE, HBi⟩ := hrel
          by_cases hlq : q < es.length
          · obtain ⟨ad3, eA3, hy0, hy1, hy2⟩ := at_T72 HI1.out (q : Int) (by omega) (by omega)
            subst eA3
            have hz0 := (HBi.out.cell (World.block_lt_of_cell? w _ hy0)).trans hy0
            have hz1 := (HBi.out.cell (World.block_lt_of_cell? w _ hy1)).trans hy1
            have hz2 := (HBi.out.cell (World.block_lt_of_cell? w _ hy2)).trans hy2
            simp only [Int.toNat_natCast] at hz0 hz1 hz2
            clear hy0 hy1 hy2
            have hme := rd72_mem es q hlq
            generalize hf : rd_T72 es q = e1 at *
            have Hf := Lib.hid hf
            clear hf
            have Hme := Lib.hid hme
            clear hme
            have hlef := HBi.out.size
            by_cases b1 : e1.f0 ≤ ch
            · by_cases b2 : ch ≤ e1.f1
              · have hh : (ed e1).has ch = true := by simp [Ed.has, ed, b1, b2]
                have Hh := Lib.hid hh
                clear hh
                have hd := Hdst.out e1 Hme.out
                have hwf := Lib.hid (wf_lt (n := m.length) (by omega) hd.1 hd.2)
                have hvd : valid (N33 m) e1.f2 := ⟨hd.1, by rw [N33_length]; exact hd.2⟩
                have hdd := Lib.hid (show valid (N33 m) e1.f2 → (m.length : Int) - e1.f2 ≤ (m.length : Nat) from fun h => by have := h.1; omega)
                have Hvd := Lib.hid hvd
                clear hvd
                go_wp2_with (go_at_call 77; refine (add_calls m HM.out w (some ad) c HC.out w.heap.size (Nat.le_refl _) m.length e1.f2 _ U hwf.out hdd.out (HU.out.alloc _) (HBi.out.alloc hlef _)).mono ?_; rintro e w3 ⟨rfl, T3, hT3, hG3, hI3, hB3, hg3⟩)
                have hin3 := all_snoc72 (P := fun e => (ed e).has ch = true → T3 e.f2 = true) es q hlq (fun e he hv => hG3.sub _ (HIE.out e he hv)) (by rw [Hf.out]; exact fun _ => hI3 Hvd.out)
                have hG4 := HGU.out.trans (hG3.mono (fun i hi => ⟨e1.f2, Hnx.out e1 Hme.out Hh.out, hi⟩))
                go_roundw
                case rel => exact ⟨q + 1, T3, by omega, by go_num, ⟨hT3⟩, ⟨hG4⟩, ⟨fun i hi => hG3.sub i (HTU.out i hi)⟩, ⟨hin3⟩, ⟨hB3⟩⟩
                case measure => simp [RowKit.intOf]; omega
              · have hh : (ed e1).has ch = false := by
                  show (decide (e1.f0 ≤ ch) && decide (ch ≤ e1.f1)) = false
                  rw [decide_eq_false b2, Bool.and_false]
                have hin3 := all_snoc72 (P := fun e => (ed e).has ch = true → U e.f2 = true) es q hlq HIE.out (by rw [Hf.out, hh]; intro h; cases h)
                have Hin3 := Lib.hid hin3
                clear hin3 hh
                go_wp2
                go_roundw
                case rel => exact ⟨q + 1, U, by omega, by go_num, ⟨HU.out.alloc _⟩, HGU, HTU, ⟨Hin3.out⟩, ⟨HBi.out.alloc hlef _⟩⟩
                case measure => simp [RowKit.intOf]; omega
            · have hh : (ed e1).has ch = false := by
                show (decide (e1.f0 ≤ ch) && decide (ch ≤ e1.f1)) = false
                rw [decide_eq_false b1, Bool.false_and]
              have hin3 := all_snoc72 (P := fun e => (ed e).has ch = true → U e.f2 = true) es q hlq HIE.out (by rw [Hf.out, hh]; intro h; cases h)
              have Hin3 := Lib.hid hin3
              clear hin3 hh
              go_wp2
              go_roundw
              case rel => exact ⟨q + 1, U, by omega, by go_num, ⟨HU.out.alloc _⟩, HGU, HTU, ⟨Hin3.out⟩, ⟨HBi.out.alloc hlef _⟩⟩
              case measure => simp [RowKit.intOf]; omega
          · have hin : ∀ e ∈ (nd (N33 m) x).es, e.has ch = true → U e.dst = true := fun e he hh => by
              rw [Hes.out] at he
              obtain ⟨e', he', rfl⟩ := List.mem_map.1 he
              exact HIE.out e' (by rw [List.take_of_length_le (by omega)]; exact he') hh
            have hin3 := all_snoc (P := fun x => valid (N33 m) x → ∀ e ∈ (nd (N33 m) x).es, e.has ch = true → U e.dst = true) at_ k hlt (fun y hy hv e he hh => HTU.out _ (HIN.out y hy hv e he hh)) (by rw [Hf.out]; exact fun _ => hin)
            have Hin3 := Lib.hid hin3
            clear hin3 hin
            go_wp2
            go_roundw
            case rel => exact ⟨k + 1, U, by omega, by go_num, HU, HGU, ⟨Hin3.out⟩, HBi⟩
            case measure => simp [RowKit.intOf]; omega
      · have hin3 := all_snoc (P := fun x => valid (N33 m) x → ∀ e ∈ (nd (N33 m) x).es, e.has ch = true → T e.dst = true) at_ k hlt HIN.out (by rw [Hf.out]; exact fun h => absurd ⟨h.1, by have := h.2; rwa [N33_length] at this⟩ hv)
        have Hin3 := Lib.hid hin3
        clear hin3
        by_cases h0 : x < 0
        · clear hv
          go_wp2
          go_roundw
          case rel => exact ⟨k + 1, T, by omega, by go_num, HT, HG, ⟨Hin3.out⟩, HBr⟩
          case measure => simp [RowKit.intOf]; omega
        · have h1 : (m.length : Int) ≤ x := by omega
          clear hv
          go_wp2
          go_roundw
          case rel => exact ⟨k + 1, T, by omega, by go_num, HT, HG, ⟨Hin3.out⟩, HBr⟩
          case measure => simp [RowKit.intOf]; omega
    · have hin : ∀ f ∈ nexts (N33 m) at_ ch, valid (N33 m) f → T f = true := fun f hf _ => by
        obtain ⟨a, h1, h2, e, h3, h4, rfl⟩ := (mem_nexts _ _ _ _).1 hf
        exact HIN.out a (by rw [List.take_of_length_le (by omega)]; exact h1) h2 e h3 h4
      have hres := closeL_of_grow HM.out (N33_valid m T _ _ HT.out) HG.out hin
      rw [N33_length] at hres
      have HR := Lib.hid hres
      clear hin hres
      go_wp2_with (go_at_call 78; refine (list_calls _ m.length T _ HT.out hlen).mono ?_; rintro e w3 ⟨v, rfl, hv, hb3⟩)
      go_ret
      rw [HR.out] at hv
      have hle := HBr.out.size
      exact ⟨v, rfl, Kd.R_lower hv hle, HBr.out.trans (hb3.mono hle)⟩
end Go.Proofs.Ytolfamfgoafhlaa.M
