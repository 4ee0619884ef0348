import Derived.Test.YtolfamfgoafhlaaB0
import Derived.Test.YtolfamfgoafhlaaV1
namespace Go.Proofs.Ytolfamfgoafhlaa.M
open Go.RowKit Go.Proofs.YtolfamfgoafhlaaW.PrintWords Go.Proofs.YtolfamfgoafhlaaW.PrintLast Go.Proofs.YtolfamfgoafhlaaW.PrintMore
open Go.Proofs.Ytolfamfgoafhlaa.P Go.Proofs.Ytolfamfgoafhlaa.L

theorem made16_inner (lv : List V.S46) (hb : lv.length ≤ 1000000) (i : Nat) (hi : i < lv.length) (he : (lv[i]).f1.length ≤ 1000000) (r : List V.S33) (acc : List V.S33) (ha : acc.length ≤ 1000000)
    (hn : Ev (fun k => V.phalaropelaw16_made.l0 k lv (acc ++ [mkV lv[i]]) ((i + 1 : Nat) : Int)) r) (d : Nat) :
    ∀ q : Nat, q ≤ (lv[i]).f1.length → (lv[i]).f1.length - q = d → Ev (fun k => V.phalaropelaw16_made.l1 k lv acc i q (lv[i]).f0 (((lv[i]).f1.take q).map (fun e => (⟨e.f0, e.f1, e.f2⟩ : V.S72))) (lv[i]).f2 (lv[i]).f3 (lv[i]).f4) r := by
  induction d with
  | zero =>
    intro q hq hd
    obtain rfl : q = (lv[i]).f1.length := by omega
    refine Ev.step (fun k => ?_) hn
    simp only [V.phalaropelaw16_made.l1]
    rw [if_pos (by omega), if_pos (ltc _ _ hi), vrd46n lv i hi, if_neg (nltc _ _ (Nat.le_refl _)), if_pos (by omega), wrap1 i (by omega), List.take_length]
    rfl
  | succ d ih =>
    intro q hq hd
    have hql : q < (lv[i]).f1.length := by omega
    refine Ev.step (fun k => ?_) (ih (q + 1) (by omega) (by omega))
    simp only [V.phalaropelaw16_made.l1]
    rw [if_pos (by omega), if_pos (ltc _ _ hi), vrd46n lv i hi, if_pos (ltc _ _ hql), if_pos (by omega), if_pos (by simp; omega), vrd74n _ q hql, wrap1 q (by omega), List.take_succ_eq_append_getElem hql, List.map_append]
    rfl
theorem made16_ev (lv : List V.S46) (hb : lv.length ≤ 1000000) (he : ∀ x ∈ lv, x.f1.length ≤ 1000000) : Ev (fun k => V.phalaropelaw16_made.f k lv) (lv.map mkV) := by
  have loop : ∀ d i : Nat, i ≤ lv.length → lv.length - i = d → Ev (fun k => V.phalaropelaw16_made.l0 k lv ((lv.take i).map mkV) i) (lv.map mkV) := by
    intro d
    induction d with
    | zero =>
      intro i hi hd
      obtain rfl : i = lv.length := by omega
      refine Ev.step (f := fun _ => some (lv.map mkV)) (fun k => ?_) (Ev.now _)
      simp only [V.phalaropelaw16_made.l0]
      rw [if_neg (nltc _ _ (Nat.le_refl _)), List.take_length]
    | succ d ih =>
      intro i hi hd
      have hlt : i < lv.length := by omega
      have h1 := ih (i + 1) (by omega) (by omega)
      rw [List.take_succ_eq_append_getElem hlt, List.map_append] at h1
      refine Ev.step (fun k => ?_) (made16_inner lv hb i hlt (he _ (List.getElem_mem hlt)) _ ((lv.take i).map mkV) (by simp; omega) h1 _ 0 (Nat.zero_le _) rfl)
      simp only [V.phalaropelaw16_made.l0]
      rw [if_pos (ltc _ _ hlt), if_pos (by omega), vrd46n lv i hlt]
      rfl
  exact Ev.congr (fun _ => rfl) (loop _ 0 (Nat.zero_le _) rfl)

/-- 'made' of the layer's law: the row is the call's own (its nodes' forks are the argument's, as they stand since w0). -/
theorem made16_calls (A : Option Addr) (c : Nat) (l : List S46) (w0 w : World) (hC : Kd.C k46 w0 A l.length l) (hb0 : Below w0.heap.size w0 w) (hc : l.length ≤ c) (hs : Small l) :
    Calls Try.prog 20 #[.slice A l.length c] w fun e w' => ∃ v rv, e = .returned v ∧ Kd.S V.k33 33 w' w.heap.size (fun _ => True) v rv ∧ VRs w0 (P33s l) rv ∧ Below w.heap.size w w' := by
  obtain ⟨lv, hl, hCv, hr⟩ := C_rel (d := k46) (d' := V.k46) (Rel := VR46 w0) rfl (fun x cs hk => to_V46 hk) hC
  have hm : ∀ y ∈ lv, ∃ x ∈ l, VR46 w0 x y := fun y hy => by
    obtain ⟨j, hj, rfl⟩ := List.getElem_of_mem hy
    exact ⟨l[j]'(by omega), List.getElem_mem _, hr j _ _ (List.getElem?_eq_getElem (by omega)) (List.getElem?_eq_getElem hj)⟩
  obtain ⟨k, hk⟩ := (made16_ev lv (by rw [hl]; exact hs.1) (fun y hy => by
    obtain ⟨x, hx, h⟩ := hm y hy
    rw [h.2.1, List.length_map]
    exact (hs.2 x hx).1)).rounds
  have hcall := V.phalaropelaw16_made.calls k A c lv _ w (Kd.C_below hCv hb0) (by omega) hk
  rw [hl] at hcall
  refine hcall.mono fun e w' ⟨v, he, hv, hb⟩ => ⟨v, _, he, hv, ⟨by simp [hl, P33s], fun j x y hx hy => ?_⟩, hb⟩
  unfold P33s at hx
  rw [List.getElem?_map] at hx hy
  obtain ⟨x', hx', rfl⟩ := Option.map_eq_some_iff.1 hx
  obtain ⟨y', hy', rfl⟩ := Option.map_eq_some_iff.1 hy
  obtain ⟨r0, r1, r2, r3, r4, r5, r6⟩ := hr j x' y' hx' hy'
  exact ⟨r0, by simp [mkV, p33, r1], r2, r3, r4, r5, r6⟩
/-- And as a row that is read. -/
theorem made16_reads (A : Option Addr) (c : Nat) (l : List S46) (w : World) (hC : Kd.C k46 w A l.length l) (hc : l.length ≤ c) (hs : Small l) :
    Calls Try.prog 20 #[.slice A l.length c] w fun e w' => ∃ A' c', e = .returned (.slice A' (P33s l).length c') ∧ (P33s l).length ≤ c' ∧ Kd.C k33 w' A' (P33s l).length (P33s l) ∧ Below w.heap.size w w' := by
  refine (made16_calls A c l w w hC (Below.refl _ _) hc hs).mono ?_
  rintro e w' ⟨v, rv, rfl, hv, hr, hb⟩
  obtain ⟨A', c', rfl, hl, hC'⟩ := Kd.S_reads hv
  have h1 := (hr.below hb).C hC'
  rw [hr.1] at hl ⊢
  exact ⟨A', c', rfl, hl, h1, hb⟩
end Go.Proofs.Ytolfamfgoafhlaa.M
