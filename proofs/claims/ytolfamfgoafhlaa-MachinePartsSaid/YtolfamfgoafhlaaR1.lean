import Derived.Test.YtolfamfgoafhlaaP2
import Derived.Test.YtolfamfgoafhlaaP4
import Derived.Test.YtolfamfgoafhlaaP9
import Derived.Test.YtolfamfgoafhlaaA
namespace Go.Proofs.Ytolfamfgoafhlaa.M
open Go.RowKit Go.Proofs.YtolfamfgoafhlaaW.PrintWords Go.Proofs.YtolfamfgoafhlaaW.PrintLast Go.Proofs.YtolfamfgoafhlaaW.PrintMore
open Go.Proofs.Ytolfamfgoafhlaa.P Go.Proofs.Ytolfamfgoafhlaa.L

def ed74 (x : S74) : Ed := ⟨x.f0, x.f1, x.f2⟩
def n46 (x : S46) : Nd := ⟨x.f0, x.f1.map ed74, x.f2, x.f3, x.f4⟩
def N46 (l : List S46) : List Nd := l.map n46
theorem N46_length (l : List S46) : (N46 l).length = l.length := by simp [N46]

theorem wrap1 (i : Nat) (h : i ≤ 1000000000) : wrap64 ((i : Int) + 1) = ((i + 1 : Nat) : Int) := by unfold wrap64; omega
theorem rdn (l : List Int) (k : Nat) (h : k < l.length) : rd l (k : Int) = l[k] := by simp [rd, List.getD_eq_getElem?_getD, List.getElem?_eq_getElem h]
theorem rd46n (l : List S46) (k : Nat) (h : k < l.length) : rd_T46 l (k : Int) = l[k] := by simp [rd_T46, List.getD_eq_getElem?_getD, List.getElem?_eq_getElem h]
theorem rd74n (l : List S74) (k : Nat) (h : k < l.length) : rd_T74 l (k : Int) = l[k] := by simp [rd_T74, List.getD_eq_getElem?_getD, List.getElem?_eq_getElem h]
theorem ltc (i n : Nat) (h : i < n) : (i : Int) < (n : Int) := by omega
theorem nltc (i n : Nat) (h : n ≤ i) : ¬ (i : Int) < (n : Int) := by omega

/-! ### Same -/
theorem same_loop (x y : List Int) (hl : x.length = y.length) (hb : x.length ≤ 1000000000) (d : Nat) : ∀ i : Nat, i ≤ x.length → x.length - i = d → Ev (fun k => phalaroperef01_Same.l0 k x y i) (decide (x.drop i = y.drop i)) := by
  induction d with
  | zero =>
    intro i hi hd
    refine Ev.step (f := fun _ => some (decide (x.drop i = y.drop i))) (fun k => ?_) (Ev.now _)
    simp only [phalaroperef01_Same.l0]
    rw [if_neg (nltc _ _ (by omega)), List.drop_of_length_le (by omega), List.drop_of_length_le (by omega)]
    simp
  | succ d ih =>
    intro i hi hd
    have hlt : i < x.length := by omega
    by_cases he : x[i] = y[i]
    · refine Ev.step (fun k => ?_) (show Ev (fun k => phalaroperef01_Same.l0 k x y ((i + 1 : Nat) : Int)) _ from ?_)
      · simp only [phalaroperef01_Same.l0]
        rw [if_pos (ltc _ _ hlt), if_pos (by omega), if_pos (ltc _ _ (by omega)), rdn x i hlt, rdn y i (by omega), if_pos he, wrap1 i (by omega)]
      · have := ih (i + 1) (by omega) (by omega)
        have e1 := List.drop_eq_getElem_cons hlt
        have e2 := List.drop_eq_getElem_cons (show i < y.length by omega)
        have e : decide (x.drop i = y.drop i) = decide (x.drop (i + 1) = y.drop (i + 1)) := decide_eq_decide.2 ⟨fun h => by rw [e1, e2] at h; exact (List.cons.inj h).2, fun h => by rw [e1, e2, he, h]⟩
        rw [e]; exact this
    · refine Ev.step (f := fun _ => some (decide (x.drop i = y.drop i))) (fun k => ?_) (Ev.now _)
      simp only [phalaroperef01_Same.l0]
      rw [if_pos (ltc _ _ hlt), if_pos (by omega), if_pos (ltc _ _ (by omega)), rdn x i hlt, rdn y i (by omega), if_neg he]
      have e1 := List.drop_eq_getElem_cons hlt
      have e2 := List.drop_eq_getElem_cons (show i < y.length by omega)
      rw [decide_eq_false (fun h => he (by rw [e1, e2] at h; exact (List.cons.inj h).1))]
theorem same_ev (x y : List Int) (hb : x.length ≤ 1000000000) : ∃ k, phalaroperef01_Same.f k x y = some (decide (x = y)) := by
  by_cases hl : x.length = y.length
  · obtain ⟨k, hk⟩ := (same_loop x y hl hb _ 0 (Nat.zero_le _) rfl).rounds
    refine ⟨k, ?_⟩
    unfold phalaroperef01_Same.f
    rw [if_pos (by omega)]
    simpa using hk
  · refine ⟨0, ?_⟩
    unfold phalaroperef01_Same.f
    rw [if_neg (by omega), decide_eq_false (fun e => hl (by rw [e]))]
theorem same_calls (A0 : Option Addr) (c0 : Nat) (x : List Int) (A1 : Option Addr) (c1 : Nat) (y : List Int) (w : World) (hb : x.length ≤ 1000000000) (h0 : (Kd.int .i64).C w A0 x.length x) (k0 : x.length ≤ c0) (h1 : (Kd.int .i64).C w A1 y.length y) (k1 : y.length ≤ c1) :
    Calls Try.prog 22 #[.slice A0 x.length c0, .slice A1 y.length c1] w fun e w' => e = .returned (.bool (decide (x = y))) ∧ Below w.heap.size w w' := by
  obtain ⟨k, hk⟩ := same_ev x y hb
  exact (phalaroperef01_Same.calls k A0 c0 x A1 c1 y _ w h0 k0 h1 k1 hk).mono fun e w' ⟨he, hw⟩ => ⟨he, hw.below⟩

/-! ### Few -/
def fewB (l : List S46) : Bool := decide (l.length ≤ 60) && l.all (fun x => decide (x.f1.length ≤ 20) && decide (x.f2.length ≤ 20))
/-- Few is false of too long a list whose first nodes are small; of others it is told by the first great node. -/
theorem few_loop (x : List S46) (d : Nat) : ∀ i : Nat, i ≤ 61 → i ≤ x.length → 61 - i = d → (∀ j : Nat, ∀ h : j < x.length, j < i → x[j].f1.length ≤ 20 ∧ x[j].f2.length ≤ 20) → Ev (fun k => phalaroperef16_Few.l0 k x i) (fewB x) := by
  have hfin : ∀ i : Nat, (x.length ≤ i ∨ 61 ≤ i) → (∀ j : Nat, ∀ h : j < x.length, j < i → x[j].f1.length ≤ 20 ∧ x[j].f2.length ≤ 20) → decide ((x.length : Int) ≤ 60) = fewB x := by
    intro i hi hs
    unfold fewB
    by_cases h60 : x.length ≤ 60
    · have : x.all (fun x => decide (x.f1.length ≤ 20) && decide (x.f2.length ≤ 20)) = true := by
        rw [List.all_eq_true]
        intro y hy
        obtain ⟨j, hj, rfl⟩ := List.getElem_of_mem hy
        have := hs j hj (by omega)
        simp [this.1, this.2]
      rw [this, decide_eq_true (by omega), decide_eq_true h60]; rfl
    · rw [decide_eq_false (by omega), decide_eq_false h60]; rfl
  induction d with
  | zero =>
    intro i h1 h2 h3 hs
    refine Ev.step (g := fun k => phalaroperef16_Few.l0 k x i) (f := fun k => phalaroperef16_Few.j1 k x i false) (fun k => ?_) (Ev.step (f := fun _ => some (fewB x)) (fun k => ?_) (Ev.now _))
    · simp only [phalaroperef16_Few.l0]
      split
      · rw [decide_eq_false (by omega)]
      · rfl
    · simp only [phalaroperef16_Few.j1]
      rw [if_neg (by simp), hfin i (.inr (by omega)) hs]
  | succ d ih =>
    intro i h1 h2 h3 hs
    by_cases hlt : i < x.length
    · refine Ev.step (g := fun k => phalaroperef16_Few.l0 k x i) (f := fun k => phalaroperef16_Few.j1 k x i true) (fun k => ?_) ?_
      · simp only [phalaroperef16_Few.l0]
        rw [if_pos (ltc _ _ hlt), decide_eq_true (by omega)]
      · have hbad : (20 < x[i].f1.length ∨ 20 < x[i].f2.length) → fewB x = false := fun h => by
          rw [Bool.eq_false_iff]
          intro hf
          unfold fewB at hf
          rw [Bool.and_eq_true, List.all_eq_true] at hf
          have := hf.2 x[i] (List.getElem_mem hlt)
          simp at this
          omega
        by_cases g1 : 20 < x[i].f1.length
        · refine Ev.step (f := fun _ => some (fewB x)) (fun k => ?_) (Ev.now _)
          simp only [phalaroperef16_Few.j1]
          rw [if_pos trivial, if_pos (by omega), if_pos (ltc _ _ hlt), rd46n x i hlt, if_pos (by omega), hbad (.inl g1)]
        · by_cases g2 : 20 < x[i].f2.length
          · refine Ev.step (f := fun _ => some (fewB x)) (fun k => ?_) (Ev.now _)
            simp only [phalaroperef16_Few.j1]
            rw [if_pos trivial, if_pos (by omega), if_pos (ltc _ _ hlt), rd46n x i hlt, if_neg (by omega), if_pos (by omega), hbad (.inr g2)]
          · refine Ev.step (f := fun k => phalaroperef16_Few.l0 k x ((i + 1 : Nat) : Int)) (fun k => ?_) (ih (i + 1) (by omega) (by omega) (by omega) (fun j hj hji => ?_))
            · simp only [phalaroperef16_Few.j1]
              rw [if_pos trivial, if_pos (by omega), if_pos (ltc _ _ hlt), rd46n x i hlt, if_neg (by omega), if_neg (by omega), wrap1 i (by omega)]
            · rcases Nat.lt_or_ge j i with h4 | h4
              · exact hs j hj h4
              · obtain rfl : j = i := by omega
                exact ⟨by omega, by omega⟩
    · refine Ev.step (g := fun k => phalaroperef16_Few.l0 k x i) (f := fun k => phalaroperef16_Few.j1 k x i false) (fun k => ?_) (Ev.step (f := fun _ => some (fewB x)) (fun k => ?_) (Ev.now _))
      · simp only [phalaroperef16_Few.l0]
        rw [if_neg (nltc _ _ (by omega))]
      · simp only [phalaroperef16_Few.j1]
        rw [if_neg (by simp), hfin i (.inl (by omega)) hs]
theorem few_calls (A0 : Option Addr) (c0 : Nat) (x : List S46) (w : World) (h0 : Kd.C k46 w A0 x.length x) (k0 : x.length ≤ c0) :
    Calls Try.prog 18 #[.slice A0 x.length c0] w fun e w' => e = .returned (.bool (fewB x)) ∧ Below w.heap.size w w' := by
  obtain ⟨k, hk⟩ := (few_loop x _ 0 (by omega) (Nat.zero_le _) rfl (fun j _ h => absurd h (by omega))).rounds
  exact (phalaroperef16_Few.calls k A0 c0 x _ w h0 k0 hk).mono fun e w' ⟨he, hw⟩ => ⟨he, hw.below⟩
end Go.Proofs.Ytolfamfgoafhlaa.M
