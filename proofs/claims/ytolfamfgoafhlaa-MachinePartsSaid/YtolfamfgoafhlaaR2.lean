import Derived.Test.YtolfamfgoafhlaaR1
namespace Go.Proofs.Ytolfamfgoafhlaa.M
open Go.RowKit Go.Proofs.YtolfamfgoafhlaaW.PrintWords Go.Proofs.YtolfamfgoafhlaaW.PrintLast Go.Proofs.YtolfamfgoafhlaaW.PrintMore
open Go.Proofs.Ytolfamfgoafhlaa.P Go.Proofs.Ytolfamfgoafhlaa.L

/-! ### eater -/
def OkTo (es : List S74) (many : Int) (i : Nat) : Prop := ∀ (j : Nat) (h : j < es.length), j < i → edgeOk many (ed74 es[j]) = true ∧ ∀ (q : Nat) (_ : q < j), (ed74 es[j]).meets (ed74 (es[q]'(by omega))) = false
theorem okTo_all {es : List S74} {many : Int} (h : OkTo es many es.length) : edgesOk (es.map ed74) many = true := by
  rw [edgesOk_iff]
  refine ⟨fun e he => ?_, ?_⟩
  · obtain ⟨e', he', rfl⟩ := List.mem_map.1 he
    obtain ⟨j, hj, rfl⟩ := List.getElem_of_mem he'
    exact (h j hj hj).1
  · rw [List.pairwise_map, List.pairwise_iff_getElem]
    intro a b ha hb hab
    rw [meets_comm]
    exact (h b hb hb).2 a hab
theorem okTo_bad {es : List S74} {many : Int} {i : Nat} (hi : i < es.length) (h : edgeOk many (ed74 es[i]) = false) : edgesOk (es.map ed74) many = false :=
  edgesOk_bad (k := i) (by simpa using hi) (by simpa using h)
theorem okTo_meet {es : List S74} {many : Int} {i q : Nat} (hi : i < es.length) (hq : q < i) (h : (ed74 es[i]).meets (ed74 (es[q]'(by omega))) = true) : edgesOk (es.map ed74) many = false := by
  rw [Bool.eq_false_iff]
  intro h1
  have h2 := ((edgesOk_iff _ many).1 h1).2
  rw [List.pairwise_map, List.pairwise_iff_getElem] at h2
  have := h2 q i (by omega) hi hq
  rw [meets_comm, h] at this
  cases this

def eaterB (es : List S74) (fs : List Int) (dst many : Int) : Bool := edgesOk (es.map ed74) many && (decide (fs = []) && decide (dst = 0))
theorem eaterB_bad {es : List S74} (fs : List Int) (dst : Int) {many : Int} (h : edgesOk (es.map ed74) many = false) : eaterB es fs dst many = false := by unfold eaterB; rw [h]; rfl

theorem eater_inner (many kd tg dst : Int) (es : List S74) (fs : List Int) (hb : es.length ≤ 1000000000) (i : Nat) (hi : i < es.length)
    (hn : (∀ (q : Nat) (_ : q < i), (ed74 es[i]).meets (ed74 (es[q]'(by omega))) = false) → Ev (fun k => phalaroperef16_eater.l0 k many ((i + 1 : Nat) : Int) kd es fs tg dst) (eaterB es fs dst many)) (d : Nat) :
    ∀ q : Nat, q ≤ i → i - q = d → (∀ (j : Nat) (_ : j < q) (hq : j < es.length), (ed74 es[i]).meets (ed74 es[j]) = false) → Ev (fun k => phalaroperef16_eater.l1 k many i q kd es fs tg dst (es[i]).f0 (es[i]).f1 (es[i]).f2) (eaterB es fs dst many) := by
  induction d with
  | zero =>
    intro q hq hd hs
    obtain rfl : q = i := by omega
    refine Ev.step (fun k => ?_) (hn (fun j hj => hs j hj (by omega)))
    simp only [phalaroperef16_eater.l1]
    rw [if_neg (by omega), wrap1 q (by omega)]
  | succ d ih =>
    intro q hq hd hs
    have hqi : q < i := by omega
    have hql : q < es.length := by omega
    by_cases hm : (ed74 es[i]).meets (ed74 es[q]) = true
    · have hf := eaterB_bad fs dst (okTo_meet (many := many) hi hqi hm)
      refine Ev.step (f := fun _ => some (eaterB es fs dst many)) (fun k => ?_) (Ev.now _)
      simp only [phalaroperef16_eater.l1]
      unfold Ed.meets ed74 at hm
      simp only [Bool.and_eq_true, decide_eq_true_eq] at hm
      rw [if_pos (ltc _ _ hqi), if_pos (by omega), if_pos (ltc _ _ hql), rd74n es q hql, if_pos hm.1, if_pos hm.2, hf]
    · have hm' : (ed74 es[i]).meets (ed74 es[q]) = false := by simpa using hm
      refine Ev.step (fun k => ?_) (ih (q + 1) (by omega) (by omega) (fun j hj hjl => ?_))
      · simp only [phalaroperef16_eater.l1]
        unfold Ed.meets ed74 at hm
        simp only [Bool.and_eq_true, decide_eq_true_eq] at hm
        rw [if_pos (ltc _ _ hqi), if_pos (by omega), if_pos (ltc _ _ hql), rd74n es q hql, wrap1 q (by omega)]
        by_cases h1 : es[i].f0 ≤ es[q].f1
        · rw [if_pos h1, if_neg (fun h2 => hm ⟨h1, h2⟩)]
        · rw [if_neg h1]
      · rcases Nat.lt_or_ge j q with h3 | h3
        · exact hs j h3 hjl
        · obtain rfl : j = q := by omega
          exact hm'

theorem eater_loop (many kd tg dst : Int) (es : List S74) (fs : List Int) (hb : es.length ≤ 1000000000) (d : Nat) : ∀ i : Nat, i ≤ es.length → es.length - i = d → OkTo es many i → Ev (fun k => phalaroperef16_eater.l0 k many i kd es fs tg dst) (eaterB es fs dst many) := by
  induction d with
  | zero =>
    intro i hi hd hs
    obtain rfl : i = es.length := by omega
    have ht := okTo_all hs
    refine Ev.step (f := fun _ => some (eaterB es fs dst many)) (fun k => ?_) (Ev.now _)
    simp only [phalaroperef16_eater.l0]
    rw [if_neg (by omega)]
    unfold eaterB
    rw [ht, Bool.true_and]
    by_cases hf : fs = []
    · subst hf
      rw [if_pos (by simp), decide_eq_true rfl, Bool.true_and]
      by_cases h : dst = 0 <;> simp [h]
    · rw [if_neg (fun h => hf (List.eq_nil_of_length_eq_zero (by omega))), decide_eq_false hf, Bool.false_and]
  | succ d ih =>
    intro i hi hd hs
    have hlt : i < es.length := by omega
    have hbad : edgeOk many (ed74 es[i]) = false → eaterB es fs dst many = false := fun h => eaterB_bad fs dst (okTo_bad hlt h)
    have hfalse : edgeOk many (ed74 es[i]) = false → Ev (fun k => phalaroperef16_eater.j1 k many i true kd es fs tg dst (es[i]).f0 (es[i]).f1 (es[i]).f2) (eaterB es fs dst many) := fun h => by
      refine Ev.step (f := fun _ => some (eaterB es fs dst many)) (fun k => ?_) (Ev.now _)
      simp only [phalaroperef16_eater.j1]
      rw [if_pos trivial, hbad h]
    by_cases b1 : es[i].f0 > es[i].f1
    · refine Ev.step (fun k => ?_) (hfalse (by unfold edgeOk ed74; simp; omega))
      simp only [phalaroperef16_eater.l0]
      rw [if_pos (ltc _ _ hlt), if_pos (by omega), rd74n es i hlt, if_pos b1]
    · by_cases b2 : es[i].f2 < 0
      · refine Ev.step (fun k => ?_) (hfalse (by unfold edgeOk ed74; simp; omega))
        simp only [phalaroperef16_eater.l0]
        rw [if_pos (ltc _ _ hlt), if_pos (by omega), rd74n es i hlt, if_neg b1, if_pos b2]
      · by_cases b3 : es[i].f2 ≥ many
        · refine Ev.step (fun k => ?_) (hfalse (by unfold edgeOk ed74; simp; omega))
          simp only [phalaroperef16_eater.l0]
          rw [if_pos (ltc _ _ hlt), if_pos (by omega), rd74n es i hlt, if_neg b1, if_neg b2, decide_eq_true b3]
        · have hok : edgeOk many (ed74 es[i]) = true := by unfold edgeOk ed74; simp; omega
          refine Ev.step (g := fun k => phalaroperef16_eater.l0 k many i kd es fs tg dst) (f := fun k => phalaroperef16_eater.j1 k many i false kd es fs tg dst (es[i]).f0 (es[i]).f1 (es[i]).f2) (fun k => ?_) (Ev.step (fun k => ?_) (eater_inner many kd tg dst es fs hb i hlt ?_ i 0 (Nat.zero_le _) (by omega) (fun j h _ => absurd h (by omega))))
          · simp only [phalaroperef16_eater.l0]
            rw [if_pos (ltc _ _ hlt), if_pos (by omega), rd74n es i hlt, if_neg b1, if_neg b2, decide_eq_false b3]
          · simp only [phalaroperef16_eater.j1]
            rw [if_neg (by simp)]; rfl
          · intro hm
            refine ih (i + 1) (by omega) (by omega) (fun j hj hji => ?_)
            rcases Nat.lt_or_ge j i with h3 | h3
            · exact hs j hj h3
            · obtain rfl : j = i := by omega
              exact ⟨hok, hm⟩
theorem eater_ev (many kd tg dst : Int) (es : List S74) (fs : List Int) (hb : es.length ≤ 1000000000) : Ev (fun k => phalaroperef16_eater.f k kd es fs tg dst many) (eaterB es fs dst many) :=
  Ev.congr (fun _ => rfl) (eater_loop many kd tg dst es fs hb _ 0 (Nat.zero_le _) rfl (fun j _ h => absurd h (by omega)))

/-! ### May -/
theorem nodeOk_46 (x : S46) (i many : Int) : nodeOk (n46 x) i many = if x.f0 = 1 then eaterB x.f1 x.f2 x.f4 many else if x.f0 = 2 then decide (x.f1 = []) && (decide (x.f4 = 0) && x.f2.all (upB i many)) else if x.f0 = 3 then decide (x.f1 = []) && (decide (x.f2 = []) && upB i many x.f4) else if x.f0 = 4 then decide (x.f1 = []) && (decide (x.f2 = []) && decide (x.f4 = 0)) else false := by
  unfold nodeOk n46 eaterB
  have e : decide (x.f1.map ed74 = []) = decide (x.f1 = []) := by cases x.f1 <;> simp
  simp only [e]
  split
  · cases edgesOk (x.f1.map ed74) many <;> cases decide (x.f2 = []) <;> cases decide (x.f4 = 0) <;> rfl
  · rfl

/-- Forks, from the q-th on. -/
theorem may_forks (m : List S46) (hm : m.length ≤ 1000000000) (x : S46) (hf : x.f2.length ≤ 1000000000) (i : Nat) (hi : i < m.length) (hx1 : x.f0 ≠ 1 → x.f1 = []) (hxe : x.f0 = 1 → eaterB x.f1 x.f2 x.f4 m.length = true) (h14 : 1 ≤ x.f0 ∧ x.f0 ≤ 4)
    (r : Bool) (hbad : nodeOk (n46 x) i m.length = false → r = false) (hn : nodeOk (n46 x) i m.length = true → Ev (fun k => phalaroperef16_May.l0 k m ((i + 1 : Nat) : Int)) r) (d : Nat) :
    ∀ q : Nat, q ≤ x.f2.length → x.f2.length - q = d → (x.f0 = 2 ∨ q = 0) → (∀ (j : Nat) (h : j < x.f2.length), j < q → upB i m.length x.f2[j] = true) → Ev (fun k => phalaroperef16_May.l1 k m i q x.f0 x.f1 x.f2 x.f3 x.f4) r := by
  rw [nodeOk_46] at hbad hn
  induction d with
  | zero =>
    intro q hq hd h2q hs
    have hfall : x.f0 = 2 → x.f2.all (upB i m.length) = true := fun _ => by
      rw [List.all_eq_true]
      intro y hy
      obtain ⟨j, hj, rfl⟩ := List.getElem_of_mem hy
      exact hs j hj (by omega)
    have hfnil : x.f0 ≠ 2 → x.f2 = [] := fun h => List.eq_nil_of_length_eq_zero (by omega)
    by_cases k3 : x.f0 = 3
    · have hes := hx1 (by omega)
      have hfs := hfnil (by omega)
      rw [if_neg (by omega), if_neg (by omega), if_pos k3, hes, hfs] at hbad hn
      simp only [decide_true, Bool.true_and] at hbad hn
      by_cases b1 : x.f4 ≤ (i : Int)
      · refine Ev.step (f := fun _ => some r) (fun k => ?_) (Ev.now _)
        simp only [phalaroperef16_May.l1]
        rw [if_neg (by omega), if_pos k3, if_pos b1, hbad (by unfold upB; rw [decide_eq_false (by omega)]; rfl)]
      · by_cases b2 : x.f4 ≥ (m.length : Int)
        · refine Ev.step (f := fun _ => some r) (fun k => ?_) (Ev.now _)
          simp only [phalaroperef16_May.l1]
          rw [if_neg (by omega), if_pos k3, if_neg b1, if_pos b2, hbad (by unfold upB; rw [decide_eq_false (show ¬ x.f4 < (m.length : Int) by omega), Bool.and_false])]
        · refine Ev.step (fun k => ?_) (hn (by unfold upB; rw [decide_eq_true (by omega), decide_eq_true (by omega)]; rfl))
          simp only [phalaroperef16_May.l1]
          rw [if_neg (by omega), if_pos k3, if_neg b1, if_neg b2, wrap1 i (by omega)]
    · by_cases b0 : x.f4 = 0
      · refine Ev.step (fun k => ?_) (hn ?_)
        · simp only [phalaroperef16_May.l1]
          rw [if_neg (by omega), if_neg k3, if_pos b0, wrap1 i (by omega)]
        · by_cases k1 : x.f0 = 1
          · rw [if_pos k1]; exact hxe k1
          · by_cases k2 : x.f0 = 2
            · rw [if_neg k1, if_pos k2, hx1 k1, b0, hfall k2]; rfl
            · rw [if_neg k1, if_neg k2, if_neg k3, if_pos (by omega), hx1 k1, hfnil k2, b0]; rfl
      · refine Ev.step (f := fun _ => some r) (fun k => ?_) (Ev.now _)
        simp only [phalaroperef16_May.l1]
        rw [if_neg (by omega), if_neg k3, if_neg b0, hbad ?_]
        by_cases k1 : x.f0 = 1
        · exfalso
          have := hxe k1
          unfold eaterB at this
          simp [b0] at this
        · by_cases k2 : x.f0 = 2
          · rw [if_neg k1, if_pos k2, decide_eq_false b0, Bool.false_and, Bool.and_false]
          · rw [if_neg k1, if_neg k2, if_neg k3, if_pos (by omega), decide_eq_false b0, Bool.and_false, Bool.and_false]
  | succ d ih =>
    intro q hq hd h2q hs
    have hql : q < x.f2.length := by omega
    by_cases k2 : x.f0 = 2
    · rw [if_neg (by omega), if_pos k2] at hbad
      have hfb : upB i m.length x.f2[q] = false → r = false := fun h => hbad (by
        have : x.f2.all (upB i m.length) = false := by rw [List.all_eq_false]; exact ⟨_, List.getElem_mem hql, by simp [h]⟩
        rw [this, Bool.and_false, Bool.and_false])
      by_cases b1 : x.f2[q] ≤ (i : Int)
      · refine Ev.step (f := fun _ => some r) (fun k => ?_) (Ev.now _)
        simp only [phalaroperef16_May.l1]
        rw [if_pos (ltc _ _ hql), if_pos k2, if_pos (by omega), rdn x.f2 q hql, if_pos b1, hfb (by unfold upB; rw [decide_eq_false (by omega)]; rfl)]
      · by_cases b2 : x.f2[q] ≥ (m.length : Int)
        · refine Ev.step (f := fun _ => some r) (fun k => ?_) (Ev.now _)
          simp only [phalaroperef16_May.l1]
          rw [if_pos (ltc _ _ hql), if_pos k2, if_pos (by omega), rdn x.f2 q hql, if_neg b1, if_pos b2, hfb (by unfold upB; rw [decide_eq_false (show ¬ x.f2[q] < (m.length : Int) by omega), Bool.and_false])]
        · refine Ev.step (fun k => ?_) (ih (q + 1) (by omega) (by omega) (.inl k2) (fun j hj hjq => ?_))
          · simp only [phalaroperef16_May.l1]
            rw [if_pos (ltc _ _ hql), if_pos k2, if_pos (by omega), rdn x.f2 q hql, if_neg b1, if_neg b2, wrap1 q (by omega)]
          · rcases Nat.lt_or_ge j q with h3 | h3
            · exact hs j hj h3
            · obtain rfl : j = q := by omega
              unfold upB; rw [decide_eq_true (by omega), decide_eq_true (by omega)]; rfl
    · have hne : x.f2 ≠ [] := fun h => by rw [h] at hql; simp at hql
      refine Ev.step (f := fun _ => some r) (fun k => ?_) (Ev.now _)
      simp only [phalaroperef16_May.l1]
      rw [if_pos (ltc _ _ hql), if_neg k2, hbad ?_]
      by_cases k1 : x.f0 = 1
      · exfalso
        have := hxe k1
        unfold eaterB at this
        simp [hne] at this
      · rw [if_neg k1, if_neg k2, decide_eq_false hne, Bool.false_and, Bool.false_and, Bool.and_false]
        split
        · rfl
        · split <;> rfl
end Go.Proofs.Ytolfamfgoafhlaa.M
