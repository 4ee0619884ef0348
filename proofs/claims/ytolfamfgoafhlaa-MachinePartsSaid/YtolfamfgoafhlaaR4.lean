import Derived.Test.YtolfamfgoafhlaaR3
import Derived.Test.YtolfamfgoafhlaaP6
namespace Go.Proofs.Ytolfamfgoafhlaa.M
open Go.RowKit Go.Proofs.YtolfamfgoafhlaaW.PrintWords Go.Proofs.YtolfamfgoafhlaaW.PrintLast Go.Proofs.YtolfamfgoafhlaaW.PrintMore
open Go.Proofs.Ytolfamfgoafhlaa.P Go.Proofs.Ytolfamfgoafhlaa.L

theorem may_ev (m : List S46) (hm : m.length ≤ 1000) (hs : ∀ x ∈ m, x.f1.length ≤ 1000 ∧ x.f2.length ≤ 1000) : Ev (fun k => phalaroperef16_May.f k m) (mayB (N46 m)) :=
  Ev.congr (fun _ => rfl) (may_loop m hm hs _ 0 (Nat.zero_le _) rfl (fun j _ h => absurd h (by omega)))

/-! ### marked -/
def listTo (s : List Bool) (i : Nat) : List Int := ((List.range i).filter (fun j => s.getD j false)).map Int.ofNat
theorem listTo_len (s : List Bool) (i : Nat) : (listTo s i).length ≤ i := by
  unfold listTo
  rw [List.length_map]
  exact Nat.le_trans (List.length_filter_le _ _) (by simp)
theorem marked_ev (s : List Bool) (hl : s.length ≤ 1000) : Ev (fun k => phalaroperef16_marked.f k s) (listOf s) := by
  have loop : ∀ d i : Nat, i ≤ s.length → s.length - i = d → Ev (fun k => phalaroperef16_marked.l0 k s (listTo s i) i) (listOf s) := by
    intro d
    induction d with
    | zero =>
      intro i hi hd
      obtain rfl : i = s.length := by omega
      refine Ev.step (f := fun _ => some (listOf s)) (fun k => ?_) (Ev.now _)
      simp only [phalaroperef16_marked.l0]
      rw [if_neg (nltc _ _ (Nat.le_refl _))]
      rfl
    | succ d ih =>
      intro i hi hd
      have hlt : i < s.length := by omega
      have hlen := listTo_len s i
      refine Ev.step (fun k => ?_) (ih (i + 1) (by omega) (by omega))
      simp only [phalaroperef16_marked.l0]
      rw [if_pos (ltc _ _ hlt), if_pos (by omega), wrap1 i (by omega)]
      have e : rdOf false s (i : Int) = s.getD i false := by simp [rdOf]
      rw [e]
      cases hb : s.getD i false with
      | true =>
        rw [if_pos rfl, if_pos (by omega)]
        congr 1
        unfold listTo
        rw [List.range_succ, List.filter_append, List.map_append]
        simp [-List.getD_eq_getElem?_getD, hb]
      | false =>
        rw [if_neg (by simp)]
        congr 1
        unfold listTo
        rw [List.range_succ, List.filter_append, List.map_append]
        simp [-List.getD_eq_getElem?_getD, hb]
  exact Ev.congr (fun _ => rfl) (loop _ 0 (Nat.zero_le _) rfl)

/-! ### Close -/
theorem setAll_snoc (l : List Int) (x : Int) (s : List Bool) : setAll (l ++ [x]) s = (setAll l s).set x.toNat true := by simp [setAll, List.foldl_append]
theorem rclose_l2 (m : List S46) (hm : m.length ≤ 1000) (s : List Bool) (hs : s.length = m.length) (i : Nat) (hi : i < m.length) (hf : (m[i]).f2.length ≤ 1000) (hv : ∀ b ∈ succ (n46 m[i]), 0 ≤ b ∧ b < (m.length : Int)) (r : List Int)
    (hn : Ev (fun k => phalaroperef16_Close.l1 k m (setAll (succ (n46 m[i])) s) ((i + 1 : Nat) : Int)) r) (d : Nat) :
    ∀ q : Nat, q ≤ (m[i]).f2.length → (m[i]).f2.length - q = d → Ev (fun k => phalaroperef16_Close.l2 k m (setAll ((m[i]).f2.take q) s) i q) r := by
  have e := rd46n m i hi
  generalize hx : m[i] = x at *
  have hsucc : succ (n46 x) = x.f2 ++ (if x.f0 = 3 then [x.f4] else []) := rfl
  induction d with
  | zero =>
    intro q hq hd
    obtain rfl : q = x.f2.length := by omega
    refine Ev.step (fun k => ?_) hn
    simp only [phalaroperef16_Close.l2]
    rw [if_pos (by omega), if_pos (ltc _ _ hi), e, if_neg (nltc _ _ (Nat.le_refl _)), List.take_length, hsucc]
    by_cases h3 : x.f0 = 3
    · have hd := hv x.f4 (by rw [hsucc, if_pos h3]; simp)
      rw [if_pos h3, if_pos hd.1, if_pos (by rw [setAll_length, hs]; exact hd.2), if_pos h3, wrap1 i (by omega), setAll_snoc]
    · rw [if_neg h3, if_neg h3, List.append_nil, wrap1 i (by omega)]
  | succ d ih =>
    intro q hq hd
    have hql : q < x.f2.length := by omega
    have hb := hv x.f2[q] (by rw [hsucc]; exact List.mem_append_left _ (List.getElem_mem hql))
    refine Ev.step (fun k => ?_) (ih (q + 1) (by omega) (by omega))
    simp only [phalaroperef16_Close.l2]
    rw [if_pos (by omega), if_pos (ltc _ _ hi), e, if_pos (ltc _ _ hql), if_pos (by omega), rdn x.f2 q hql, if_pos hb.1, if_pos (by rw [setAll_length, hs]; exact hb.2), wrap1 q (by omega), List.take_succ_eq_append_getElem hql, setAll_snoc]
theorem rclose_l1 (m : List S46) (hm : m.length ≤ 1000) (hM : mayB (N46 m) = true) (hz : ∀ x ∈ m, x.f2.length ≤ 1000) (s : List Bool) (hs : s.length = m.length) (d : Nat) :
    ∀ i : Nat, i ≤ m.length → m.length - i = d → Ev (fun k => phalaroperef16_Close.l1 k m ((List.range i).foldl (mark1 (N46 m)) s) i) (listOf (pass (N46 m) s)) := by
  induction d with
  | zero =>
    intro i hi hd
    obtain rfl : i = m.length := by omega
    have hp : (List.range m.length).foldl (mark1 (N46 m)) s = pass (N46 m) s := by unfold pass; rw [N46_length]
    refine Ev.step (f := fun k => (phalaroperef16_marked.f k (pass (N46 m) s)).bind fun t => some t) (fun k => ?_) (Ev.bind (marked_ev _ (by rw [pass_length, hs]; exact hm)) (Ev.now _))
    simp only [phalaroperef16_Close.l1]
    rw [if_neg (nltc _ _ (Nat.le_refl _)), hp]
  | succ d ih =>
    intro i hi hd
    have hlt : i < m.length := by omega
    have h1 := ih (i + 1) (by omega) (by omega)
    rw [List.range_succ, List.foldl_append] at h1
    have hl : ((List.range i).foldl (mark1 (N46 m)) s).length = m.length := by rw [foldl_mark_length, hs]
    generalize (List.range i).foldl (mark1 (N46 m)) s = u at *
    have h1' : Ev (fun k => phalaroperef16_Close.l1 k m (mark1 (N46 m) u i) ((i + 1 : Nat) : Int)) (listOf (pass (N46 m) s)) := h1
    have e : rdOf false u (i : Int) = u.getD i false := by simp [rdOf]
    unfold mark1 at h1'
    rw [nd_N46 m i hlt] at h1'
    cases hb : u.getD i false with
    | true =>
      rw [hb, if_pos rfl] at h1'
      have hva : valid (N46 m) i := ⟨by omega, by rw [N46_length]; omega⟩
      refine Ev.step (fun k => ?_) (rclose_l2 m hm u hl i hlt (hz _ (List.getElem_mem hlt)) (fun b hb => ?_) _ h1' _ 0 (Nat.zero_le _) rfl)
      · simp only [phalaroperef16_Close.l1]
        rw [if_pos (ltc _ _ hlt), if_pos (by omega), if_pos (by rw [hl]; exact ltc _ _ hlt), e, hb, if_pos rfl]
        rfl
      · have := succ_valid hM hva (b := b) (by rw [nd_N46 m i hlt]; exact hb)
        exact ⟨this.1, by have := this.2; rwa [N46_length] at this⟩
    | false =>
      rw [hb, if_neg (by simp)] at h1'
      refine Ev.step (fun k => ?_) h1'
      simp only [phalaroperef16_Close.l1]
      rw [if_pos (ltc _ _ hlt), if_pos (by omega), if_pos (by rw [hl]; exact ltc _ _ hlt), e, hb, if_neg (by simp), wrap1 i (by omega)]
theorem rclose_l0 (m : List S46) (hm : m.length ≤ 1000) (hM : mayB (N46 m) = true) (hz : ∀ x ∈ m, x.f2.length ≤ 1000) (at_ : List Int) (ha : at_.length ≤ 1000000) (d : Nat) :
    ∀ q : Nat, q ≤ at_.length → at_.length - q = d → Ev (fun k => phalaroperef16_Close.l0 k m at_ (setAll ((at_.take q).filter (fun a => decide (valid (N46 m) a))) (List.replicate m.length false)) q) (closeL (N46 m) at_) := by
  induction d with
  | zero =>
    intro q hq hd
    obtain rfl : q = at_.length := by omega
    have e : closeL (N46 m) at_ = listOf (pass (N46 m) (setAll ((at_.take at_.length).filter (fun a => decide (valid (N46 m) a))) (List.replicate m.length false))) := by
      unfold closeL init
      rw [hM, if_pos rfl, List.take_length, N46_length]
    rw [e]
    refine Ev.step (fun k => ?_) (rclose_l1 m hm hM hz _ (by rw [setAll_length]; simp) _ 0 (Nat.zero_le _) rfl)
    simp only [phalaroperef16_Close.l0]
    rw [if_neg (nltc _ _ (Nat.le_refl _))]
    rfl
  | succ d ih =>
    intro q hq hd
    have hql : q < at_.length := by omega
    have h1 := ih (q + 1) (by omega) (by omega)
    rw [List.take_succ_eq_append_getElem hql, List.filter_append] at h1
    by_cases hv : valid (N46 m) at_[q]
    · have hv' := hv
      unfold valid at hv'
      rw [N46_length] at hv'
      rw [List.filter_cons_of_pos (by exact decide_eq_true hv), List.filter_nil, setAll_snoc] at h1
      refine Ev.step (fun k => ?_) h1
      simp only [phalaroperef16_Close.l0]
      rw [if_pos (ltc _ _ hql), if_pos (by omega), rdn at_ q hql, if_pos hv'.1, if_pos hv'.2, if_pos hv'.1, if_pos (by rw [setAll_length]; simpa using hv'.2), wrap1 q (by omega)]
    · rw [List.filter_cons_of_neg (by simpa using hv), List.filter_nil, List.append_nil] at h1
      refine Ev.step (fun k => ?_) h1
      unfold valid at hv
      rw [N46_length] at hv
      simp only [phalaroperef16_Close.l0]
      rw [if_pos (ltc _ _ hql), if_pos (by omega), rdn at_ q hql, wrap1 q (by omega)]
      by_cases h0 : at_[q] ≥ 0
      · rw [if_pos h0, if_neg (fun h => hv ⟨h0, h⟩)]
      · rw [if_neg h0]
theorem refclose_ev (m : List S46) (hm : m.length ≤ 1000) (hz : ∀ x ∈ m, x.f1.length ≤ 1000 ∧ x.f2.length ≤ 1000) (at_ : List Int) (ha : at_.length ≤ 1000000) : Ev (fun k => phalaroperef16_Close.f k m at_) (closeL (N46 m) at_) := by
  refine Ev.congr (f := fun k => (phalaroperef16_May.f k m).bind fun t => if t = true then phalaroperef16_Close.l0 k m at_ (List.replicate m.length false) 0 else some []) (fun k => ?_) (Ev.bind (may_ev m hm hz) ?_)
  · unfold phalaroperef16_Close.f
    congr 1
    funext t
    split
    · rw [if_pos (by omega), if_pos (by simp; omega), Int.toNat_natCast]
    · rfl
  · cases hM : mayB (N46 m) with
    | true =>
      refine Ev.congr (fun k => ?_) (rclose_l0 m hm hM (fun x hx => (hz x hx).2) at_ ha _ 0 (Nat.zero_le _) rfl)
      rw [if_pos rfl]
      rfl
    | false =>
      have e : closeL (N46 m) at_ = [] := by unfold closeL; rw [hM]; rfl
      rw [e]
      exact Ev.now _
end Go.Proofs.Ytolfamfgoafhlaa.M
