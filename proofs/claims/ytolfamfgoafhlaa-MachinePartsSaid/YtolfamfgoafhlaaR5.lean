import Derived.Test.YtolfamfgoafhlaaR4
import Derived.Test.YtolfamfgoafhlaaP7
import Derived.Test.YtolfamfgoafhlaaP8
import Derived.Test.YtolfamfgoafhlaaM6
namespace Go.Proofs.Ytolfamfgoafhlaa.M
open Go.RowKit Go.Proofs.YtolfamfgoafhlaaW.PrintWords Go.Proofs.YtolfamfgoafhlaaW.PrintLast Go.Proofs.YtolfamfgoafhlaaW.PrintMore
open Go.Proofs.Ytolfamfgoafhlaa.P Go.Proofs.Ytolfamfgoafhlaa.L

/-! ### Step -/
def outs (c : Int) (es : List S74) : List Int := (es.filter (fun e => (ed74 e).has c)).map (fun e => e.f2)
theorem outs_n46 (c : Int) (x : S46) : ((n46 x).es.filter (fun e => e.has c)).map Ed.dst = outs c x.f1 := by
  unfold outs n46
  induction x.f1 with
  | nil => rfl
  | cons e es ih =>
    simp only [List.map_cons, List.filter_cons]
    split
    · simp only [List.map_cons, ih]; rfl
    · exact ih
theorem outs_len (c : Int) (es : List S74) : (outs c es).length ≤ es.length := by unfold outs; rw [List.length_map]; exact List.length_filter_le _ _
theorem nexts_snoc (m : List S46) (l : List Int) (a c : Int) : nexts (N46 m) (l ++ [a]) c = nexts (N46 m) l c ++ (if valid (N46 m) a then outs c (rd_T46 m a).f1 else []) := by
  unfold nexts
  rw [List.filter_append]
  by_cases hv : valid (N46 m) a
  · rw [List.filter_cons_of_pos (by exact decide_eq_true hv), List.filter_nil, List.flatMap_append, if_pos hv]
    simp only [List.flatMap_cons, List.flatMap_nil, List.append_nil]
    congr 1
    have hv' := hv
    unfold valid at hv'
    rw [N46_length] at hv'
    obtain ⟨i, rfl⟩ := Int.eq_ofNat_of_zero_le hv'.1
    rw [nd_N46 m i (by omega), rd46n m i (by omega), outs_n46]
  · rw [List.filter_cons_of_neg (by simpa using hv), List.filter_nil, if_neg hv, List.append_nil, List.append_nil]
theorem nexts_len (m : List S46) (hz : ∀ x ∈ m, x.f1.length ≤ 1000) (c : Int) (at_ : List Int) : ∀ i : Nat, i ≤ at_.length → (nexts (N46 m) (at_.take i) c).length ≤ i * 1000 := by
  intro i
  induction i with
  | zero => intro _; simp [nexts]
  | succ i ih =>
    intro hi
    rw [List.take_succ_eq_append_getElem (by omega), nexts_snoc, List.length_append]
    have h1 := ih (by omega)
    split
    · rename_i hv
      unfold valid at hv
      rw [N46_length] at hv
      have h2 := outs_len c (rd_T46 m at_[i]).f1
      have h3 : (rd_T46 m at_[i]).f1.length ≤ 1000 := by
        obtain ⟨j, hj⟩ := Int.eq_ofNat_of_zero_le hv.1
        have hjl : j < m.length := by have := hv.2; rw [hj] at this; omega
        rw [hj, rd46n m j hjl]
        exact hz _ (List.getElem_mem hjl)
      have h4 : (i + 1) * 1000 = i * 1000 + 1000 := by rw [Nat.add_mul]
      omega
    · exact Nat.le_trans h1 (Nat.mul_le_mul_right _ (Nat.le_succ i))
theorem rstep_l1 (m : List S46) (at_ : List Int) (c : Int) (i : Nat) (hb : i ≤ 1000000) (es : List S74) (he : es.length ≤ 1000) (acc : List Int) (ha : acc.length ≤ 1000000) (r : List Int)
    (hn : Ev (fun k => phalaroperef16_Step.l0 k m at_ c (acc ++ outs c es) ((i + 1 : Nat) : Int)) r) (d : Nat) :
    ∀ q : Nat, q ≤ es.length → es.length - q = d → Ev (fun k => phalaroperef16_Step.l1 k m at_ c (acc ++ outs c (es.take q)) i es q) r := by
  induction d with
  | zero =>
    intro q hq hd
    obtain rfl : q = es.length := by omega
    refine Ev.step (fun k => ?_) hn
    simp only [phalaroperef16_Step.l1]
    rw [if_neg (nltc _ _ (Nat.le_refl _)), List.take_length, wrap1 i (by omega)]
  | succ d ih =>
    intro q hq hd
    have hql : q < es.length := by omega
    have h1 := ih (q + 1) (by omega) (by omega)
    have e : outs c (es.take (q + 1)) = outs c (es.take q) ++ (if (ed74 es[q]).has c = true then [es[q].f2] else []) := by
      unfold outs
      rw [List.take_succ_eq_append_getElem hql, List.filter_append, List.map_append]
      congr 1
      by_cases hh : (ed74 es[q]).has c = true
      · simp [hh]
      · simp [hh]
    rw [e] at h1
    have hol := outs_len c (es.take q)
    have hol2 : (es.take q).length ≤ es.length := by simp; omega
    refine Ev.step (fun k => ?_) h1
    simp only [phalaroperef16_Step.l1]
    rw [if_pos (ltc _ _ hql), if_pos (by omega), rd74n es q hql, wrap1 q (by omega)]
    by_cases c1 : c ≥ es[q].f0
    · rw [if_pos c1]
      by_cases c2 : c ≤ es[q].f1
      · have hh : (ed74 es[q]).has c = true := by unfold Ed.has ed74; simp; omega
        rw [if_pos c2, if_pos (by rw [List.length_append]; omega), if_pos hh, List.append_assoc]
      · have hh : ¬ (ed74 es[q]).has c = true := by unfold Ed.has ed74; simp; omega
        rw [if_neg c2, if_neg hh, List.append_nil]
    · have hh : ¬ (ed74 es[q]).has c = true := by unfold Ed.has ed74; simp; omega
      rw [if_neg c1, if_neg hh, List.append_nil]
theorem rstep_l0 (m : List S46) (hm : m.length ≤ 1000) (hz : ∀ x ∈ m, x.f1.length ≤ 1000 ∧ x.f2.length ≤ 1000) (at_ : List Int) (ha : at_.length ≤ 1000) (c : Int) (d : Nat) :
    ∀ i : Nat, i ≤ at_.length → at_.length - i = d → Ev (fun k => phalaroperef16_Step.l0 k m at_ c (nexts (N46 m) (at_.take i) c) i) (stepL (N46 m) at_ c) := by
  induction d with
  | zero =>
    intro i hi hd
    obtain rfl : i = at_.length := by omega
    have hl := nexts_len m (fun x hx => (hz x hx).1) c at_ at_.length (Nat.le_refl _)
    rw [List.take_length] at hl ⊢
    refine Ev.step (f := fun k => (phalaroperef16_Close.f k m (nexts (N46 m) at_ c)).bind fun t => some t) (fun k => ?_) (Ev.bind (refclose_ev m hm hz _ (by omega)) (Ev.now _))
    simp only [phalaroperef16_Step.l0]
    rw [if_neg (nltc _ _ (Nat.le_refl _))]
  | succ d ih =>
    intro i hi hd
    have hlt : i < at_.length := by omega
    have h1 := ih (i + 1) (by omega) (by omega)
    rw [List.take_succ_eq_append_getElem hlt, nexts_snoc] at h1
    have hl := nexts_len m (fun x hx => (hz x hx).1) c at_ i hi
    by_cases hv : valid (N46 m) at_[i]
    · rw [if_pos hv] at h1
      have hv' := hv
      unfold valid at hv'
      rw [N46_length] at hv'
      obtain ⟨j, hj⟩ := Int.eq_ofNat_of_zero_le hv'.1
      have hjl : j < m.length := by omega
      have hes : (rd_T46 m at_[i]).f1.length ≤ 1000 := by rw [hj, rd46n m j hjl]; exact (hz _ (List.getElem_mem _)).1
      refine Ev.step (g := fun k => phalaroperef16_Step.l0 k m at_ c (nexts (N46 m) (at_.take i) c) i) (f := fun k => phalaroperef16_Step.j1 k m at_ c (nexts (N46 m) (at_.take i) c) i false) (fun k => ?_) (Ev.step (fun k => ?_) (rstep_l1 m at_ c i (by omega) _ hes (nexts (N46 m) (at_.take i) c) (by omega) _ h1 _ 0 (Nat.zero_le _) rfl))
      · simp only [phalaroperef16_Step.l0]
        rw [if_pos (ltc _ _ hlt), if_pos (by omega), rdn at_ i hlt, if_neg (by omega), decide_eq_false (by omega)]
      · simp only [phalaroperef16_Step.j1]
        rw [if_neg (by simp), if_pos (by omega), if_pos (ltc _ _ hlt), rdn at_ i hlt, if_pos hv'.1, if_pos hv'.2]
        simp [outs]
    · rw [if_neg hv, List.append_nil] at h1
      unfold valid at hv
      rw [N46_length] at hv
      refine Ev.step (g := fun k => phalaroperef16_Step.l0 k m at_ c (nexts (N46 m) (at_.take i) c) i) (f := fun k => phalaroperef16_Step.j1 k m at_ c (nexts (N46 m) (at_.take i) c) i true) (fun k => ?_) (Ev.step (fun k => ?_) h1)
      · simp only [phalaroperef16_Step.l0]
        rw [if_pos (ltc _ _ hlt), if_pos (by omega), rdn at_ i hlt]
        by_cases h0 : at_[i] < 0
        · rw [if_pos h0]
        · rw [if_neg h0, decide_eq_true (by omega)]
      · simp only [phalaroperef16_Step.j1]
        rw [if_pos trivial, wrap1 i (by omega)]
theorem refstep_ev (m : List S46) (hm : m.length ≤ 1000) (hz : ∀ x ∈ m, x.f1.length ≤ 1000 ∧ x.f2.length ≤ 1000) (at_ : List Int) (ha : at_.length ≤ 1000) (c : Int) : Ev (fun k => phalaroperef16_Step.f k m at_ c) (stepL (N46 m) at_ c) := by
  refine Ev.congr (f := fun k => (phalaroperef16_May.f k m).bind fun t => if t = true then phalaroperef16_Step.l0 k m at_ c [] 0 else some []) (fun k => rfl) (Ev.bind (may_ev m hm hz) ?_)
  cases hM : mayB (N46 m) with
  | true =>
    refine Ev.congr (fun k => ?_) (rstep_l0 m hm hz at_ ha c _ 0 (Nat.zero_le _) rfl)
    rw [if_pos rfl]
    simp [nexts]
  | false =>
    have e : stepL (N46 m) at_ c = [] := by unfold stepL closeL; rw [hM]; rfl
    rw [e]
    exact Ev.now _

/-! ### Accepts -/
theorem ended_ev (m : List S46) (at_ : List Int) (hv : ∀ a ∈ at_, valid (N46 m) a) (ha : at_.length ≤ 1000000) : Ev (fun k => phalaroperef16_Ended.f k m at_) (endedB (N46 m) at_) := by
  have loop : ∀ d i : Nat, i ≤ at_.length → at_.length - i = d → Ev (fun k => phalaroperef16_Ended.l0 k m at_ i) ((at_.drop i).any (fun a => decide ((nd (N46 m) a).kind = 4))) := by
    intro d
    induction d with
    | zero =>
      intro i hi hd
      obtain rfl : i = at_.length := by omega
      rw [List.drop_length]
      refine Ev.step (f := fun _ => some false) (fun k => ?_) (Ev.now _)
      simp only [phalaroperef16_Ended.l0]
      rw [if_neg (nltc _ _ (Nat.le_refl _))]
    | succ d ih =>
      intro i hi hd
      have hlt : i < at_.length := by omega
      have h1 := ih (i + 1) (by omega) (by omega)
      have hva := hv _ (List.getElem_mem hlt)
      unfold valid at hva
      rw [N46_length] at hva
      obtain ⟨j, hj⟩ := Int.eq_ofNat_of_zero_le hva.1
      have hjl : j < m.length := by omega
      rw [List.drop_eq_getElem_cons hlt, List.any_cons, hj, nd_N46 m j hjl]
      have hk : (n46 m[j]).kind = m[j].f0 := rfl
      rw [hk]
      by_cases h4 : m[j].f0 = 4
      · rw [decide_eq_true h4, Bool.true_or]
        refine Ev.step (f := fun _ => some true) (fun k => ?_) (Ev.now _)
        simp only [phalaroperef16_Ended.l0]
        rw [if_pos (ltc _ _ hlt), if_pos (by omega), rdn at_ i hlt, hj, if_pos (by omega), if_pos (ltc _ _ hjl), rd46n m j hjl, if_pos h4]
      · rw [decide_eq_false h4, Bool.false_or]
        refine Ev.step (fun k => ?_) h1
        simp only [phalaroperef16_Ended.l0]
        rw [if_pos (ltc _ _ hlt), if_pos (by omega), rdn at_ i hlt, hj, if_pos (by omega), if_pos (ltc _ _ hjl), rd46n m j hjl, if_neg h4, wrap1 i (by omega)]
  exact Ev.congr (fun _ => rfl) (loop _ 0 (Nat.zero_le _) rfl)
theorem runL_len (m : List Nd) (s : List Int) : (runL m s).length ≤ m.length := by
  have key : ∀ {l1 l2 : List Int}, l1.Pairwise (· < ·) → (∀ x ∈ l1, x ∈ l2) → l1.length ≤ l2.length := by
    intro l1
    induction l1 with
    | nil => intro l2 _ _; exact Nat.zero_le _
    | cons x xs ih =>
      intro l2 hp hs
      rw [List.pairwise_cons] at hp
      have hx := hs x List.mem_cons_self
      have h1 := ih (l2 := l2.erase x) hp.2 (fun y hy => (List.mem_erase_of_ne (by have := hp.1 y hy; omega)).2 (hs y (List.mem_cons_of_mem _ hy)))
      rw [List.length_erase_of_mem hx] at h1
      have := List.length_pos_of_mem hx
      simp only [List.length_cons]
      omega
  have hs : (runL m s).Pairwise (· < ·) := by
    unfold runL
    rcases List.eq_nil_or_concat s with rfl | ⟨l', x, rfl⟩
    · exact closeL_sorted m _
    · rw [List.concat_eq_append, List.foldl_append]
      exact closeL_sorted m _
  have := key (l2 := (List.range m.length).map Int.ofNat) hs (fun j hj => by
    have hv := runL_valid hj
    exact List.mem_map.2 ⟨j.toNat, List.mem_range.2 (by have := hv.1; have := hv.2; omega), by have := hv.1; simp; omega⟩)
  simpa using this
theorem refaccepts_ev (m : List S46) (hm : m.length ≤ 1000) (hz : ∀ x ∈ m, x.f1.length ≤ 1000 ∧ x.f2.length ≤ 1000) (s : ByteArray) (hs : s.size ≤ 1000000) : Ev (fun k => phalaroperef16_Accepts.f k m s) (acceptsB (N46 m) (bts s)) := by
  have loop : ∀ d i : Nat, i ≤ s.size → s.size - i = d → Ev (fun k => phalaroperef16_Accepts.l0 k m s (runL (N46 m) (upto s i)) i) (acceptsB (N46 m) (bts s)) := by
    intro d
    induction d with
    | zero =>
      intro i hi hd
      obtain rfl : i = s.size := by omega
      have hl := runL_len (N46 m) (upto s s.size)
      rw [N46_length] at hl
      refine Ev.step (f := fun k => (phalaroperef16_Ended.f k m (runL (N46 m) (upto s s.size))).bind fun t => some t) (fun k => ?_) (Ev.bind (ended_ev m _ (fun a ha => runL_valid ha) (by omega)) (Ev.now _))
      simp only [phalaroperef16_Accepts.l0]
      rw [if_neg (nltc _ _ (Nat.le_refl _))]
    | succ d ih =>
      intro i hi hd
      have hlt : i < s.size := by omega
      have h1 := ih (i + 1) (by omega) (by omega)
      have hl := runL_len (N46 m) (upto s i)
      rw [N46_length] at hl
      rw [run_snoc] at h1
      refine Ev.step (f := fun k => (phalaroperef16_Step.f k m (runL (N46 m) (upto s i)) (bt s i)).bind fun t => phalaroperef16_Accepts.l0 k m s t ((i + 1 : Nat) : Int)) (fun k => ?_) (Ev.bind (refstep_ev m hm hz _ (by omega) _) h1)
      simp only [phalaroperef16_Accepts.l0]
      rw [if_pos (ltc _ _ hlt), if_pos (by omega), wrap1 i (by omega)]
  exact Ev.congr (fun _ => rfl) (Ev.bind (f := fun k t => phalaroperef16_Accepts.l0 k m s t 0) (refclose_ev m hm hz [0] (by simp)) (loop _ 0 (Nat.zero_le _) rfl))

/-! ### the references' calls -/
section
variable (A : Option Addr) (c : Nat) (m : List S46) (w : World) (hC : Kd.C k46 w A m.length m) (hc : m.length ≤ c) (hm : m.length ≤ 1000) (hz : ∀ x ∈ m, x.f1.length ≤ 1000 ∧ x.f2.length ≤ 1000)
include hC hc hm hz
theorem refclose_calls (A1 : Option Addr) (c1 : Nat) (at_ : List Int) (hC1 : (Kd.int .i64).C w A1 at_.length at_) (hc1 : at_.length ≤ c1) (ha : at_.length ≤ 1000000) :
    Calls Try.prog 26 #[.slice A m.length c, .slice A1 at_.length c1] w fun e w' => ∃ v, e = .returned v ∧ Kd.R (Kd.int .i64) 3 w' w.heap.size (fun _ => True) v (closeL (N46 m) at_) ∧ Below w.heap.size w w' := by
  obtain ⟨k, hk⟩ := (refclose_ev m hm hz at_ ha).rounds
  exact phalaroperef16_Close.calls k A c m A1 c1 at_ _ w hC hc hC1 hc1 hk
theorem refstep_calls (A1 : Option Addr) (c1 : Nat) (at_ : List Int) (ch : Int) (hC1 : (Kd.int .i64).C w A1 at_.length at_) (hc1 : at_.length ≤ c1) (ha : at_.length ≤ 1000) :
    Calls Try.prog 28 #[.slice A m.length c, .slice A1 at_.length c1, .int .u8 ch] w fun e w' => ∃ v, e = .returned v ∧ Kd.R (Kd.int .i64) 3 w' w.heap.size (fun _ => True) v (stepL (N46 m) at_ ch) ∧ Below w.heap.size w w' := by
  obtain ⟨k, hk⟩ := (refstep_ev m hm hz at_ ha ch).rounds
  exact phalaroperef16_Step.calls k A c m A1 c1 at_ ch _ w hC hc hC1 hc1 hk
theorem refaccepts_calls (s : ByteArray) (hs : s.size ≤ 1000000) :
    Calls Try.prog 29 #[.slice A m.length c, .string s] w fun e w' => e = .returned (.bool (acceptsB (N46 m) (bts s))) ∧ Below w.heap.size w w' := by
  obtain ⟨k, hk⟩ := (refaccepts_ev m hm hz s hs).rounds
  exact phalaroperef16_Accepts.calls k A c m s _ w hC hc hk
end
end Go.Proofs.Ytolfamfgoafhlaa.M
