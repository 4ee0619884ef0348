import Derived.Test.YtolfamfgoafhlaaX8
import Derived.Test.YtolfamfgoafhlaaR3
namespace Go.Proofs.Ytolfamfgoafhlaa.M
open Go.RowKit Go.Proofs.YtolfamfgoafhlaaW.PrintWords Go.Proofs.YtolfamfgoafhlaaW.PrintLast Go.Proofs.YtolfamfgoafhlaaW.PrintMore
open Go.Proofs.Ytolfamfgoafhlaa.P Go.Proofs.Ytolfamfgoafhlaa.L

/-! ### the plain law: marks play no part, nor does an end that nothing leads to -/
theorem upB_more {i many x : Int} (h : upB i many x = true) : upB i (many + 1) x = true := by
  unfold upB at *
  simp only [Bool.and_eq_true, decide_eq_true_eq] at *
  omega
theorem edgeOk_more {many : Int} {e : Ed} (h : edgeOk many e = true) : edgeOk (many + 1) e = true := by
  unfold edgeOk at *
  simp only [Bool.and_eq_true, decide_eq_true_eq] at *
  omega
/-- m' has m's nodes but for their marks, and one end more. -/
structure More (m m' : List Nd) : Prop where
  len : m'.length = m.length + 1
  kind : ∀ i : Nat, i < m.length → (nd m' i).kind = (nd m i).kind
  es : ∀ i : Nat, i < m.length → (nd m' i).es = (nd m i).es
  fs : ∀ i : Nat, i < m.length → (nd m' i).fs = (nd m i).fs
  dst : ∀ i : Nat, i < m.length → (nd m' i).dst = (nd m i).dst
  last : nodeOk (nd m' (m.length : Nat)) (m.length : Nat) ((m.length : Int) + 1) = true
namespace More
variable {m m' : List Nd}
theorem may (h : More m m') (hl : m.length ≤ 1000) (hm : mayB m = true) : mayB m' = true := by
  obtain ⟨h1, h2, h3⟩ := (may_iff m).1 hm
  rw [may_iff, h.len]
  refine ⟨by omega, by omega, fun i hi => ?_⟩
  rcases Nat.lt_or_ge i m.length with hlt | hge
  · have := h3 i hlt
    unfold nodeOk at this ⊢
    rw [h.kind i hlt, h.es i hlt, h.fs i hlt, h.dst i hlt]
    push_cast
    split
    · rename_i hk
      rw [if_pos hk] at this
      simp only [Bool.and_eq_true] at this ⊢
      refine ⟨this.1, this.2.1, ?_⟩
      have h4 := (edgesOk_iff _ _).1 this.2.2
      exact (edgesOk_iff _ _).2 ⟨fun e he => edgeOk_more (h4.1 e he), h4.2⟩
    · rename_i hk
      rw [if_neg hk] at this
      split
      · rename_i hk2
        rw [if_pos hk2] at this
        simp only [Bool.and_eq_true] at this ⊢
        refine ⟨this.1, this.2.1, ?_⟩
        rw [List.all_eq_true] at *
        exact fun x hx => upB_more (this.2.2 x hx)
      · rename_i hk2
        rw [if_neg hk2] at this
        split
        · rename_i hk3
          rw [if_pos hk3] at this
          simp only [Bool.and_eq_true] at this ⊢
          exact ⟨this.1, this.2.1, upB_more this.2.2⟩
        · rename_i hk3
          rw [if_neg hk3] at this
          exact this
  · obtain rfl : i = m.length := by omega
    have := h.last
    push_cast
    exact this
theorem valid (h : More m m') {a : Int} (ha : L.valid m a) : L.valid m' a := ⟨ha.1, by have := ha.2; rw [h.len]; omega⟩
theorem ndi (_ : More m m') {a : Int} (ha : L.valid m a) : ∃ i : Nat, a = i ∧ i < m.length := ⟨a.toNat, by have := ha.1; omega, by have := ha.1; have := ha.2; omega⟩
theorem succ (h : More m m') {a : Int} (ha : L.valid m a) : L.succ (nd m' a) = L.succ (nd m a) := by
  obtain ⟨i, rfl, hi⟩ := h.ndi ha
  unfold L.succ
  rw [h.kind i hi, h.fs i hi, h.dst i hi]
theorem reach (h : More m m') (hm : mayB m = true) {a b : Int} (ha : L.valid m a) : L.Reach m' a b ↔ L.Reach m a b := by
  constructor
  · intro hr
    induction hr with
    | refl _ => exact .refl ha
    | step _ hc ih => exact ih.step (by rwa [h.succ (ih.valid_ hm)] at hc)
  · intro hr
    induction hr with
    | refl _ => exact .refl (h.valid ha)
    | step hr' hc ih => exact ih.step (by rw [h.succ (hr'.valid_ hm)]; exact hc)
theorem close (h : More m m') (hl : m.length ≤ 1000) (hm : mayB m = true) {at_ : List Int} (ha : ∀ a ∈ at_, L.valid m a) : closeL m' at_ = closeL m at_ := by
  refine (closeL_ext (h.may hl hm) (closeL_sorted m at_) (fun j => ?_)).symm
  rw [mem_closeL hm]
  exact ⟨fun ⟨a, h1, h2⟩ => ⟨a, h1, (h.reach hm (ha a h1)).2 h2⟩, fun ⟨a, h1, h2⟩ => ⟨a, h1, (h.reach hm (ha a h1)).1 h2⟩⟩
theorem run (h : More m m') (hl : m.length ≤ 1000) (hm : mayB m = true) (s : List Int) : runL m' s = runL m s ∧ ∀ a ∈ runL m s, L.valid m a := by
  refine ⟨?_, fun a ha => runL_valid ha⟩
  have key : ∀ (n : Nat) (s : List Int), s.length = n → runL m' s = runL m s := by
    intro n
    induction n with
    | zero =>
      intro s hs
      obtain rfl := List.eq_nil_of_length_eq_zero hs
      refine h.close hl hm (fun a ha => ?_)
      obtain rfl := List.mem_singleton.1 ha
      exact ⟨Int.le_refl _, by have := ((may_iff m).1 hm).1; omega⟩
    | succ n ih =>
      intro s hs
      rcases List.eq_nil_or_concat s with rfl | ⟨s', c, rfl⟩
      · simp at hs
      · have h1 := ih s' (by simpa using hs)
        rw [List.concat_eq_append]
        unfold runL at h1 ⊢
        rw [List.foldl_append, List.foldl_append, h1]
        show stepL m' _ c = stepL m _ c
        generalize hq : List.foldl (fun at_ c => stepL m at_ c) (closeL m [0]) s' = q
        have hv : ∀ a ∈ q, L.valid m a := fun a ha => by rw [← hq] at ha; exact runL_valid (l := s') ha
        unfold stepL
        have e : nexts m' q c = nexts m q c := by
          unfold nexts
          have e1 : q.filter (fun a => decide (L.valid m' a)) = q := List.filter_eq_self.2 (fun a ha => decide_eq_true (h.valid (hv a ha)))
          have e2 : q.filter (fun a => decide (L.valid m a)) = q := List.filter_eq_self.2 (fun a ha => decide_eq_true (hv a ha))
          rw [e1, e2]
          have e3 : ∀ a ∈ q, ((nd m' a).es.filter (fun e => e.has c)).map Ed.dst = ((nd m a).es.filter (fun e => e.has c)).map Ed.dst := fun a ha => by
            obtain ⟨i, rfl, hi⟩ := h.ndi (hv a ha)
            rw [h.es i hi]
          clear hq e1 e2 hv h1 ih hs
          induction q with
          | nil => rfl
          | cons a tl iha =>
            rw [List.flatMap_cons, List.flatMap_cons, e3 a List.mem_cons_self, iha (fun b hb => e3 b (List.mem_cons_of_mem _ hb))]
        rw [e]
        exact h.close hl hm (fun a ha => nexts_valid hm ha)
  exact key _ s rfl
theorem accepts (h : More m m') (hl : m.length ≤ 1000) (hm : mayB m = true) (s : List Int) : acceptsB m' s = acceptsB m s := by
  obtain ⟨h1, h2⟩ := h.run hl hm s
  unfold acceptsB endedB
  rw [h1]
  generalize runL m s = q at *
  clear h1
  induction q with
  | nil => rfl
  | cons a tl ih =>
    rw [List.any_cons, List.any_cons, ih (fun b hb => h2 b (List.mem_cons_of_mem _ hb))]
    obtain ⟨i, rfl, hi⟩ := h.ndi (h2 a List.mem_cons_self)
    rw [h.kind i hi]
end More

/-! ### the marked nodes -/
def tg (t : Int) (x : S33) : S33 := ⟨x.f0, x.f1, x.f2, t, x.f4⟩
def tgV (t : Int) (x : V.S33) : V.S33 := ⟨x.f0, x.f1, x.f2, t, x.f4⟩
def tagL (l : List S46) (t : Int) : List S33 := (P33s l).map (tg t) ++ [⟨4, [], [], 0, 0⟩]
theorem tag_rel {w : World} {l : List S46} {rv : List V.S33} (t : Int) (h : VRs w (P33s l) rv) : VRs w (tagL l t) (rv.map (tgV t) ++ [⟨4, [], V.svNil, 0, 0⟩]) := by
  refine VRs.snoc ⟨by simp [h.1], fun j x y hx hy => ?_⟩ ⟨rfl, rfl, rfl, Nat.le_refl _, int_nil _, rfl, rfl⟩
  rw [List.getElem?_map] at hx hy
  obtain ⟨x', hx', rfl⟩ := Option.map_eq_some_iff.1 hx
  obtain ⟨y', hy', rfl⟩ := Option.map_eq_some_iff.1 hy
  obtain ⟨r0, r1, r2, r3, r4, r5, r6⟩ := h.2 j x' y' hx' hy'
  exact ⟨r0, r1, r2, r3, r4, rfl, r6⟩
theorem tag_fit {l : List S46} (t : Int) (h : Small l) (hok : ∀ x ∈ l, Ok46 x) : Fit (tagL l t) := by
  refine fit_snoc (fun x hx => ?_) ⟨by simp, by simp, fun e he => by cases he⟩
  obtain ⟨y, hy, rfl⟩ := List.mem_map.1 hx
  exact made_fit h hok y hy
theorem tag_more (l : List S46) (t : Int) : More (N46 l) (N33 (tagL l t)) := by
  have e : ∀ i : Nat, (h : i < l.length) → nd (N33 (tagL l t)) i = nn (tg t (p33 l[i])) := fun i h => by
    rw [nd_N33 _ _ (by simp [tagL, P33s]; omega)]
    congr 1
    simp only [rd_T33, tagL, Int.toNat_natCast, List.getD_eq_getElem?_getD]
    rw [List.getElem?_append_left (by simp [P33s]; exact h)]
    simp [P33s, List.getElem?_eq_getElem h]
  have e2 : ∀ i : Nat, (h : i < l.length) → nd (N46 l) i = n46 l[i] := fun i h => nd_N46 l i h
  refine ⟨by simp [N33_length, N46_length, tagL, P33s], fun i hi => ?_, fun i hi => ?_, fun i hi => ?_, fun i hi => ?_, ?_⟩
  · rw [N46_length] at hi; rw [e i hi, e2 i hi]; rfl
  · rw [N46_length] at hi; rw [e i hi, e2 i hi]; simp [nn, tg, p33, n46, List.map_map, Function.comp_def, ed, ed74]
  · rw [N46_length] at hi; rw [e i hi, e2 i hi]; rfl
  · rw [N46_length] at hi; rw [e i hi, e2 i hi]; rfl
  · rw [N46_length, nd_N33 _ _ (by simp [tagL, P33s])]
    have : rd_T33 (tagL l t) ((l.length : Nat) : Int) = ⟨4, [], [], 0, 0⟩ := by
      simp only [rd_T33, tagL, Int.toNat_natCast, List.getD_eq_getElem?_getD]
      rw [List.getElem?_append_right (by simp [P33s])]
      simp [P33s]
    rw [this]
    simp [nodeOk, nn]
end Go.Proofs.Ytolfamfgoafhlaa.M
