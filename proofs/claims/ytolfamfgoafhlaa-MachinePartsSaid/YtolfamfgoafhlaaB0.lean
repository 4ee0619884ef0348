import Derived.Test.YtolfamfgoafhlaaV0
import Derived.Test.YtolfamfgoafhlaaP0
import Derived.Test.YtolfamfgoafhlaaM5
import Derived.Test.YtolfamfgoafhlaaR1
import Derived.Test.YtolfamfgoafhlaaD1
namespace Go.Proofs.Ytolfamfgoafhlaa.M
open Go.RowKit Go.Proofs.YtolfamfgoafhlaaW.PrintWords Go.Proofs.YtolfamfgoafhlaaW.PrintLast Go.Proofs.YtolfamfgoafhlaaW.PrintMore
open Go.Proofs.Ytolfamfgoafhlaa.P Go.Proofs.Ytolfamfgoafhlaa.L

/-! ### what the statements' 'made' builds: the references' nodes, as the program has them -/
theorem C_trans {α β : Type} {d : Kd α} {d' : Kd β} (hsz : d.sz = d'.sz) {w : World} {A : Option Addr} {xs : List α} {ys : List β} (hl : ys.length = xs.length) (h : ∀ (j : Nat) (x : α) (y : β) (cs : List Value), xs[j]? = some x → ys[j]? = some y → d.K w x cs → d'.K w y cs)
    (hC : d.C w A xs.length xs) : d'.C w A ys.length ys := by
  rw [hl]
  refine ⟨hl, hC.2.1, fun hn => ?_⟩
  obtain ⟨ad, e, hc⟩ := hC.2.2 hn
  refine ⟨ad, e, fun j y hy => ?_⟩
  have hj : j < xs.length := by
    rw [← hl]
    rcases Nat.lt_or_ge j ys.length with h1 | h1
    · exact h1
    · rw [List.getElem?_eq_none h1] at hy; cases hy
  obtain ⟨c, c1, c2, c3⟩ := hc j _ (List.getElem?_eq_getElem hj)
  exact ⟨c, by rw [c1, hsz], h j _ y c (List.getElem?_eq_getElem hj) hy c2, by rw [← hsz]; exact c3⟩
theorem C_map {α β : Type} {d : Kd α} {d' : Kd β} (f : α → β) (hsz : d.sz = d'.sz) {w : World} {A : Option Addr} {xs : List α} (h : ∀ (x : α) (cs : List Value), d.K w x cs → d'.K w (f x) cs)
    (hC : d.C w A xs.length xs) : d'.C w A xs.length (xs.map f) := by
  have := C_trans (ys := xs.map f) hsz (by simp) (fun j x y cs hx hy hk => by
    rw [List.getElem?_map, hx] at hy
    obtain rfl := Option.some.inj hy
    exact h x cs hk) hC
  rwa [List.length_map] at this
/-- Elements of the one kind, read as the other. -/
theorem C_rel {α β : Type} {d : Kd α} {d' : Kd β} {Rel : α → β → Prop} (hsz : d.sz = d'.sz) {w : World} {A : Option Addr} {xs : List α} (h : ∀ (x : α) (cs : List Value), d.K w x cs → ∃ y, d'.K w y cs ∧ Rel x y)
    (hC : d.C w A xs.length xs) : ∃ ys : List β, ys.length = xs.length ∧ d'.C w A ys.length ys ∧ ∀ (j : Nat) (x : α) (y : β), xs[j]? = some x → ys[j]? = some y → Rel x y := by
  rcases Nat.eq_zero_or_pos xs.length with h0 | hpos
  · obtain rfl := List.eq_nil_of_length_eq_zero h0
    exact ⟨[], rfl, ⟨rfl, by simp, fun h => absurd h (by simp)⟩, fun j x y hx => by simp at hx⟩
  · obtain ⟨ad, e, hc⟩ := hC.2.2 hpos
    have key : ∀ j, j < xs.length → ∃ y : β, (∀ x, xs[j]? = some x → Rel x y) ∧ ∃ c, c.length = d'.sz ∧ d'.K w y c ∧ ∀ i u, c[i]? = some u → w.cell? (ad.add (j * d'.sz + i)) = some u := fun j hj => by
      obtain ⟨c, c1, c2, c3⟩ := hc j _ (List.getElem?_eq_getElem hj)
      obtain ⟨y, k1, k2⟩ := h _ c c2
      exact ⟨y, fun x hx => by rw [List.getElem?_eq_getElem hj] at hx; rw [← Option.some.inj hx]; exact k2, c, by rw [c1, hsz], k1, by rw [← hsz]; exact c3⟩
    obtain ⟨y0, _⟩ := key 0 hpos
    haveI : Inhabited β := ⟨y0⟩
    obtain ⟨Y, hY⟩ := Go.Deep.choose_lt key
    have hll : ((List.range xs.length).map Y).length = xs.length := by simp
    have hat : ∀ (j : Nat) (y : β), ((List.range xs.length).map Y)[j]? = some y → j < xs.length ∧ y = Y j := fun j y hy => by
      have hjl : j < xs.length := by
        rcases Nat.lt_or_ge j xs.length with h1 | h1
        · exact h1
        · rw [List.getElem?_eq_none (by rw [hll]; exact h1)] at hy; cases hy
      simp [List.getElem?_map, List.getElem?_range hjl] at hy
      exact ⟨hjl, hy.symm⟩
    refine ⟨(List.range xs.length).map Y, hll, ⟨rfl, by rw [hll]; exact hC.2.1, fun _ => ⟨ad, e, fun j y hy => ?_⟩⟩, fun j x y hx hy => ?_⟩
    · obtain ⟨hj, rfl⟩ := hat j y hy
      exact (hY j hj).2
    · obtain ⟨hj, rfl⟩ := hat j y hy
      exact (hY j hj).1 x hx

def p33 (x : S46) : S33 := ⟨x.f0, x.f1.map (fun e => ⟨e.f0, e.f1, e.f2⟩), x.f2, x.f3, x.f4⟩
theorem nn_p33 (x : S46) : nn (p33 x) = n46 x := by simp [nn, p33, n46, List.map_map, Function.comp_def, ed, ed74]
def P33s (l : List S46) : List S33 := l.map p33
theorem P33s_length (l : List S46) : (P33s l).length = l.length := by simp [P33s]
theorem N33_p33 (l : List S46) : N33 (P33s l) = N46 l := by simp [P33s, N33, N46, List.map_map, Function.comp_def, nn_p33]

/-- A node whose row of forks is carried as the value that it is. -/
def VR46 (w : World) (x : S46) (y : V.S46) : Prop := y.f0 = x.f0 ∧ y.f1 = x.f1.map (fun e => (⟨e.f0, e.f1, e.f2⟩ : V.S74)) ∧ y.f2.n = x.f2.length ∧ y.f2.n ≤ y.f2.c ∧ (Kd.int .i64).C w y.f2.A x.f2.length x.f2 ∧ y.f3 = x.f3 ∧ y.f4 = x.f4
theorem to_V46 {w : World} {x : S46} {cs : List Value} (h : k46.K w x cs) : ∃ y, V.k46.K w y cs ∧ VR46 w x y := by
  obtain ⟨A1, c1, A2, c2, rfl, l1, g1, l2, g2⟩ := k46_open h
  have g1' := C_map (d' := V.k74) (fun e : S74 => (⟨e.f0, e.f1, e.f2⟩ : V.S74)) rfl (fun x cs hk => by obtain rfl := k74_open hk; exact V.k74_mk w _) g1
  refine ⟨⟨x.f0, x.f1.map (fun e => (⟨e.f0, e.f1, e.f2⟩ : V.S74)), ⟨A2, x.f2.length, c2⟩, x.f3, x.f4⟩, ?_, rfl, rfl, rfl, l2, g2, rfl, rfl⟩
  have := V.k46_mk w ⟨x.f0, x.f1.map (fun e => (⟨e.f0, e.f1, e.f2⟩ : V.S74)), ⟨A2, x.f2.length, c2⟩, x.f3, x.f4⟩ (A1 := A1) (c1 := c1) (by simpa using l1) (by simpa using g1')
  simpa using this
/-- The program's node, its forks carried. -/
def VR33 (w : World) (x : S33) (y : V.S33) : Prop := y.f0 = x.f0 ∧ y.f1 = x.f1.map (fun e => (⟨e.f0, e.f1, e.f2⟩ : V.S72)) ∧ y.f2.n = x.f2.length ∧ y.f2.n ≤ y.f2.c ∧ (Kd.int .i64).C w y.f2.A x.f2.length x.f2 ∧ y.f3 = x.f3 ∧ y.f4 = x.f4
theorem of_V33 {w : World} {x : S33} {y : V.S33} {cs : List Value} (h : V.k33.K w y cs) (hr : VR33 w x y) : k33.K w x cs := by
  obtain ⟨A1, c1, rfl, l1, g1⟩ := V.k33_open h
  obtain ⟨r0, r1, r2, r3, r4, r5, r6⟩ := hr
  obtain ⟨y0, y1, ⟨yA, yn, yc⟩, y3, y4⟩ := y
  simp only at r0 r1 r2 r3 r4 r5 r6 l1 g1 ⊢
  subst r0 r1 r2 r5 r6
  have g1' := C_map (d' := k72) (fun e : V.S72 => (⟨e.f0, e.f1, e.f2⟩ : S72)) rfl (fun x cs hk => by obtain rfl := V.k72_open hk; exact k72_mk w _) g1
  simp only [List.length_map, List.map_map] at l1 g1'
  have e : x.f1.map ((fun e : V.S72 => (⟨e.f0, e.f1, e.f2⟩ : S72)) ∘ fun e : S72 => (⟨e.f0, e.f1, e.f2⟩ : V.S72)) = x.f1 := by
    rw [show ((fun e : V.S72 => (⟨e.f0, e.f1, e.f2⟩ : S72)) ∘ fun e : S72 => (⟨e.f0, e.f1, e.f2⟩ : V.S72)) = id from rfl, List.map_id]
  rw [e] at g1'
  have := k33_mk w x l1 g1' r3 r4
  simpa using this
def VRs (w : World) (l : List S33) (rv : List V.S33) : Prop := rv.length = l.length ∧ ∀ (j : Nat) (x : S33) (y : V.S33), l[j]? = some x → rv[j]? = some y → VR33 w x y
theorem VR33.below {w w' : World} {x : S33} {y : V.S33} (h : VR33 w x y) (hb : Below w.heap.size w w') : VR33 w' x y := ⟨h.1, h.2.1, h.2.2.1, h.2.2.2.1, Kd.C_below h.2.2.2.2.1 hb, h.2.2.2.2.2⟩
theorem VRs.below {w w' : World} {l : List S33} {rv : List V.S33} (h : VRs w l rv) (hb : Below w.heap.size w w') : VRs w' l rv := ⟨h.1, fun j x y hx hy => (h.2 j x y hx hy).below hb⟩
theorem VRs.C {w : World} {l : List S33} {rv : List V.S33} (h : VRs w l rv) {A : Option Addr} (hC : V.k33.C w A rv.length rv) : k33.C w A l.length l :=
  C_trans (d := V.k33) (d' := k33) rfl h.1.symm (fun j x y _ hx hy hk => of_V33 hk (h.2 j y x hy hx)) hC
def mkV (x : V.S46) : V.S33 := ⟨x.f0, x.f1.map (fun e => ⟨e.f0, e.f1, e.f2⟩), x.f2, x.f3, x.f4⟩
theorem vrd46n (l : List V.S46) (k : Nat) (h : k < l.length) : V.rd_T46 l (k : Int) = l[k] := by simp [V.rd_T46, List.getD_eq_getElem?_getD, List.getElem?_eq_getElem h]
theorem vrd74n (l : List V.S74) (k : Nat) (h : k < l.length) : V.rd_T74 l (k : Int) = l[k] := by simp [V.rd_T74, List.getD_eq_getElem?_getD, List.getElem?_eq_getElem h]
/-- What the nodes' own sizes must be. -/
def Small (l : List S46) : Prop := l.length ≤ 1000000 ∧ ∀ x ∈ l, x.f1.length ≤ 1000000 ∧ x.f2.length ≤ 1000000
theorem fewB_small {l : List S46} (h : fewB l = true) : l.length ≤ 60 ∧ ∀ x ∈ l, x.f1.length ≤ 20 ∧ x.f2.length ≤ 20 := by
  unfold fewB at h
  rw [Bool.and_eq_true, List.all_eq_true] at h
  refine ⟨by simpa using h.1, fun x hx => ?_⟩
  have := h.2 x hx
  simpa using this
theorem fewB_Small {l : List S46} (h : fewB l = true) : Small l := by
  obtain ⟨h1, h2⟩ := fewB_small h
  exact ⟨by omega, fun x hx => by have := h2 x hx; omega⟩
theorem made_fit {l : List S46} (h : Small l) (hok : ∀ x ∈ l, Ok46 x) : Fit (P33s l) := by
  intro x hx
  obtain ⟨y, hy, rfl⟩ := List.mem_map.1 hx
  refine ⟨by simpa [p33] using (h.2 y hy).1, by simpa [p33] using (h.2 y hy).2, fun e he => ?_⟩
  simp only [p33, List.mem_map] at he
  obtain ⟨e', he', rfl⟩ := he
  have h8 := ((hok y hy).2.1 e' he').1
  simp [Lit.wf, IntKind.min, IntKind.max, IntKind.signed, IntKind.bits] at h8
  exact h8
end Go.Proofs.Ytolfamfgoafhlaa.M
