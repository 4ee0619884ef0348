import Derived.Test.YtolfamfgoafhlaaP0
import Derived.Deep.Slices
import Derived.Deep.Fields
import Derived.ChangeSame
import Derived.ProofKit
namespace Go.Proofs.Ytolfamfgoafhlaa.M
open Go.ChangeShapes Go.WideShapes Go.Deep
open Go.RowKit Go.Proofs.YtolfamfgoafhlaaW.PrintWords Go.Proofs.YtolfamfgoafhlaaW.PrintLast Go.Proofs.YtolfamfgoafhlaaW.PrintMore
open Go.Proofs.Ytolfamfgoafhlaa.P

/-! ### arguments that are slices, opened to a list of what they hold, however deep -/
section
variable {H : Type} {enc : TypeId × Value → H} {P : Program} {w : World} {base : Nat} {spare : Nat → Bool} {held : Bool}
theorem C_of_trod {α : Type} {d : Kd α} {Ok : α → Prop} {t e : TypeId} {fuel : Nat} {cs : List Value} {x : DataW H × List MemPlace} (ht : P.underlying t = some (.slice e)) (hsz : P.cellsOf e = d.sz)
    (hel : ∀ (n : Nat) (cs : List Value) (x : DataW H × List MemPlace), DataW.trod enc P w base spare held n e cs = some x → ∃ y, d.K w y cs ∧ Ok y)
    (h : DataW.trod enc P w base spare held fuel t cs = some x) : ∃ (A : Option Addr) (l : List α) (c : Nat), cs = [.slice A l.length c] ∧ l.length ≤ c ∧ d.C w A l.length l ∧ ∀ y ∈ l, Ok y := by
  rcases open_slice ht h with ⟨rfl, _⟩ | ⟨a, len, cap, m, n, D, Pl, rfl, hb, hl, hm, hmm, _, hi⟩
  · exact ⟨none, [], 0, rfl, Nat.le_refl _, ⟨rfl, by simp, fun h => absurd h (by simp)⟩, by simp⟩
  · have hlm : len ≤ m := by rw [hmm]; split <;> omega
    have key : ∀ i, i < len → ∃ y, Ok y ∧ ∃ c, c.length = d.sz ∧ d.K w y c ∧ ∀ j u, c[j]? = some u → w.cell? (a.add (i * d.sz + j)) = some u := by
      intro i hi'
      obtain ⟨cs', hc, ht'⟩ := hi i (by omega)
      obtain ⟨y, hk, hok⟩ := hel _ _ _ ht'
      obtain ⟨_, hcl, hat⟩ := World.cells?_some hc
      refine ⟨y, hok, cs', by rw [hcl, hsz], hk, fun j u hj => ?_⟩
      have hj' : j < P.cellsOf e := by
        rcases Nat.lt_or_ge j cs'.length with h1 | h1
        · omega
        · rw [List.getElem?_eq_none h1] at hj; cases hj
      rw [← hsz, ← Go.Deep.add_add, hat j hj', hj]
    rcases Nat.eq_zero_or_pos len with rfl | hpos
    · exact ⟨some a, [], cap, rfl, hl, ⟨rfl, by simp, fun h => absurd h (by simp)⟩, by simp⟩
    · obtain ⟨y0, _⟩ := key 0 hpos
      haveI : Inhabited α := ⟨y0⟩
      obtain ⟨Y, hY⟩ := choose_lt key
      have hll : ((List.range len).map Y).length = len := by simp
      refine ⟨some a, (List.range len).map Y, cap, by rw [hll], by rw [hll]; exact hl, ⟨rfl, by rw [hll]; unfold maxLen at hm; omega, fun _ => ⟨a, rfl, fun j p hj => ?_⟩⟩, fun y hy => ?_⟩
      · have hjl : j < len := by
          rcases Nat.lt_or_ge j len with h1 | h1
          · exact h1
          · rw [List.getElem?_eq_none (by rw [hll]; exact h1)] at hj; cases hj
        simp [List.getElem?_map, List.getElem?_range hjl] at hj
        subst hj
        exact (hY j hjl).2
      · simp only [List.mem_map, List.mem_range] at hy
        obtain ⟨i, hi', rfl⟩ := hy
        exact (hY i hi').1
end
theorem len3 {α : Type} {l : List α} (h : l.length = 3) : ∃ a b c, l = [a, b, c] := by
  match l, h with
  | [a, b, c], _ => exact ⟨a, b, c, rfl⟩
theorem len5 {α : Type} {l : List α} (h : l.length = 5) : ∃ a b c d e, l = [a, b, c, d, e] := by
  match l, h with
  | [a, b, c, d, e], _ => exact ⟨a, b, c, d, e, rfl⟩
section
variable {H : Type} {enc : TypeId × Value → H} {w : World} {base : Nat} {spare : Nat → Bool} {held : Bool}
theorem el_int (n : Nat) (cs : List Value) (x : DataW H × List MemPlace) (h : DataW.trod enc Try.prog w base spare held n 3 cs = some x) : ∃ y, (Kd.int .i64).K w y cs ∧ (Lit.int .i64 y).wf = true := by
  obtain ⟨y, rfl, _, hw⟩ := DataW.trod_int Try.underlying3 h
  exact ⟨y, rfl, hw⟩
theorem q3 : Try.prog.cellsOf 3 = 1 := by kernel_rfl
theorem q5 : Try.prog.cellsOf 5 = 1 := by kernel_rfl
theorem q23 : Try.prog.cellsOf 23 = 1 := by kernel_rfl
theorem q44 : Try.prog.cellsOf 44 = 1 := by kernel_rfl
def Ok74 (x : S74) : Prop := (Lit.int .u8 x.f0).wf = true ∧ (Lit.int .u8 x.f1).wf = true ∧ (Lit.int .i64 x.f2).wf = true
set_option maxRecDepth 100000 in
theorem el_74 (n : Nat) (cs : List Value) (x : DataW H × List MemPlace) (h : DataW.trod enc Try.prog w base spare held n 74 cs = some x) : ∃ y, k74.K w y cs ∧ Ok74 y := by
  obtain ⟨xs, n', _, _, hl, hxl, hf⟩ := DataW.trod_struct Try.underlying74 h
  have hl3 : cs.length = 3 := hl.trans (by kernel_rfl)
  obtain ⟨c0, c1, c2, rfl⟩ := len3 hl3
  obtain ⟨y0, y1, y2, rfl⟩ := len3 (hxl.trans (show _ = 3 from rfl))
  have g0 : DataW.trod enc Try.prog w base spare held n' 5 [c0] = some y0 := hf 0 _ rfl
  have g1 : DataW.trod enc Try.prog w base spare held n' 5 [c1] = some y1 := hf 1 _ rfl
  have g2 : DataW.trod enc Try.prog w base spare held n' 3 [c2] = some y2 := hf 2 _ rfl
  obtain ⟨a0, e0, _, w0⟩ := DataW.trod_int Try.underlying5 g0
  obtain ⟨a1, e1, _, w1⟩ := DataW.trod_int Try.underlying5 g1
  obtain ⟨a2, e2, _, w2⟩ := DataW.trod_int Try.underlying3 g2
  simp only [List.cons.injEq, and_true] at e0 e1 e2
  subst e0 e1 e2
  exact ⟨⟨a0, a1, a2⟩, k74_mk w _, w0, w1, w2⟩
def Ok46 (x : S46) : Prop := (Lit.int .i64 x.f0).wf = true ∧ (∀ e ∈ x.f1, Ok74 e) ∧ (∀ y ∈ x.f2, (Lit.int .i64 y).wf = true) ∧ (Lit.int .i64 x.f3).wf = true ∧ (Lit.int .i64 x.f4).wf = true
set_option maxRecDepth 100000 in
theorem el_46 (n : Nat) (cs : List Value) (x : DataW H × List MemPlace) (h : DataW.trod enc Try.prog w base spare held n 46 cs = some x) : ∃ y, k46.K w y cs ∧ Ok46 y := by
  obtain ⟨xs, n', _, _, hl, hxl, hf⟩ := DataW.trod_struct Try.underlying46 h
  have hl5 : cs.length = 5 := hl.trans (by kernel_rfl)
  obtain ⟨c0, c1, c2, c3, c4, rfl⟩ := len5 hl5
  obtain ⟨y0, y1, y2, y3, y4, rfl⟩ := len5 (hxl.trans (show _ = 5 from rfl))
  have g0 : DataW.trod enc Try.prog w base spare held n' 3 [c0] = some y0 := hf 0 _ rfl
  have g1 : DataW.trod enc Try.prog w base spare held n' 44 [c1] = some y1 := hf 1 _ rfl
  have g2 : DataW.trod enc Try.prog w base spare held n' 23 [c2] = some y2 := hf 2 _ rfl
  have g3 : DataW.trod enc Try.prog w base spare held n' 3 [c3] = some y3 := hf 3 _ rfl
  have g4 : DataW.trod enc Try.prog w base spare held n' 3 [c4] = some y4 := hf 4 _ rfl
  obtain ⟨a0, e0, _, w0⟩ := DataW.trod_int Try.underlying3 g0
  obtain ⟨A1, l1, k1, e1, b1, r1, w1⟩ := C_of_trod (d := k74) Try.underlying44 (by kernel_rfl) (fun n cs x => el_74 n cs x) g1
  obtain ⟨A2, l2, k2, e2, b2, r2, w2⟩ := C_of_trod (d := Kd.int .i64) Try.underlying23 (by kernel_rfl) (fun n cs x => el_int n cs x) g2
  obtain ⟨a3, e3, _, w3⟩ := DataW.trod_int Try.underlying3 g3
  obtain ⟨a4, e4, _, w4⟩ := DataW.trod_int Try.underlying3 g4
  simp only [List.cons.injEq, and_true] at e0 e1 e2 e3 e4
  subst e0 e1 e2 e3 e4
  exact ⟨⟨a0, l1, l2, a3, a4⟩, k46_mk w ⟨a0, l1, l2, a3, a4⟩ b1 r1 b2 r2, w0, w1, w2, w3, w4⟩
/-- An argument []Node of the references. -/
theorem open_nodes46 {a : Option Addr} {len cap : Nat} {d : DataW H} {p : List MemPlace} (_hv : True) (h : DataW.Trod enc Try.prog w base spare held 22 (.slice a len cap) d p) :
    ∃ l : List S46, len = l.length ∧ l.length ≤ cap ∧ k46.C w a l.length l ∧ ∀ y ∈ l, Ok46 y := by
  obtain ⟨fuel, hf⟩ := h
  obtain ⟨A, l, c, e, hl, hc, hk⟩ := C_of_trod (d := k46) Try.underlying22 (by kernel_rfl) (fun n cs x => el_46 n cs x) hf
  simp [Value.cells] at e
  obtain ⟨rfl, rfl, rfl⟩ := e
  exact ⟨l, rfl, hl, hc, hk⟩
theorem open_introw {a : Option Addr} {len cap : Nat} {d : DataW H} {p : List MemPlace} (_hv : True) (h : DataW.Trod enc Try.prog w base spare held 23 (.slice a len cap) d p) :
    ∃ l : List Int, len = l.length ∧ l.length ≤ cap ∧ (Kd.int .i64).C w a l.length l ∧ ∀ y ∈ l, (Lit.int .i64 y).wf = true := by
  obtain ⟨fuel, hf⟩ := h
  obtain ⟨A, l, c, e, hl, hc, hk⟩ := C_of_trod (d := Kd.int .i64) Try.underlying23 (by kernel_rfl) (fun n cs x => el_int n cs x) hf
  simp [Value.cells] at e
  obtain ⟨rfl, rfl, rfl⟩ := e
  exact ⟨l, rfl, hl, hc, hk⟩
end
end Go.Proofs.Ytolfamfgoafhlaa.M
