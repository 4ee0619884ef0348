import Derived.RangeFuncNested
import Derived.RangeFuncBound
import Derived.RangeFuncBox
import Derived.RangeFuncCalls
import Derived.RangeFuncLeaves
import Derived.Shelf.Abstract
import Derived.Shelf.RegionOpen
import Derived.WalkKit
import Derived.OwnWalkIn
import Derived.TacticsInMore
import Derived.LoopNIn
import Derived.LoopIn
import Derived.Maps.AppendAt
import Derived.Test.YtolfamfgoafhlaaP0
import Derived.Outline
import Derived.Lib.Hide
namespace Go.Proofs.Ytolfamfgoafhlaa.M
open Go.RowKit Go.Shelf Go.Proofs.YtolfamfgoafhlaaW.PrintWords Go.Proofs.YtolfamfgoafhlaaW.PrintLast
open Go.Proofs.Ytolfamfgoafhlaa.P
attribute [local go_sem] Oper.semAt_some

/-- An edge whose bounds are bytes. -/
def E8 : Type := { x : S72 // 0 ≤ x.f0 ∧ x.f0 ≤ 255 }
instance : Inhabited E8 := ⟨⟨⟨0, 0, 0⟩, by decide⟩⟩
def c3 (x : E8) : List Value := [.int .u8 x.1.f0, .int .u8 x.1.f1, .int .i64 x.1.f2]
def encs3 (x : E8) : Array Value := #[.agg #[.int .u8 x.1.f0, .int .u8 x.1.f1, .int .i64 x.1.f2]]
def vals (l : List E8) : List S72 := l.map (fun x => x.1)
theorem vals_length (l : List E8) : (vals l).length = l.length := by simp [vals]
theorem rd_vals (l : List E8) (k : Nat) (h : k < l.length) : rd_T72 (vals l) k = l[k].1 := by
  simp [vals, rd_T72, List.getD_eq_getElem?_getD, List.getElem?_eq_getElem h]

set_option maxRecDepth 100000 in
set_option maxHeartbeats 1000000 in
/-- slices.Values(s): its closure goes through the elements, one by one. -/
theorem vals_stops (n : Nat) (hn : 1 ≤ n) (Bs n₀ : Nat) (A : Option Addr) (c : Nat) (l : List E8) (w : World) (hBs : Bs < w.heap.size) (hn₀ : n₀ ≤ w.heap.size) (w0 : World) (hw0 : w0.heap.size = n₀) (hb0 : Below n₀ w0 w)
    (hc : w.cell? ⟨Bs, 0, none⟩ = some (.slice A l.length c)) (hl : Kd.C k72 w0 A l.length (vals l)) :
    SeqStopsK Fence.wide n Try.prog 103 #[.pointer (some ⟨Bs, 0, none⟩)] encs3 (Below n₀) (fun ys => ys = l) (fun _ => True) l.length w := fun lp J Jx W hW hJ hJx hY h0 => by
  have hc' := (hW.cell (p := ⟨Bs, 0, none⟩) hBs).trans hc
  have hb1 : Below n₀ w0 W := hb0.trans (hW.mono hn₀)
  have hlm := hl.2.1
  refine callsIn_of_wp Try.func103 rfl trivial ?_ rfl
  simp only [Try.ntmps103, List.size_toArray, List.length_cons, List.length_nil, Nat.reduceAdd, Nat.reduceSub, Array.replicate_succ, Array.replicate_zero, List.push_toArray, List.append_toArray, List.nil_append, List.cons_append]
  gi_wp2
  gi_loopw [7] (fun i wr => ∃ k : Nat, k ≤ l.length ∧ i = .int .i64 k ∧ J (l.take k) wr ∧ Below n₀ w0 wr) (fun i _ => l.length - (RowKit.intOf i).toNat)
  case atStart => exact ⟨0, Nat.zero_le _, rfl, h0, hb1⟩
  case round =>
    obtain ⟨k, hk, rfl, hJs, hbr⟩ := hrel
    by_cases hlt : k < l.length
    · obtain ⟨ad, eA, hy0, hy1, hy2⟩ := at_T72 hl (k : Int) (by omega) (by omega)
      subst eA
      rw [rd_vals l k hlt] at hy0 hy1 hy2
      simp only [Int.toNat_natCast] at hy0 hy1 hy2
      have hx0 := (hbr.cell (by rw [← hw0]; exact World.block_lt_of_cell? w0 _ hy0)).trans hy0
      have hx1 := (hbr.cell (by rw [← hw0]; exact World.block_lt_of_cell? w0 _ hy1)).trans hy1
      have hx2 := (hbr.cell (by rw [← hw0]; exact World.block_lt_of_cell? w0 _ hy2)).trans hy2
      clear hy0 hy1 hy2
      have hJ2 := hJ (l.take k) wr (wr.alloc (.cells #[.int .u8 l[k].1.f0, .int .u8 l[k].1.f1, .int .i64 l[k].1.f2] 72)) none hJs (World.grownBy_alloc _ _ _) (fun r e => by cases e)
      obtain ⟨fn, tmps, assign, body, hy, hR⟩ := hY (l.take k) l[k] _ hJ2 (by simp; omega)
      unfold encs3 at hy
      have hsn : l.take k ++ [l[k]] = l.take (k + 1) := (List.take_succ_eq_append_getElem hlt).symm
      have hba := hbr.alloc (by rw [← hw0]; exact hbr.size) (.cells #[.int .u8 l[k].1.f0, .int .u8 l[k].1.f1, .int .i64 l[k].1.f2] 72)
      generalize l[k] = x at *
      have Hsn := Lib.hid hsn
      clear hsn
      gi_wp2
      refine hR.mono ?_
      rintro e W3 (⟨rfl, hJ3, hk3⟩ | ⟨rfl, hJx3⟩)
      · rw [Hsn.out] at hJ3
        gi_wp2
        go_roundw
        case rel => exact ⟨k + 1, by omega, by go_num, hJ3, hba.trans hk3⟩
        case measure => simp [RowKit.intOf]; omega
      · gi_wp2
        refine bodyPost_ret (results_none rfl _ _ _) rfl ?_
        exact ⟨⟨_, rfl⟩, .inr ⟨_, trivial, hJx3⟩⟩
    · have hsn : l.take k = l := List.take_of_length_le (by omega)
      rw [hsn] at hJs
      clear hsn
      gi_wp2
      go_end0
      exact ⟨⟨_, rfl⟩, .inl ⟨_, rfl, hJs⟩⟩

/-- The cells of a row of edges. -/
def flat3 (l : List E8) : List Value := l.flatMap c3
theorem flat3_snoc (l : List E8) (x : E8) : flat3 (l ++ [x]) = flat3 l ++ c3 x := by simp [flat3]
theorem info72' : (Try.prog.info? 72).map (fun i => (i.zero, i.size, i.bytes)) = some (some (.agg #[.int .u8 0, .int .u8 0, .int .i64 0]), 3, 16) := by kernel_rfl

theorem cells_at {W : World} {B : Nat} {cells : Array Value} {t : TypeId} (h : W.heap[B]? = some (.cells cells t (0, 0))) {j : Nat} {u : Value} (hj : cells[j]? = some u) : W.cell? ⟨B, j, none⟩ = some u := by
  simp [World.cell?, h, hj]
theorem cells_new (w : World) (cells : Array Value) (t : TypeId) (j : Nat) (u : Value) (hj : cells[j]? = some u) : (w.alloc (.cells cells t)).cell? ((⟨w.heap.size, 0, none⟩ : Addr).add j) = some u := by
  rw [add_plain]
  exact cells_at (World.alloc_heap_new w _) hj

set_option maxRecDepth 100000 in
set_option maxHeartbeats 2000000 in
/-- slices.AppendSeq(nil, seq): what came, in a row of the call's own. -/
theorem appendSeq_calls (n : Nat) (hn : 2 ≤ n) (g : Nat) (lb : Array Value) (eg : ∀ args w, (callFunc g args).run Try.prog w = .ok (.enter g args) w) (l : List E8) (hN : l.length ≤ 1000000) (n₀ : Nat) (w : World) (hn₀ : n₀ ≤ w.heap.size) (w1 : World) (hw1 : Below w1.heap.size w1 w)
    (hseq : SeqStopsK Fence.wide (n - 1) Try.prog g lb encs3 (Below n₀) (fun ys => ys = l) (fun _ => True) l.length w1) :
    CallsIn Fence.wide n Try.prog 107 #[.slice none 0 0, .func (.func g) #[] lb] w fun e w' => ∃ v, e = .returned v ∧ w'.ownsRow w.heap.size 72 3 v l.length (flat3 l) ∧ Below w.heap.size w w' := by
  have h1 : 1 ≤ n := by omega
  refine callsIn_of_wp_marks Try.func107 rfl trivial ?_ rfl
  simp only [Try.ntmps107, List.size_toArray, List.length_cons, List.length_nil, Nat.reduceAdd, Nat.reduceSub, Array.replicate_succ, Array.replicate_zero, List.push_toArray, List.append_toArray, List.nil_append, List.cons_append]
  gi_wp2
  obtain ⟨W0, hW0⟩ : ∃ W0, w.alloc (.cells #[.slice none 0 0] 31) = W0 := ⟨_, rfl⟩
  have bS : Boxed W0 w.heap.size 31 (.slice none 0 0) := by rw [← hW0]; exact Boxed.new w 31 _
  have hb0 : Below w.heap.size w W0 := by rw [← hW0]; exact (Below.refl _ w).alloc (Nat.le_refl _) _
  have hs0 : W0.heap.size = w.heap.size + 1 := by rw [← hW0]; simp
  rw [hW0]
  refine wpIn_rangeFunc_ownH rfl h1 (gf := g) (lb := lb) rfl trivial eg hseq belowK_t (belowK_b (by omega)) (hw1.trans (hb0.mono hw1.size)) (fun _ => rfl)
    (fun pre W => (∃ v, Boxed W w.heap.size 31 v ∧ W.ownsRow w.heap.size 72 3 v pre.length (flat3 pre) ∧ True) ∧ Below w.heap.size w W)
    (fun _ _ _ => False)
    (OwnFrom.and (Own.from (holdsRow_own w.heap.size w.heap.size 31 72 3 (fun pre : List E8 => pre.length) (fun pre => flat3 pre) (fun _ _ => True)) _) (ownFrom_below (Nat.le_refl _) (by omega)))
    (fun _ _ _ _ _ hs _ _ => hs)
    ⟨⟨_, bS, ⟨rfl, .inl ⟨rfl, rfl⟩⟩, trivial⟩, hb0⟩
    (fun x a' W => ∃ Bx, w.heap.size < Bx ∧ W.heap[Bx]? = some (.cells #[.int .u8 x.1.f0, .int .u8 x.1.f1, .int .i64 x.1.f2] 72 (0, 0)) ∧ a' = { tmps := #[.slice none 0 0, .func (.func g) #[] lb, .pointer (some ⟨w.heap.size, 0, none⟩), undef, .slice none 0 0, .pointer (some ⟨Bx, 0, none⟩), .func (.func g) #[] lb, .agg #[.int .u8 x.1.f0, .int .u8 x.1.f1, .int .i64 x.1.f2], undef, undef, undef, undef, undef], defers := [] })
    ?hAx ?assign ?body ?done ?stop
  case hAx =>
    rintro x a' s A B row ⟨Bx, h1, h2, h3⟩ hg hr
    refine ⟨Bx, h1, (hg.block Bx (Array.getElem?_eq_some_iff.1 h2).1 (fun e => ?_)).trans h2, h3⟩
    obtain ⟨_, o, ho, hoc⟩ := hr Bx e.symm
    rw [h2] at ho
    cases ho
    cases hoc
  case assign =>
    rintro lp pre x W K ⟨⟨v, hv, hrow, _⟩, hB⟩ hK
    unfold encs3
    gi_wp2
    exact hK _ _ ((KeepsOthers.alloc _ _).from _) ((Below.refl _ W).alloc (by have := hB.size; omega) _) ⟨⟨v, hv.alloc _, hrow.alloc _, trivial⟩, hB.alloc hB.size _⟩ ⟨W.heap.size, hv.lt, World.alloc_heap_new W _, rfl⟩
  case body =>
    rintro lp pre x a' W hl ⟨r, hr⟩ ⟨⟨v, hv, hrow, _⟩, hB⟩ ⟨Bx, hBx, bX, rfl⟩ hlt
    obtain ⟨i0, hi, hz0, hz1, hz2⟩ := info_parts info72'
    have hcv := hv.cell
    have hX0 : W.cell? ⟨Bx, 0, none⟩ = some (.int .u8 x.1.f0) := by simp [World.cell?, bX]
    have hX1 : W.cell? ⟨Bx, 1, none⟩ = some (.int .u8 x.1.f1) := by simp [World.cell?, bX]
    have hX2 : W.cell? ⟨Bx, 2, none⟩ = some (.int .i64 x.1.f2) := by simp [World.cell?, bX]
    gi_wp2_with (gi_at_builtin; refine wpListIn_append_own _ rfl _ _ 31 rfl w.heap.size 72 i0 (.agg #[.int .u8 0, .int .u8 0, .int .i64 0]) 3 16 Try.underlying31 hi hz0 hz1 hz2 rfl (by decide) _ _ _ rfl (hrow.alloc _) ⟨W.heap.size, 0, none⟩ 1 1 (c3 x) rfl rfl ?c1 ?c2 ?c3 ?c4 ?c5 ?_; (case c1 => intro j u hj; exact cells_new W _ 72 j u (by simpa [c3] using hj)); (case c2 => intro u hu; simp [c3] at hu; rcases hu with rfl | rfl | rfl <;> rfl); (case c3 => unfold maxLen; omega); (case c4 => omega); (case c5 => have := hB.size; simp; omega); intro v' w3 hown' hgrow _; obtain ⟨g', cap', rfl⟩ := ownsRow_succ hown'; obtain ⟨hv1, hv2, hr2, hk2, hb2⟩ := hv.appended (by decide) hrow hB.size (Nat.le_refl _) hown' hgrow; have hc1 := hv1.cell; have hf1 := hv1.frozen)
    exact ⟨hk2.from _, hb2.mono hn₀, ⟨_, hv2, by rw [flat3_snoc, List.length_append]; exact hr2, trivial⟩, hB.trans hb2⟩
  case done =>
    rintro D ys W hD rfl ⟨⟨v, hv, hrow, _⟩, hB⟩ hK
    have hcv := hv.cell
    gi_wp2
    refine ⟨by simp, .inl ⟨_, _, rfl, run_takeDeferred hK, ?_⟩⟩
    exact ⟨_, results_tmp rfl _ _ _, _, rfl, ownsRow_putObj hrow _ hK rfl, hB.trans (belowK_b (w := w) (Nat.le_refl _) W D _ _ (by omega) hK rfl rfl)⟩
  case stop =>
    rintro D c pre W _ _ h _
    exact h.elim
end Go.Proofs.Ytolfamfgoafhlaa.M
