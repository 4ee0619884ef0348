/- The given row of the law FindEaten, proved without conditions: whatever the input, it returns true, does not panic, and its arguments read behind the call as they read before (lemmas, part 1). -/
import Derived.RangeFuncNested
import Derived.RangeFuncBound
import Derived.RangeFuncBox
import Derived.RangeFuncCalls
import Derived.RangeFuncLeaves
import Derived.Shelf.Abstract
import Derived.Shelf.RegionOpen
import Derived.WalkKit
import Derived.OwnWalkIn
import Derived.TacticsInMore
import Derived.LoopNIn
import Derived.LoopIn
import Derived.Maps.AppendAt
import Derived.Test.YtolfamfgoafhlaaP0
import Derived.Outline
import Derived.Lib.Hide
import Derived.Shelf.SlGeneric
import Derived.Shelf.SlSortCmp.WholeK
import Derived.Shelf.SlSortCmp.NoneTotal
import Derived.Ground.SlsfProg
import Derived.Test.YtolfamfgoafhlaaProg
import Derived.Lib.OwnBridge
import Derived.BigQuiet
import Derived.Deep.QuietTactic
import Derived.Maps.OwnSet
import Derived.Lib.SlKeysI
import Derived.Deep.DeepFit
import Derived.Shelf.SlIterI.Nil
import Derived.Shelf.SortM.Plain
import Derived.Shelf.SortM.SortNone
import Derived.Ground.GgzProg
import Derived.Ground.SlgmProg
import Derived.Laws.EntriesVeiled
import Derived.StillTailTactics
import Derived.DeepKeys5
import Derived.Maps.OwnOps
import Derived.Test.YtolfamfgoafhlaaP2
import Derived.Test.YtolfamfgoafhlaaP4
import Derived.Test.YtolfamfgoafhlaaP9
import Derived.BigRegion
section
namespace Go.Proofs.Ytolfamfgoafhlaa.M
open Go.RowKit Go.Shelf Go.Proofs.YtolfamfgoafhlaaW.PrintWords Go.Proofs.YtolfamfgoafhlaaW.PrintLast
open Go.Proofs.Ytolfamfgoafhlaa.P
attribute [local go_sem] Oper.semAt_some

/-- An edge whose bounds are bytes. -/
def E8 : Type := { x : S72 // 0 ≤ x.f0 ∧ x.f0 ≤ 255 }
instance : Inhabited E8 := ⟨⟨⟨0, 0, 0⟩, by decide⟩⟩
def c3 (x : E8) : List Value := [.int .u8 x.1.f0, .int .u8 x.1.f1, .int .i64 x.1.f2]
def encs3 (x : E8) : Array Value := #[.agg #[.int .u8 x.1.f0, .int .u8 x.1.f1, .int .i64 x.1.f2]]
def vals (l : List E8) : List S72 := l.map (fun x => x.1)
theorem vals_length (l : List E8) : (vals l).length = l.length := by simp [vals]
theorem rd_vals (l : List E8) (k : Nat) (h : k < l.length) : rd_T72 (vals l) k = l[k].1 := by
  simp [vals, rd_T72, List.getD_eq_getElem?_getD, List.getElem?_eq_getElem h]

set_option maxRecDepth 100000 in
set_option maxHeartbeats 1000000 in
/-- slices.Values(s): its closure goes through the elements, one by one. -/
theorem vals_stops (n : Nat) (hn : 1 ≤ n) (Bs n₀ : Nat) (A : Option Addr) (c : Nat) (l : List E8) (w : World) (hBs : Bs < w.heap.size) (hn₀ : n₀ ≤ w.heap.size) (w0 : World) (hw0 : w0.heap.size = n₀) (hb0 : Below n₀ w0 w)
    (hc : w.cell? ⟨Bs, 0, none⟩ = some (.slice A l.length c)) (hl : Kd.C k72 w0 A l.length (vals l)) :
    SeqStopsK Fence.wide n Try.prog 103 #[.pointer (some ⟨Bs, 0, none⟩)] encs3 (Below n₀) (fun ys => ys = l) (fun _ => True) l.length w := fun lp J Jx W hW hJ hJx hY h0 => by
  have hc' := (hW.cell (p := ⟨Bs, 0, none⟩) hBs).trans hc
  have hb1 : Below n₀ w0 W := hb0.trans (hW.mono hn₀)
  have hlm := hl.2.1
  refine callsIn_of_wp Try.func103 rfl trivial ?_ rfl
  simp only [Try.ntmps103, List.size_toArray, List.length_cons, List.length_nil, Nat.reduceAdd, Nat.reduceSub, Array.replicate_succ, Array.replicate_zero, List.push_toArray, List.append_toArray, List.nil_append, List.cons_append]
  gi_wp2
  gi_loopw [7] (fun i wr => ∃ k : Nat, k ≤ l.length ∧ i = .int .i64 k ∧ J (l.take k) wr ∧ Below n₀ w0 wr) (fun i _ => l.length - (RowKit.intOf i).toNat)
  case atStart => exact ⟨0, Nat.zero_le _, rfl, h0, hb1⟩
  case round =>
    obtain ⟨k, hk, rfl, hJs, hbr⟩ := hrel
    by_cases hlt : k < l.length
    · obtain ⟨ad, eA, hy0, hy1, hy2⟩ := at_T72 hl (k : Int) (by omega) (by omega)
      subst eA
      rw [rd_vals l k hlt] at hy0 hy1 hy2
      simp only [Int.toNat_natCast] at hy0 hy1 hy2
      have hx0 := (hbr.cell (by rw [← hw0]; exact World.block_lt_of_cell? w0 _ hy0)).trans hy0
      have hx1 := (hbr.cell (by rw [← hw0]; exact World.block_lt_of_cell? w0 _ hy1)).trans hy1
      have hx2 := (hbr.cell (by rw [← hw0]; exact World.block_lt_of_cell? w0 _ hy2)).trans hy2
      clear hy0 hy1 hy2
      have hJ2 := hJ (l.take k) wr (wr.alloc (.cells #[.int .u8 l[k].1.f0, .int .u8 l[k].1.f1, .int .i64 l[k].1.f2] 72)) none hJs (World.grownBy_alloc _ _ _) (fun r e => by cases e)
      obtain ⟨fn, tmps, assign, body, hy, hR⟩ := hY (l.take k) l[k] _ hJ2 (by simp; omega)
      unfold encs3 at hy
      have hsn : l.take k ++ [l[k]] = l.take (k + 1) := (List.take_succ_eq_append_getElem hlt).symm
      have hba := hbr.alloc (by rw [← hw0]; exact hbr.size) (.cells #[.int .u8 l[k].1.f0, .int .u8 l[k].1.f1, .int .i64 l[k].1.f2] 72)
      generalize l[k] = x at *
      have Hsn := Lib.hid hsn
      clear hsn
      gi_wp2
      refine hR.mono ?_
      rintro e W3 (⟨rfl, hJ3, hk3⟩ | ⟨rfl, hJx3⟩)
      · rw [Hsn.out] at hJ3
        gi_wp2
        go_roundw
        case rel => exact ⟨k + 1, by omega, by go_num, hJ3, hba.trans hk3⟩
        case measure => simp [RowKit.intOf]; omega
      · gi_wp2
        refine bodyPost_ret (results_none rfl _ _ _) rfl ?_
        exact ⟨⟨_, rfl⟩, .inr ⟨_, trivial, hJx3⟩⟩
    · have hsn : l.take k = l := List.take_of_length_le (by omega)
      rw [hsn] at hJs
      clear hsn
      gi_wp2
      go_end0
      exact ⟨⟨_, rfl⟩, .inl ⟨_, rfl, hJs⟩⟩

/-- The cells of a row of edges. -/
def flat3 (l : List E8) : List Value := l.flatMap c3
theorem flat3_snoc (l : List E8) (x : E8) : flat3 (l ++ [x]) = flat3 l ++ c3 x := by simp [flat3]
theorem info72' : (Try.prog.info? 72).map (fun i => (i.zero, i.size, i.bytes)) = some (some (.agg #[.int .u8 0, .int .u8 0, .int .i64 0]), 3, 16) := by kernel_rfl

theorem cells_at {W : World} {B : Nat} {cells : Array Value} {t : TypeId} (h : W.heap[B]? = some (.cells cells t (0, 0))) {j : Nat} {u : Value} (hj : cells[j]? = some u) : W.cell? ⟨B, j, none⟩ = some u := by
  simp [World.cell?, h, hj]
theorem cells_new (w : World) (cells : Array Value) (t : TypeId) (j : Nat) (u : Value) (hj : cells[j]? = some u) : (w.alloc (.cells cells t)).cell? ((⟨w.heap.size, 0, none⟩ : Addr).add j) = some u := by
  rw [add_plain]
  exact cells_at (World.alloc_heap_new w _) hj

set_option maxRecDepth 100000 in
set_option maxHeartbeats 2000000 in
/-- slices.AppendSeq(nil, seq): what came, in a row of the call's own. -/
theorem appendSeq_calls (n : Nat) (hn : 2 ≤ n) (g : Nat) (lb : Array Value) (eg : ∀ args w, (callFunc g args).run Try.prog w = .ok (.enter g args) w) (l : List E8) (hN : l.length ≤ 1000000) (n₀ : Nat) (w : World) (hn₀ : n₀ ≤ w.heap.size) (w1 : World) (hw1 : Below w1.heap.size w1 w)
    (hseq : SeqStopsK Fence.wide (n - 1) Try.prog g lb encs3 (Below n₀) (fun ys => ys = l) (fun _ => True) l.length w1) :
    CallsIn Fence.wide n Try.prog 107 #[.slice none 0 0, .func (.func g) #[] lb] w fun e w' => ∃ v, e = .returned v ∧ w'.ownsRow w.heap.size 72 3 v l.length (flat3 l) ∧ Below w.heap.size w w' := by
  have h1 : 1 ≤ n := by omega
  refine callsIn_of_wp_marks Try.func107 rfl trivial ?_ rfl
  simp only [Try.ntmps107, List.size_toArray, List.length_cons, List.length_nil, Nat.reduceAdd, Nat.reduceSub, Array.replicate_succ, Array.replicate_zero, List.push_toArray, List.append_toArray, List.nil_append, List.cons_append]
  gi_wp2
  obtain ⟨W0, hW0⟩ : ∃ W0, w.alloc (.cells #[.slice none 0 0] 31) = W0 := ⟨_, rfl⟩
  have bS : Boxed W0 w.heap.size 31 (.slice none 0 0) := by rw [← hW0]; exact Boxed.new w 31 _
  have hb0 : Below w.heap.size w W0 := by rw [← hW0]; exact (Below.refl _ w).alloc (Nat.le_refl _) _
  have hs0 : W0.heap.size = w.heap.size + 1 := by rw [← hW0]; simp
  rw [hW0]
  refine wpIn_rangeFunc_ownH rfl h1 (gf := g) (lb := lb) rfl trivial eg hseq belowK_t (belowK_b (by omega)) (hw1.trans (hb0.mono hw1.size)) (fun _ => rfl)
    (fun pre W => (∃ v, Boxed W w.heap.size 31 v ∧ W.ownsRow w.heap.size 72 3 v pre.length (flat3 pre) ∧ True) ∧ Below w.heap.size w W)
    (fun _ _ _ => False)
    (OwnFrom.and (Own.from (holdsRow_own w.heap.size w.heap.size 31 72 3 (fun pre : List E8 => pre.length) (fun pre => flat3 pre) (fun _ _ => True)) _) (ownFrom_below (Nat.le_refl _) (by omega)))
    (fun _ _ _ _ _ hs _ _ => hs)
    ⟨⟨_, bS, ⟨rfl, .inl ⟨rfl, rfl⟩⟩, trivial⟩, hb0⟩
    (fun x a' W => ∃ Bx, w.heap.size < Bx ∧ W.heap[Bx]? = some (.cells #[.int .u8 x.1.f0, .int .u8 x.1.f1, .int .i64 x.1.f2] 72 (0, 0)) ∧ a' = { tmps := #[.slice none 0 0, .func (.func g) #[] lb, .pointer (some ⟨w.heap.size, 0, none⟩), undef, .slice none 0 0, .pointer (some ⟨Bx, 0, none⟩), .func (.func g) #[] lb, .agg #[.int .u8 x.1.f0, .int .u8 x.1.f1, .int .i64 x.1.f2], undef, undef, undef, undef, undef], defers := [] })
    ?hAx ?assign ?body ?done ?stop
  case hAx =>
    rintro x a' s A B row ⟨Bx, h1, h2, h3⟩ hg hr
    refine ⟨Bx, h1, (hg.block Bx (Array.getElem?_eq_some_iff.1 h2).1 (fun e => ?_)).trans h2, h3⟩
    obtain ⟨_, o, ho, hoc⟩ := hr Bx e.symm
    rw [h2] at ho
    cases ho
    cases hoc
  case assign =>
    rintro lp pre x W K ⟨⟨v, hv, hrow, _⟩, hB⟩ hK
    unfold encs3
    gi_wp2
    exact hK _ _ ((KeepsOthers.alloc _ _).from _) ((Below.refl _ W).alloc (by have := hB.size; omega) _) ⟨⟨v, hv.alloc _, hrow.alloc _, trivial⟩, hB.alloc hB.size _⟩ ⟨W.heap.size, hv.lt, World.alloc_heap_new W _, rfl⟩
  case body =>
    rintro lp pre x a' W hl ⟨r, hr⟩ ⟨⟨v, hv, hrow, _⟩, hB⟩ ⟨Bx, hBx, bX, rfl⟩ hlt
    obtain ⟨i0, hi, hz0, hz1, hz2⟩ := info_parts info72'
    have hcv := hv.cell
    have hX0 : W.cell? ⟨Bx, 0, none⟩ = some (.int .u8 x.1.f0) := by simp [World.cell?, bX]
    have hX1 : W.cell? ⟨Bx, 1, none⟩ = some (.int .u8 x.1.f1) := by simp [World.cell?, bX]
    have hX2 : W.cell? ⟨Bx, 2, none⟩ = some (.int .i64 x.1.f2) := by simp [World.cell?, bX]
    gi_wp2_with (gi_at_builtin; refine wpListIn_append_own _ rfl _ _ 31 rfl w.heap.size 72 i0 (.agg #[.int .u8 0, .int .u8 0, .int .i64 0]) 3 16 Try.underlying31 hi hz0 hz1 hz2 rfl (by decide) _ _ _ rfl (hrow.alloc _) ⟨W.heap.size, 0, none⟩ 1 1 (c3 x) rfl rfl ?c1 ?c2 ?c3 ?c4 ?c5 ?_; (case c1 => intro j u hj; exact cells_new W _ 72 j u (by simpa [c3] using hj)); (case c2 => intro u hu; simp [c3] at hu; rcases hu with rfl | rfl | rfl <;> rfl); (case c3 => unfold maxLen; omega); (case c4 => omega); (case c5 => have := hB.size; simp; omega); intro v' w3 hown' hgrow _; obtain ⟨g', cap', rfl⟩ := ownsRow_succ hown'; obtain ⟨hv1, hv2, hr2, hk2, hb2⟩ := hv.appended (by decide) hrow hB.size (Nat.le_refl _) hown' hgrow; have hc1 := hv1.cell; have hf1 := hv1.frozen)
    exact ⟨hk2.from _, hb2.mono hn₀, ⟨_, hv2, by rw [flat3_snoc, List.length_append]; exact hr2, trivial⟩, hB.trans hb2⟩
  case done =>
    rintro D ys W hD rfl ⟨⟨v, hv, hrow, _⟩, hB⟩ hK
    have hcv := hv.cell
    gi_wp2
    refine ⟨by simp, .inl ⟨_, _, rfl, run_takeDeferred hK, ?_⟩⟩
    exact ⟨_, results_tmp rfl _ _ _, _, rfl, ownsRow_putObj hrow _ hK rfl, hB.trans (belowK_b (w := w) (Nat.le_refl _) W D _ _ (by omega) hK rfl rfl)⟩
  case stop =>
    rintro D c pre W _ _ h _
    exact h.elim
end Go.Proofs.Ytolfamfgoafhlaa.M
end
section
namespace Go.Proofs
open Go.Shelf
def Try.sortF_ren : Go.Shelf.Ren := ⟨fun | 6 => 102 | 15 => 106 | 14 => 108 | 28 => 118 | 29 => 119 | 20 => 120 | 21 => 121 | 22 => 122 | 23 => 123 | 24 => 124 | 25 => 125 | 26 => 126 | 27 => 127 | 46 => 134 | 47 => 129 | 48 => 130 | 49 => 135 | 50 => 136 | 57 => 138 | n => n, fun | 22 => 31 | 24 => 72 | 25 => 150 | 3 => 3 | 39 => 159 | 0 => 0 | 53 => 170 | 55 => 172 | 4 => 4 | 46 => 164 | 45 => 163 | 50 => 108 | 5 => 5 | 9 => 9 | 66 => 178 | 70 => 182 | 76 => 186 | 77 => 187 | n => n, fun | n => n⟩
theorem Try.sortF : Go.Proofs.SlLaysF0.n6 Try.prog Try.sortF_ren := {
  mixed := by kernel_rfl
  f6 := ⟨Try.f102.name, by decide, Try.func102.trans (congrArg some (by kernel_rfl))⟩
  f14 := ⟨Try.f108.name, by decide, Try.func108.trans (congrArg some (by kernel_rfl))⟩
  f15 := Try.func106.trans (congrArg some (by kernel_rfl))
  f20 := ⟨Try.f120.name, by decide, Try.func120.trans (congrArg some (by kernel_rfl))⟩
  f21 := ⟨Try.f121.name, by decide, Try.func121.trans (congrArg some (by kernel_rfl))⟩
  f22 := ⟨Try.f122.name, by decide, Try.func122.trans (congrArg some (by kernel_rfl))⟩
  f23 := ⟨Try.f123.name, by decide, Try.func123.trans (congrArg some (by kernel_rfl))⟩
  f24 := ⟨Try.f124.name, by decide, Try.func124.trans (congrArg some (by kernel_rfl))⟩
  f25 := ⟨Try.f125.name, by decide, Try.func125.trans (congrArg some (by kernel_rfl))⟩
  f26 := ⟨Try.f126.name, by decide, Try.func126.trans (congrArg some (by kernel_rfl))⟩
  f27 := ⟨Try.f127.name, by decide, Try.func127.trans (congrArg some (by kernel_rfl))⟩
  f28 := Try.func118.trans (congrArg some (by kernel_rfl))
  f29 := Try.func119.trans (congrArg some (by kernel_rfl))
  f46 := ⟨Try.f134.name, by decide, Try.func134.trans (congrArg some (by kernel_rfl))⟩
  f47 := Try.func129.trans (congrArg some (by kernel_rfl))
  f48 := Try.func130.trans (congrArg some (by kernel_rfl))
  f49 := ⟨Try.f135.name, by decide, Try.func135.trans (congrArg some (by kernel_rfl))⟩
  f50 := ⟨Try.f136.name, by decide, Try.func136.trans (congrArg some (by kernel_rfl))⟩
  f57 := ⟨Try.f138.name, by decide, Try.func138.trans (congrArg some (by kernel_rfl))⟩
  t0 := Try.underlying0
  a0 := Try.isAgg0
  z0 := Try.sizeOf0
  v0 := Try.zeroValue0
  t3 := Try.underlying3
  a3 := Try.isAgg3
  z3 := Try.sizeOf3
  v3 := Try.zeroValue3
  t4 := Try.underlying4
  a4 := Try.isAgg4
  z4 := Try.sizeOf4
  v4 := Try.zeroValue4
  t5 := Try.underlying5
  a5 := Try.isAgg5
  z5 := Try.sizeOf5
  v5 := Try.zeroValue5
  t9 := Try.underlying9
  a9 := Try.isAgg9
  z9 := Try.sizeOf9
  v9 := Try.zeroValue9
  t22 := Try.underlying31
  a22 := Try.isAgg31
  z22 := Try.sizeOf31
  v22 := Try.zeroValue31
  t25 := Try.underlying150
  a25 := Try.isAgg150
  z25 := Try.sizeOf150
  v25 := Try.zeroValue150
  t39 := Try.underlying159
  a39 := Try.isAgg159
  z39 := Try.sizeOf159
  v39 := Try.zeroValue159
  t45 := Try.underlying163
  a45 := Try.isAgg163
  z45 := Try.sizeOf163
  v45 := Try.zeroValue163
  t46 := Try.underlying164
  a46 := Try.isAgg164
  z46 := Try.sizeOf164
  v46 := Try.zeroValue164
  t50 := Try.underlying108
  a50 := Try.isAgg108
  z50 := Try.sizeOf108
  v50 := Try.zeroValue108
  t53 := Try.underlying170
  a53 := Try.isAgg170
  z53 := Try.sizeOf170
  v53 := Try.zeroValue170
  t55 := Try.underlying172
  a55 := Try.isAgg172
  z55 := Try.sizeOf172
  v55 := Try.zeroValue172
  t66 := Try.underlying178
  a66 := Try.isAgg178
  z66 := Try.sizeOf178
  v66 := Try.zeroValue178
  t70 := Try.underlying182
  a70 := Try.isAgg182
  z70 := Try.sizeOf182
  v70 := Try.zeroValue182
  t76 := Try.underlying186
  a76 := Try.isAgg186
  z76 := Try.sizeOf186
  v76 := Try.zeroValue186
  t77 := Try.underlying187
  a77 := Try.isAgg187
  z77 := Try.sizeOf187
  v77 := Try.zeroValue187 }
end Go.Proofs
end
section
namespace Go.Proofs.Ytolfamfgoafhlaa.L

/-- An edge: the bytes from one to another one, and where they lead. -/
structure Ed where
  lo : Int
  hi : Int
  dst : Int
deriving DecidableEq
/-- A node. -/
structure Nd where
  kind : Int
  es : List Ed
  fs : List Int
  tag : Int
  dst : Int
deriving DecidableEq

def Nd.none : Nd := ⟨0, [], [], 0, 0⟩
def nd (m : List Nd) (i : Int) : Nd := m.getD i.toNat Nd.none
def Ed.has (e : Ed) (c : Int) : Bool := decide (e.lo ≤ c) && decide (c ≤ e.hi)
/-- Have two edges a byte in common? -/
def Ed.meets (a b : Ed) : Bool := decide (a.lo ≤ b.hi) && decide (b.lo ≤ a.hi)
def apart : List Ed → Bool
  | [] => true
  | e :: l => l.all (fun x => !e.meets x) && apart l
def edgeOk (many : Int) (e : Ed) : Bool := decide (e.lo ≤ e.hi) && (decide (0 ≤ e.dst) && decide (e.dst < many))
def edgesOk (l : List Ed) (many : Int) : Bool := l.all (edgeOk many) && apart l
def upB (at_ many x : Int) : Bool := decide (at_ < x) && decide (x < many)
def nodeOk (n : Nd) (i many : Int) : Bool :=
  if n.kind = 1 then decide (n.fs = []) && (decide (n.dst = 0) && edgesOk n.es many)
  else if n.kind = 2 then decide (n.es = []) && (decide (n.dst = 0) && n.fs.all (upB i many))
  else if n.kind = 3 then decide (n.es = []) && (decide (n.fs = []) && upB i many n.dst)
  else if n.kind = 4 then decide (n.es = []) && (decide (n.fs = []) && decide (n.dst = 0))
  else false
/-- Are nodes, from the i-th on, as they may be? -/
def nodesOk (many : Int) : Nat → List Nd → Bool
  | _, [] => true
  | i, n :: l => nodeOk n i many && nodesOk many (i + 1) l
def mayB (m : List Nd) : Bool := decide (1 ≤ m.length) && (decide (m.length ≤ 100000) && nodesOk m.length 0 m)

def succ (n : Nd) : List Int := n.fs ++ (if n.kind = 3 then [n.dst] else [])
def valid (m : List Nd) (a : Int) : Prop := 0 ≤ a ∧ a < m.length
instance (m : List Nd) (a : Int) : Decidable (valid m a) := by unfold valid; infer_instance

def setAll (l : List Int) (s : List Bool) : List Bool := l.foldl (fun s j => s.set j.toNat true) s
def mark1 (m : List Nd) (s : List Bool) (i : Nat) : List Bool := if s.getD i false then setAll (succ (nd m i)) s else s
def pass (m : List Nd) (s : List Bool) : List Bool := (List.range m.length).foldl (mark1 m) s
def init (m : List Nd) (at_ : List Int) : List Bool := setAll (at_.filter (fun a => decide (valid m a))) (List.replicate m.length false)
def listOf (s : List Bool) : List Int := ((List.range s.length).filter (fun i => s.getD i false)).map Int.ofNat
def closeL (m : List Nd) (at_ : List Int) : List Int := if mayB m then listOf (pass m (init m at_)) else []
def nexts (m : List Nd) (at_ : List Int) (c : Int) : List Int :=
  (at_.filter (fun a => decide (valid m a))).flatMap (fun a => ((nd m a).es.filter (fun e => e.has c)).map Ed.dst)
def stepL (m : List Nd) (at_ : List Int) (c : Int) : List Int := closeL m (nexts m at_ c)
def endedB (m : List Nd) (at_ : List Int) : Bool := at_.any (fun a => decide ((nd m a).kind = 4))
def runL (m : List Nd) (s : List Int) : List Int := s.foldl (fun at_ c => stepL m at_ c) (closeL m [0])
def acceptsB (m : List Nd) (s : List Int) : Bool := endedB m (runL m s)

/-! ### edges, sorted by their lower bounds -/
theorem meets_comm (a b : Ed) : a.meets b = b.meets a := by unfold Ed.meets; exact Bool.and_comm _ _
theorem apart_iff (l : List Ed) : apart l = true ↔ l.Pairwise (fun a b => a.meets b = false) := by
  induction l with
  | nil => simp [apart]
  | cons e l ih =>
    unfold apart
    simp only [Bool.and_eq_true, List.all_eq_true, List.pairwise_cons, ih]
    constructor
    · rintro ⟨h1, h2⟩; exact ⟨fun x hx => by simpa using h1 x hx, h2⟩
    · rintro ⟨h1, h2⟩; exact ⟨fun x hx => by simpa using h1 x hx, h2⟩
theorem edgesOk_iff (l : List Ed) (many : Int) : edgesOk l many = true ↔ (∀ e ∈ l, edgeOk many e = true) ∧ l.Pairwise (fun a b => a.meets b = false) := by
  unfold edgesOk
  rw [Bool.and_eq_true, List.all_eq_true, apart_iff]
theorem edgesOk_perm {l l' : List Ed} (h : l.Perm l') (many : Int) : edgesOk l many = edgesOk l' many := by
  rw [Bool.eq_iff_iff, edgesOk_iff, edgesOk_iff, h.pairwise_iff (fun {a b} h => by rw [meets_comm]; exact h)]
  constructor
  · rintro ⟨h1, h2⟩; exact ⟨fun e he => h1 e (h.mem_iff.2 he), h2⟩
  · rintro ⟨h1, h2⟩; exact ⟨fun e he => h1 e (h.mem_iff.1 he), h2⟩
theorem edgesOk_adj {l : List Ed} {many : Int} (hs : l.Pairwise (fun x y => x.lo ≤ y.lo)) (h : ∀ (k : Nat) (hk : k < l.length), edgeOk many l[k] = true ∧ ∀ (h0 : 0 < k), (l[k - 1]'(by omega)).hi < l[k].lo) : edgesOk l many = true := by
  rw [edgesOk_iff]
  refine ⟨fun e he => ?_, ?_⟩
  · obtain ⟨k, hk, rfl⟩ := List.getElem_of_mem he
    exact (h k hk).1
  · rw [List.pairwise_iff_getElem] at hs ⊢
    intro i j hi hj hij
    have h1 := (h (i + 1) (by omega)).2 (by omega)
    simp only [Nat.add_sub_cancel] at h1
    have h2 : l[i + 1].lo ≤ l[j].lo := by
      rcases Nat.lt_or_ge (i + 1) j with h3 | h3
      · exact hs (i + 1) j (by omega) hj h3
      · have : i + 1 = j := by omega
        subst this; exact Int.le_refl _
    unfold Ed.meets
    have : decide (l[j].lo ≤ l[i].hi) = false := by simp; omega
    rw [this, Bool.and_false]
theorem edgesOk_bad {l : List Ed} {many : Int} {k : Nat} (hk : k < l.length) (h : edgeOk many l[k] = false) : edgesOk l many = false := by
  rw [Bool.eq_false_iff]
  intro h1
  rw [((edgesOk_iff l many).1 h1).1 _ (List.getElem_mem hk)] at h
  cases h
theorem edgesOk_meet {l : List Ed} {many : Int} (hs : l.Pairwise (fun x y => x.lo ≤ y.lo)) {k : Nat} (hk : k < l.length) (h0 : 0 < k) (he : l[k].lo ≤ l[k].hi) (h : l[k].lo ≤ (l[k - 1]'(by omega)).hi) : edgesOk l many = false := by
  rw [Bool.eq_false_iff]
  intro h1
  have h2 := List.pairwise_iff_getElem.1 ((edgesOk_iff l many).1 h1).2 (k - 1) k (by omega) hk (by omega)
  have h3 := List.pairwise_iff_getElem.1 hs (k - 1) k (by omega) hk (by omega)
  unfold Ed.meets at h2
  rw [decide_eq_true (by omega), decide_eq_true h] at h2
  cases h2

/-! ### what is reached -/
inductive Reach (m : List Nd) (a : Int) : Int → Prop where
  | refl : valid m a → Reach m a a
  | step {b c : Int} : Reach m a b → c ∈ succ (nd m b) → Reach m a c

theorem nodesOk_get {many : Int} : ∀ {l : List Nd} {i k : Nat}, nodesOk many i l = true → k < l.length → nodeOk (l.getD k Nd.none) ((i + k : Nat) : Int) many = true
  | [], _, _, _, h => absurd h (by simp)
  | n :: l, i, k, h, hk => by
    simp only [nodesOk, Bool.and_eq_true] at h
    cases k with
    | zero => simpa using h.1
    | succ k =>
      have := nodesOk_get (i := i + 1) (k := k) h.2 (by simpa using hk)
      have e : i + (k + 1) = i + 1 + k := by omega
      rw [e]
      simpa using this

theorem nodesOk_of {many : Int} : ∀ {l : List Nd} {i : Nat}, (∀ k, k < l.length → nodeOk (l.getD k Nd.none) ((i + k : Nat) : Int) many = true) → nodesOk many i l = true
  | [], _, _ => rfl
  | n :: l, i, h => by
    simp only [nodesOk, Bool.and_eq_true]
    refine ⟨by simpa using h 0 (by simp), nodesOk_of (fun k hk => ?_)⟩
    have := h (k + 1) (by simpa using hk)
    have e : i + (k + 1) = i + 1 + k := by omega
    rw [e] at this
    simpa using this

theorem may_iff (m : List Nd) : mayB m = true ↔ 1 ≤ m.length ∧ m.length ≤ 100000 ∧ ∀ i : Nat, i < m.length → nodeOk (nd m i) i m.length = true := by
  unfold mayB
  simp only [Bool.and_eq_true, decide_eq_true_eq]
  constructor
  · rintro ⟨h1, h2, h3⟩
    refine ⟨h1, h2, fun i hi => ?_⟩
    have := nodesOk_get (k := i) h3 hi
    simpa [nd] using this
  · rintro ⟨h1, h2, h3⟩
    refine ⟨h1, h2, nodesOk_of (fun k hk => ?_)⟩
    have := h3 k hk
    simpa [nd] using this

theorem may_node {m : List Nd} (h : mayB m = true) {a : Int} (ha : valid m a) : nodeOk (nd m a) a m.length = true := by
  obtain ⟨h0, h1⟩ := ha
  obtain ⟨n, rfl⟩ := Int.eq_ofNat_of_zero_le h0
  exact ((may_iff m).1 h).2.2 n (by omega)

/-- Forks and marks lead upwards, and stay inside. -/
theorem succ_up {m : List Nd} (h : mayB m = true) {a b : Int} (ha : valid m a) (hb : b ∈ succ (nd m a)) : a < b ∧ b < m.length := by
  have hn := may_node h ha
  unfold nodeOk at hn
  unfold succ at hb
  generalize nd m a = n at hn hb
  rcases List.mem_append.1 hb with hb | hb
  · split at hn
    · simp at hn; rw [hn.1] at hb; cases hb
    · split at hn
      · simp at hn
        have := hn.2.2 b hb
        simpa [upB] using this
      · split at hn
        · simp at hn; rw [hn.2.1] at hb; cases hb
        · split at hn
          · simp at hn; rw [hn.2.1] at hb; cases hb
          · cases hn
  · split at hb
    · rename_i h3
      rw [List.mem_singleton.1 hb]
      rw [if_neg (by omega), if_neg (by omega), if_pos h3] at hn
      simp [upB] at hn
      exact hn.2.2
    · cases hb

theorem succ_valid {m : List Nd} (h : mayB m = true) {a b : Int} (ha : valid m a) (hb : b ∈ succ (nd m a)) : valid m b := by
  have := succ_up h ha hb
  exact ⟨by have := ha.1; omega, this.2⟩

theorem Reach.valid_ {m : List Nd} (h : mayB m = true) {a b : Int} (hr : Reach m a b) : valid m b := by
  induction hr with
  | refl hv => exact hv
  | step _ hc ih => exact succ_valid h ih hc
theorem Reach.valid_a {m : List Nd} {a b : Int} (hr : Reach m a b) : valid m a := by
  induction hr with
  | refl hv => exact hv
  | step _ _ ih => exact ih
theorem Reach.trans {m : List Nd} {a b c : Int} (h1 : Reach m a b) (h2 : Reach m b c) : Reach m a c := by
  induction h2 with
  | refl _ => exact h1
  | step _ hc ih => exact ih.step hc

/-! ### lists of bools -/
theorem setAll_length (l : List Int) : ∀ s, (setAll l s).length = s.length := by
  induction l with
  | nil => intro s; rfl
  | cons j l ih =>
    intro s
    show (setAll l (s.set j.toNat true)).length = s.length
    rw [ih]; simp
theorem set_getD (s : List Bool) (j i : Nat) : (s.set j true).getD i false = true ↔ s.getD i false = true ∨ (i = j ∧ i < s.length) := by
  simp only [List.getD_eq_getElem?_getD, List.getElem?_set]
  by_cases h : j = i
  · subst h
    by_cases hl : j < s.length
    · simp [hl]
    · simp [hl]
  · rw [if_neg h]
    constructor
    · exact Or.inl
    · rintro (h1 | ⟨h1, _⟩)
      · exact h1
      · exact absurd h1.symm h
theorem setAll_getD (l : List Int) : ∀ (s : List Bool) (i : Nat), (setAll l s).getD i false = true ↔ s.getD i false = true ∨ (i < s.length ∧ ∃ j ∈ l, j.toNat = i) := by
  induction l with
  | nil => intro s i; simp [setAll]
  | cons j l ih =>
    intro s i
    show (setAll l (s.set j.toNat true)).getD i false = true ↔ _
    rw [ih, set_getD]
    simp only [List.length_set, List.mem_cons]
    constructor
    · rintro ((h | ⟨rfl, h⟩) | ⟨h, k, hk, rfl⟩)
      · exact .inl h
      · exact .inr ⟨h, j, .inl rfl, rfl⟩
      · exact .inr ⟨h, k, .inr hk, rfl⟩
    · rintro (h | ⟨h, k, (rfl | hk), rfl⟩)
      · exact .inl (.inl h)
      · exact .inl (.inr ⟨rfl, h⟩)
      · exact .inr ⟨h, k, hk, rfl⟩

theorem mark1_length (m : List Nd) (s : List Bool) (i : Nat) : (mark1 m s i).length = s.length := by
  unfold mark1; split
  · exact setAll_length _ _
  · rfl
theorem foldl_mark_length (m : List Nd) (l : List Nat) : ∀ s, (l.foldl (mark1 m) s).length = s.length := by
  induction l with
  | nil => intro s; rfl
  | cons i l ih => intro s; show (l.foldl (mark1 m) (mark1 m s i)).length = _; rw [ih, mark1_length]
theorem pass_length (m : List Nd) (s : List Bool) : (pass m s).length = s.length := foldl_mark_length m _ s
theorem init_length (m : List Nd) (at_ : List Int) : (init m at_).length = m.length := by unfold init; rw [setAll_length]; simp

theorem getD_lt {s : List Bool} {i : Nat} (h : s.getD i false = true) : i < s.length := by
  rcases Nat.lt_or_ge i s.length with h1 | h1
  · exact h1
  · simp [List.getD_eq_getElem?_getD, List.getElem?_eq_none h1] at h

theorem init_getD (m : List Nd) (at_ : List Int) (i : Nat) : (init m at_).getD i false = true ↔ i < m.length ∧ (i : Int) ∈ at_ := by
  unfold init
  rw [setAll_getD]
  simp only [List.length_replicate, List.mem_filter, decide_eq_true_eq]
  constructor
  · rintro (h | ⟨h, j, ⟨h1, h2⟩, rfl⟩)
    · simp only [List.getD_eq_getElem?_getD, List.getElem?_replicate] at h
      split at h <;> simp at h
    · refine ⟨h, ?_⟩
      rw [Int.toNat_of_nonneg h2.1]; exact h1
  · rintro ⟨h, h1⟩
    exact .inr ⟨h, i, ⟨h1, ⟨by omega, by omega⟩⟩, by simp⟩

/-- Behind a pass up to node n: all that is there was reached, what was there is there, and the first n nodes lead to what is there. -/
theorem pass_upto {m : List Nd} (h : mayB m = true) (s : List Bool) (hs : s.length = m.length) : ∀ n, n ≤ m.length →
    (∀ j : Nat, ((List.range n).foldl (mark1 m) s).getD j false = true → ∃ i : Nat, s.getD i false = true ∧ Reach m i j) ∧
    (∀ j : Nat, s.getD j false = true → ((List.range n).foldl (mark1 m) s).getD j false = true) ∧
    (∀ k : Nat, k < n → ((List.range n).foldl (mark1 m) s).getD k false = true → ∀ j ∈ succ (nd m k), ((List.range n).foldl (mark1 m) s).getD j.toNat false = true) := by
  intro n
  induction n with
  | zero =>
    intro _
    refine ⟨fun j hj => ⟨j, hj, .refl ⟨by omega, ?_⟩⟩, fun j hj => hj, fun k hk => absurd hk (by omega)⟩
    have := getD_lt hj
    simp at this
    omega
  | succ n ih =>
    intro hn
    obtain ⟨i1, i2, i3⟩ := ih (by omega)
    rw [List.range_succ, List.foldl_append]
    generalize hT : (List.range n).foldl (mark1 m) s = T at i1 i2 i3
    have hTl : T.length = m.length := by rw [← hT, foldl_mark_length, hs]
    show (∀ j : Nat, (mark1 m T n).getD j false = true → _) ∧ _
    have hv : valid m n := ⟨by omega, by omega⟩
    have key : ∀ j : Nat, (mark1 m T n).getD j false = true ↔ T.getD j false = true ∨ (T.getD n false = true ∧ (j : Int) ∈ succ (nd m n)) := by
      intro j
      unfold mark1
      by_cases hb : T.getD n false = true
      · rw [if_pos hb, setAll_getD]
        constructor
        · rintro (h1 | ⟨h1, k, hk, rfl⟩)
          · exact .inl h1
          · refine .inr ⟨hb, ?_⟩
            have := succ_up h hv hk
            rw [Int.toNat_of_nonneg (by omega)]; exact hk
        · rintro (h1 | ⟨_, h1⟩)
          · exact .inl h1
          · have := succ_up h hv h1
            exact .inr ⟨by omega, j, h1, by simp⟩
      · rw [if_neg hb]
        constructor
        · exact .inl
        · rintro (h1 | ⟨h1, _⟩)
          · exact h1
          · exact absurd h1 hb
    refine ⟨fun j hj => ?_, fun j hj => (key j).2 (.inl (i2 j hj)), fun k hk hkT j hj => ?_⟩
    · rcases (key j).1 hj with h1 | ⟨h1, h2⟩
      · exact i1 j h1
      · obtain ⟨i, hi, hr⟩ := i1 n h1
        exact ⟨i, hi, hr.step h2⟩
    · have hvk : valid m k := ⟨by omega, by omega⟩
      have hup := succ_up h hvk hj
      have e : ((j.toNat : Nat) : Int) = j := Int.toNat_of_nonneg (by omega)
      rcases (key k).1 hkT with h1 | ⟨h1, h2⟩
      · rcases Nat.lt_or_ge k n with hlt | hge
        · exact (key _).2 (.inl (i3 k hlt h1 j hj))
        · obtain rfl : k = n := by omega
          exact (key _).2 (.inr ⟨h1, by rw [e]; exact hj⟩)
      · have := succ_up h hv h2
        omega

theorem pass_getD {m : List Nd} (h : mayB m = true) (s : List Bool) (hs : s.length = m.length) (j : Nat) : (pass m s).getD j false = true ↔ ∃ i : Nat, s.getD i false = true ∧ Reach m i j := by
  obtain ⟨h1, h2, h3⟩ := pass_upto h s hs m.length (Nat.le_refl _)
  constructor
  · exact h1 j
  · rintro ⟨i, hi, hr⟩
    have : ∀ c : Int, Reach m i c → (pass m s).getD c.toNat false = true := by
      intro c hc
      induction hc with
      | refl _ => exact h2 _ (by simpa using hi)
      | step hb hc ih =>
        rename_i b c
        have hv := hb.valid_ h
        have e : ((b.toNat : Nat) : Int) = b := Int.toNat_of_nonneg hv.1
        exact h3 b.toNat (by have := hv.2; omega) ih c (by rw [e]; exact hc)
    simpa using this j hr

theorem mem_listOf (s : List Bool) (j : Int) : j ∈ listOf s ↔ 0 ≤ j ∧ s.getD j.toNat false = true := by
  unfold listOf
  simp only [List.mem_map, List.mem_filter, List.mem_range]
  constructor
  · rintro ⟨i, ⟨_, h⟩, rfl⟩
    exact ⟨by simp, by simpa using h⟩
  · rintro ⟨h0, h⟩
    exact ⟨j.toNat, ⟨getD_lt h, h⟩, by simp [Int.toNat_of_nonneg h0]⟩

/-- What is close: what is reached from any node of a list. -/
theorem mem_closeL {m : List Nd} (h : mayB m = true) (at_ : List Int) (j : Int) : j ∈ closeL m at_ ↔ ∃ a ∈ at_, Reach m a j := by
  unfold closeL
  rw [if_pos h, mem_listOf]
  constructor
  · rintro ⟨h0, h1⟩
    obtain ⟨i, hi, hr⟩ := (pass_getD h _ (init_length m at_) _).1 h1
    rw [Int.toNat_of_nonneg h0] at hr
    exact ⟨i, ((init_getD m at_ i).1 hi).2, hr⟩
  · rintro ⟨a, ha, hr⟩
    have hv := hr.valid_a
    have hj := hr.valid_ h
    refine ⟨hj.1, (pass_getD h _ (init_length m at_) _).2 ⟨a.toNat, (init_getD m at_ _).2 ⟨by have := hv.2; have := hv.1; omega, by rw [Int.toNat_of_nonneg hv.1]; exact ha⟩, ?_⟩⟩
    rw [Int.toNat_of_nonneg hv.1, Int.toNat_of_nonneg hj.1]; exact hr

theorem listOf_sorted (s : List Bool) : (listOf s).Pairwise (· < ·) := by
  unfold listOf
  rw [List.pairwise_map]
  have := (List.pairwise_lt_range (n := s.length)).filter (fun i => s.getD i false)
  exact this.imp (fun h => by simpa using h)
theorem closeL_sorted (m : List Nd) (at_ : List Int) : (closeL m at_).Pairwise (· < ·) := by
  unfold closeL; split
  · exact listOf_sorted _
  · exact .nil

/-- Two rising lists with the same members are one. -/
theorem rising_ext : ∀ {l l' : List Int}, l.Pairwise (· < ·) → l'.Pairwise (· < ·) → (∀ j, j ∈ l ↔ j ∈ l') → l = l'
  | [], [], _, _, _ => rfl
  | [], b :: l', _, _, h => absurd ((h b).2 (by simp)) (by simp)
  | a :: l, [], _, _, h => absurd ((h a).1 (by simp)) (by simp)
  | a :: l, b :: l', h1, h2, h => by
    rw [List.pairwise_cons] at h1 h2
    have hab : a = b := by
      rcases List.mem_cons.1 ((h a).1 (by simp)) with e | h3
      · exact e
      · rcases List.mem_cons.1 ((h b).2 (by simp)) with e | h4
        · exact e.symm
        · have := h1.1 b h4; have := h2.1 a h3; omega
    subst hab
    congr 1
    refine rising_ext h1.2 h2.2 (fun j => ?_)
    constructor
    · intro hj
      rcases List.mem_cons.1 ((h j).1 (List.mem_cons_of_mem _ hj)) with e | h3
      · subst e; have := h1.1 j hj; omega
      · exact h3
    · intro hj
      rcases List.mem_cons.1 ((h j).2 (List.mem_cons_of_mem _ hj)) with e | h3
      · subst e; have := h2.1 j hj; omega
      · exact h3

theorem closeL_ext {m : List Nd} {l : List Int} {at_ : List Int} (h : mayB m = true) (hs : l.Pairwise (· < ·)) (hm : ∀ j, j ∈ l ↔ ∃ a ∈ at_, Reach m a j) : l = closeL m at_ :=
  rising_ext hs (closeL_sorted m at_) (fun j => (hm j).trans (mem_closeL h at_ j).symm)

theorem closeL_valid {m : List Nd} {at_ : List Int} {j : Int} (hj : j ∈ closeL m at_) : valid m j := by
  by_cases h : mayB m = true
  · obtain ⟨a, _, hr⟩ := (mem_closeL h at_ j).1 hj
    exact hr.valid_ h
  · unfold closeL at hj; rw [if_neg h] at hj; cases hj

/-! ### a set of nodes that grows -/
/-- T is S, and more: what is new satisfies R, and leads to what is in T. -/
structure Grow (m : List Nd) (R : Int → Prop) (S T : Int → Bool) : Prop where
  sub : ∀ i, S i = true → T i = true
  new : ∀ i, T i = true → S i = true ∨ R i
  shut : ∀ i, T i = true → S i = false → ∀ j ∈ succ (nd m i), T j = true

theorem Grow.refl (m : List Nd) (R : Int → Prop) (S : Int → Bool) : Grow m R S S := ⟨fun _ h => h, fun _ h => .inl h, fun i h h' => by rw [h] at h'; cases h'⟩
theorem Grow.mono {m : List Nd} {R R' : Int → Prop} {S T : Int → Bool} (h : Grow m R S T) (hR : ∀ i, R i → R' i) : Grow m R' S T := ⟨h.sub, fun i hi => (h.new i hi).imp id (hR i), h.shut⟩
theorem Grow.trans {m : List Nd} {R : Int → Prop} {S T U : Int → Bool} (h : Grow m R S T) (h' : Grow m R T U) : Grow m R S U := by
  refine ⟨fun i hi => h'.sub i (h.sub i hi), fun i hi => ?_, fun i hi hS j hj => ?_⟩
  · rcases h'.new i hi with h1 | h1
    · exact h.new i h1
    · exact .inr h1
  · cases hT : T i with
    | true => exact h'.sub j (h.shut i hT hS j hj)
    | false => exact h'.shut i hi hT j hj
/-- S with x. -/
def with_ (S : Int → Bool) (x : Int) : Int → Bool := fun i => if i = x then true else S i
theorem with_self (S : Int → Bool) (x : Int) : with_ S x x = true := by simp [with_]
theorem with_sub (S : Int → Bool) (x i : Int) (h : S i = true) : with_ S x i = true := by unfold with_; split <;> simp [h]
/-- A node was put in, and then all to which it leads. -/
theorem Grow.close {m : List Nd} {S T : Int → Bool} {x : Int} (hv : valid m x) (h : Grow m (Reach m x) (with_ S x) T) (hs : ∀ j ∈ succ (nd m x), T j = true) : Grow m (Reach m x) S T ∧ T x = true := by
  refine ⟨⟨fun i hi => h.sub i (with_sub S x i hi), fun i hi => ?_, fun i hi hS j hj => ?_⟩, h.sub x (with_self S x)⟩
  · rcases h.new i hi with h1 | h1
    · unfold with_ at h1
      split at h1
      · rename_i e; rw [e]; exact .inr (.refl hv)
      · exact .inl h1
    · exact .inr h1
  · by_cases e : i = x
    · subst e; exact hs j hj
    · exact h.shut i hi (by unfold with_; rw [if_neg e]; exact hS) j hj

def setList (N : Nat) (S : Int → Bool) : List Int := ((List.range N).filter (fun (i : Nat) => S (i : Int))).map Int.ofNat
theorem mem_setList (N : Nat) (S : Int → Bool) (h : ∀ i, S i = true → 0 ≤ i ∧ i < (N : Int)) (j : Int) : j ∈ setList N S ↔ S j = true := by
  unfold setList
  simp only [List.mem_map, List.mem_filter, List.mem_range]
  constructor
  · rintro ⟨i, ⟨_, h1⟩, rfl⟩; exact h1
  · intro hj
    obtain ⟨h0, h1⟩ := h j hj
    exact ⟨j.toNat, ⟨by omega, by rw [Int.toNat_of_nonneg h0]; exact hj⟩, by simp [Int.toNat_of_nonneg h0]⟩
theorem setList_sorted (N : Nat) (S : Int → Bool) : (setList N S).Pairwise (· < ·) := by
  unfold setList
  rw [List.pairwise_map]
  exact ((List.pairwise_lt_range (n := N)).filter _).imp (fun h => by simpa using h)
theorem setList_length (N : Nat) (S : Int → Bool) : (setList N S).length ≤ N := by
  unfold setList
  rw [List.length_map]
  exact Nat.le_trans (List.length_filter_le _ _) (by simp)

/-- All nodes of a list have been put into the empty set: it is what is close. -/
theorem closeL_of_grow {m : List Nd} (hM : mayB m = true) {at_ : List Int} {T : Int → Bool} (hr : ∀ i, T i = true → 0 ≤ i ∧ i < (m.length : Int)) (h : Grow m (fun i => ∃ a ∈ at_, Reach m a i) (fun _ => false) T) (hin : ∀ a ∈ at_, valid m a → T a = true) :
    setList m.length T = closeL m at_ := by
  refine closeL_ext hM (setList_sorted _ _) (fun j => ?_)
  rw [mem_setList _ _ hr]
  constructor
  · intro hj
    rcases h.new j hj with h1 | h1
    · cases h1
    · exact h1
  · rintro ⟨a, ha, hreach⟩
    have hv := hreach.valid_a
    induction hreach with
    | refl _ => exact hin a ha hv
    | step _ hc ih => exact h.shut _ ih rfl _ hc

theorem mem_nexts (m : List Nd) (at_ : List Int) (c f : Int) : f ∈ nexts m at_ c ↔ ∃ a ∈ at_, valid m a ∧ ∃ e ∈ (nd m a).es, e.has c = true ∧ e.dst = f := by
  unfold nexts
  simp only [List.mem_flatMap, List.mem_filter, List.mem_map, decide_eq_true_eq]
  constructor
  · rintro ⟨a, ⟨h1, h2⟩, e, ⟨h3, h4⟩, h5⟩
    exact ⟨a, h1, h2, e, h3, h4, h5⟩
  · rintro ⟨a, h1, h2, e, h3, h4, h5⟩
    exact ⟨a, ⟨h1, h2⟩, e, ⟨h3, h4⟩, h5⟩
theorem edge_to {m : List Nd} (h : mayB m = true) {a : Int} (ha : valid m a) {e : Ed} (he : e ∈ (nd m a).es) : 0 ≤ e.dst ∧ e.dst < m.length := by
  have hn := may_node h ha
  unfold nodeOk at hn
  generalize nd m a = n at hn he
  split at hn
  · simp only [Bool.and_eq_true] at hn
    have := hn.2.2
    unfold edgesOk at this
    simp only [Bool.and_eq_true, List.all_eq_true] at this
    have := this.1 e he
    unfold edgeOk at this
    simp at this
    exact this.2
  · split at hn
    · simp at hn; rw [hn.1] at he; cases he
    · split at hn
      · simp at hn; rw [hn.1] at he; cases he
      · split at hn
        · simp at hn; rw [hn.1] at he; cases he
        · cases hn
theorem nexts_valid {m : List Nd} (h : mayB m = true) {at_ : List Int} {c f : Int} (hf : f ∈ nexts m at_ c) : valid m f := by
  obtain ⟨a, _, h2, e, h3, _, rfl⟩ := (mem_nexts m at_ c f).1 hf
  exact edge_to h h2 h3
end Go.Proofs.Ytolfamfgoafhlaa.L
end
section
namespace Go.Proofs.Ytolfamfgoafhlaa.M
open Go.RowKit Go.Shelf Go.Proofs.YtolfamfgoafhlaaW.PrintWords Go.Proofs.YtolfamfgoafhlaaW.PrintLast
open Go.Proofs.Ytolfamfgoafhlaa.P
open Go.Sort (HoldsK flatK putRowK get_flatK PermIn SortedIn SWO)

/-! ### the order of edges -/
def cf8 (x y : E8) : Int := x.1.f0 - y.1.f0
theorem lt8 (x y : E8) : Go.Proofs.ltOf cf8 x y = decide (x.1.f0 < y.1.f0) := by
  unfold Go.Proofs.ltOf cf8
  by_cases h : x.1.f0 < y.1.f0
  · rw [decide_eq_true h, decide_eq_true (by omega)]
  · rw [decide_eq_false h, decide_eq_false (by omega)]
theorem swo8 : SWO (Go.Proofs.ltOf cf8) where
  irrefl x := by rw [lt8]; simp
  trans x y z h1 h2 := by rw [lt8] at *; simp at *; omega
  ntrans x y z h1 h2 := by rw [lt8] at *; simp at *; omega

set_option maxHeartbeats 1000000 in
/-- eats' closure. -/
theorem cmp_calls (x y : E8) (W : World) : Calls Try.prog 96 #[.agg (c3 x).toArray, .agg (c3 y).toArray] W fun e w' => e = .returned (.int .i64 (cf8 x y)) ∧ ∃ q os', w' = Go.Sort.grow (W.drewN q) os' := by
  obtain ⟨x, x0, x1⟩ := x
  obtain ⟨y, y0, y1⟩ := y
  simp only [c3, cf8]
  go_enter Try.func96, Try.ntmps96
  go_wp2
  go_ret
  exact ⟨rfl, 0, _, by rw [Go.Sort.alloc_eq_grow, Go.Sort.alloc_eq_grow, Go.Sort.grow_grow]; rfl⟩

/-! ### a row of edges in the sort's words -/
theorem c3_length (x : E8) : (c3 x).length = 3 := rfl
theorem flat3_length (l : List E8) : (flat3 l).length = l.length * 3 := by
  induction l with
  | nil => rfl
  | cons x l ih =>
    have : flat3 (x :: l) = c3 x ++ flat3 l := rfl
    rw [this, List.length_append, ih, c3_length, List.length_cons]; omega
theorem flat3_get (l : List E8) : ∀ t, t < l.length * 3 → (flat3 l)[t]! = (c3 (l.toArray)[t / 3]!)[t % 3]! := by
  induction l with
  | nil => intro t h; simp at h
  | cons x l ih =>
    intro t h
    have e : flat3 (x :: l) = c3 x ++ flat3 l := rfl
    rw [e]
    rcases Nat.lt_or_ge t 3 with h3 | h3
    · have h0 : t / 3 = 0 := by omega
      have h1 : t % 3 = t := by omega
      rw [h0, h1]
      simp only [List.getElem!_eq_getElem?_getD, List.getElem?_append_left (show t < (c3 x).length from h3)]
      simp
    · have h0 : t / 3 = (t - 3) / 3 + 1 := by omega
      have h1 : t % 3 = (t - 3) % 3 := by omega
      have := ih (t - 3) (by rw [List.length_cons] at h; omega)
      rw [h0, h1]
      simp only [List.getElem!_eq_getElem?_getD] at this ⊢
      rw [List.getElem?_append_right (by rw [c3_length]; exact h3), c3_length, this]
      simp
theorem holds_of_own3 {w : World} {base : Nat} {v : Value} {l : List E8} (h : w.ownsRow base 72 3 v l.length (flat3 l)) (hl : 0 < l.length) :
    ∃ g cap, v = .slice (some ⟨g, 0, none⟩) l.length cap ∧ base ≤ g ∧ g < w.heap.size ∧ l.length ≤ cap ∧ cap ≤ maxLen ∧ HoldsK c3 3 w g 0 l.toArray := by
  rcases h.2 with ⟨_, e0⟩ | ⟨g, cap, cur, rfl, hb, hg, hn, hm, hs, ht⟩
  · omega
  · refine ⟨g, cap, rfl, hb, (Array.getElem?_eq_some_iff.1 hg).1, hn, hm, fun t htl => ?_⟩
    have ht' : t < l.length * 3 := by simpa using htl
    rw [get_flatK c3 3 _ t (by simpa using ht')]
    refine ⟨?_, by simp [World.frozen?, hg]⟩
    rw [← flat3_get l t ht', ← ht, Nat.zero_add]
    have hlt : t < cur.size := by rw [hs]; have := Nat.mul_le_mul_right 3 hn; omega
    refine cells_at hg ?_
    simp [List.getElem!_eq_getElem?_getD, ht', hlt]
theorem reads_of_holds3 {w : World} {g : Nat} {d : Array E8} (h : HoldsK c3 3 w g 0 d) (hm : d.size ≤ 9223372036854775807) : Kd.C k72 w (some ⟨g, 0, none⟩) d.size (vals d.toList) := by
  refine ⟨by simp [vals], hm, fun hn => ⟨_, rfl, fun j x hj => ?_⟩⟩
  have hj' : j < d.size := by
    have := (List.getElem?_eq_some_iff.1 hj).1
    simpa [vals] using this
  have hx : x = d[j]!.1 := by
    simp only [vals, List.getElem?_map] at hj
    rw [Array.getElem?_toList, Array.getElem?_eq_getElem hj'] at hj
    simp at hj
    rw [getElem!_pos d j hj', ← hj]
  refine ⟨c3 d[j]!, c3_length _, by rw [hx]; exact k72_mk _ _, fun i u hu => ?_⟩
  have hi : i < 3 := by have := (List.getElem?_eq_some_iff.1 hu).1; rwa [c3_length] at this
  have := (h.cell hj' hi).1
  rw [List.getElem!_eq_getElem?_getD, hu] at this
  show w.cell? ((⟨g, 0, none⟩ : Addr).add (j * 3 + i)) = some u
  rw [add_plain]
  simpa using this
theorem below_sortK {w0 w : World} {g n : Nat} {d : Array E8} {os : Array Obj} (h : Below w0.heap.size w0 w) (hg : w0.heap.size ≤ g) : Below w0.heap.size w0 (sortWorldK c3 3 w g 0 n d os) := by
  unfold sortWorldK
  have h1 : Below w0.heap.size w0 (putRowK c3 3 (Go.Sort.ahead w n) g 0 d) := Lib.below_putRow (enc := id) h hg
  exact ⟨h1.os, h1.tape, h1.output, Nat.le_trans h1.size (by show _ ≤ (_ ++ os).size; rw [Array.size_append]; omega), fun k hk => (Go.Sort.heap_grow_old _ _ (Nat.lt_of_lt_of_le hk h1.size)).trans (h1.block k hk)⟩
theorem holds_sortK {w : World} {g n : Nat} {d0 d : Array E8} {os : Array Obj} (h : HoldsK c3 3 w g 0 d0) (hlt : g < w.heap.size) (hs : d.size = d0.size) : HoldsK c3 3 (sortWorldK c3 3 w g 0 n d os) g 0 d := by
  unfold sortWorldK
  have h1 := Go.Sort.holdsK_putRowK c3 3 (Go.Sort.ahead w n) g 0 d0 d (Go.Sort.holdsK_ahead c3 3 w n g 0 d0 h) hs
  exact Go.Sort.holdsK_grow c3 3 _ os g 0 d (by simpa [putRowK, Go.Sort.putRow, Go.Sort.mapBlock, Go.Sort.ahead] using hlt) h1

set_option maxRecDepth 100000 in
set_option maxHeartbeats 1000000 in
/-- slices.Collect. -/
theorem collect_calls (n : Nat) (hn : 3 ≤ n) (g : Nat) (lb : Array Value) (eg : ∀ args w, (callFunc g args).run Try.prog w = .ok (.enter g args) w) (l : List E8) (hN : l.length ≤ 1000000) (n₀ : Nat) (w : World) (hn₀ : n₀ ≤ w.heap.size) (w1 : World) (hw1 : Below w1.heap.size w1 w)
    (hseq : SeqStopsK Fence.wide (n - 1 - 1) Try.prog g lb encs3 (Below n₀) (fun ys => ys = l) (fun _ => True) l.length w1) :
    CallsIn Fence.wide n Try.prog 101 #[.func (.func g) #[] lb] w fun e w' => ∃ v, e = .returned v ∧ w'.ownsRow w.heap.size 72 3 v l.length (flat3 l) ∧ Below w.heap.size w w' := by
  have h1 : 1 ≤ n := by omega
  have hf : Fence.wide.fn 107 := trivial
  refine callsIn_of_wp Try.func101 rfl trivial ?_ rfl
  simp only [Try.ntmps101, List.size_toArray, List.length_cons, List.length_nil, Nat.reduceAdd, Nat.reduceSub, Array.replicate_succ, Array.replicate_zero, List.push_toArray, List.append_toArray, List.nil_append, List.cons_append]
  gi_wp2_with (gi_at_call 107; refine (appendSeq_calls (n - 1) (by omega) g lb eg l hN n₀ _ hn₀ w1 hw1 hseq).mono ?_; rintro e w' ⟨v, rfl, hrow, hb⟩)
  go_ret
  exact ⟨v, rfl, hrow, hb⟩

set_option maxRecDepth 100000 in
set_option maxHeartbeats 1000000 in
/-- slices.SortedFunc(slices.Values(s), by Low): a new row, sorted. -/
theorem sortedFunc_calls (Bs : Nat) (A : Option Addr) (c : Nat) (l : List E8) (hN : l.length ≤ 1000000) (w0 w : World) (hb0 : Below w0.heap.size w0 w) (hBs : Bs < w.heap.size) (hc : w.cell? ⟨Bs, 0, none⟩ = some (.slice A l.length c)) (hl : Kd.C k72 w0 A l.length (vals l)) :
    Calls Try.prog 94 #[.func (.func 103) #[] #[.pointer (some ⟨Bs, 0, none⟩)], .func (.func 96) #[] #[]] w fun e w' => ∃ (l' : List E8) (A' : Option Addr) (c' : Nat), e = .returned (.slice A' l'.length c') ∧ l'.Perm l ∧ l'.Pairwise (fun x y => x.1.f0 ≤ y.1.f0) ∧ l'.length ≤ c' ∧ Kd.C k72 w' A' l'.length (vals l') ∧ Below w.heap.size w w' := by
  have hst : SeqStopsK Fence.wide (8 - 1 - 1 - 1) Try.prog 103 #[.pointer (some ⟨Bs, 0, none⟩)] encs3 (Below w0.heap.size) (fun ys => ys = l) (fun _ => True) l.length w :=
    vals_stops _ (by omega) Bs w0.heap.size A c l w hBs hb0.size w0 rfl hb0 hc hl
  have hcol := collect_calls (8 - 1) (by omega) 103 #[.pointer (some ⟨Bs, 0, none⟩)] (enters_of Try.func103 (by kernel_rfl) rfl) l hN w0.heap.size w hb0.size w (Below.refl _ _) hst
  have hcol' : Calls Try.prog 101 #[.func (.func 103) #[] #[.pointer (some ⟨Bs, 0, none⟩)]] w fun e w' => ∃ v, e = .returned v ∧ w'.ownsRow w.heap.size 72 3 v l.length (flat3 l) ∧ Below w.heap.size w w' := (callsIn_wide (n := 7)).1 hcol
  have HCL := Lib.hid hcol'
  clear hst hcol hcol' hl hc
  rcases Nat.eq_zero_or_pos l.length with h0 | hpos
  · obtain rfl : l = [] := List.eq_nil_of_length_eq_zero h0
    have hno := fun p cap W => AnyF.slices_SortFunc_none Try.sortF p cap (.func (.func 96) #[] #[]) W
    change ∀ p cap W, Calls Try.prog 102 _ _ _ at hno
    have HNO := Lib.hid hno
    clear hno
    go_enter Try.func94, Try.ntmps94
    go_wp2_with (first | (go_at_call 101; refine HCL.out.mono ?_; rintro e w1 ⟨v, rfl, hrow, hb1⟩; obtain ⟨A', c', rfl⟩ := own_slice hrow) | (go_at_call 102; refine (HNO.out _ _ _).mono ?_; rintro e w2 ⟨rfl, rfl⟩))
    go_ret
    exact ⟨[], A', c', rfl, .refl _, .nil, Nat.zero_le _, ⟨rfl, by simp, fun h => absurd h (by simp)⟩, hb1⟩
  · have hcon := fun (g cap : Nat) (w1 : World) (hH : HoldsK c3 3 w1 g 0 l.toArray) (hlt : g < w1.heap.size) => AnyQ.slices_SortFunc Try.sortF 3 Try.isAgg72 Try.sizeOf72 c3 c3_length (fun x v hv => by simp [c3] at hv; rcases hv with rfl | rfl | rfl <;> rfl) cf8 swo8 96 #[] g 0 cap l.toArray w1 (enters_of Try.func96 (by kernel_rfl) rfl) (fun _ _ _ _ x y => cmp_calls x y _) hH hlt (by simp; omega)
    change ∀ (g cap : Nat) (w1 : World) (hH : HoldsK c3 3 w1 g 0 l.toArray) (hlt : g < w1.heap.size), Calls Try.prog 102 _ _ _ at hcon
    have HNO := Lib.hid hcon
    clear hcon
    have hsz : l.toArray.size = l.length := by simp
    go_enter Try.func94, Try.ntmps94
    go_wp2_with (first | (go_at_call 101; refine HCL.out.mono ?_; rintro e w1 ⟨v, rfl, hrow, hb1⟩; obtain ⟨g, cap, rfl, hbg, hgl, hlc, hcm, hH⟩ := holds_of_own3 hrow hpos; have HH := Lib.hid hH; clear hH hrow) | (go_at_call 102; rw [← hsz]; refine (HNO.out g cap _ HH.out hgl).mono ?_; rintro e w2 ⟨rfl, d', n, os, hp, hs, rfl⟩))
    go_ret
    have hds : d'.size = l.length := by rw [hp.1]; simp
    have hperm : d'.toList.Perm l := by
      have h1 := hp.2.2
      rw [show l.toArray.size = d'.size from hp.1.symm, Array.extract_size, hp.1, Array.extract_size] at h1
      simpa using h1
    have hH2 := holds_sortK (n := n) (d := d') (os := os) HH.out hgl (by rw [hp.1])
    have hlen : d'.toList.length = l.length := by rw [Array.length_toList, hds]
    refine ⟨d'.toList, some ⟨g, 0, none⟩, cap, by rw [hlen]; simp, hperm, ?_, by rw [hlen]; exact hlc, ?_, below_sortK hb1 hbg⟩
    · rw [List.pairwise_iff_getElem]
      intro i j hi hj hij
      have hj' : j < d'.size := by simpa using hj
      have h1 := hs i j (Nat.zero_le _) hij (by simpa [hds] using hj')
      rw [lt8] at h1
      have h2 := of_decide_eq_false h1
      rw [getElem!_pos d' j hj', getElem!_pos d' i (by omega)] at h2
      simp only [Array.getElem_toList]
      omega
    · have := reads_of_holds3 hH2 (by omega)
      rw [Array.length_toList]
      exact this

set_option maxRecDepth 100000 in
/-- slices.Values(s). -/
theorem values_calls (A : Option Addr) (n c : Nat) (w : World) :
    Calls Try.prog 95 #[.slice A n c] w fun e w' => e = .returned (.func (.func 103) #[] #[.pointer (some ⟨w.heap.size, 0, none⟩)]) ∧ w' = w.alloc (.cells #[.slice A n c] 31) := by
  go_enter Try.func95, Try.ntmps95
  go_wp2
  go_ret
  exact ⟨rfl, rfl⟩
end Go.Proofs.Ytolfamfgoafhlaa.M
end
section
namespace Go.Proofs.Ytolfamfgoafhlaa.M
open Go.RowKit Go.Proofs.YtolfamfgoafhlaaW.PrintWords Go.Proofs.YtolfamfgoafhlaaW.PrintLast
open Go.Proofs.Ytolfamfgoafhlaa.P Go.Proofs.Ytolfamfgoafhlaa.L

def ed8 (x : E8) : Ed := ⟨x.1.f0, x.1.f1, x.1.f2⟩

set_option maxRecDepth 100000 in
set_option maxHeartbeats 1000000 in
/-- eats: may edges be? -/
theorem eats_calls (A : Option Addr) (c : Nat) (l : List E8) (hN : l.length ≤ 1000000) (many : Int) (w : World) (hl : Kd.C k72 w A l.length (vals l)) :
    Calls Try.prog 80 #[.slice A l.length c, .int .i64 many] w fun e w' => e = .returned (.bool (edgesOk (l.map ed8) many)) ∧ Below w.heap.size w w' := by
  have hb0 : Below w.heap.size w (w.alloc (.cells #[.slice A l.length c] 31)) := (Below.refl _ _).alloc (Nat.le_refl _) _
  have hx0 : (w.alloc (.cells #[.slice A l.length c] 31)).cell? ⟨w.heap.size, 0, none⟩ = some (.slice A l.length c) := by
    have := cells_new w #[.slice A l.length c] 31 0 _ rfl
    rwa [add_plain] at this
  have HB0 := Lib.hid hb0
  have HX0 := Lib.hid hx0
  have HL := Lib.hid hl
  clear hb0 hx0 hl
  go_enter Try.func80, Try.ntmps80
  go_wp2_with (first | (go_at_call 95; refine (values_calls A _ c _).mono ?_; rintro e w1 ⟨rfl, rfl⟩) | (go_at_call 94; refine (sortedFunc_calls w.heap.size A c l hN w _ HB0.out (by simp) HX0.out HL.out).mono ?_; rintro e w2 ⟨l', A', c', rfl, hperm, hsort, hlc, hC, hb2⟩))
  have hB2 : Below w.heap.size w w2 := HB0.out.trans (hb2.mono HB0.out.size)
  have HB2 := Lib.hid hB2
  have HC := Lib.hid hC
  have HPm := Lib.hid hperm
  have HSt := Lib.hid hsort
  have hll : l'.length ≤ 1000000 := by rw [hperm.length_eq]; exact hN
  clear hB2 hC hperm hsort hb2
  go_loopw [12] (fun v wr => ∃ k : Nat, k ≤ l'.length ∧ v = .int .i64 k ∧ Aside0 (∀ (j : Nat) (hj : j < l'.length), j < k → edgeOk many (ed8 l'[j]) = true ∧ ∀ _ : 0 < j, (l'[j - 1]'(by omega)).1.f1 < l'[j].1.f0) ∧ Aside0 (Below w2.heap.size w2 wr)) (fun v _ => l'.length - (RowKit.intOf v).toNat)
  case atStart => exact ⟨0, Nat.zero_le _, rfl, ⟨fun _ _ h => absurd h (by omega)⟩, ⟨Below.refl _ _⟩⟩
  case round =>
    obtain ⟨k, hk, rfl, HI, HB3⟩ := hrel
    by_cases hlt : k < l'.length
    · obtain ⟨ad, eA, hy0, hy1, hy2⟩ := at_T72 HC.out (k : Int) (by omega) (by omega)
      subst eA
      rw [rd_vals l' k hlt] at hy0 hy1 hy2
      simp only [Int.toNat_natCast] at hy0 hy1 hy2
      have hx0 := (HB3.out.cell (World.block_lt_of_cell? w2 _ hy0)).trans hy0
      have hx1 := (HB3.out.cell (World.block_lt_of_cell? w2 _ hy1)).trans hy1
      have hx2 := (HB3.out.cell (World.block_lt_of_cell? w2 _ hy2)).trans hy2
      clear hy0 hy1 hy2
      have hbad : edgeOk many (ed8 l'[k]) = false → edgesOk (l.map ed8) many = false := fun h => by
        rw [← edgesOk_perm (HPm.out.map ed8) many]
        exact edgesOk_bad (k := k) (by simpa using hlt) (by simpa using h)
      have HBad := Lib.hid hbad
      have hend : Below w.heap.size w (wr.alloc (.cells #[.int .u8 l'[k].1.f0, .int .u8 l'[k].1.f1, .int .i64 l'[k].1.f2] 72)) := (HB2.out.trans (HB3.out.mono HB2.out.size)).alloc (by have := HB2.out.size; have := HB3.out.size; omega) _
      have HEnd := Lib.hid hend
      have hgo : edgeOk many (ed8 l'[k]) = true → (∀ _ : 0 < k, (l'[k - 1]'(by omega)).1.f1 < l'[k].1.f0) → ∀ (j : Nat) (hj : j < l'.length), j < k + 1 → edgeOk many (ed8 l'[j]) = true ∧ ∀ _ : 0 < j, (l'[j - 1]'(by omega)).1.f1 < l'[j].1.f0 := fun h1 h2 j hj hjk => by
        rcases Nat.lt_or_ge j k with h3 | h3
        · exact HI.out j hj h3
        · obtain rfl : j = k := by omega
          exact ⟨h1, h2⟩
      have HGo := Lib.hid hgo
      have hmt : ∀ _ : 0 < k, l'[k].1.f0 ≤ l'[k].1.f1 → l'[k].1.f0 ≤ (l'[k - 1]'(by omega)).1.f1 → edgesOk (l.map ed8) many = false := fun h0 h1 h2 => by
        rw [← edgesOk_perm (HPm.out.map ed8) many]
        exact edgesOk_meet (k := k) (by rw [List.pairwise_map]; exact HSt.out) (by simpa using hlt) h0 (by simpa [ed8] using h1) (by simpa [ed8] using h2)
      have HMt := Lib.hid hmt
      clear hbad hend hgo hmt
      by_cases b1 : l'[k].1.f1 < l'[k].1.f0
      · have hr := HBad.out (by unfold edgeOk ed8; simp; omega)
        have HR := Lib.hid hr
        clear hr HBad HGo HMt
        generalize l'[k].1 = x at *
        have d1 : decide (x.f1 < x.f0) = true := by simpa using b1
        go_wp2
        go_quiet (fail)
        go_wp2
        go_ret
        exact ⟨by rw [HR.out]; rfl, pw_below_drewN HEnd.out _⟩
      · by_cases b2 : l'[k].1.f2 < 0
        · have hr := HBad.out (by unfold edgeOk ed8; simp; omega)
          have HR := Lib.hid hr
          clear hr HBad HGo HMt
          generalize l'[k].1 = x at *
          have d1 : decide (x.f1 < x.f0) = false := by simpa using b1
          have d2 : decide (x.f2 < 0) = true := by simpa using b2
          go_wp2
          go_quiet (fail)
          go_wp2
          go_ret
          exact ⟨by rw [HR.out]; rfl, pw_below_drewN HEnd.out _⟩
        · by_cases b3 : many ≤ l'[k].1.f2
          · have hr := HBad.out (by unfold edgeOk ed8; simp; omega)
            have HR := Lib.hid hr
            clear hr HBad HGo HMt
            generalize l'[k].1 = x at *
            have d1 : decide (x.f1 < x.f0) = false := by simpa using b1
            have d2 : decide (x.f2 < 0) = false := by simpa using b2
            have d3 : decide (many ≤ x.f2) = true := by simpa using b3
            go_wp2
            go_quiet (fail)
            go_wp2
            go_ret
            exact ⟨by rw [HR.out]; rfl, pw_below_drewN HEnd.out _⟩
          · have hok : edgeOk many (ed8 l'[k]) = true := by unfold edgeOk ed8; simp; omega
            rcases Nat.eq_zero_or_pos k with h0 | h0
            · have hk0 : k ≤ 0 := by omega
              have d4 : decide (0 < k) = false := by simp; omega
              have hn := HGo.out hok (fun h => absurd h (by omega))
              have HN := Lib.hid hn
              clear hn hok HBad HGo HMt h0
              generalize l'[k].1 = x at *
              have d1 : decide (x.f1 < x.f0) = false := by simpa using b1
              have d2 : decide (x.f2 < 0) = false := by simpa using b2
              have d3 : decide (many ≤ x.f2) = false := by simpa using b3
              go_wp2
              go_quiet (fail)
              go_wp2
              go_roundw
              case rel => exact ⟨k + 1, by omega, by go_num, ⟨HN.out⟩, ⟨pw_below_drewN (HB3.out.alloc HB3.out.size _) _⟩⟩
              case measure => simp [RowKit.intOf]; omega
            · by_cases b4 : l'[k].1.f0 ≤ (l'[k - 1]'(by omega)).1.f1
              · have hr := HMt.out h0 (by omega) b4
                have HR := Lib.hid hr
                obtain ⟨ad2, eA2, hz0, hz1, hz2⟩ := at_T72 HC.out ((k - 1 : Nat) : Int) (by omega) (by omega)
                rw [rd_vals l' (k - 1) (by omega)] at hz1
                cases eA2
                have hzz := (HB3.out.cell (World.block_lt_of_cell? w2 _ hz1)).trans hz1
                simp only [Int.toNat_natCast] at hzz
                have hzw := (((Below.refl _ wr).alloc (Nat.le_refl _) (.cells #[.int .u8 l'[k].1.f0, .int .u8 l'[k].1.f1, .int .i64 l'[k].1.f2] 72)).cell (World.block_lt_of_cell? wr _ hzz)).trans hzz
                clear hr HBad HGo HMt hok hz0 hz1 hz2
                generalize l'[k].1 = x at *
                generalize (l'[k - 1]'(by omega)).1 = y at *
                have d1 : decide (x.f1 < x.f0) = false := by simpa using b1
                have d2 : decide (x.f2 < 0) = false := by simpa using b2
                have d3 : decide (many ≤ x.f2) = false := by simpa using b3
                have d4 : decide (x.f0 ≤ y.f1) = true := by simpa using b4
                have i1 : (0 : Int) ≤ (k : Int) - 1 := by omega
                have i2 : (k : Int) - 1 < (l'.length : Int) := by omega
                have i3 : ((k : Int) - 1).toNat = k - 1 := by omega
                have j1 : (1 : Int) ≤ (k : Int) := by omega
                have j2 : 1 ≤ k := by omega
                have j3 : (k : Int) < (l'.length : Int) + 1 := by omega
                have j4 : k < l'.length + 1 := by omega
                have j5 : (k : Int) ≤ (l'.length : Int) := by omega
                have i4 : IntKind.i64.wrap ((k : Int) - 1) = (k : Int) - 1 := IntWalk.i64_in _ (by omega)
                have d5 : decide (0 < k) = true := by simpa using h0
                go_wp2
                go_quiet (fail)
                go_wp2
                go_ret
                exact ⟨by rw [HR.out]; rfl, pw_below_drewN HEnd.out _⟩
              · have hn := HGo.out hok (fun _ => by omega)
                have HN := Lib.hid hn
                obtain ⟨ad2, eA2, hz0, hz1, hz2⟩ := at_T72 HC.out ((k - 1 : Nat) : Int) (by omega) (by omega)
                rw [rd_vals l' (k - 1) (by omega)] at hz1
                cases eA2
                have hzz := (HB3.out.cell (World.block_lt_of_cell? w2 _ hz1)).trans hz1
                simp only [Int.toNat_natCast] at hzz
                have hzw := (((Below.refl _ wr).alloc (Nat.le_refl _) (.cells #[.int .u8 l'[k].1.f0, .int .u8 l'[k].1.f1, .int .i64 l'[k].1.f2] 72)).cell (World.block_lt_of_cell? wr _ hzz)).trans hzz
                clear hn HBad HGo HMt hok hz0 hz1 hz2
                generalize l'[k].1 = x at *
                generalize (l'[k - 1]'(by omega)).1 = y at *
                have d1 : decide (x.f1 < x.f0) = false := by simpa using b1
                have d2 : decide (x.f2 < 0) = false := by simpa using b2
                have d3 : decide (many ≤ x.f2) = false := by simpa using b3
                have d4 : decide (x.f0 ≤ y.f1) = false := by simpa using b4
                have i1 : (0 : Int) ≤ (k : Int) - 1 := by omega
                have i2 : (k : Int) - 1 < (l'.length : Int) := by omega
                have i3 : ((k : Int) - 1).toNat = k - 1 := by omega
                have j1 : (1 : Int) ≤ (k : Int) := by omega
                have j2 : 1 ≤ k := by omega
                have j3 : (k : Int) < (l'.length : Int) + 1 := by omega
                have j4 : k < l'.length + 1 := by omega
                have j5 : (k : Int) ≤ (l'.length : Int) := by omega
                have i4 : IntKind.i64.wrap ((k : Int) - 1) = (k : Int) - 1 := IntWalk.i64_in _ (by omega)
                have d5 : decide (0 < k) = true := by simpa using h0
                go_wp2
                go_quiet (fail)
                clear i1 i2 i3 i4 j1 j2 j3 j4 j5
                go_wp2
                go_roundw
                case rel => exact ⟨k + 1, by omega, by go_num, ⟨HN.out⟩, ⟨pw_below_drewN (HB3.out.alloc HB3.out.size _) _⟩⟩
                case measure => simp [RowKit.intOf]; omega
    · have hr : edgesOk (l.map ed8) many = true := by
        rw [← edgesOk_perm (HPm.out.map ed8) many]
        refine edgesOk_adj (by rw [List.pairwise_map]; exact HSt.out) (fun j hj => ?_)
        have hj' : j < l'.length := by simpa using hj
        have := HI.out j hj' (by omega)
        exact ⟨by simpa using this.1, fun h0 => by simpa [ed8] using this.2 h0⟩
      have HR := Lib.hid hr
      have hend : Below w.heap.size w wr := HB2.out.trans (HB3.out.mono HB2.out.size)
      clear hr
      go_wp2
      go_ret
      exact ⟨by rw [HR.out]; rfl, hend⟩
end Go.Proofs.Ytolfamfgoafhlaa.M
end
section
namespace Go.Proofs.Ytolfamfgoafhlaa.M
open Go.RowKit Go.Proofs.YtolfamfgoafhlaaW.PrintWords Go.Proofs.YtolfamfgoafhlaaW.PrintLast Go.Proofs.YtolfamfgoafhlaaW.PrintMore
open Go.Proofs.Ytolfamfgoafhlaa.P Go.Proofs.Ytolfamfgoafhlaa.L

/-- A node as the plain law has it. -/
def ed (x : S72) : Ed := ⟨x.f0, x.f1, x.f2⟩
def nn (x : S33) : Nd := ⟨x.f0, x.f1.map ed, x.f2, x.f3, x.f4⟩
def N33 (l : List S33) : List Nd := l.map nn
theorem N33_length (l : List S33) : (N33 l).length = l.length := by simp [N33]
theorem nd_N33 (l : List S33) (i : Int) (h1 : i.toNat < l.length) : nd (N33 l) i = nn (rd_T33 l i) := by
  simp [nd, N33, rd_T33, List.getD_eq_getElem?_getD, List.getElem?_eq_getElem h1]

/-! ### a set of whole numbers as a map -/
/-- Block b is a map whose keys are just what S says, all of them below N. -/
def SetIs (w : World) (b N : Nat) (S : Int → Bool) : Prop :=
  ∃ D : DataW Nat, w.ownsMap Try.prog 3 unitElem b (Maps.size D) D ∧ (∀ i, Maps.has D (.int .i64 i) = S i) ∧ ∀ i, S i = true → 0 ≤ i ∧ i < (N : Int)

theorem key3 : Maps.Keyed Try.prog 3 := Maps.int_keyed Try.underlying3
theorem zero140 (w : World) : (zeroValue 140).run Try.prog w = .ok (.agg #[]) w := by kernel_rfl
theorem keyLit (i : Int) : WideAt.IsKeyLit (.int .i64 i) := by simp [WideAt.IsKeyLit]

theorem setIs_perm {w : World} {b N : Nat} {S : Int → Bool} {D : DataW Nat} {n : Nat} (h : w.ownsMap Try.prog 3 unitElem b n D) (hS : ∀ i, Maps.has D (.int .i64 i) = S i) (hr : ∀ i, S i = true → 0 ≤ i ∧ i < (N : Int)) :
    (setList N S).Perm (intKeys D) := by
  have hC : CollectedI D (fun _ => false) (setList N S) := by
    refine ⟨(setList_sorted N S).imp (fun h => by omega), fun x => ?_⟩
    rw [mem_setList N S hr, hS]
    simp
  exact hC.perm h key3 Try.underlying3 (fun _ => rfl)
theorem setIs_size {w : World} {b N : Nat} {S : Int → Bool} {D : DataW Nat} {n : Nat} (h : w.ownsMap Try.prog 3 unitElem b n D) (hS : ∀ i, Maps.has D (.int .i64 i) = S i) (hr : ∀ i, S i = true → 0 ≤ i ∧ i < (N : Int)) : Maps.size D ≤ N := by
  have h1 := (setIs_perm h hS hr).length_eq
  have h2 := setList_length N S
  obtain ⟨es, hD⟩ := h.isMap
  subst hD
  have e : (intKeys (DataW.map es)).length = es.length := by simp [intKeys]
  rw [Maps.size_eq]
  omega
theorem ownsMap_exact {P : Program} {k : TypeId} {R : Value → Option (DataW Nat × List MemPlace)} {w : World} {b n : Nat} {D : DataW Nat} (h : w.ownsMap P k R b n D) : w.ownsMap P k R b (Maps.size D) D := by
  obtain ⟨es, clock, hb, F, hs, rfl⟩ := h
  exact ⟨es, clock, hb, F, by simp [Maps.size, length_sorted], rfl⟩

namespace SetIs
variable {w w1 : World} {b N : Nat} {S : Int → Bool}
theorem made (w : World) (N : Nat) : SetIs (w.alloc (.map #[] 0)) w.heap.size N (fun _ => false) :=
  ⟨.map [], World.ownsMap_made w Try.prog 3 unitElem, fun _ => rfl, fun _ h => by cases h⟩
theorem kept (h : SetIs w b N S) {row : Option Nat} (hg : w.grownBy w1 row) (hne : some b ≠ row) : SetIs w1 b N S := by
  obtain ⟨D, h1, h2⟩ := h
  exact ⟨D, h1.kept hg hne, h2⟩
theorem lt (h : SetIs w b N S) : b < w.heap.size := by
  obtain ⟨D, h1, _⟩ := h
  exact h1.lt
theorem alloc (h : SetIs w b N S) (o : Obj) : SetIs (w.alloc o) b N S := by
  obtain ⟨D, h1, h2⟩ := h
  exact ⟨D, h1.alloc o, h2⟩
end SetIs

/-- 'v, ok := s[i]'. -/
theorem look_set {w : World} {ops : Array Oper} {rest : List Oper} {o : Oper} {a : Act} {Q : Exit → Act → World → Prop} (hg : o.guard = none) (m x : Operand) (hop : o.op = Op.lookup 115 m x true)
    {b N : Nat} {S : Int → Bool} (i : Int) (hm : a.eval m = .map (some b)) (hS : SetIs w b N S) (hx : a.eval x = .int .i64 i) (hw : (Lit.int .i64 i).wf = true)
    (hK : wpList Try.prog ops Q rest (a.put o.dst (.tuple #[.agg #[], .bool (S i)])) w) : wpList Try.prog ops Q (o :: rest) a w := by
  obtain ⟨D, h1, h2, _⟩ := hS
  refine wpList_lookup_own_unit w hg m x 115 hop 3 140 key3 Try.underlying115 (zero140 w) b _ D hm h1 _ (.int .i64 i) hx (Maps.keyOf_int_mk Try.underlying3 hw) ?_
  rw [h2]; exact hK
/-- 's[i] = struct{}{}'. -/
theorem put_set {w : World} {ops : Array Oper} {rest : List Oper} {o : Oper} {a : Act} {Q : Exit → Act → World → Prop} (hg : o.guard = none) (m x v : Operand) (hop : o.op = Op.mapUpdate 115 m x v)
    {b N : Nat} {S : Int → Bool} (i : Int) (hm : a.eval m = .map (some b)) (hS : SetIs w b N S) (hN : N < maxLen) (hx : a.eval x = .int .i64 i) (hv : a.eval v = .agg #[]) (h0 : 0 ≤ i) (hi : i < (N : Int))
    (hK : ∀ w', SetIs w' b N (with_ S i) → w.grownBy w' (some b) → wpList Try.prog ops Q rest (a.put o.dst undef) w') : wpList Try.prog ops Q (o :: rest) a w := by
  obtain ⟨D, h1, h2, h3⟩ := hS
  have hw : (Lit.int .i64 i).wf = true := by
    unfold maxLen at hN
    exact WalkArith.wf_i64 (by omega)
  refine wpList_mapUpdate_own w hg m x v 115 hop 3 140 key3 Try.underlying115 unitElem b _ D hm h1 (Nat.lt_of_le_of_lt (setIs_size h1 h2 h3) hN) _ _ (.int .i64 i) hx hv (Maps.keyOf_int_mk Try.underlying3 hw) _ [] unitElem_mk ?_
  intro w' hown hgrow
  refine hK w' ⟨_, ownsMap_exact hown, fun j => ?_, fun j hj => ?_⟩ hgrow
  · unfold with_
    by_cases e : j = i
    · subst e; rw [if_pos rfl]; exact Maps.has_put_same h1.isMap (keyLit _) _
    · rw [if_neg e, Maps.has_put_other (by simpa using e), h2]
  · unfold with_ at hj
    split at hj
    · rename_i e; rw [e]; exact ⟨h0, hi⟩
    · exact h3 j hj

theorem gtrans {w w1 w2 : World} {row : Option Nat} (h : w.grownBy w1 row) (h' : w1.grownBy w2 row) : w.grownBy w2 row :=
  ⟨h'.os.trans h.os, h'.tape.trans h.tape, h'.output.trans h.output, Nat.le_trans h.size h'.size, fun i hi hne => (h'.block i (Nat.lt_of_lt_of_le hi h.size) hne).trans (h.block i hi hne)⟩
theorem wf_lt {x : Int} {n : Nat} (hn : n ≤ 1000000) (h0 : 0 ≤ x) (h1 : x < (n : Int)) : (Lit.int .i64 x).wf = true := WalkArith.wf_i64 (by omega)
theorem rd_nat (l : List Int) (k : Nat) (h : k < l.length) : rd l k = l[k] := by simp [rd, List.getD_eq_getElem?_getD, List.getElem?_eq_getElem h]
theorem rd_mem (l : List Int) (k : Nat) (h : k < l.length) : rd l k ∈ l := by rw [rd_nat l k h]; exact List.getElem_mem h
theorem all_snoc {P : Int → Prop} (l : List Int) (k : Nat) (h : k < l.length) (h1 : ∀ x ∈ l.take k, P x) (h2 : P (rd l k)) : ∀ x ∈ l.take (k + 1), P x := by
  intro x hx
  rw [List.take_succ_eq_append_getElem h, List.mem_append] at hx
  rcases hx with hx | hx
  · exact h1 x hx
  · rw [List.mem_singleton.1 hx, ← rd_nat l k h]
    exact h2

/-! ### machine.nodes.add -/
/-- What 'add' leaves. -/
def AddPost (m : List S33) (w0 : World) (b : Nat) (x : Int) (w : World) (S : Int → Bool) (e : Ending) (w' : World) : Prop :=
  e = .returned (.tuple #[]) ∧ ∃ T, SetIs w' b m.length T ∧ Grow (N33 m) (L.Reach (N33 m) x) S T ∧ (valid (N33 m) x → T x = true) ∧ Below w0.heap.size w0 w' ∧ w.grownBy w' (some b)
set_option maxRecDepth 100000 in
theorem add_there (m : List S33) (w0 : World) (A : Option Addr) (c b : Nat) (x : Int) (w : World) (S : Int → Bool) (hw : (Lit.int .i64 x).wf = true) (hS : SetIs w b m.length S) (hB : Below w0.heap.size w0 w) (hs : S x = true) :
    Calls Try.prog 77 #[.map (some b), .slice A m.length c, .int .i64 x] w (AddPost m w0 b x w S) := by
  have HS := Lib.hid hS
  have HB := Lib.hid hB
  have HW := Lib.hid hw
  have Hs := Lib.hid hs
  clear hS hB hw hs
  go_enter Try.func77, Try.ntmps77
  go_wp2_with (first | (at_lookup; refine look_set rfl _ _ rfl x rfl HS.out rfl HW.out ?_; rw [Hs.out]) | fail)
  refine bodyPost_ret (results_none rfl _ _ _) rfl ?_
  exact ⟨rfl, S, HS.out.alloc _, Grow.refl _ _ _, fun _ => Hs.out, HB.out.alloc HB.out.size _, World.grownBy_alloc _ _ _⟩
set_option maxRecDepth 100000 in
theorem add_out (m : List S33) (w0 : World) (A : Option Addr) (c b : Nat) (x : Int) (w : World) (S : Int → Bool) (hw : (Lit.int .i64 x).wf = true) (hS : SetIs w b m.length S) (hB : Below w0.heap.size w0 w) (hs : S x = false) (hx : ¬ (0 ≤ x ∧ x < (m.length : Int))) :
    Calls Try.prog 77 #[.map (some b), .slice A m.length c, .int .i64 x] w (AddPost m w0 b x w S) := by
  have HS := Lib.hid hS
  have HB := Lib.hid hB
  have HW := Lib.hid hw
  have Hs := Lib.hid hs
  clear hS hB hw hs
  have hend : AddPost m w0 b x w S (.returned (.tuple #[])) (w.alloc (.cells #[] 140)) :=
    ⟨rfl, S, HS.out.alloc _, Grow.refl _ _ _, fun hv => by have h1 := hv.1; have h2 := hv.2; rw [N33_length] at h2; omega, HB.out.alloc HB.out.size _, World.grownBy_alloc _ _ _⟩
  have HE := Lib.hid hend
  clear hend
  by_cases h0 : x < 0
  · go_enter Try.func77, Try.ntmps77
    go_wp2_with (first | (at_lookup; refine look_set rfl _ _ rfl x rfl HS.out rfl HW.out ?_; rw [Hs.out]) | fail)
    exact bodyPost_ret (results_none rfl _ _ _) rfl HE.out
  · have h1 : (m.length : Int) ≤ x := by omega
    clear hx
    go_enter Try.func77, Try.ntmps77
    go_wp2_with (first | (at_lookup; refine look_set rfl _ _ rfl x rfl HS.out rfl HW.out ?_; rw [Hs.out]) | fail)
    exact bodyPost_ret (results_none rfl _ _ _) rfl HE.out
set_option maxRecDepth 100000 in
theorem add_calls (m : List S33) (hM : mayB (N33 m) = true) (w0 : World) (A : Option Addr) (c : Nat) (hC : Kd.C k33 w0 A m.length m) (b : Nat) (hb : w0.heap.size ≤ b) (d : Nat) :
    ∀ (x : Int) (w : World) (S : Int → Bool), (Lit.int .i64 x).wf = true → (valid (N33 m) x → (m.length : Int) - x ≤ d) → SetIs w b m.length S → Below w0.heap.size w0 w →
    Calls Try.prog 77 #[.map (some b), .slice A m.length c, .int .i64 x] w (AddPost m w0 b x w S) := by
  have hlen : m.length ≤ 100000 := by have := ((may_iff _).1 hM).2.1; rwa [N33_length] at this
  have HC := Lib.hid hC
  have HM := Lib.hid hM
  clear hC hM
  induction d with
  | zero =>
    intro x w S hw hd hS hB
    cases hs : S x with
    | true => exact add_there m w0 A c b x w S hw hS hB hs
    | false => exact add_out m w0 A c b x w S hw hS hB hs (fun hv => by have := hd ⟨hv.1, by rw [N33_length]; exact hv.2⟩; omega)
  | succ d ih =>
    intro x w S hw hd hS hB
    cases hs : S x with
    | true => exact add_there m w0 A c b x w S hw hS hB hs
    | false =>
      by_cases hv : 0 ≤ x ∧ x < (m.length : Int)
      · obtain ⟨v0, v1⟩ := hv
        have IH := Lib.hid ih
        have HD := Lib.hid hd
        have HS := Lib.hid hS
        have HB := Lib.hid hB
        have HW := Lib.hid hw
        have Hs := Lib.hid hs
        clear ih hd hS hB hw hs
        have hvx : valid (N33 m) x := ⟨v0, by rw [N33_length]; exact v1⟩
        have hsx : succ (nd (N33 m) x) = (rd_T33 m x).f2 ++ (if (rd_T33 m x).f0 = 3 then [(rd_T33 m x).f4] else []) := by rw [nd_N33 m x (by omega)]; rfl
        have hup : ∀ f ∈ succ (nd (N33 m) x), x < f ∧ f < (m.length : Int) := fun f hf => by have := succ_up HM.out hvx hf; rwa [N33_length] at this
        obtain ⟨ad, A1, c1, A2, c2, eA, hx0, hx1, hx2, hx3, hx4, hl1, hi1, hl2, hi2⟩ := at_T33 HC.out x v0 v1
        subst eA
        generalize (rd_T33 m x).f2 = fs at hsx hx2 hl2 hi2
        generalize (rd_T33 m x).f0 = kd at hsx hx0
        generalize (rd_T33 m x).f4 = t4 at hsx hx4
        have Hsx := Lib.hid hsx
        have Hup := Lib.hid hup
        have Hvx := Lib.hid hvx
        have HI2 := Lib.hid hi2
        have HD2 := Lib.hid (HD.out hvx)
        have hfl := hi2.2.1
        clear hsx hup hvx hi2 hi1 hl1 hx1 hx3
        have d0 : decide (x < 0) = false := by simp; omega
        have d1 : decide ((m.length : Int) ≤ x) = false := by simp; omega
        go_enter Try.func77, Try.ntmps77
        go_wp2_with (first | (at_lookup; refine look_set rfl _ _ rfl x rfl HS.out rfl HW.out ?_; rw [Hs.out]) | (at_mapUpdate; refine put_set rfl _ _ _ rfl x rfl (HS.out.alloc _) ?c1 rfl rfl v0 v1 ?_; (case c1 => unfold maxLen; omega); intro w2 hS2 hg2; have hB2 : Below w0.heap.size w0 w2 := (HB.out.alloc HB.out.size _).grown hg2 (by have := HB.out.size; simp; omega) (fun k e => by cases e; exact hb); have hz0 := (hB2.cell (World.block_lt_of_cell? w0 _ hx0)).trans hx0; have hz2 := (hB2.cell (World.block_lt_of_cell? w0 _ hx2)).trans hx2; have hz4 := (hB2.cell (World.block_lt_of_cell? w0 _ hx4)).trans hx4))
        clear hz0 hz2 hz4
        go_loopw [36] (fun v wr => ∃ (k : Nat) (T : Int → Bool), k ≤ fs.length ∧ v = .int .i64 k ∧ Aside0 (SetIs wr b m.length T) ∧ Aside0 (Grow (N33 m) (L.Reach (N33 m) x) (with_ S x) T) ∧ Aside0 (∀ f ∈ fs.take k, T f = true) ∧ Aside0 (Below w0.heap.size w0 wr) ∧ Aside0 (w2.grownBy wr (some b))) (fun v _ => fs.length - (RowKit.intOf v).toNat)
        case atStart => exact ⟨0, _, Nat.zero_le _, rfl, ⟨hS2⟩, ⟨Grow.refl _ _ _⟩, ⟨by simp⟩, ⟨hB2⟩, ⟨World.grownBy.refl _ _⟩⟩
        case round =>
          obtain ⟨k, T, hk, rfl, HT, HG, HIN, HBr, HGr⟩ := hrel
          by_cases hlt : k < fs.length
          · obtain ⟨ad2, eA2, hy⟩ := Kd.at_int HI2.out (k : Int) (by omega) (by omega)
            subst eA2
            have hz := (HBr.out.cell (World.block_lt_of_cell? w0 _ hy)).trans hy
            simp only [Int.toNat_natCast] at hz
            clear hy
            have hmem : rd fs k ∈ succ (nd (N33 m) x) := by rw [Hsx.out]; exact List.mem_append_left _ (rd_mem fs k hlt)
            have hu := Hup.out _ hmem
            generalize hf : rd fs k = f at *
            have Hf := Lib.hid hf
            clear hf
            have Hmem := Lib.hid hmem
            clear hmem
            have hwf := Lib.hid (wf_lt (n := m.length) (by omega) (by omega : 0 ≤ f) hu.2)
            have hdd := Lib.hid (show valid (N33 m) f → (m.length : Int) - f ≤ d from fun _ => by have := HD2.out; omega)
            go_wp2_with (go_at_call 77; refine (IH.out f _ T hwf.out hdd.out HT.out HBr.out).mono ?_; rintro e w3 ⟨rfl, T3, hT3, hG3, hI3, hB3, hg3⟩)
            have hr3 : ∀ i, L.Reach (N33 m) f i → L.Reach (N33 m) x i := fun i hi => ((L.Reach.refl Hvx.out).step Hmem.out).trans hi
            have hv3 : valid (N33 m) f := ⟨by omega, by rw [N33_length]; exact hu.2⟩
            have hin3 := all_snoc (P := fun f => T3 f = true) fs k hlt (fun f hf => hG3.sub f (HIN.out f hf)) (by rw [Hf.out]; exact hI3 hv3)
            have hG4 := HG.out.trans (hG3.mono hr3)
            have hg4 := gtrans HGr.out hg3
            go_roundw
            case rel => exact ⟨k + 1, T3, by omega, by go_num, ⟨hT3⟩, ⟨hG4⟩, ⟨hin3⟩, ⟨hB3⟩, ⟨hg4⟩⟩
            case measure => simp [RowKit.intOf]; omega
          · have hin : ∀ f ∈ fs, T f = true := fun f hf => HIN.out f (by rw [List.take_of_length_le (by omega)]; exact hf)
            have Hin := Lib.hid hin
            clear hin
            have hz0 := (HBr.out.cell (World.block_lt_of_cell? w0 _ hx0)).trans hx0
            by_cases hk3 : kd = 3
            · subst hk3
              have hz4 := (HBr.out.cell (World.block_lt_of_cell? w0 _ hx4)).trans hx4
              have hmem : t4 ∈ succ (nd (N33 m) x) := by rw [Hsx.out]; simp
              have hu := Hup.out _ hmem
              have Hmem := Lib.hid hmem
              clear hmem
              have hwf := Lib.hid (wf_lt (n := m.length) (by omega) (by omega : 0 ≤ t4) hu.2)
              have hdd := Lib.hid (show valid (N33 m) t4 → (m.length : Int) - t4 ≤ d from fun _ => by have := HD2.out; omega)
              go_wp2_with (go_at_call 77; refine (IH.out t4 _ T hwf.out hdd.out HT.out HBr.out).mono ?_; rintro e w3 ⟨rfl, T3, hT3, hG3, hI3, hB3, hg3⟩)
              go_end0
              have hr3 : ∀ i, L.Reach (N33 m) t4 i → L.Reach (N33 m) x i := fun i hi => ((L.Reach.refl Hvx.out).step Hmem.out).trans hi
              have hv3 : valid (N33 m) t4 := ⟨by omega, by rw [N33_length]; exact hu.2⟩
              have hG4 := Grow.close Hvx.out (HG.out.trans (hG3.mono hr3)) (fun j hj => by
                rw [Hsx.out] at hj
                rcases List.mem_append.1 hj with hj | hj
                · exact hG3.sub j (Hin.out j hj)
                · have hj' : j = t4 := by simpa using hj
                  rw [hj']; exact hI3 hv3)
              exact ⟨rfl, T3, hT3, hG4.1, fun _ => hG4.2, hB3, gtrans (gtrans (World.grownBy_alloc _ _ _) hg2) (gtrans HGr.out hg3)⟩
            · have hG4 := Grow.close Hvx.out HG.out (fun j hj => by
                rw [Hsx.out, if_neg hk3, List.append_nil] at hj
                exact Hin.out j hj)
              have HG4 := Lib.hid hG4
              clear hG4
              have hk3' : (kd == 3) = false := by simpa using hk3
              go_wp2
              go_end0
              exact ⟨rfl, T, HT.out, HG4.out.1, fun _ => HG4.out.2, HBr.out, gtrans (gtrans (World.grownBy_alloc _ _ _) hg2) HGr.out⟩
      · exact add_out m w0 A c b x w S hw hS hB hs hv
end Go.Proofs.Ytolfamfgoafhlaa.M
end
section
namespace Go.Proofs
open Go.Shelf
def Try.keysI_ren : Go.Shelf.Ren := ⟨fun | 7 => 93 | 10 => 100 | n => n, fun | 23 => 115 | 26 => 3 | 3 => 140 | 28 => 144 | 0 => 0 | 27 => 143 | 33 => 77 | 4 => 4 | n => n, fun | n => n⟩
theorem Try.keysI : Go.Proofs.SlLaysZI.n7 Try.prog Try.keysI_ren := {
  mixed := by kernel_rfl
  f7 := ⟨Try.f93.name, by decide, Try.func93.trans (congrArg some (by kernel_rfl))⟩
  f10 := ⟨Try.f100.name, by decide, Try.func100.trans (congrArg some (by kernel_rfl))⟩
  t0 := Try.underlying0
  a0 := Try.isAgg0
  z0 := Try.sizeOf0
  v0 := Try.zeroValue0
  t4 := Try.underlying4
  a4 := Try.isAgg4
  z4 := Try.sizeOf4
  v4 := Try.zeroValue4
  t23 := Try.underlying115
  a23 := Try.isAgg115
  z23 := Try.sizeOf115
  v23 := Try.zeroValue115
  t26 := Try.underlying3
  a26 := Try.isAgg3
  z26 := Try.sizeOf3
  v26 := Try.zeroValue3
  t27 := Try.underlying143
  a27 := Try.isAgg143
  z27 := Try.sizeOf143
  v27 := Try.zeroValue143
  t28 := Try.underlying144
  a28 := Try.isAgg144
  z28 := Try.sizeOf144
  v28 := Try.zeroValue144
  t33 := Try.underlying77
  a33 := Try.isAgg77
  z33 := Try.sizeOf77
  v33 := Try.zeroValue77 }
def Try.sortedI_ren : Go.Shelf.Ren := ⟨fun | 6 => 92 | 8 => 98 | 9 => 99 | 11 => 104 | 13 => 106 | 12 => 105 | 23 => 118 | 24 => 119 | 14 => 109 | 15 => 110 | 16 => 111 | 17 => 112 | 18 => 113 | 19 => 114 | 20 => 115 | 21 => 116 | 22 => 117 | 25 => 128 | 26 => 129 | 27 => 130 | 28 => 131 | 29 => 132 | 30 => 133 | 31 => 137 | n => n, fun | 26 => 3 | 28 => 144 | 24 => 23 | 0 => 0 | 3 => 3 | 37 => 159 | 48 => 170 | 50 => 172 | 4 => 4 | 40 => 164 | 39 => 163 | 45 => 108 | 5 => 5 | 9 => 9 | 51 => 178 | 55 => 182 | 57 => 186 | 58 => 187 | 33 => 77 | n => n, fun | n => n⟩
theorem Try.sortedI : Go.Proofs.SlLaysZI.n6 Try.prog Try.sortedI_ren := {
  mixed := by kernel_rfl
  f6 := ⟨Try.f92.name, by decide, Try.func92.trans (congrArg some (by kernel_rfl))⟩
  f8 := ⟨Try.f98.name, by decide, Try.func98.trans (congrArg some (by kernel_rfl))⟩
  f11 := ⟨Try.f104.name, by decide, Try.func104.trans (congrArg some (by kernel_rfl))⟩
  t0 := Try.underlying0
  a0 := Try.isAgg0
  z0 := Try.sizeOf0
  v0 := Try.zeroValue0
  t24 := Try.underlying23
  a24 := Try.isAgg23
  z24 := Try.sizeOf23
  v24 := Try.zeroValue23
  t26 := Try.underlying3
  a26 := Try.isAgg3
  z26 := Try.sizeOf3
  v26 := Try.zeroValue3
  t28 := Try.underlying144
  a28 := Try.isAgg144
  z28 := Try.sizeOf144
  v28 := Try.zeroValue144
  i26 := by kernel_rfl }
def Try.sortI_ren : Go.Shelf.Ren := ⟨fun | 5 => 99 | 8 => 106 | 7 => 105 | 19 => 118 | 20 => 119 | 10 => 109 | 11 => 110 | 12 => 111 | 13 => 112 | 14 => 113 | 15 => 114 | 16 => 115 | 17 => 116 | 18 => 117 | 30 => 128 | 31 => 129 | 32 => 130 | 33 => 131 | 34 => 132 | 35 => 133 | 40 => 137 | n => n, fun | 23 => 23 | 25 => 3 | 3 => 3 | 32 => 159 | 22 => 23 | 0 => 0 | 44 => 170 | 46 => 172 | 4 => 4 | 36 => 164 | 35 => 163 | 41 => 108 | 5 => 5 | 9 => 9 | 53 => 178 | 57 => 182 | 63 => 186 | 64 => 187 | n => n, fun | n => n⟩
theorem Try.sortI : Go.Proofs.SlLaysM.n5 Try.prog Try.sortI_ren := {
  mixed := by kernel_rfl
  f5 := ⟨Try.f99.name, by decide, Try.func99.trans (congrArg some (by kernel_rfl))⟩
  f7 := ⟨Try.f105.name, by decide, Try.func105.trans (congrArg some (by kernel_rfl))⟩
  f8 := Try.func106.trans (congrArg some (by kernel_rfl))
  f10 := ⟨Try.f109.name, by decide, Try.func109.trans (congrArg some (by kernel_rfl))⟩
  f11 := ⟨Try.f110.name, by decide, Try.func110.trans (congrArg some (by kernel_rfl))⟩
  f12 := ⟨Try.f111.name, by decide, Try.func111.trans (congrArg some (by kernel_rfl))⟩
  f13 := ⟨Try.f112.name, by decide, Try.func112.trans (congrArg some (by kernel_rfl))⟩
  f14 := ⟨Try.f113.name, by decide, Try.func113.trans (congrArg some (by kernel_rfl))⟩
  f15 := ⟨Try.f114.name, by decide, Try.func114.trans (congrArg some (by kernel_rfl))⟩
  f16 := ⟨Try.f115.name, by decide, Try.func115.trans (congrArg some (by kernel_rfl))⟩
  f17 := ⟨Try.f116.name, by decide, Try.func116.trans (congrArg some (by kernel_rfl))⟩
  f18 := ⟨Try.f117.name, by decide, Try.func117.trans (congrArg some (by kernel_rfl))⟩
  f19 := Try.func118.trans (congrArg some (by kernel_rfl))
  f20 := Try.func119.trans (congrArg some (by kernel_rfl))
  f30 := ⟨Try.f128.name, by decide, Try.func128.trans (congrArg some (by kernel_rfl))⟩
  f31 := Try.func129.trans (congrArg some (by kernel_rfl))
  f32 := Try.func130.trans (congrArg some (by kernel_rfl))
  f33 := ⟨Try.f131.name, by decide, Try.func131.trans (congrArg some (by kernel_rfl))⟩
  f34 := ⟨Try.f132.name, by decide, Try.func132.trans (congrArg some (by kernel_rfl))⟩
  f35 := ⟨Try.f133.name, by decide, Try.func133.trans (congrArg some (by kernel_rfl))⟩
  f40 := ⟨Try.f137.name, by decide, Try.func137.trans (congrArg some (by kernel_rfl))⟩
  t0 := Try.underlying0
  a0 := Try.isAgg0
  z0 := Try.sizeOf0
  v0 := Try.zeroValue0
  t3 := Try.underlying3
  a3 := Try.isAgg3
  z3 := Try.sizeOf3
  v3 := Try.zeroValue3
  t4 := Try.underlying4
  a4 := Try.isAgg4
  z4 := Try.sizeOf4
  v4 := Try.zeroValue4
  t5 := Try.underlying5
  a5 := Try.isAgg5
  z5 := Try.sizeOf5
  v5 := Try.zeroValue5
  t9 := Try.underlying9
  a9 := Try.isAgg9
  z9 := Try.sizeOf9
  v9 := Try.zeroValue9
  t22 := Try.underlying23
  a22 := Try.isAgg23
  z22 := Try.sizeOf23
  v22 := Try.zeroValue23
  t23 := Try.underlying23
  a23 := Try.isAgg23
  z23 := Try.sizeOf23
  v23 := Try.zeroValue23
  t25 := Try.underlying3
  a25 := Try.isAgg3
  z25 := Try.sizeOf3
  v25 := Try.zeroValue3
  t32 := Try.underlying159
  a32 := Try.isAgg159
  z32 := Try.sizeOf159
  v32 := Try.zeroValue159
  t35 := Try.underlying163
  a35 := Try.isAgg163
  z35 := Try.sizeOf163
  v35 := Try.zeroValue163
  t36 := Try.underlying164
  a36 := Try.isAgg164
  z36 := Try.sizeOf164
  v36 := Try.zeroValue164
  t41 := Try.underlying108
  a41 := Try.isAgg108
  z41 := Try.sizeOf108
  v41 := Try.zeroValue108
  t44 := Try.underlying170
  a44 := Try.isAgg170
  z44 := Try.sizeOf170
  v44 := Try.zeroValue170
  t46 := Try.underlying172
  a46 := Try.isAgg172
  z46 := Try.sizeOf172
  v46 := Try.zeroValue172
  t53 := Try.underlying178
  a53 := Try.isAgg178
  z53 := Try.sizeOf178
  v53 := Try.zeroValue178
  t57 := Try.underlying182
  a57 := Try.isAgg182
  z57 := Try.sizeOf182
  v57 := Try.zeroValue182
  t63 := Try.underlying186
  a63 := Try.isAgg186
  z63 := Try.sizeOf186
  v63 := Try.zeroValue186
  t64 := Try.underlying187
  a64 := Try.isAgg187
  z64 := Try.sizeOf187
  v64 := Try.zeroValue187 }
end Go.Proofs
end
section
namespace Go.Proofs.Ytolfamfgoafhlaa.M
open Go.RowKit Go.Proofs.YtolfamfgoafhlaaW.PrintWords Go.Proofs.YtolfamfgoafhlaaW.PrintLast Go.Proofs.YtolfamfgoafhlaaW.PrintMore
open Go.Proofs.Ytolfamfgoafhlaa.P Go.Proofs.Ytolfamfgoafhlaa.L
open Go.Maps Go.Sort Go.Shelf

theorem sortsI (m : Nat) : AnyZI.SortsIn Try.prog Try.sortedI_ren Fence.wide m :=
  ⟨fun blk off cap ss W hH hblk hsz => callsIn_wide.2 (AnyM.slices_Sort_int Try.sortI blk off cap ss W hH hblk hsz),
   fun p cap W => callsIn_wide.2 (AnyM.slices_Sort_int_none Try.sortI p cap W)⟩

theorem sort_rising {l : List Int} (h : l.Pairwise (· < ·)) : l.mergeSort (fun x y => decide (x ≤ y)) = l := by
  apply List.mergeSort_of_pairwise
  exact h.imp (fun h => by simp; omega)

set_option maxRecDepth 100000 in
set_option maxHeartbeats 1000000 in
/-- (nodes).list: all members, rising. -/
theorem list_calls (b N : Nat) (S : Int → Bool) (w : World) (hS : SetIs w b N S) (hN : N ≤ 100000) :
    Calls Try.prog 78 #[.map (some b)] w fun e w' => ∃ v, e = .returned v ∧ Kd.R (Kd.int .i64) 3 w' w.heap.size (fun _ => True) v (setList N S) ∧ Below w.heap.size w w' := by
  obtain ⟨D0, hown, hhas, hr⟩ := hS
  have hsz := setIs_size hown hhas hr
  have hperm := setIs_perm hown hhas hr
  have hmax : Maps.size D0 ≤ maxLen := by unfold maxLen; omega
  have hbytes : Maps.size D0 * 8 ≤ 140737488355328 := by omega
  refine (callsIn_wide (n := 6)).1 ?_
  have hbl := hown.lt
  have hseq : SeqGives Fence.wide 2 Try.prog 100 #[.pointer (some ⟨w.heap.size, 0, none⟩)] encZ (fun ss => ss.Perm (intKeys D0)) (Maps.size D0) (w.alloc (.cells #[.map (some b)] 115)) :=
    AnyZI.keys_gives (ρ := Try.keysI_ren) { Try.keysI with } Fence.wide _ trivial rfl (by omega) w.heap.size b _ D0 _ (by simp) (by simp) (by
      obtain ⟨es, clock, hb, Ft, hs, hD⟩ := hown
      exact ⟨es, clock, (Below.heap_alloc _ _ b hbl).trans hb, Ft, hs, hD⟩)
  have cK : ∀ mb W, CallsIn Fence.wide 5 Try.prog 93 #[.map mb] W fun e w' => e = .returned (.func (.func 100) #[] #[.pointer (some ⟨W.heap.size, 0, none⟩)]) ∧ w' = W.alloc (.cells #[.map mb] 115) := fun mb W => AnyZI.keys_in Try.keysI Fence.wide 5 trivial rfl mb W
  have cS := AnyZI.sorted_in Try.sortedI Fence.wide 5 trivial trivial trivial trivial rfl (by omega) (sortsI _) (enters_of Try.func99 (by kernel_rfl) rfl) 100 #[.pointer (some ⟨w.heap.size, 0, none⟩)] trivial (enters_of Try.func100 (by kernel_rfl) rfl) _ _ hmax hbytes _ hseq
  change CallsIn _ _ Try.prog 92 _ _ _ at cS
  have hfK : Fence.wide.fn 93 := trivial
  have hfS : Fence.wide.fn 92 := trivial
  refine callsIn_of_wp Try.func78 rfl trivial ?_ rfl
  simp only [Try.ntmps78, List.size_toArray, List.length_cons, List.length_nil, Nat.reduceAdd, Nat.reduceSub, Array.replicate_succ, Array.replicate_zero, List.push_toArray, List.append_toArray, List.nil_append, List.cons_append]
  gi_wp2_with (first
    | (gi_at_call 93; refine (cK _ _).mono ?_; rintro e w' ⟨rfl, rfl⟩)
    | (gi_at_call 92; refine cS.mono ?_; rintro e w' ⟨v, ss, rfl, hS, hrow, hnil, hb⟩))
  go_ret
  have hms : ss.mergeSort (fun x y => decide (x ≤ y)) = setList N S := by
    have h1 := mergeSort_of_perm_i (hS.trans hperm.symm)
    rw [sort_rising (setList_sorted N S)] at h1
    exact h1
  have hl : ss.length = (setList N S).length := (hS.trans hperm.symm).length_eq
  rw [hms, hl] at hrow
  exact ⟨v, rfl, Kd.R_of_own (ownsRow_base_a hrow (by simp)) (fun _ _ => trivial), ((Below.refl _ w).alloc (Nat.le_refl _) _).trans (hb.mono (by simp))⟩

theorem N33_valid (m : List S33) (T : Int → Bool) (b : Nat) (w : World) (h : SetIs w b m.length T) : ∀ i, T i = true → 0 ≤ i ∧ i < ((N33 m).length : Int) := by
  obtain ⟨D, _, _, h3⟩ := h
  intro i hi
  rw [N33_length]; exact h3 i hi

set_option maxRecDepth 100000 in
/-- closed: what is close, of a machine that may be. -/
theorem closed_calls (m : List S33) (hM : mayB (N33 m) = true) (A A1 : Option Addr) (c c1 : Nat) (at_ : List Int) (w : World) (hC : Kd.C k33 w A m.length m) (hA : (Kd.int .i64).C w A1 at_.length at_) (hwf : ∀ x ∈ at_, (Lit.int .i64 x).wf = true) :
    Calls Try.prog 54 #[.slice A m.length c, .slice A1 at_.length c1] w fun e w' => ∃ v, e = .returned v ∧ Kd.R (Kd.int .i64) 3 w' w.heap.size (fun _ => True) v (closeL (N33 m) at_) ∧ Below w.heap.size w w' := by
  have hlen : m.length ≤ 100000 := by have := ((may_iff _).1 hM).2.1; rwa [N33_length] at this
  have hal := hA.2.1
  have HC := Lib.hid hC
  have HM := Lib.hid hM
  have HA := Lib.hid hA
  have HW := Lib.hid hwf
  clear hC hM hA hwf
  have hB2 : Below w.heap.size w (w.alloc (.map #[] 0)) := (Below.refl _ _).alloc (Nat.le_refl _) _
  have hS2 := SetIs.made w m.length
  have HB2 := Lib.hid hB2
  have HS2 := Lib.hid hS2
  clear hB2 hS2
  have hmm := @run_makeMap Try.prog
  go_enter Try.func54, Try.ntmps54
  go_wp2
  go_loopw [11] (fun v wr => ∃ (k : Nat) (T : Int → Bool), k ≤ at_.length ∧ v = .int .i64 k ∧ Aside0 (SetIs wr w.heap.size m.length T) ∧ Aside0 (Grow (N33 m) (fun i => ∃ a ∈ at_, L.Reach (N33 m) a i) (fun _ => false) T) ∧ Aside0 (∀ f ∈ at_.take k, valid (N33 m) f → T f = true) ∧ Aside0 (Below w.heap.size w wr)) (fun v _ => at_.length - (RowKit.intOf v).toNat)
  case atStart => exact ⟨0, _, Nat.zero_le _, rfl, ⟨HS2.out⟩, ⟨Grow.refl _ _ _⟩, ⟨by simp⟩, ⟨HB2.out⟩⟩
  case round =>
    obtain ⟨k, T, hk, rfl, HT, HG, HIN, HBr⟩ := hrel
    by_cases hlt : k < at_.length
    · obtain ⟨ad2, eA2, hy⟩ := Kd.at_int HA.out (k : Int) (by omega) (by omega)
      subst eA2
      have hz := (HBr.out.cell (World.block_lt_of_cell? w _ hy)).trans hy
      simp only [Int.toNat_natCast] at hz
      clear hy
      have hmem := rd_mem at_ k hlt
      generalize hf : rd at_ k = f at *
      have Hf := Lib.hid hf
      clear hf
      have Hmem := Lib.hid hmem
      clear hmem
      have hwf := Lib.hid (HW.out f Hmem.out)
      have hdd := Lib.hid (show valid (N33 m) f → (m.length : Int) - f ≤ (m.length : Nat) from fun h => by have := h.1; omega)
      go_wp2_with (go_at_call 77; refine (add_calls m HM.out w A c HC.out w.heap.size (Nat.le_refl _) m.length f _ T hwf.out hdd.out HT.out HBr.out).mono ?_; rintro e w3 ⟨rfl, T3, hT3, hG3, hI3, hB3, hg3⟩)
      have hin3 := all_snoc (P := fun f => valid (N33 m) f → T3 f = true) at_ k hlt (fun f hf hv => hG3.sub f (HIN.out f hf hv)) (by rw [Hf.out]; exact hI3)
      have hG4 := HG.out.trans (hG3.mono (fun i hi => ⟨f, Hmem.out, hi⟩))
      go_roundw
      case rel => exact ⟨k + 1, T3, by omega, by go_num, ⟨hT3⟩, ⟨hG4⟩, ⟨hin3⟩, ⟨hB3⟩⟩
      case measure => simp [RowKit.intOf]; omega
    · have hin : ∀ f ∈ at_, valid (N33 m) f → T f = true := fun f hf => HIN.out f (by rw [List.take_of_length_le (by omega)]; exact hf)
      have hres := closeL_of_grow HM.out (N33_valid m T _ _ HT.out) HG.out hin
      rw [N33_length] at hres
      have HR := Lib.hid hres
      clear hin hres
      go_wp2_with (go_at_call 78; refine (list_calls _ m.length T _ HT.out hlen).mono ?_; rintro e w3 ⟨v, rfl, hv, hb3⟩)
      go_ret
      rw [HR.out] at hv
      have hle := HBr.out.size
      exact ⟨v, rfl, Kd.R_lower hv hle, HBr.out.trans (hb3.mono hle)⟩
end Go.Proofs.Ytolfamfgoafhlaa.M
end
section
namespace Go.Proofs.Ytolfamfgoafhlaa.M
open Go.RowKit Go.Proofs.YtolfamfgoafhlaaW.PrintWords Go.Proofs.YtolfamfgoafhlaaW.PrintLast Go.Proofs.YtolfamfgoafhlaaW.PrintMore
open Go.Proofs.Ytolfamfgoafhlaa.P Go.Proofs.Ytolfamfgoafhlaa.L

theorem rd72_nat (l : List S72) (k : Nat) (h : k < l.length) : rd_T72 l k = l[k] := by simp [rd_T72, List.getD_eq_getElem?_getD, List.getElem?_eq_getElem h]
theorem rd72_mem (l : List S72) (k : Nat) (h : k < l.length) : rd_T72 l k ∈ l := by rw [rd72_nat l k h]; exact List.getElem_mem h
theorem all_snoc72 {P : S72 → Prop} (l : List S72) (k : Nat) (h : k < l.length) (h1 : ∀ x ∈ l.take k, P x) (h2 : P (rd_T72 l k)) : ∀ x ∈ l.take (k + 1), P x := by
  intro x hx
  rw [List.take_succ_eq_append_getElem h, List.mem_append] at hx
  rcases hx with hx | hx
  · exact h1 x hx
  · rw [List.mem_singleton.1 hx, ← rd72_nat l k h]
    exact h2

set_option maxRecDepth 100000 in
/-- stepped: what is close to where a byte leads, of a machine that may be. -/
theorem stepped_calls (m : List S33) (hM : mayB (N33 m) = true) (A A1 : Option Addr) (c c1 : Nat) (at_ : List Int) (ch : Int) (w : World) (hC : Kd.C k33 w A m.length m) (hA : (Kd.int .i64).C w A1 at_.length at_) :
    Calls Try.prog 56 #[.slice A m.length c, .slice A1 at_.length c1, .int .u8 ch] w fun e w' => ∃ v, e = .returned v ∧ Kd.R (Kd.int .i64) 3 w' w.heap.size (fun _ => True) v (stepL (N33 m) at_ ch) ∧ Below w.heap.size w w' := by
  have hlen : m.length ≤ 100000 := by have := ((may_iff _).1 hM).2.1; rwa [N33_length] at this
  have hal := hA.2.1
  have HC := Lib.hid hC
  have HM := Lib.hid hM
  have HA := Lib.hid hA
  clear hC hM hA
  have hB2 : Below w.heap.size w (w.alloc (.map #[] 0)) := (Below.refl _ _).alloc (Nat.le_refl _) _
  have hS2 := SetIs.made w m.length
  have HB2 := Lib.hid hB2
  have HS2 := Lib.hid hS2
  clear hB2 hS2
  have hmm := @run_makeMap Try.prog
  go_enter Try.func56, Try.ntmps56
  go_wp2
  go_loopw [15] (fun v wr => ∃ (k : Nat) (T : Int → Bool), k ≤ at_.length ∧ v = .int .i64 k ∧ Aside0 (SetIs wr w.heap.size m.length T) ∧ Aside0 (Grow (N33 m) (fun i => ∃ a ∈ nexts (N33 m) at_ ch, L.Reach (N33 m) a i) (fun _ => false) T) ∧ Aside0 (∀ x ∈ at_.take k, valid (N33 m) x → ∀ e ∈ (nd (N33 m) x).es, e.has ch = true → T e.dst = true) ∧ Aside0 (Below w.heap.size w wr)) (fun v _ => at_.length - (RowKit.intOf v).toNat)
  case atStart => exact ⟨0, _, Nat.zero_le _, rfl, ⟨HS2.out⟩, ⟨Grow.refl _ _ _⟩, ⟨by simp⟩, ⟨HB2.out⟩⟩
  case round =>
    obtain ⟨k, T, hk, rfl, HT, HG, HIN, HBr⟩ := hrel
    by_cases hlt : k < at_.length
    · obtain ⟨ad2, eA2, hy⟩ := Kd.at_int HA.out (k : Int) (by omega) (by omega)
      subst eA2
      have hz := (HBr.out.cell (World.block_lt_of_cell? w _ hy)).trans hy
      simp only [Int.toNat_natCast] at hz
      clear hy
      have hmem := rd_mem at_ k hlt
      generalize hf : rd at_ k = x at *
      have Hf := Lib.hid hf
      clear hf
      have Hmem := Lib.hid hmem
      clear hmem
      by_cases hv : 0 ≤ x ∧ x < (m.length : Int)
      · obtain ⟨v0, v1⟩ := hv
        have hvx : valid (N33 m) x := ⟨v0, by rw [N33_length]; exact v1⟩
        have hes : (nd (N33 m) x).es = (rd_T33 m x).f1.map ed := by rw [nd_N33 m x (by omega)]; rfl
        obtain ⟨ad, A3, c3, A4, c4, eA, hx0, hx1, hx2, hx3, hx4, hl1, hi1, hl2, hi2⟩ := at_T33 HC.out x v0 v1
        subst eA
        generalize (rd_T33 m x).f1 = es at hes hx1 hl1 hi1
        have Hes := Lib.hid hes
        have Hvx := Lib.hid hvx
        have HI1 := Lib.hid hi1
        have hel := hi1.2.1
        clear hes hvx hi1 hi2 hl2 hx0 hx2 hx3 hx4
        have hz1 := (HBr.out.cell (World.block_lt_of_cell? w _ hx1)).trans hx1
        have d0 : decide (x < 0) = false := by simp; omega
        have d1 : decide ((m.length : Int) ≤ x) = false := by simp; omega
        have hdst : ∀ e ∈ es, 0 ≤ e.f2 ∧ e.f2 < (m.length : Int) := fun e he => by
          have := edge_to HM.out Hvx.out (e := ed e) (by rw [Hes.out]; exact List.mem_map_of_mem he)
          rwa [N33_length] at this
        have hnx : ∀ e ∈ es, (ed e).has ch = true → e.f2 ∈ nexts (N33 m) at_ ch := fun e he hh => (mem_nexts _ _ _ _).2 ⟨x, Hmem.out, Hvx.out, ed e, by rw [Hes.out]; exact List.mem_map_of_mem he, hh, rfl⟩
        have Hdst := Lib.hid hdst
        have Hnx := Lib.hid hnx
        clear hdst hnx
        go_wp2
        clear hz1
        obtain ⟨wo, rfl⟩ : ∃ wo : World, wo = wr := ⟨_, rfl⟩
        go_loopw [33] (fun v wi => ∃ (q : Nat) (U : Int → Bool), q ≤ es.length ∧ v = .int .i64 q ∧ Aside0 (SetIs wi w.heap.size m.length U) ∧ Aside0 (Grow (N33 m) (fun i => ∃ a ∈ nexts (N33 m) at_ ch, L.Reach (N33 m) a i) (fun _ => false) U) ∧ Aside0 (∀ i, T i = true → U i = true) ∧ Aside0 (∀ e ∈ es.take q, (ed e).has ch = true → U e.f2 = true) ∧ Aside0 (Below w.heap.size w wi)) (fun v _ => es.length - (RowKit.intOf v).toNat)
        case atStart => exact ⟨0, T, Nat.zero_le _, rfl, HT, HG, ⟨fun _ h => h⟩, ⟨by simp⟩, HBr⟩
        case round =>
          obtain ⟨q, U, hq, rfl, HU, HGU, HTU, HIE, HBi⟩ := hrel
          by_cases hlq : q < es.length
          · obtain ⟨ad3, eA3, hy0, hy1, hy2⟩ := at_T72 HI1.out (q : Int) (by omega) (by omega)
            subst eA3
            have hz0 := (HBi.out.cell (World.block_lt_of_cell? w _ hy0)).trans hy0
            have hz1 := (HBi.out.cell (World.block_lt_of_cell? w _ hy1)).trans hy1
            have hz2 := (HBi.out.cell (World.block_lt_of_cell? w _ hy2)).trans hy2
            simp only [Int.toNat_natCast] at hz0 hz1 hz2
            clear hy0 hy1 hy2
            have hme := rd72_mem es q hlq
            generalize hf : rd_T72 es q = e1 at *
            have Hf := Lib.hid hf
            clear hf
            have Hme := Lib.hid hme
            clear hme
            have hlef := HBi.out.size
            by_cases b1 : e1.f0 ≤ ch
            · by_cases b2 : ch ≤ e1.f1
              · have hh : (ed e1).has ch = true := by simp [Ed.has, ed, b1, b2]
                have Hh := Lib.hid hh
                clear hh
                have hd := Hdst.out e1 Hme.out
                have hwf := Lib.hid (wf_lt (n := m.length) (by omega) hd.1 hd.2)
                have hvd : valid (N33 m) e1.f2 := ⟨hd.1, by rw [N33_length]; exact hd.2⟩
                have hdd := Lib.hid (show valid (N33 m) e1.f2 → (m.length : Int) - e1.f2 ≤ (m.length : Nat) from fun h => by have := h.1; omega)
                have Hvd := Lib.hid hvd
                clear hvd
                go_wp2_with (go_at_call 77; refine (add_calls m HM.out w (some ad) c HC.out w.heap.size (Nat.le_refl _) m.length e1.f2 _ U hwf.out hdd.out (HU.out.alloc _) (HBi.out.alloc hlef _)).mono ?_; rintro e w3 ⟨rfl, T3, hT3, hG3, hI3, hB3, hg3⟩)
                have hin3 := all_snoc72 (P := fun e => (ed e).has ch = true → T3 e.f2 = true) es q hlq (fun e he hv => hG3.sub _ (HIE.out e he hv)) (by rw [Hf.out]; exact fun _ => hI3 Hvd.out)
                have hG4 := HGU.out.trans (hG3.mono (fun i hi => ⟨e1.f2, Hnx.out e1 Hme.out Hh.out, hi⟩))
                go_roundw
                case rel => exact ⟨q + 1, T3, by omega, by go_num, ⟨hT3⟩, ⟨hG4⟩, ⟨fun i hi => hG3.sub i (HTU.out i hi)⟩, ⟨hin3⟩, ⟨hB3⟩⟩
                case measure => simp [RowKit.intOf]; omega
              · have hh : (ed e1).has ch = false := by
                  show (decide (e1.f0 ≤ ch) && decide (ch ≤ e1.f1)) = false
                  rw [decide_eq_false b2, Bool.and_false]
                have hin3 := all_snoc72 (P := fun e => (ed e).has ch = true → U e.f2 = true) es q hlq HIE.out (by rw [Hf.out, hh]; intro h; cases h)
                have Hin3 := Lib.hid hin3
                clear hin3 hh
                go_wp2
                go_roundw
                case rel => exact ⟨q + 1, U, by omega, by go_num, ⟨HU.out.alloc _⟩, HGU, HTU, ⟨Hin3.out⟩, ⟨HBi.out.alloc hlef _⟩⟩
                case measure => simp [RowKit.intOf]; omega
            · have hh : (ed e1).has ch = false := by
                show (decide (e1.f0 ≤ ch) && decide (ch ≤ e1.f1)) = false
                rw [decide_eq_false b1, Bool.false_and]
              have hin3 := all_snoc72 (P := fun e => (ed e).has ch = true → U e.f2 = true) es q hlq HIE.out (by rw [Hf.out, hh]; intro h; cases h)
              have Hin3 := Lib.hid hin3
              clear hin3 hh
              go_wp2
              go_roundw
              case rel => exact ⟨q + 1, U, by omega, by go_num, ⟨HU.out.alloc _⟩, HGU, HTU, ⟨Hin3.out⟩, ⟨HBi.out.alloc hlef _⟩⟩
              case measure => simp [RowKit.intOf]; omega
          · have hin : ∀ e ∈ (nd (N33 m) x).es, e.has ch = true → U e.dst = true := fun e he hh => by
              rw [Hes.out] at he
              obtain ⟨e', he', rfl⟩ := List.mem_map.1 he
              exact HIE.out e' (by rw [List.take_of_length_le (by omega)]; exact he') hh
            have hin3 := all_snoc (P := fun x => valid (N33 m) x → ∀ e ∈ (nd (N33 m) x).es, e.has ch = true → U e.dst = true) at_ k hlt (fun y hy hv e he hh => HTU.out _ (HIN.out y hy hv e he hh)) (by rw [Hf.out]; exact fun _ => hin)
            have Hin3 := Lib.hid hin3
            clear hin3 hin
            go_wp2
            go_roundw
            case rel => exact ⟨k + 1, U, by omega, by go_num, HU, HGU, ⟨Hin3.out⟩, HBi⟩
            case measure => simp [RowKit.intOf]; omega
      · have hin3 := all_snoc (P := fun x => valid (N33 m) x → ∀ e ∈ (nd (N33 m) x).es, e.has ch = true → T e.dst = true) at_ k hlt HIN.out (by rw [Hf.out]; exact fun h => absurd ⟨h.1, by have := h.2; rwa [N33_length] at this⟩ hv)
        have Hin3 := Lib.hid hin3
        clear hin3
        by_cases h0 : x < 0
        · clear hv
          go_wp2
          go_roundw
          case rel => exact ⟨k + 1, T, by omega, by go_num, HT, HG, ⟨Hin3.out⟩, HBr⟩
          case measure => simp [RowKit.intOf]; omega
        · have h1 : (m.length : Int) ≤ x := by omega
          clear hv
          go_wp2
          go_roundw
          case rel => exact ⟨k + 1, T, by omega, by go_num, HT, HG, ⟨Hin3.out⟩, HBr⟩
          case measure => simp [RowKit.intOf]; omega
    · have hin : ∀ f ∈ nexts (N33 m) at_ ch, valid (N33 m) f → T f = true := fun f hf _ => by
        obtain ⟨a, h1, h2, e, h3, h4, rfl⟩ := (mem_nexts _ _ _ _).1 hf
        exact HIN.out a (by rw [List.take_of_length_le (by omega)]; exact h1) h2 e h3 h4
      have hres := closeL_of_grow HM.out (N33_valid m T _ _ HT.out) HG.out hin
      rw [N33_length] at hres
      have HR := Lib.hid hres
      clear hin hres
      go_wp2_with (go_at_call 78; refine (list_calls _ m.length T _ HT.out hlen).mono ?_; rintro e w3 ⟨v, rfl, hv, hb3⟩)
      go_ret
      rw [HR.out] at hv
      have hle := HBr.out.size
      exact ⟨v, rfl, Kd.R_lower hv hle, HBr.out.trans (hb3.mono hle)⟩
end Go.Proofs.Ytolfamfgoafhlaa.M
end
section
namespace Go.Proofs.Ytolfamfgoafhlaa.M
open Go.RowKit Go.Proofs.YtolfamfgoafhlaaW.PrintWords Go.Proofs.YtolfamfgoafhlaaW.PrintLast Go.Proofs.YtolfamfgoafhlaaW.PrintMore
open Go.Proofs.Ytolfamfgoafhlaa.P Go.Proofs.Ytolfamfgoafhlaa.L
set_option maxHeartbeats 400000 in
theorem up_calls (at_ many x : Int) (b1 b2 : Nat) (w : World) (h1 : w.cell? ⟨b1, 0, none⟩ = some (.int .i64 at_)) (h2 : w.cell? ⟨b2, 0, none⟩ = some (.int .i64 many)) :
    Calls Try.prog 79 #[.int .i64 x, .pointer (some ⟨b1, 0, none⟩), .pointer (some ⟨b2, 0, none⟩)] w fun e w' => e = .returned (.bool (upB at_ many x)) ∧ w = w' := by
  by_cases c1 : at_ < x
  · by_cases c2 : x < many
    · have e1 : upB at_ many x = true := by simp [upB, c1, c2]
      have E1 := Lib.hid e1
      clear e1
      go_enter Try.func79, Try.ntmps79
      go_wp2
      go_ret
      exact ⟨by rw [E1.out]; rfl, rfl⟩
    · have e1 : upB at_ many x = false := by simp [upB, c2]
      have E1 := Lib.hid e1
      clear e1
      go_enter Try.func79, Try.ntmps79
      go_wp2
      go_ret
      exact ⟨by rw [E1.out]; rfl, rfl⟩
  · have e1 : upB at_ many x = false := by simp [upB, c1]
    have E1 := Lib.hid e1
    clear e1
    go_enter Try.func79, Try.ntmps79
    go_wp2
    go_ret
    exact ⟨by rw [E1.out]; rfl, rfl⟩

set_option maxHeartbeats 400000 in
theorem notup_calls (at_ many x : Int) (b1 b2 b3 : Nat) (w : World) (h1 : w.cell? ⟨b1, 0, none⟩ = some (.int .i64 at_)) (h2 : w.cell? ⟨b2, 0, none⟩ = some (.int .i64 many))
    (h3 : w.cell? ⟨b3, 0, none⟩ = some (.func (.func 79) #[] #[.pointer (some ⟨b1, 0, none⟩), .pointer (some ⟨b2, 0, none⟩)])) :
    Calls Try.prog 81 #[.int .i64 x, .pointer (some ⟨b3, 0, none⟩)] w fun e w' => e = .returned (.bool (!upB at_ many x)) ∧ w = w' := by
  go_enter Try.func81, Try.ntmps81
  go_wp2_with (go_at_call 79; refine (up_calls at_ many x b1 b2 _ h1 h2).mono ?_; rintro e w' ⟨rfl, rfl⟩)
  go_ret
  exact ⟨rfl, rfl⟩


set_option maxRecDepth 100000 in
/-- slices.IndexFunc over whole numbers, at the predicate of the closure 58 (one captured pointer), which reads only. -/
theorem index58 (p : Int → Bool) (q : Value) (A : Option Addr) (c : Nat) (l : List Int) (w : World) (hc : (Kd.int .i64).C w A l.length l)
    (hp : ∀ x ∈ l, Calls Try.prog 58 #[.int .i64 x, q] w fun e w' => e = .returned (.bool (p x)) ∧ w = w') :
    Calls Try.prog 82 #[.slice A l.length c, .func (.func 58) #[] #[q]] w fun e w' => (∃ i : Int, e = .returned (.int .i64 i) ∧ decide (0 ≤ i) = l.any p) ∧ w = w' := by
  have HC := Lib.hid hc
  have HP := Lib.hid hp
  clear hc hp
  have hm := HC.out.2.1
  go_enter Try.func82, Try.ntmps82
  go_wp2
  go_loop [8] (fun v => ∃ k : Nat, k ≤ l.length ∧ v = .int .i64 k ∧ Aside0 (∀ x ∈ l.take k, p x = false)) (fun v => l.length - (RowKit.intOf v).toNat)
  case atStart => exact ⟨0, Nat.zero_le _, rfl, ⟨by simp⟩⟩
  case round =>
    obtain ⟨k, hk, rfl, HK⟩ := hrel
    by_cases hlt : k < l.length
    · obtain ⟨ad, rfl, hx⟩ := Kd.at_int HC.out (k : Int) (by omega) (by omega)
      simp only [Int.toNat_natCast] at hx
      have hmem : rd l k ∈ l := rd_mem l k hlt
      have HM := Lib.hid hmem
      clear hmem
      go_wp2_with (go_at_call 58; refine (HP.out _ HM.out).mono ?_; rintro e w' ⟨rfl, rfl⟩)
      · have hp1 : p (rd l k) = true := by assumption
        go_ret
        exact ⟨⟨(k : Int), rfl, by rw [List.any_eq_true.2 ⟨_, HM.out, hp1⟩]; simp⟩, rfl⟩
      · have hp1 : p (rd l k) = false := by assumption
        have h2 := all_snoc (P := fun x => p x = false) l k hlt HK.out hp1
        go_round
        case rel => exact ⟨k + 1, by omega, by go_num, ⟨h2⟩⟩
        case measure => simp [RowKit.intOf]; omega
    · have h2 : l.any p = false := by
        rw [List.any_eq_false]
        intro x hx
        have := HK.out x (by rw [List.take_of_length_le (by omega)]; exact hx)
        simp [this]
      have H2 := Lib.hid h2
      clear h2
      go_wp2
      go_ret
      exact ⟨⟨-1, rfl, by rw [H2.out]; rfl⟩, rfl⟩
set_option maxRecDepth 100000 in
/-- slices.ContainsFunc, likewise. -/
theorem contains58 (p : Int → Bool) (q : Value) (A : Option Addr) (c : Nat) (l : List Int) (w : World) (hc : (Kd.int .i64).C w A l.length l)
    (hp : ∀ x ∈ l, Calls Try.prog 58 #[.int .i64 x, q] w fun e w' => e = .returned (.bool (p x)) ∧ w = w') :
    Calls Try.prog 57 #[.slice A l.length c, .func (.func 58) #[] #[q]] w fun e w' => e = .returned (.bool (l.any p)) ∧ w = w' := by
  have HI := Lib.hid (index58 p q A c l w hc hp)
  clear hc hp
  generalize l.any p = r at *
  go_enter Try.func57, Try.ntmps57
  go_wp2_with (go_at_call 82; refine HI.out.mono ?_; rintro e w' ⟨⟨i, rfl, hi⟩, rfl⟩)
  go_ret
  exact ⟨by rw [← hi]; rfl, rfl⟩

set_option maxRecDepth 100000 in
/-- slices.IndexFunc over whole numbers, at the predicate of the closure 81 (one captured pointer), which reads only. -/
theorem index81 (p : Int → Bool) (q : Value) (A : Option Addr) (c : Nat) (l : List Int) (w : World) (hc : (Kd.int .i64).C w A l.length l)
    (hp : ∀ x ∈ l, Calls Try.prog 81 #[.int .i64 x, q] w fun e w' => e = .returned (.bool (p x)) ∧ w = w') :
    Calls Try.prog 82 #[.slice A l.length c, .func (.func 81) #[] #[q]] w fun e w' => (∃ i : Int, e = .returned (.int .i64 i) ∧ decide (0 ≤ i) = l.any p) ∧ w = w' := by
  have HC := Lib.hid hc
  have HP := Lib.hid hp
  clear hc hp
  have hm := HC.out.2.1
  go_enter Try.func82, Try.ntmps82
  go_wp2
  go_loop [8] (fun v => ∃ k : Nat, k ≤ l.length ∧ v = .int .i64 k ∧ Aside0 (∀ x ∈ l.take k, p x = false)) (fun v => l.length - (RowKit.intOf v).toNat)
  case atStart => exact ⟨0, Nat.zero_le _, rfl, ⟨by simp⟩⟩
  case round =>
    obtain ⟨k, hk, rfl, HK⟩ := hrel
    by_cases hlt : k < l.length
    · obtain ⟨ad, rfl, hx⟩ := Kd.at_int HC.out (k : Int) (by omega) (by omega)
      simp only [Int.toNat_natCast] at hx
      have hmem : rd l k ∈ l := rd_mem l k hlt
      have HM := Lib.hid hmem
      clear hmem
      go_wp2_with (go_at_call 81; refine (HP.out _ HM.out).mono ?_; rintro e w' ⟨rfl, rfl⟩)
      · have hp1 : p (rd l k) = true := by assumption
        go_ret
        exact ⟨⟨(k : Int), rfl, by rw [List.any_eq_true.2 ⟨_, HM.out, hp1⟩]; simp⟩, rfl⟩
      · have hp1 : p (rd l k) = false := by assumption
        have h2 := all_snoc (P := fun x => p x = false) l k hlt HK.out hp1
        go_round
        case rel => exact ⟨k + 1, by omega, by go_num, ⟨h2⟩⟩
        case measure => simp [RowKit.intOf]; omega
    · have h2 : l.any p = false := by
        rw [List.any_eq_false]
        intro x hx
        have := HK.out x (by rw [List.take_of_length_le (by omega)]; exact hx)
        simp [this]
      have H2 := Lib.hid h2
      clear h2
      go_wp2
      go_ret
      exact ⟨⟨-1, rfl, by rw [H2.out]; rfl⟩, rfl⟩
set_option maxRecDepth 100000 in
/-- slices.ContainsFunc, likewise. -/
theorem contains81 (p : Int → Bool) (q : Value) (A : Option Addr) (c : Nat) (l : List Int) (w : World) (hc : (Kd.int .i64).C w A l.length l)
    (hp : ∀ x ∈ l, Calls Try.prog 81 #[.int .i64 x, q] w fun e w' => e = .returned (.bool (p x)) ∧ w = w') :
    Calls Try.prog 57 #[.slice A l.length c, .func (.func 81) #[] #[q]] w fun e w' => e = .returned (.bool (l.any p)) ∧ w = w' := by
  have HI := Lib.hid (index81 p q A c l w hc hp)
  clear hc hp
  generalize l.any p = r at *
  go_enter Try.func57, Try.ntmps57
  go_wp2_with (go_at_call 82; refine HI.out.mono ?_; rintro e w' ⟨⟨i, rfl, hi⟩, rfl⟩)
  go_ret
  exact ⟨by rw [← hi]; rfl, rfl⟩

end Go.Proofs.Ytolfamfgoafhlaa.M
end
section
namespace Go.Proofs.Ytolfamfgoafhlaa.M
open Go.RowKit Go.Proofs.YtolfamfgoafhlaaW.PrintWords Go.Proofs.YtolfamfgoafhlaaW.PrintLast
open Go.Proofs.Ytolfamfgoafhlaa.P Go.Proofs.Ytolfamfgoafhlaa.L

/-- The four blocks that right makes. -/
def rW (w : World) (kd : Int) (A1 A2 : Option Addr) (n1 c1 n2 c2 : Nat) (tg dst at_ many : Int) : World :=
  (((w.alloc (.cells #[.int .i64 kd, .slice A1 n1 c1, .slice A2 n2 c2, .int .i64 tg, .int .i64 dst] 33)).alloc (.cells #[.int .i64 at_] 3)).alloc (.cells #[.int .i64 many] 3)).alloc (.cells #[.func (.func 79) #[] #[.pointer (some ⟨w.heap.size + 1, 0, none⟩), .pointer (some ⟨w.heap.size + 2, 0, none⟩)]] 77)

set_option maxRecDepth 100000 in
set_option maxHeartbeats 1000000 in
theorem right_eat (l : List E8) (fs : List Int) (tg dst at_ many : Int) (A1 A2 : Option Addr) (c1 c2 : Nat) (w : World) (hN : l.length ≤ 1000000) (h1 : Kd.C k72 w A1 l.length (vals l)) (h2 : (Kd.int .i64).C w A2 fs.length fs) :
    Calls Try.prog 55 #[.agg #[.int .i64 1, .slice A1 l.length c1, .slice A2 fs.length c2, .int .i64 tg, .int .i64 dst], .int .i64 at_, .int .i64 many] w fun e w' => e = .returned (.bool (decide (fs = []) && (decide (dst = 0) && edgesOk (l.map ed8) many))) ∧ Below w.heap.size w w' := by
  have hB : Below w.heap.size w (rW w 1 A1 A2 l.length c1 fs.length c2 tg dst at_ many) := by
    unfold rW
    exact ((((Below.refl _ _).alloc (Nat.le_refl _) _).alloc (by simp) _).alloc (by simp; omega) _).alloc (by simp; omega) _
  have HB := Lib.hid hB
  have H1 := Lib.hid h1
  have hf2 := h2.2.1
  clear hB h1 h2
  unfold rW at HB
  rcases fs with _ | ⟨f, fs⟩
  · by_cases hd : dst = 0
    · subst hd
      go_enter Try.func55, Try.ntmps55
      go_wp2_with (first | (go_at_call 80; refine (eats_calls A1 c1 l hN many _ (Kd.C_below H1.out HB.out)).mono ?_; rintro e w2 ⟨rfl, hb2⟩))
      go_ret
      exact ⟨by simp, HB.out.trans (hb2.mono HB.out.size)⟩
    · have hd' : (dst == 0) = false := by simpa using hd
      have hr : decide (dst = 0) = false := by simpa using hd
      have HR := Lib.hid hr
      clear hr hd
      go_enter Try.func55, Try.ntmps55
      go_wp2
      go_ret
      exact ⟨by rw [HR.out]; simp, HB.out⟩
  · have hd' : (((f :: fs).length : Int) == 0) = false := by simp; try omega
    have hl0 : (0 : Int) < ((f :: fs).length : Int) := by simp
    generalize hg : (f :: fs).length = q at *
    have hne : decide ((f :: fs) = []) = false := by simp
    have HR := Lib.hid hne
    clear hne hg
    go_enter Try.func55, Try.ntmps55
    go_wp2
    go_ret
    exact ⟨by rw [HR.out]; simp, HB.out⟩

theorem rW_cells (w : World) (kd : Int) (A1 A2 : Option Addr) (n1 c1 n2 c2 : Nat) (tg dst at_ many : Int) :
    (rW w kd A1 A2 n1 c1 n2 c2 tg dst at_ many).cell? ⟨w.heap.size + 1, 0, none⟩ = some (.int .i64 at_) ∧ (rW w kd A1 A2 n1 c1 n2 c2 tg dst at_ many).cell? ⟨w.heap.size + 2, 0, none⟩ = some (.int .i64 many) ∧ (rW w kd A1 A2 n1 c1 n2 c2 tg dst at_ many).cell? ⟨w.heap.size + 3, 0, none⟩ = some (.func (.func 79) #[] #[.pointer (some ⟨w.heap.size + 1, 0, none⟩), .pointer (some ⟨w.heap.size + 2, 0, none⟩)]) := by
  unfold rW
  generalize hw1 : w.alloc (.cells #[.int .i64 kd, .slice A1 n1 c1, .slice A2 n2 c2, .int .i64 tg, .int .i64 dst] 33) = w1
  have s1 : w1.heap.size = w.heap.size + 1 := by rw [← hw1]; simp
  generalize hw2 : w1.alloc (.cells #[.int .i64 at_] 3) = w2
  have s2 : w2.heap.size = w.heap.size + 2 := by rw [← hw2]; simp [s1]
  have x2 : w2.heap[w.heap.size + 1]? = some (.cells #[.int .i64 at_] 3 (0, 0)) := by rw [← hw2, ← s1]; exact World.alloc_heap_new w1 _
  generalize hw3 : w2.alloc (.cells #[.int .i64 many] 3) = w3
  have s3 : w3.heap.size = w.heap.size + 3 := by rw [← hw3]; simp [s2]
  have x3 : w3.heap[w.heap.size + 2]? = some (.cells #[.int .i64 many] 3 (0, 0)) := by rw [← hw3, ← s2]; exact World.alloc_heap_new w2 _
  have y3 : w3.heap[w.heap.size + 1]? = some (.cells #[.int .i64 at_] 3 (0, 0)) := by rw [← hw3]; exact (Below.heap_alloc w2 _ _ (by omega)).trans x2
  generalize hv : (Value.func (.func 79) #[] #[.pointer (some ⟨w.heap.size + 1, 0, none⟩), .pointer (some ⟨w.heap.size + 2, 0, none⟩)]) = fv
  have z1 := (Below.heap_alloc w3 (.cells #[fv] 77) (w.heap.size + 1) (by omega)).trans y3
  have z2 := (Below.heap_alloc w3 (.cells #[fv] 77) (w.heap.size + 2) (by omega)).trans x3
  have z3 := World.alloc_heap_new w3 (.cells #[fv] 77)
  rw [s3] at z3
  exact ⟨cells_at z1 rfl, cells_at z2 rfl, cells_at z3 rfl⟩

theorem any_not (l : List Int) (p : Int → Bool) : (!l.any fun x => !p x) = l.all p := by
  induction l with
  | nil => rfl
  | cons x l ih => simp only [List.any_cons, List.all_cons, Bool.not_or, Bool.not_not, ih]

set_option maxRecDepth 100000 in
set_option maxHeartbeats 1000000 in
theorem right_fork (l : List E8) (fs : List Int) (tg dst at_ many : Int) (A1 A2 : Option Addr) (c1 c2 : Nat) (w : World) (hN : l.length ≤ 1000000) (h2 : (Kd.int .i64).C w A2 fs.length fs) :
    Calls Try.prog 55 #[.agg #[.int .i64 2, .slice A1 l.length c1, .slice A2 fs.length c2, .int .i64 tg, .int .i64 dst], .int .i64 at_, .int .i64 many] w fun e w' => e = .returned (.bool (decide (l = []) && (decide (dst = 0) && fs.all (upB at_ many)))) ∧ Below w.heap.size w w' := by
  have hB : Below w.heap.size w (rW w 2 A1 A2 l.length c1 fs.length c2 tg dst at_ many) := by
    unfold rW
    exact ((((Below.refl _ _).alloc (Nat.le_refl _) _).alloc (by simp) _).alloc (by simp; omega) _).alloc (by simp; omega) _
  have hc := rW_cells w 2 A1 A2 l.length c1 fs.length c2 tg dst at_ many
  have HB := Lib.hid hB
  have HC := Lib.hid hc
  have H2 := Lib.hid h2
  clear hB h2 hc
  unfold rW at HB HC
  rcases l with _ | ⟨f, l⟩
  · by_cases hd : dst = 0
    · subst hd
      have ha := any_not fs (upB at_ many)
      have HA := Lib.hid ha
      clear ha
      go_enter Try.func55, Try.ntmps55
      go_wp2_with (first | (go_at_call 57; refine (contains81 (fun x => !upB at_ many x) (.pointer (some ⟨w.heap.size + 3, 0, none⟩)) A2 c2 fs _ (Kd.C_below H2.out HB.out) (fun x _ => notup_calls at_ many x _ _ _ _ HC.out.1 HC.out.2.1 HC.out.2.2)).mono ?_; rintro e w2 ⟨rfl, rfl⟩))
      go_ret
      exact ⟨by rw [← HA.out]; simp, HB.out⟩
    · have hd' : (dst == 0) = false := by simpa using hd
      have hr : decide (dst = 0) = false := by simpa using hd
      have HR := Lib.hid hr
      clear hr hd
      go_enter Try.func55, Try.ntmps55
      go_wp2
      go_ret
      exact ⟨by rw [HR.out]; simp, HB.out⟩
  · have hd' : (((f :: l).length : Int) == 0) = false := by simp; try omega
    have hl0 : (0 : Int) < ((f :: l).length : Int) := by simp
    have hne : decide ((f :: l) = []) = false := by simp
    have HR := Lib.hid hne
    clear hne
    generalize hg : (f :: l).length = q at *
    clear hg
    go_enter Try.func55, Try.ntmps55
    go_wp2
    go_ret
    exact ⟨by rw [HR.out]; simp, HB.out⟩

set_option maxRecDepth 100000 in
set_option maxHeartbeats 1000000 in
theorem right_mark (l : List E8) (fs : List Int) (tg dst at_ many : Int) (A1 A2 : Option Addr) (c1 c2 : Nat) (w : World) (hN : l.length ≤ 1000000) (hF : fs.length ≤ 9223372036854775807 - 1000000) :
    Calls Try.prog 55 #[.agg #[.int .i64 3, .slice A1 l.length c1, .slice A2 fs.length c2, .int .i64 tg, .int .i64 dst], .int .i64 at_, .int .i64 many] w fun e w' => e = .returned (.bool (decide (l = []) && (decide (fs = []) && upB at_ many dst))) ∧ Below w.heap.size w w' := by
  have hB : Below w.heap.size w (rW w 3 A1 A2 l.length c1 fs.length c2 tg dst at_ many) := by
    unfold rW
    exact ((((Below.refl _ _).alloc (Nat.le_refl _) _).alloc (by simp) _).alloc (by simp; omega) _).alloc (by simp; omega) _
  have hc := rW_cells w 3 A1 A2 l.length c1 fs.length c2 tg dst at_ many
  have HB := Lib.hid hB
  have HC := Lib.hid hc
  clear hB hc
  unfold rW at HB HC
  by_cases he : l = [] ∧ fs = []
  · obtain ⟨rfl, rfl⟩ := he
    go_enter Try.func55, Try.ntmps55
    go_wp2_with (first | (go_at_call 79; refine (up_calls at_ many dst _ _ _ HC.out.1 HC.out.2.1).mono ?_; rintro e w2 ⟨rfl, rfl⟩))
    go_ret
    exact ⟨by simp, HB.out⟩
  · have hr : (decide (l = []) && (decide (fs = []) && upB at_ many dst)) = false := by
      rw [Bool.eq_false_iff]; intro h; simp at h; exact he ⟨h.1, h.2.1⟩
    have hs : ((l.length : Int) + (fs.length : Int) == 0) = false := by
      rw [beq_eq_false_iff_ne]
      intro h
      have h1 : l.length = 0 := by omega
      have h2 : fs.length = 0 := by omega
      exact he ⟨List.eq_nil_of_length_eq_zero h1, List.eq_nil_of_length_eq_zero h2⟩
    have HR := Lib.hid hr
    clear hr he
    go_enter Try.func55, Try.ntmps55
    go_wp2
    go_ret
    exact ⟨by rw [HR.out]; rfl, HB.out⟩

set_option maxRecDepth 100000 in
set_option maxHeartbeats 1000000 in
theorem right_end (l : List E8) (fs : List Int) (tg dst at_ many : Int) (A1 A2 : Option Addr) (c1 c2 : Nat) (w : World) (hN : l.length ≤ 1000000) (hF : fs.length ≤ 9223372036854775807 - 1000000) :
    Calls Try.prog 55 #[.agg #[.int .i64 4, .slice A1 l.length c1, .slice A2 fs.length c2, .int .i64 tg, .int .i64 dst], .int .i64 at_, .int .i64 many] w fun e w' => e = .returned (.bool (decide (l = []) && (decide (fs = []) && decide (dst = 0)))) ∧ Below w.heap.size w w' := by
  have hB : Below w.heap.size w (rW w 4 A1 A2 l.length c1 fs.length c2 tg dst at_ many) := by
    unfold rW
    exact ((((Below.refl _ _).alloc (Nat.le_refl _) _).alloc (by simp) _).alloc (by simp; omega) _).alloc (by simp; omega) _
  have HB := Lib.hid hB
  clear hB
  unfold rW at HB
  by_cases he : l = [] ∧ fs = []
  · obtain ⟨rfl, rfl⟩ := he
    by_cases hd : dst = 0
    · subst hd
      go_enter Try.func55, Try.ntmps55
      go_wp2
      go_ret
      exact ⟨by simp, HB.out⟩
    · have hd' : (dst == 0) = false := by simpa using hd
      have hr : decide (dst = 0) = false := by simpa using hd
      have HR := Lib.hid hr
      clear hr hd
      go_enter Try.func55, Try.ntmps55
      go_wp2
      go_ret
      exact ⟨by rw [HR.out]; simp, HB.out⟩
  · have hr : (decide (l = []) && (decide (fs = []) && decide (dst = 0))) = false := by
      rw [Bool.eq_false_iff]; intro h; simp at h; exact he ⟨h.1, h.2.1⟩
    have hs : ((l.length : Int) + (fs.length : Int) == 0) = false := by
      rw [beq_eq_false_iff_ne]
      intro h
      have h1 : l.length = 0 := by omega
      have h2 : fs.length = 0 := by omega
      exact he ⟨List.eq_nil_of_length_eq_zero h1, List.eq_nil_of_length_eq_zero h2⟩
    have HR := Lib.hid hr
    clear hr he
    go_enter Try.func55, Try.ntmps55
    go_wp2
    go_ret
    exact ⟨by rw [HR.out]; rfl, HB.out⟩

set_option maxRecDepth 100000 in
set_option maxHeartbeats 1000000 in
theorem right_none (kd : Int) (k1 : ¬ kd = 1) (k2 : ¬ kd = 2) (k3 : ¬ kd = 3) (k4 : ¬ kd = 4) (n1 n2 : Nat) (tg dst at_ many : Int) (A1 A2 : Option Addr) (c1 c2 : Nat) (w : World) :
    Calls Try.prog 55 #[.agg #[.int .i64 kd, .slice A1 n1 c1, .slice A2 n2 c2, .int .i64 tg, .int .i64 dst], .int .i64 at_, .int .i64 many] w fun e w' => e = .returned (.bool false) ∧ Below w.heap.size w w' := by
  have hB : Below w.heap.size w (rW w kd A1 A2 n1 c1 n2 c2 tg dst at_ many) := by
    unfold rW
    exact ((((Below.refl _ _).alloc (Nat.le_refl _) _).alloc (by simp) _).alloc (by simp; omega) _).alloc (by simp; omega) _
  have HB := Lib.hid hB
  clear hB
  unfold rW at HB
  have e1 : (kd == 1) = false := by simpa using k1
  have e2 : (kd == 2) = false := by simpa using k2
  have e3 : (kd == 3) = false := by simpa using k3
  have e4 : (kd == 4) = false := by simpa using k4
  clear k1 k2 k3 k4
  go_enter Try.func55, Try.ntmps55
  go_wp2
  go_ret
  exact ⟨rfl, HB.out⟩
end Go.Proofs.Ytolfamfgoafhlaa.M
end
section
namespace Go.Proofs.Ytolfamfgoafhlaa.M
open Go.RowKit Go.Proofs.YtolfamfgoafhlaaW.PrintWords Go.Proofs.YtolfamfgoafhlaaW.PrintLast
open Go.Proofs.Ytolfamfgoafhlaa.P Go.Proofs.Ytolfamfgoafhlaa.L

/-- Nodes that are no greater than any of the statements' machines; bytes are bytes. -/
def FitN (x : S33) : Prop := x.f1.length ≤ 1000000 ∧ x.f2.length ≤ 1000000 ∧ ∀ e ∈ x.f1, 0 ≤ e.f0 ∧ e.f0 ≤ 255
def Fit (m : List S33) : Prop := ∀ x ∈ m, FitN x

theorem lift8 (es : List S72) (h : ∀ e ∈ es, 0 ≤ e.f0 ∧ e.f0 ≤ 255) : ∃ l : List E8, vals l = es := by
  induction es with
  | nil => exact ⟨[], rfl⟩
  | cons e es ih =>
    obtain ⟨l, hl⟩ := ih (fun x hx => h x (List.mem_cons_of_mem _ hx))
    exact ⟨⟨e, h e List.mem_cons_self⟩ :: l, by show e :: vals l = e :: es; rw [hl]⟩
theorem ed8_vals (l : List E8) : l.map ed8 = (vals l).map ed := by simp [vals, List.map_map, Function.comp_def, ed8, ed]
theorem ed8_nil (l : List E8) : decide (l = []) = decide ((vals l).map ed = []) := by
  cases l <;> simp [vals]

/-- (Node).right: may a node be, at its place? -/
theorem right_calls (x : S33) (hx : FitN x) (at_ many : Int) (A1 A2 : Option Addr) (c1 c2 : Nat) (w : World) (h1 : Kd.C k72 w A1 x.f1.length x.f1) (h2 : (Kd.int .i64).C w A2 x.f2.length x.f2) :
    Calls Try.prog 55 #[.agg #[.int .i64 x.f0, .slice A1 x.f1.length c1, .slice A2 x.f2.length c2, .int .i64 x.f3, .int .i64 x.f4], .int .i64 at_, .int .i64 many] w fun e w' => e = .returned (.bool (nodeOk (nn x) at_ many)) ∧ Below w.heap.size w w' := by
  obtain ⟨kd, es, fs, tg, dst⟩ := x
  obtain ⟨n1, n2, n3⟩ := hx
  simp only at h1 h2 n1 n2 n3 ⊢
  obtain ⟨l, rfl⟩ := lift8 es n3
  rw [vals_length] at h1 n1 ⊢
  by_cases k1 : kd = 1
  · subst k1
    refine (right_eat l fs tg dst at_ many A1 A2 c1 c2 w n1 h1 h2).mono fun e w' ⟨he, hw⟩ => ⟨?_, hw⟩
    rw [he, ed8_vals]
    rfl
  · by_cases k2 : kd = 2
    · subst k2
      refine (right_fork l fs tg dst at_ many A1 A2 c1 c2 w n1 h2).mono fun e w' ⟨he, hw⟩ => ⟨?_, hw⟩
      rw [he, ed8_nil]
      rfl
    · by_cases k3 : kd = 3
      · subst k3
        refine (right_mark l fs tg dst at_ many A1 A2 c1 c2 w n1 (by omega)).mono fun e w' ⟨he, hw⟩ => ⟨?_, hw⟩
        rw [he, ed8_nil]
        rfl
      · by_cases k4 : kd = 4
        · subst k4
          refine (right_end l fs tg dst at_ many A1 A2 c1 c2 w n1 (by omega)).mono fun e w' ⟨he, hw⟩ => ⟨?_, hw⟩
          rw [he, ed8_nil]
          rfl
        · refine (right_none kd k1 k2 k3 k4 _ _ tg dst at_ many A1 A2 c1 c2 w).mono fun e w' ⟨he, hw⟩ => ⟨?_, hw⟩
          rw [he]
          simp [nodeOk, nn, k1, k2, k3, k4]

theorem rd33_mem (l : List S33) (k : Nat) (h : k < l.length) : rd_T33 l k ∈ l := by
  simp only [rd_T33, Int.toNat_natCast, List.getD_eq_getElem?_getD, List.getElem?_eq_getElem h, Option.getD_some]
  exact List.getElem_mem h

set_option maxRecDepth 100000 in
set_option maxHeartbeats 1000000 in
/-- machine.May. -/
theorem may_calls (m : List S33) (hf : Fit m) (A : Option Addr) (c : Nat) (w : World) (hC : Kd.C k33 w A m.length m) :
    Calls Try.prog 23 #[.slice A m.length c] w fun e w' => e = .returned (.bool (mayB (N33 m))) ∧ Below w.heap.size w w' := by
  have hml := hC.2.1
  have HC := Lib.hid hC
  have HF := Lib.hid hf
  clear hC hf
  by_cases h1 : m.length < 1
  · have hr : mayB (N33 m) = false := by rw [Bool.eq_false_iff]; intro h; have := ((may_iff _).1 h).1; rw [N33_length] at this; omega
    have HR := Lib.hid hr
    clear hr
    go_enter Try.func23, Try.ntmps23
    go_wp2
    go_ret
    exact ⟨by rw [HR.out]; rfl, Below.refl _ _⟩
  · by_cases h2 : 100000 < m.length
    · have hr : mayB (N33 m) = false := by rw [Bool.eq_false_iff]; intro h; have := ((may_iff _).1 h).2.1; rw [N33_length] at this; omega
      have HR := Lib.hid hr
      clear hr
      have h1' : 1 ≤ m.length := by omega
      go_enter Try.func23, Try.ntmps23
      go_wp2
      go_ret
      exact ⟨by rw [HR.out]; rfl, Below.refl _ _⟩
    · have h1' : 1 ≤ m.length := by omega
      have h2' : m.length ≤ 100000 := by omega
      clear h1 h2
      have d1 : decide (m.length < 1) = false := decide_eq_false (by omega)
      have d2 : decide (100000 < m.length) = false := decide_eq_false (by omega)
      go_enter Try.func23, Try.ntmps23
      go_wp2
      go_loopw [15] (fun v wr => ∃ k : Nat, k ≤ m.length ∧ v = .int .i64 k ∧ Aside0 (∀ j : Nat, j < k → nodeOk (nd (N33 m) j) j m.length = true) ∧ Aside0 (Below w.heap.size w wr)) (fun v _ => m.length - (RowKit.intOf v).toNat)
      case atStart => exact ⟨0, Nat.zero_le _, rfl, ⟨fun _ h => absurd h (by omega)⟩, ⟨Below.refl _ _⟩⟩
      case round =>
        obtain ⟨k, hk, rfl, HI, HB⟩ := hrel
        by_cases hlt : k < m.length
        · obtain ⟨ad, A1, c1, A2, c2, eA, hx0, hx1, hx2, hx3, hx4, hl1, hi1, hl2, hi2⟩ := at_T33 HC.out (k : Int) (by omega) (by omega)
          subst eA
          simp only [Int.toNat_natCast] at hx0 hx1 hx2 hx3 hx4
          have hz0 := (HB.out.cell (World.block_lt_of_cell? w _ hx0)).trans hx0
          have hz1 := (HB.out.cell (World.block_lt_of_cell? w _ hx1)).trans hx1
          have hz2 := (HB.out.cell (World.block_lt_of_cell? w _ hx2)).trans hx2
          have hz3 := (HB.out.cell (World.block_lt_of_cell? w _ hx3)).trans hx3
          have hz4 := (HB.out.cell (World.block_lt_of_cell? w _ hx4)).trans hx4
          have hfx := HF.out _ (rd33_mem m k hlt)
          have hnd : nd (N33 m) (k : Int) = nn (rd_T33 m k) := nd_N33 m k (by simpa using hlt)
          have hba := HB.out.alloc HB.out.size (.cells #[.int .i64 (rd_T33 m k).f0, .slice A1 (rd_T33 m k).f1.length c1, .slice A2 (rd_T33 m k).f2.length c2, .int .i64 (rd_T33 m k).f3, .int .i64 (rd_T33 m k).f4] 33)
          have HBA := Lib.hid hba
          have hr := fun W hW => right_calls (rd_T33 m k) hfx (k : Int) (m.length : Int) A1 A2 c1 c2 W (Kd.C_below hi1 hW) (Kd.C_below hi2 hW)
          have HRt := Lib.hid hr
          rw [← hnd] at HRt
          have HNd := Lib.hid hnd
          clear hx0 hx1 hx2 hx3 hx4 hi1 hi2 hfx hnd hba hr
          cases hok : nodeOk (nd (N33 m) k) k m.length with
          | true =>
            have HOk := Lib.hid hok
            have hn : ∀ j : Nat, j < k + 1 → nodeOk (nd (N33 m) j) j m.length = true := fun j hj => by
              rcases Nat.lt_or_ge j k with h3 | h3
              · exact HI.out j h3
              · obtain rfl : j = k := by omega
                exact hok
            have HN := Lib.hid hn
            clear hok hn
            go_wp2_with (go_at_call 55; refine (HRt.out _ HBA.out).mono ?_; rw [HOk.out]; rintro e w2 ⟨rfl, hb2⟩)
            go_roundw
            case rel => exact ⟨k + 1, by omega, by go_num, ⟨HN.out⟩, ⟨HBA.out.trans (hb2.mono HBA.out.size)⟩⟩
            case measure => simp [RowKit.intOf]; omega
          | false =>
            have HOk := Lib.hid hok
            have hr : mayB (N33 m) = false := by
              rw [Bool.eq_false_iff]; intro h
              have := ((may_iff _).1 h).2.2 k (by rw [N33_length]; exact hlt)
              rw [N33_length, hok] at this
              cases this
            have HR := Lib.hid hr
            clear hr hok
            go_wp2_with (go_at_call 55; refine (HRt.out _ HBA.out).mono ?_; rw [HOk.out]; rintro e w2 ⟨rfl, hb2⟩)
            go_ret
            exact ⟨by rw [HR.out]; rfl, HBA.out.trans (hb2.mono HBA.out.size)⟩
        · have hr : mayB (N33 m) = true := (may_iff _).2 ⟨by rw [N33_length]; exact h1', by rw [N33_length]; exact h2', fun i hi => by rw [N33_length] at hi ⊢; exact HI.out i (by omega)⟩
          have HR := Lib.hid hr
          clear hr
          go_wp2
          go_ret
          exact ⟨by rw [HR.out]; rfl, HB.out⟩
end Go.Proofs.Ytolfamfgoafhlaa.M
end
section
namespace Go.Proofs.Ytolfamfgoafhlaa.M
open Go.RowKit Go.Proofs.YtolfamfgoafhlaaW.PrintWords Go.Proofs.YtolfamfgoafhlaaW.PrintLast Go.Proofs.YtolfamfgoafhlaaW.PrintMore
open Go.Proofs.Ytolfamfgoafhlaa.P Go.Proofs.Ytolfamfgoafhlaa.L

set_option maxRecDepth 100000 in
/-- machine.Close. -/
theorem close_calls (m : List S33) (hf : Fit m) (A A1 : Option Addr) (c c1 : Nat) (at_ : List Int) (w : World) (hC : Kd.C k33 w A m.length m) (hA : (Kd.int .i64).C w A1 at_.length at_) (hwf : ∀ x ∈ at_, (Lit.int .i64 x).wf = true) :
    Calls Try.prog 21 #[.slice A m.length c, .slice A1 at_.length c1] w fun e w' => ∃ v, e = .returned v ∧ Kd.R (Kd.int .i64) 3 w' w.heap.size (fun _ => True) v (closeL (N33 m) at_) ∧ Below w.heap.size w w' := by
  have HF := Lib.hid hf
  clear hf
  have HC := Lib.hid hC
  have HA := Lib.hid hA
  have HW := Lib.hid hwf
  clear hC hA hwf
  cases hM : mayB (N33 m) with
  | true =>
    have HM := Lib.hid hM
    clear hM
    go_enter Try.func21, Try.ntmps21
    go_wp2_with (first | (go_at_call 23; refine (may_calls m HF.out A c _ HC.out).mono ?_; rw [HM.out]; rintro e w1 ⟨rfl, hb1⟩) | (go_at_call 54; refine (closed_calls m HM.out A A1 c c1 at_ _ (Kd.C_below HC.out hb1) (Kd.C_below HA.out hb1) HW.out).mono ?_; rintro e w2 ⟨v, rfl, hv, hb2⟩))
    go_ret
    exact ⟨v, rfl, Kd.R_lower hv hb1.size, hb1.trans (hb2.mono hb1.size)⟩
  | false =>
    have HM := Lib.hid hM
    clear hM
    have hr : closeL (N33 m) at_ = [] := by unfold closeL; rw [HM.out]; rfl
    have HR := Lib.hid hr
    clear hr
    go_enter Try.func21, Try.ntmps21
    go_wp2_with (first | (go_at_call 23; refine (may_calls m HF.out A c _ HC.out).mono ?_; rw [HM.out]; rintro e w1 ⟨rfl, hb1⟩))
    go_ret
    rw [HR.out]
    exact ⟨_, rfl, Kd.R_nil _ _ _ _ _, hb1⟩

set_option maxRecDepth 100000 in
/-- machine.Step. -/
theorem step_calls (m : List S33) (hf : Fit m) (A A1 : Option Addr) (c c1 : Nat) (at_ : List Int) (ch : Int) (w : World) (hC : Kd.C k33 w A m.length m) (hA : (Kd.int .i64).C w A1 at_.length at_) :
    Calls Try.prog 27 #[.slice A m.length c, .slice A1 at_.length c1, .int .u8 ch] w fun e w' => ∃ v, e = .returned v ∧ Kd.R (Kd.int .i64) 3 w' w.heap.size (fun _ => True) v (stepL (N33 m) at_ ch) ∧ Below w.heap.size w w' := by
  have HF := Lib.hid hf
  clear hf
  have HC := Lib.hid hC
  have HA := Lib.hid hA
  clear hC hA
  cases hM : mayB (N33 m) with
  | true =>
    have HM := Lib.hid hM
    clear hM
    go_enter Try.func27, Try.ntmps27
    go_wp2_with (first | (go_at_call 23; refine (may_calls m HF.out A c _ HC.out).mono ?_; rw [HM.out]; rintro e w1 ⟨rfl, hb1⟩) | (go_at_call 56; refine (stepped_calls m HM.out A A1 c c1 at_ ch _ (Kd.C_below HC.out hb1) (Kd.C_below HA.out hb1)).mono ?_; rintro e w2 ⟨v, rfl, hv, hb2⟩))
    go_ret
    exact ⟨v, rfl, Kd.R_lower hv hb1.size, hb1.trans (hb2.mono hb1.size)⟩
  | false =>
    have HM := Lib.hid hM
    clear hM
    have hr : stepL (N33 m) at_ ch = [] := by unfold stepL closeL; rw [HM.out]; rfl
    have HR := Lib.hid hr
    clear hr
    go_enter Try.func27, Try.ntmps27
    go_wp2_with (first | (go_at_call 23; refine (may_calls m HF.out A c _ HC.out).mono ?_; rw [HM.out]; rintro e w1 ⟨rfl, hb1⟩))
    go_ret
    rw [HR.out]
    exact ⟨_, rfl, Kd.R_nil _ _ _ _ _, hb1⟩

set_option maxRecDepth 100000 in
/-- The closure of Accepts: is a node an end? -/
theorem isEnd_calls (m : List S33) (A : Option Addr) (c b : Nat) (x : Int) (w : World) (hC : Kd.C k33 w A m.length m) (hb : w.cell? ⟨b, 0, none⟩ = some (.slice A m.length c)) (h0 : 0 ≤ x) (h1 : x < (m.length : Int)) :
    Calls Try.prog 58 #[.int .i64 x, .pointer (some ⟨b, 0, none⟩)] w fun e w' => e = .returned (.bool (decide ((nd (N33 m) x).kind = 4))) ∧ w = w' := by
  obtain ⟨ad, A1, c1, A2, c2, eA, hx0, hx1, hx2, hx3, hx4, hl1, hi1, hl2, hi2⟩ := at_T33 hC x h0 h1
  have e1 : (nd (N33 m) x).kind = (rd_T33 m x).f0 := by rw [nd_N33 m x (by omega)]; rfl
  rw [e1]
  subst eA
  clear hC hx1 hx2 hx3 hx4 hl1 hi1 hl2 hi2 e1
  generalize (rd_T33 m x).f0 = kd at *
  by_cases hk : kd = 4
  · subst hk
    go_enter Try.func58, Try.ntmps58
    go_wp2
    go_ret
    exact ⟨rfl, rfl⟩
  · have hk' : (kd == 4) = false := by simpa using hk
    have hd : decide (kd = 4) = false := by simpa using hk
    have HD := Lib.hid hd
    clear hd hk
    go_enter Try.func58, Try.ntmps58
    go_wp2
    go_ret
    exact ⟨by rw [HD.out]; rfl, rfl⟩

theorem box_new (w : World) (v : Value) (t : TypeId) : (w.alloc (.cells #[v] t)).cell? ⟨w.heap.size, 0, none⟩ = some v := by
  have := cell_one_new w v t 0 v rfl
  rwa [add_plain] at this
theorem int_one (w : World) (x : Int) : (Kd.int .i64).C (w.alloc (.cells #[.int .i64 x] 3)) (some ⟨w.heap.size, 0, none⟩) 1 [x] := by
  refine Kd.C_of_reads (enc := Value.int .i64) (d := (0 : Int)) (h1 := fun _ => rfl) ⟨rfl, by simp, fun _ => ⟨_, rfl, fun j hj => ?_⟩⟩
  obtain rfl : j = 0 := by omega
  exact box_new w (.int .i64 x) 3

/-- The bytes of a text, up to the k-th. -/
def upto (s : ByteArray) (k : Nat) : List Int := (List.range k).map (fun (i : Nat) => bt s (i : Int))
def bts (s : ByteArray) : List Int := upto s s.size
theorem run_snoc (m : List Nd) (s : ByteArray) (k : Nat) : runL m (upto s (k + 1)) = stepL m (runL m (upto s k)) (bt s (k : Int)) := by
  unfold runL upto
  rw [List.range_succ, List.map_append, List.foldl_append]
  rfl
theorem runL_valid {m : List Nd} {l : List Int} {j : Int} (hj : j ∈ runL m l) : valid m j := by
  unfold runL at hj
  rcases List.eq_nil_or_concat l with rfl | ⟨l', x, rfl⟩
  · exact closeL_valid hj
  · rw [List.concat_eq_append, List.foldl_append] at hj
    exact closeL_valid hj

set_option maxRecDepth 100000 in
/-- machine.Accepts. -/
theorem accepts_calls (m : List S33) (hf : Fit m) (A : Option Addr) (c : Nat) (s : ByteArray) (w : World) (hC : Kd.C k33 w A m.length m) (hs : s.size ≤ 1000000000) :
    Calls Try.prog 24 #[.slice A m.length c, .string s] w fun e w' => e = .returned (.bool (acceptsB (N33 m) (bts s))) ∧ Below w.heap.size w w' := by
  have HF := Lib.hid hf
  clear hf
  have HC := Lib.hid hC
  clear hC
  have hb0 : Below w.heap.size w (w.alloc (.cells #[.slice A m.length c] 26)) := (Below.refl _ _).alloc (Nat.le_refl _) _
  have HB0 := Lib.hid hb0
  clear hb0
  have HX0 := Lib.hid (box_new w (.slice A m.length c) 26)
  cases hM : mayB (N33 m) with
  | true =>
    have HM := Lib.hid hM
    clear hM
    go_enter Try.func24, Try.ntmps24
    go_wp2_with (first | (go_at_call 23; refine (may_calls m HF.out A c _ (Kd.C_below HC.out HB0.out)).mono ?_; rw [HM.out]; rintro e w1 ⟨rfl, hb1⟩; have hx1 : w1.cell? ⟨w.heap.size, 0, none⟩ = some (.slice A m.length c) := (hb1.cell (p := ⟨w.heap.size, 0, none⟩) (by simp)).trans HX0.out; have hB1 : Below w.heap.size w w1 := HB0.out.trans (hb1.mono (by simp))) | (go_at_call 54; refine (closed_calls m HM.out A (some ⟨w1.heap.size, 0, none⟩) c 1 [0] _ (Kd.C_below HC.out (hB1.alloc hB1.size _)) (int_one w1 0) (by simp; decide)).mono ?_; rintro e w2 ⟨v, rfl, hv, hb2⟩))
    have hr0 := Kd.R_reads hv
    obtain ⟨A5, c5, rfl, hl5, hc5⟩ := hr0
    have hB2 : Below w.heap.size w w2 := (hB1.alloc hB1.size _).trans (hb2.mono (by have := hB1.size; simp; omega))
    have hx2 : w2.cell? ⟨w.heap.size, 0, none⟩ = some (.slice A m.length c) := (hb2.cell (p := ⟨w.heap.size, 0, none⟩) (by have := hb1.size; simp at this ⊢; omega)).trans ((((Below.refl _ w1).alloc (Nat.le_refl _) _).cell (p := ⟨w.heap.size, 0, none⟩) (by have := hb1.size; simp at this ⊢; omega)).trans hx1)
    clear hb2 hx1 hb1
    have HC5 := Lib.hid hc5
    have HB2 := Lib.hid hB2
    clear hc5 hB2 hv hB1
    go_loopw [5, 15] (fun v5 v wr => ∃ (k : Nat) (A6 : Option Addr) (c6 : Nat), k ≤ s.size ∧ v = .int .i64 k ∧ v5 = .slice A6 (runL (N33 m) (upto s k)).length c6 ∧ Aside0 ((runL (N33 m) (upto s k)).length ≤ c6) ∧ Aside0 ((Kd.int .i64).C wr A6 (runL (N33 m) (upto s k)).length (runL (N33 m) (upto s k))) ∧ Aside0 (wr.cell? ⟨w.heap.size, 0, none⟩ = some (.slice A m.length c)) ∧ Aside0 (Below w.heap.size w wr)) (fun _ v _ => s.size - (RowKit.intOf v).toNat)
    case atStart => exact ⟨0, A5, c5, Nat.zero_le _, rfl, rfl, ⟨hl5⟩, ⟨HC5.out⟩, ⟨hx2⟩, ⟨HB2.out⟩⟩
    case round =>
      obtain ⟨k, A6, c6, hk, rfl, rfl, HL6, HC6, HX6, HB6⟩ := hrel
      clear hx2
      by_cases hlt : k < s.size
      · have hx := HX6.out
        have hbt := bt_at s (k : Int)
        simp only [Int.toNat_natCast] at hbt
        go_wp2
        go_still_tail 5, (by kernel_rfl)
        change wpList _ _ _ _ _ wr.drew
        have hCd : (Kd.int .i64).C wr.drew A6 (runL (N33 m) (upto s k)).length (runL (N33 m) (upto s k)) := Kd.C_below HC6.out (below_drew (Below.refl _ _))
        have hBd : Below w.heap.size w wr.drew := HB6.out.drew
        have hxd : wr.drew.cell? ⟨w.heap.size, 0, none⟩ = some (.slice A m.length c) := HX6.out
        clear hx
        generalize wr.drew = w4 at *
        have HCd := Lib.hid hCd
        have HBd := Lib.hid hBd
        have HXd := Lib.hid hxd
        clear hCd hBd hxd
        go_wp2_with (first | (go_at_call 56; refine (stepped_calls m HM.out A A6 c c6 _ (bt s k) _ (Kd.C_below HC.out HBd.out) HCd.out).mono ?_; rintro e w5 ⟨v, rfl, hv, hb5⟩))
        obtain ⟨A7, c7, rfl, hl7, hc7⟩ := Kd.R_reads hv
        have hX7 := (hb5.cell (World.block_lt_of_cell? w4 _ HXd.out)).trans HXd.out
        have hB7 := HBd.out.trans (hb5.mono HBd.out.size)
        rw [← run_snoc] at hl7 hc7
        rw [← run_snoc]
        go_roundw
        case rel => exact ⟨k + 1, A7, c7, by omega, by go_num, rfl, ⟨hl7⟩, ⟨hc7⟩, ⟨hX7⟩, ⟨hB7⟩⟩
        case measure => simp [RowKit.intOf]; omega
      · obtain rfl : k = s.size := by omega
        have hx := HX6.out
        have hend : acceptsB (N33 m) (bts s) = (runL (N33 m) (upto s s.size)).any (fun a => decide ((nd (N33 m) a).kind = 4)) := rfl
        have HE := Lib.hid hend
        clear hend
        go_wp2_with (first | (go_at_call 57; refine (contains58 (fun a => decide ((nd (N33 m) a).kind = 4)) (.pointer (some ⟨w.heap.size, 0, none⟩)) A6 c6 _ _ HC6.out (fun x hx => isEnd_calls m A c w.heap.size x _ (Kd.C_below HC.out HB6.out) HX6.out (runL_valid hx).1 (by have := (runL_valid hx).2; rwa [N33_length] at this))).mono ?_; rintro e w5 ⟨rfl, rfl⟩))
        go_ret
        exact ⟨by rw [HE.out]; rfl, HB6.out⟩
  | false =>
    have hr : acceptsB (N33 m) (bts s) = false := by
      have h1 : ∀ l : List Int, runL (N33 m) l = [] := fun l => by
        unfold runL
        rcases List.eq_nil_or_concat l with rfl | ⟨l', x, rfl⟩
        · show closeL _ _ = []
          unfold closeL; rw [hM]; rfl
        · rw [List.concat_eq_append, List.foldl_append]
          show closeL _ _ = []
          unfold closeL; rw [hM]; rfl
      unfold acceptsB; rw [h1]; rfl
    have HM := Lib.hid hM
    have HR := Lib.hid hr
    clear hM hr
    go_enter Try.func24, Try.ntmps24
    go_wp2_with (first | (go_at_call 23; refine (may_calls m HF.out A c _ (Kd.C_below HC.out HB0.out)).mono ?_; rw [HM.out]; rintro e w1 ⟨rfl, hb1⟩))
    go_ret
    exact ⟨by rw [HR.out]; rfl, HB0.out.trans (hb1.mono (by simp))⟩
end Go.Proofs.Ytolfamfgoafhlaa.M
end
section
namespace Go.Proofs.Ytolfamfgoafhlaa.M
open Go.RowKit Go.Proofs.YtolfamfgoafhlaaW.PrintWords Go.Proofs.YtolfamfgoafhlaaW.PrintLast Go.Proofs.YtolfamfgoafhlaaW.PrintMore
open Go.Proofs.Ytolfamfgoafhlaa.P Go.Proofs.Ytolfamfgoafhlaa.L

/-! ### ways through a machine, the plain law -/
abbrev Pl := Int × Int
def nextsP (m : List Nd) (s : ByteArray) (p : Pl) : List Pl :=
  if (nd m p.1).kind = 3 then [((nd m p.1).dst, p.2)]
  else if (nd m p.1).kind = 2 then (nd m p.1).fs.map (fun t => (t, p.2))
  else if (nd m p.1).kind = 1 then (if p.2 < (s.size : Int) then ((nd m p.1).es.filter (fun e => e.has (bt s p.2))).map (fun e => (e.dst, p.2 + 1)) else [])
  else []
def endP (m : List Nd) (s : ByteArray) (p : Pl) : Bool := decide ((nd m p.1).kind = 4) && decide (p.2 = (s.size : Int))
def okP (m : List Nd) (s : ByteArray) (p : Pl) : Prop := 0 ≤ p.1 ∧ p.1 < (m.length : Int) ∧ 0 ≤ p.2 ∧ p.2 ≤ (s.size : Int)
def mu (m : List Nd) (s : ByteArray) (p : Pl) : Nat := (s.size - p.2.toNat) * m.length + (m.length - p.1.toNat)
def addW (n v : Int) : Int := min (n + v) 1000
def waysF (m : List Nd) (s : ByteArray) : Nat → Pl → Int
  | 0, _ => 0
  | f + 1, p => (nextsP m s p).foldl (fun n q => addW n (waysF m s f q)) (if endP m s p then 1 else 0)
def ways (m : List Nd) (s : ByteArray) (p : Pl) : Int := waysF m s (mu m s p) p

theorem node_es {m : List Nd} (h : mayB m = true) {a : Int} (ha : valid m a) (hk : (nd m a).kind ≠ 1) : (nd m a).es = [] := by
  have h1 := may_node h ha
  unfold nodeOk at h1
  rw [if_neg hk] at h1
  split at h1
  · simp only [Bool.and_eq_true, decide_eq_true_eq] at h1; exact h1.1
  · split at h1
    · simp only [Bool.and_eq_true, decide_eq_true_eq] at h1; exact h1.1
    · split at h1
      · simp only [Bool.and_eq_true, decide_eq_true_eq] at h1; exact h1.1
      · cases h1
theorem node_fs {m : List Nd} (h : mayB m = true) {a : Int} (ha : valid m a) (hk : (nd m a).kind ≠ 2) : (nd m a).fs = [] := by
  have h1 := may_node h ha
  unfold nodeOk at h1
  split at h1
  · simp only [Bool.and_eq_true, decide_eq_true_eq] at h1; exact h1.1
  · split at h1
    · simp only [Bool.and_eq_true, decide_eq_true_eq] at h1; exact h1.2.1
    · split at h1
      · simp only [Bool.and_eq_true, decide_eq_true_eq] at h1; exact h1.2.1
      · cases h1
theorem okP.valid_ {m : List Nd} {s : ByteArray} {p : Pl} (h : okP m s p) : valid m p.1 := ⟨h.1, h.2.1⟩
theorem nextsP_ok {m : List Nd} {s : ByteArray} (h : mayB m = true) {p q : Pl} (hp : okP m s p) (hq : q ∈ nextsP m s p) : okP m s q ∧ mu m s q < mu m s p := by
  have hv := hp.valid_
  have hL : 0 < m.length := by have := hv.1; have := hv.2; omega
  unfold nextsP at hq
  have same : ∀ t : Int, t ∈ succ (nd m p.1) → okP m s (t, p.2) ∧ mu m s (t, p.2) < mu m s p := fun t ht => by
    have h1 := succ_up h hv ht
    refine ⟨⟨by have := hv.1; show 0 ≤ t; omega, h1.2, hp.2.2.1, hp.2.2.2⟩, ?_⟩
    unfold mu
    have h3 := hv.1
    have h4 := h1.1
    have h5 := h1.2
    have h6 : m.length - (t, p.2).1.toNat < m.length - p.1.toNat := by show m.length - t.toNat < _; omega
    show (s.size - p.2.toNat) * m.length + (m.length - t.toNat) < _
    exact Nat.add_lt_add_left h6 _
  split at hq
  · rename_i hk
    obtain rfl := List.mem_singleton.1 hq
    exact same _ (by unfold succ; rw [if_pos hk]; simp)
  · split at hq
    · obtain ⟨t, ht, rfl⟩ := List.mem_map.1 hq
      exact same _ (by unfold succ; exact List.mem_append_left _ ht)
    · split at hq
      · split at hq
        · rename_i hlt
          obtain ⟨e, he, rfl⟩ := List.mem_map.1 hq
          have he' := (List.mem_filter.1 he).1
          have h1 := edge_to h hv he'
          refine ⟨⟨h1.1, h1.2, by have := hp.2.2.1; show 0 ≤ p.2 + 1; omega, by show p.2 + 1 ≤ _; omega⟩, ?_⟩
          unfold mu
          have h3 := hp.2.2.1
          have h4 := hv.1
          have h5 := hv.2
          show (s.size - (p.2 + 1).toNat) * m.length + (m.length - e.dst.toNat) < (s.size - p.2.toNat) * m.length + (m.length - p.1.toNat)
          obtain ⟨d, hd⟩ : ∃ d, s.size - p.2.toNat = d + 1 := ⟨s.size - p.2.toNat - 1, by omega⟩
          have hd' : s.size - (p.2 + 1).toNat = d := by omega
          rw [hd, hd', Nat.add_mul, Nat.one_mul]
          omega
        · cases hq
      · cases hq
theorem waysF_stable {m : List Nd} {s : ByteArray} (h : mayB m = true) : ∀ (f : Nat) (p : Pl), okP m s p → mu m s p ≤ f → waysF m s f p = ways m s p := by
  have key : ∀ (n f g : Nat) (p : Pl), okP m s p → mu m s p ≤ n → mu m s p ≤ f → mu m s p ≤ g → waysF m s f p = waysF m s g p := by
    intro n
    induction n with
    | zero =>
      intro f g p hp hn _ _
      exfalso
      unfold mu at hn
      have := hp.1; have := hp.2.1
      omega
    | succ n ih =>
      intro f g p hp hn hf hg
      have hpos : 0 < mu m s p := by unfold mu; have := hp.1; have := hp.2.1; omega
      obtain ⟨f', rfl⟩ : ∃ f', f = f' + 1 := ⟨f - 1, by omega⟩
      obtain ⟨g', rfl⟩ : ∃ g', g = g' + 1 := ⟨g - 1, by omega⟩
      unfold waysF
      have hq : ∀ q ∈ nextsP m s p, waysF m s f' q = waysF m s g' q := fun q hq => by
        have h1 := nextsP_ok h hp hq
        exact ih f' g' q h1.1 (by omega) (by omega) (by omega)
      generalize nextsP m s p = l at hq
      generalize (if endP m s p = true then (1 : Int) else 0) = z
      induction l generalizing z with
      | nil => rfl
      | cons q l ihl =>
        rw [List.foldl_cons, List.foldl_cons, hq q List.mem_cons_self]
        exact ihl (fun r hr => hq r (List.mem_cons_of_mem _ hr)) _
  intro f p hp hf
  exact key _ f _ p hp (Nat.le_refl _) hf (Nat.le_refl _)
theorem ways_unfold {m : List Nd} {s : ByteArray} (h : mayB m = true) {p : Pl} (hp : okP m s p) : ways m s p = (nextsP m s p).foldl (fun n q => addW n (ways m s q)) (if endP m s p then 1 else 0) := by
  rw [← waysF_stable h (mu m s p + 1) p hp (by omega)]
  unfold waysF
  have hq : ∀ q ∈ nextsP m s p, waysF m s (mu m s p) q = ways m s q := fun q hq => by
    have h1 := nextsP_ok h hp hq
    exact waysF_stable h _ q h1.1 (by omega)
  generalize nextsP m s p = l at hq
  generalize (if endP m s p = true then (1 : Int) else 0) = z
  induction l generalizing z with
  | nil => rfl
  | cons q l ihl =>
    rw [List.foldl_cons, List.foldl_cons, hq q List.mem_cons_self]
    exact ihl (fun r hr => hq r (List.mem_cons_of_mem _ hr)) _
theorem foldl_addW (V : Pl → Int) (l : List Pl) (hV : ∀ q ∈ l, 0 ≤ V q ∧ V q ≤ 1000) : ∀ z : Int, 0 ≤ z → z ≤ 1000 → 0 ≤ l.foldl (fun n q => addW n (V q)) z ∧ l.foldl (fun n q => addW n (V q)) z ≤ 1000 ∧ (0 < l.foldl (fun n q => addW n (V q)) z ↔ 0 < z ∨ ∃ q ∈ l, 0 < V q) := by
  induction l with
  | nil => intro z h0 h1; exact ⟨h0, h1, by simp⟩
  | cons q l ih =>
    intro z h0 h1
    have hq := hV q List.mem_cons_self
    have h2 := ih (fun r hr => hV r (List.mem_cons_of_mem _ hr)) (addW z (V q)) (by unfold addW; omega) (by unfold addW; omega)
    rw [List.foldl_cons]
    refine ⟨h2.1, h2.2.1, h2.2.2.trans ?_⟩
    have e : 0 < addW z (V q) ↔ 0 < z ∨ 0 < V q := by unfold addW; omega
    rw [e]
    simp only [List.mem_cons, exists_eq_or_imp]
    exact or_assoc
theorem ways_range {m : List Nd} {s : ByteArray} (h : mayB m = true) : ∀ (n : Nat) (p : Pl), mu m s p ≤ n → okP m s p → 0 ≤ ways m s p ∧ ways m s p ≤ 1000 := by
  intro n
  induction n with
  | zero =>
    intro p hn hp
    exfalso
    unfold mu at hn
    have := hp.1; have := hp.2.1
    omega
  | succ n ih =>
    intro p hn hp
    rw [ways_unfold h hp]
    have h1 := foldl_addW (ways m s) (nextsP m s p) (fun q hq => by
      have h2 := nextsP_ok h hp hq
      exact ih q (by omega) h2.1) (if endP m s p then 1 else 0) (by split <;> omega) (by split <;> omega)
    exact ⟨h1.1, h1.2.1⟩
theorem ways_rng {m : List Nd} {s : ByteArray} (h : mayB m = true) {p : Pl} (hp : okP m s p) : 0 ≤ ways m s p ∧ ways m s p ≤ 1000 := ways_range h _ p (Nat.le_refl _) hp
theorem ways_pos {m : List Nd} {s : ByteArray} (h : mayB m = true) {p : Pl} (hp : okP m s p) : 0 < ways m s p ↔ endP m s p = true ∨ ∃ q ∈ nextsP m s p, 0 < ways m s q := by
  rw [ways_unfold h hp]
  have h1 := foldl_addW (ways m s) (nextsP m s p) (fun q hq => ways_rng h (nextsP_ok h hp hq).1) (if endP m s p then 1 else 0) (by split <;> omega) (by split <;> omega)
  rw [h1.2.2]
  refine or_congr ?_ Iff.rfl
  cases endP m s p <;> simp

/-- Something is eaten from a place on. -/
inductive AccP (m : List Nd) (s : ByteArray) : Pl → Prop where
  | done {p : Pl} : endP m s p = true → AccP m s p
  | next {p q : Pl} : q ∈ nextsP m s p → AccP m s q → AccP m s p
theorem ways_acc {m : List Nd} {s : ByteArray} (h : mayB m = true) : ∀ (n : Nat) (p : Pl), mu m s p ≤ n → okP m s p → (0 < ways m s p ↔ AccP m s p) := by
  intro n
  induction n with
  | zero =>
    intro p hn hp
    exfalso
    unfold mu at hn
    have := hp.1; have := hp.2.1
    omega
  | succ n ih =>
    intro p hn hp
    rw [ways_pos h hp]
    constructor
    · rintro (h1 | ⟨q, hq, h1⟩)
      · exact .done h1
      · have h2 := nextsP_ok h hp hq
        exact .next hq ((ih q (by omega) h2.1).1 h1)
    · intro h1
      cases h1 with
      | done h1 => exact .inl h1
      | next hq h1 =>
        have h2 := nextsP_ok h hp hq
        exact .inr ⟨_, hq, (ih _ (by omega) h2.1).2 h1⟩
theorem succ_next {m : List Nd} {s : ByteArray} (h : mayB m = true) {a b i : Int} (ha : valid m a) (hb : b ∈ succ (nd m a)) : (b, i) ∈ nextsP m s (a, i) := by
  unfold succ at hb
  unfold nextsP
  by_cases h3 : (nd m a).kind = 3
  · rw [if_pos h3]
    rw [if_pos h3, node_fs h ha (by omega)] at hb
    simp at hb
    subst hb
    simp
  · rw [if_neg h3, List.append_nil] at hb
    rw [if_neg h3]
    by_cases h2 : (nd m a).kind = 2
    · rw [if_pos h2]
      exact List.mem_map.2 ⟨b, hb, rfl⟩
    · rw [node_fs h ha h2] at hb
      cases hb
theorem edge_next {m : List Nd} {s : ByteArray} (h : mayB m = true) {a i : Int} (ha : valid m a) {e : Ed} (he : e ∈ (nd m a).es) (hi : i < (s.size : Int)) (hh : e.has (bt s i) = true) : (e.dst, i + 1) ∈ nextsP m s (a, i) := by
  have hk : (nd m a).kind = 1 := by
    by_cases hk : (nd m a).kind = 1
    · exact hk
    · rw [node_es h ha hk] at he; cases he
  unfold nextsP
  simp only
  rw [if_neg (by omega), if_neg (by omega), if_pos hk, if_pos hi]
  exact List.mem_map.2 ⟨e, List.mem_filter.2 ⟨he, hh⟩, rfl⟩
theorem acc_forth {m : List Nd} {s : ByteArray} (h : mayB m = true) {p : Pl} (ha : AccP m s p) : okP m s p → p.1 ∈ runL m (upto s p.2.toNat) → acceptsB m (bts s) = true := by
  have hclosed : ∀ (i : Nat) (a b : Int), a ∈ runL m (upto s i) → b ∈ succ (nd m a) → b ∈ runL m (upto s i) := by
    intro i a b ha hb
    have hva := runL_valid ha
    have hcl : ∀ at_ : List Int, a ∈ closeL m at_ → b ∈ closeL m at_ := fun at_ h1 => by
      rw [mem_closeL h] at h1 ⊢
      obtain ⟨x, hx, hr⟩ := h1
      exact ⟨x, hx, hr.step hb⟩
    rcases i with _ | i
    · exact hcl _ ha
    · rw [run_snoc] at ha ⊢
      exact hcl _ ha
  induction ha with
  | @done p hd =>
    intro hp hm
    unfold endP at hd
    simp only [Bool.and_eq_true, decide_eq_true_eq] at hd
    have e : p.2.toNat = s.size := by omega
    rw [e] at hm
    unfold acceptsB endedB bts
    rw [List.any_eq_true]
    exact ⟨p.1, hm, decide_eq_true hd.1⟩
  | @next p q hq _ ih =>
    intro hp hm
    have hok := (nextsP_ok h hp hq).1
    refine ih hok ?_
    unfold nextsP at hq
    split at hq
    · rename_i hk
      obtain rfl := List.mem_singleton.1 hq
      exact hclosed _ _ _ hm (by unfold succ; rw [if_pos hk]; simp)
    · split at hq
      · obtain ⟨t, ht, rfl⟩ := List.mem_map.1 hq
        exact hclosed _ _ _ hm (by unfold succ; exact List.mem_append_left _ ht)
      · split at hq
        · split at hq
          · rename_i hlt
            obtain ⟨e, he, rfl⟩ := List.mem_map.1 hq
            have he' := List.mem_filter.1 he
            have e1 : (p.2 + 1).toNat = p.2.toNat + 1 := by have := hp.2.2.1; omega
            show e.dst ∈ runL m (upto s (p.2 + 1).toNat)
            rw [e1, run_snoc]
            unfold stepL
            rw [mem_closeL h]
            have hc : bt s (p.2.toNat : Int) = bt s p.2 := by rw [Int.toNat_of_nonneg hp.2.2.1]
            refine ⟨e.dst, (mem_nexts _ _ _ _).2 ⟨p.1, hm, hp.valid_, e, he'.1, by rw [hc]; exact he'.2, rfl⟩, .refl ?_⟩
            exact edge_to h hp.valid_ he'.1
          · cases hq
        · cases hq
theorem acc_back {m : List Nd} {s : ByteArray} (h : mayB m = true) : ∀ (i : Nat), i ≤ s.size → ∀ x, x ∈ runL m (upto s i) → AccP m s (x, (i : Int)) → AccP m s (0, 0) := by
  have hreach : ∀ (i a x : Int), L.Reach m a x → AccP m s (x, i) → AccP m s (a, i) := by
    intro i a x hr
    induction hr with
    | refl _ => exact id
    | step hr hc ih => exact fun hx => ih (.next (succ_next h (hr.valid_ h) hc) hx)
  intro i
  induction i with
  | zero =>
    intro _ x hx ha
    have hx' : x ∈ closeL m [0] := hx
    rw [mem_closeL h] at hx'
    obtain ⟨a, ha0, hr⟩ := hx'
    obtain rfl := List.mem_singleton.1 ha0
    exact hreach 0 _ x hr ha
  | succ i ih =>
    intro hi x hx ha
    rw [run_snoc] at hx
    unfold stepL at hx
    rw [mem_closeL h] at hx
    obtain ⟨a, hn, hr⟩ := hx
    obtain ⟨y, hy, hvy, e, he, hh, rfl⟩ := (mem_nexts _ _ _ _).1 hn
    have h1 := hreach _ _ _ hr ha
    refine ih (by omega) y hy (.next (edge_next h hvy he (by omega) hh) ?_)
    have e1 : ((i + 1 : Nat) : Int) = (i : Int) + 1 := by omega
    rw [← e1]
    exact h1
/-- The stage's theorem: a text has a way just if it is eaten. -/
theorem ways_accepts {m : List Nd} {s : ByteArray} (h : mayB m = true) : decide (0 < ways m s (0, 0)) = acceptsB m (bts s) := by
  have hl := ((may_iff m).1 h).1
  have hok : okP m s (0, 0) := ⟨by show (0 : Int) ≤ 0; omega, by show (0 : Int) < _; omega, by show (0 : Int) ≤ 0; omega, by show (0 : Int) ≤ _; omega⟩
  rw [Bool.eq_iff_iff, decide_eq_true_eq, ways_acc h _ _ (Nat.le_refl _) hok]
  constructor
  · intro ha
    refine acc_forth h ha hok ?_
    show (0 : Int) ∈ closeL m [0]
    rw [mem_closeL h]
    exact ⟨0, by simp, .refl ⟨hok.1, hok.2.1⟩⟩
  · intro ha
    unfold acceptsB endedB bts at ha
    rw [List.any_eq_true] at ha
    obtain ⟨x, hx, hk⟩ := ha
    refine acc_back h s.size (Nat.le_refl _) x hx (.done ?_)
    unfold endP
    rw [hk]
    simp
end Go.Proofs.Ytolfamfgoafhlaa.M
end
section
namespace Go.Proofs.Ytolfamfgoafhlaa.M
open Go.RowKit Go.Proofs.YtolfamfgoafhlaaW.PrintWords Go.Proofs.YtolfamfgoafhlaaW.PrintLast Go.Proofs.YtolfamfgoafhlaaW.PrintMore
open Go.Proofs.Ytolfamfgoafhlaa.P Go.Proofs.Ytolfamfgoafhlaa.L

/-! ### places as a map's keys -/
theorem laidOutM : laidOutB Try.prog = true := by kernel_rfl
theorem key87 : Maps.Keyed Try.prog 87 := Maps.Keyed.of_law (deep_law_gate laidOutM (by decide +kernel) (by decide +kernel) (by kernel_rfl) (by kernel_rfl))
def kl (p : Pl) : Lit := .string (keyBytes [.int .i64 p.1, .int .i64 p.2])
def vPl (p : Pl) : Value := .agg #[.int .i64 p.1, .int .i64 p.2]
theorem lits3 (d : Nat) (a : Int) (h : (Lit.int .i64 a).wf = true) : Try.prog.keyLits (d + 1) 3 [.int .i64 a] = some [.int .i64 a] := by
  unfold Program.keyLits
  rw [Try.underlying3]
  simp [h]
theorem lits87 (d : Nat) (a c : Int) (h1 : (Lit.int .i64 a).wf = true) (h2 : (Lit.int .i64 c).wf = true) : Try.prog.keyLits (d + 1 + 1) 87 [.int .i64 a, .int .i64 c] = some [.int .i64 a, .int .i64 c] := by
  unfold Program.keyLits
  have hc : Try.prog.cellsOf 87 = 2 := by kernel_rfl
  have hc3 : Try.prog.cellsOf 3 = 1 := by kernel_rfl
  rw [Try.underlying87]
  simp only [hc]
  simp [hc3, lits3, h1, h2]
theorem formed87 (a c : Int) : (vPl (a, c)).formed Try.prog 87 = true := by kernel_rfl
theorem key_kl (p : Pl) (h1 : (Lit.int .i64 p.1).wf = true) (h2 : (Lit.int .i64 p.2).wf = true) : keyOf Try.prog 87 (vPl p) = some (kl p) := by
  obtain ⟨a, c⟩ := p
  simp only at h1 h2
  have hk : Try.prog.keyType 87 = true := by kernel_rfl
  have hsz : 0 < Try.prog.types.size := by decide +kernel
  obtain ⟨m, hm⟩ : ∃ m, Try.prog.types.size + 1 = m + 1 + 1 := ⟨Try.prog.types.size - 1, by omega⟩
  unfold keyOf
  rw [Try.underlying87, hk, formed87, hm]
  have hcells : (vPl (a, c)).cells.toList = [.int .i64 a, .int .i64 c] := rfl
  rw [hcells, lits87 m a c h1 h2]
  simp [kl]
theorem kl_inj {p q : Pl} (hp1 : (Lit.int .i64 p.1).wf = true) (hp2 : (Lit.int .i64 p.2).wf = true) (hq1 : (Lit.int .i64 q.1).wf = true) (hq2 : (Lit.int .i64 q.2).wf = true) (h : kl p = kl q) : p = q := by
  have h1 := key_kl p hp1 hp2
  rw [h] at h1
  have h2 := key87.inj h1 (key_kl q hq1 hq2)
  unfold vPl at h2
  simp at h2
  exact Prod.ext h2.1 h2.2
end Go.Proofs.Ytolfamfgoafhlaa.M
end
section
namespace Go.Proofs.Ytolfamfgoafhlaa.M
open Go.RowKit Go.Proofs.YtolfamfgoafhlaaW.PrintWords Go.Proofs.YtolfamfgoafhlaaW.PrintLast Go.Proofs.YtolfamfgoafhlaaW.PrintMore
open Go.Proofs.Ytolfamfgoafhlaa.P Go.Proofs.Ytolfamfgoafhlaa.L

/-- A finder's cells, but for its map. -/
structure Fi (m : List S33) (s : ByteArray) (A : Option Addr) (c F : Nat) (w : World) : Prop where
  c0 : w.cell? ⟨F, 0, none⟩ = some (.slice A m.length c)
  c1 : w.cell? ⟨F, 1, none⟩ = some (.string s)
  row : Kd.C k33 w A m.length m
theorem box2 (w : World) (x y : Int) : (w.alloc (.cells #[.int .i64 x, .int .i64 y] 87)).cell? ⟨w.heap.size, 0, none⟩ = some (.int .i64 x) ∧ (w.alloc (.cells #[.int .i64 x, .int .i64 y] 87)).cell? ⟨w.heap.size, 1, none⟩ = some (.int .i64 y) := by
  have h0 := cells_new w #[.int .i64 x, .int .i64 y] 87 0 (.int .i64 x) rfl
  have h1 := cells_new w #[.int .i64 x, .int .i64 y] 87 1 (.int .i64 y) rfl
  exact ⟨h0, h1⟩
theorem old_cell {w : World} {p : Addr} {v : Value} (h : w.cell? p = some v) (o : Obj) : (w.alloc o).cell? p = some v :=
  (((Below.refl _ w).alloc (Nat.le_refl _) o).cell (World.block_lt_of_cell? w _ h)).trans h

set_option maxRecDepth 100000 in
set_option maxHeartbeats 1000000 in
/-- (*finder).ends. -/
theorem ends_calls (m : List S33) (s : ByteArray) (A : Option Addr) (c F : Nat) (w : World) (h : Fi m s A c F w) (p : Pl) (hp : okP (N33 m) s p) :
    Calls Try.prog 63 #[.pointer (some ⟨F, 0, none⟩), vPl p] w fun e w' => e = .returned (.bool (endP (N33 m) s p)) ∧ Below w.heap.size w w' := by
  obtain ⟨x, at_⟩ := p
  obtain ⟨q1, q2, q3, q4⟩ := hp
  simp only [N33_length] at q1 q2 q3 q4
  obtain ⟨ad, A1, c1, A2, c2, eA, hx0, -⟩ := at_T33 h.row x q1 q2
  have h0 := h.c0
  have h1 := h.c1
  have e1 : (nd (N33 m) x).kind = (rd_T33 m x).f0 := by rw [nd_N33 m x (by omega)]; rfl
  have hE : endP (N33 m) s (x, at_) = (decide ((rd_T33 m x).f0 = 4) && decide (at_ = (s.size : Int))) := by unfold endP; simp only [e1]
  have HE := Lib.hid hE
  clear hE e1 h
  subst eA
  generalize (rd_T33 m x).f0 = kd at *
  unfold vPl
  by_cases hk : kd = 4
  · subst hk
    by_cases ha : at_ = (s.size : Int)
    · have ha' : (at_ == (s.size : Int)) = true := by simpa using ha
      have HA := Lib.hid (decide_eq_true ha)
      clear ha
      go_enter Try.func63, Try.ntmps63
      go_wp2
      generalize hw1 : World.alloc w _ = w1
      have hB1 : Below w.heap.size w w1 := by rw [← hw1]; exact (Below.refl _ _).alloc (Nat.le_refl _) _
      have z0 : w1.cell? ⟨F, 0, none⟩ = _ := (hB1.cell (World.block_lt_of_cell? w _ h0)).trans h0
      have z1 : w1.cell? ⟨F, 1, none⟩ = _ := (hB1.cell (World.block_lt_of_cell? w _ h1)).trans h1
      have zx := (hB1.cell (World.block_lt_of_cell? w _ hx0)).trans hx0
      have zb0 : w1.cell? ⟨w.heap.size, 0, none⟩ = some (.int .i64 x) := by rw [← hw1]; exact (box2 w _ _).1
      have zb1 : w1.cell? ⟨w.heap.size, 1, none⟩ = some (.int .i64 at_) := by rw [← hw1]; exact (box2 w _ _).2
      have HB1 := Lib.hid hB1
      clear hB1 hw1 h0 h1 hx0
      go_quiet (fail)
      go_wp2
      go_ret
      exact ⟨by rw [HE.out, HA.out]; rfl, pw_below_drewN HB1.out _⟩
    · have ha' : (at_ == (s.size : Int)) = false := by simpa using ha
      have HA := Lib.hid (decide_eq_false ha)
      clear ha
      go_enter Try.func63, Try.ntmps63
      go_wp2
      generalize hw1 : World.alloc w _ = w1
      have hB1 : Below w.heap.size w w1 := by rw [← hw1]; exact (Below.refl _ _).alloc (Nat.le_refl _) _
      have z0 : w1.cell? ⟨F, 0, none⟩ = _ := (hB1.cell (World.block_lt_of_cell? w _ h0)).trans h0
      have z1 : w1.cell? ⟨F, 1, none⟩ = _ := (hB1.cell (World.block_lt_of_cell? w _ h1)).trans h1
      have zx := (hB1.cell (World.block_lt_of_cell? w _ hx0)).trans hx0
      have zb0 : w1.cell? ⟨w.heap.size, 0, none⟩ = some (.int .i64 x) := by rw [← hw1]; exact (box2 w _ _).1
      have zb1 : w1.cell? ⟨w.heap.size, 1, none⟩ = some (.int .i64 at_) := by rw [← hw1]; exact (box2 w _ _).2
      have HB1 := Lib.hid hB1
      clear hB1 hw1 h0 h1 hx0
      go_quiet (fail)
      go_wp2
      go_ret
      exact ⟨by rw [HE.out, HA.out]; rfl, pw_below_drewN HB1.out _⟩
  · have hk' : (kd == 4) = false := by simpa using hk
    have HA := Lib.hid (decide_eq_false hk)
    clear hk
    go_enter Try.func63, Try.ntmps63
    go_wp2
    generalize hw1 : World.alloc w _ = w1
    have hB1 : Below w.heap.size w w1 := by rw [← hw1]; exact (Below.refl _ _).alloc (Nat.le_refl _) _
    have z0 : w1.cell? ⟨F, 0, none⟩ = _ := (hB1.cell (World.block_lt_of_cell? w _ h0)).trans h0
    have z1 : w1.cell? ⟨F, 1, none⟩ = _ := (hB1.cell (World.block_lt_of_cell? w _ h1)).trans h1
    have zx := (hB1.cell (World.block_lt_of_cell? w _ hx0)).trans hx0
    have zb0 : w1.cell? ⟨w.heap.size, 0, none⟩ = some (.int .i64 x) := by rw [← hw1]; exact (box2 w _ _).1
    have zb1 : w1.cell? ⟨w.heap.size, 1, none⟩ = some (.int .i64 at_) := by rw [← hw1]; exact (box2 w _ _).2
    have HB1 := Lib.hid hB1
    clear hB1 hw1 h0 h1 hx0
    go_quiet (fail)
    go_wp2
    go_ret
    exact ⟨by rw [HE.out, HA.out]; rfl, pw_below_drewN HB1.out _⟩
end Go.Proofs.Ytolfamfgoafhlaa.M
end
section
namespace Go.Proofs.Ytolfamfgoafhlaa.M
open Go.RowKit Go.Proofs.YtolfamfgoafhlaaW.PrintWords Go.Proofs.YtolfamfgoafhlaaW.PrintLast Go.Proofs.YtolfamfgoafhlaaW.PrintMore
open Go.Proofs.Ytolfamfgoafhlaa.P Go.Proofs.Ytolfamfgoafhlaa.L

def ed74 (x : S74) : Ed := ⟨x.f0, x.f1, x.f2⟩
def n46 (x : S46) : Nd := ⟨x.f0, x.f1.map ed74, x.f2, x.f3, x.f4⟩
def N46 (l : List S46) : List Nd := l.map n46
theorem N46_length (l : List S46) : (N46 l).length = l.length := by simp [N46]

theorem wrap1 (i : Nat) (h : i ≤ 1000000000) : wrap64 ((i : Int) + 1) = ((i + 1 : Nat) : Int) := by unfold wrap64; omega
theorem rdn (l : List Int) (k : Nat) (h : k < l.length) : rd l (k : Int) = l[k] := by simp [rd, List.getD_eq_getElem?_getD, List.getElem?_eq_getElem h]
theorem rd46n (l : List S46) (k : Nat) (h : k < l.length) : rd_T46 l (k : Int) = l[k] := by simp [rd_T46, List.getD_eq_getElem?_getD, List.getElem?_eq_getElem h]
theorem rd74n (l : List S74) (k : Nat) (h : k < l.length) : rd_T74 l (k : Int) = l[k] := by simp [rd_T74, List.getD_eq_getElem?_getD, List.getElem?_eq_getElem h]
theorem ltc (i n : Nat) (h : i < n) : (i : Int) < (n : Int) := by omega
theorem nltc (i n : Nat) (h : n ≤ i) : ¬ (i : Int) < (n : Int) := by omega

/-! ### Same -/
theorem same_loop (x y : List Int) (hl : x.length = y.length) (hb : x.length ≤ 1000000000) (d : Nat) : ∀ i : Nat, i ≤ x.length → x.length - i = d → Ev (fun k => phalaroperef01_Same.l0 k x y i) (decide (x.drop i = y.drop i)) := by
  induction d with
  | zero =>
    intro i hi hd
    refine Ev.step (f := fun _ => some (decide (x.drop i = y.drop i))) (fun k => ?_) (Ev.now _)
    simp only [phalaroperef01_Same.l0]
    rw [if_neg (nltc _ _ (by omega)), List.drop_of_length_le (by omega), List.drop_of_length_le (by omega)]
    simp
  | succ d ih =>
    intro i hi hd
    have hlt : i < x.length := by omega
    by_cases he : x[i] = y[i]
    · refine Ev.step (fun k => ?_) (show Ev (fun k => phalaroperef01_Same.l0 k x y ((i + 1 : Nat) : Int)) _ from ?_)
      · simp only [phalaroperef01_Same.l0]
        rw [if_pos (ltc _ _ hlt), if_pos (by omega), if_pos (ltc _ _ (by omega)), rdn x i hlt, rdn y i (by omega), if_pos he, wrap1 i (by omega)]
      · have := ih (i + 1) (by omega) (by omega)
        have e1 := List.drop_eq_getElem_cons hlt
        have e2 := List.drop_eq_getElem_cons (show i < y.length by omega)
        have e : decide (x.drop i = y.drop i) = decide (x.drop (i + 1) = y.drop (i + 1)) := decide_eq_decide.2 ⟨fun h => by rw [e1, e2] at h; exact (List.cons.inj h).2, fun h => by rw [e1, e2, he, h]⟩
        rw [e]; exact this
    · refine Ev.step (f := fun _ => some (decide (x.drop i = y.drop i))) (fun k => ?_) (Ev.now _)
      simp only [phalaroperef01_Same.l0]
      rw [if_pos (ltc _ _ hlt), if_pos (by omega), if_pos (ltc _ _ (by omega)), rdn x i hlt, rdn y i (by omega), if_neg he]
      have e1 := List.drop_eq_getElem_cons hlt
      have e2 := List.drop_eq_getElem_cons (show i < y.length by omega)
      rw [decide_eq_false (fun h => he (by rw [e1, e2] at h; exact (List.cons.inj h).1))]
theorem same_ev (x y : List Int) (hb : x.length ≤ 1000000000) : ∃ k, phalaroperef01_Same.f k x y = some (decide (x = y)) := by
  by_cases hl : x.length = y.length
  · obtain ⟨k, hk⟩ := (same_loop x y hl hb _ 0 (Nat.zero_le _) rfl).rounds
    refine ⟨k, ?_⟩
    unfold phalaroperef01_Same.f
    rw [if_pos (by omega)]
    simpa using hk
  · refine ⟨0, ?_⟩
    unfold phalaroperef01_Same.f
    rw [if_neg (by omega), decide_eq_false (fun e => hl (by rw [e]))]
theorem same_calls (A0 : Option Addr) (c0 : Nat) (x : List Int) (A1 : Option Addr) (c1 : Nat) (y : List Int) (w : World) (hb : x.length ≤ 1000000000) (h0 : (Kd.int .i64).C w A0 x.length x) (k0 : x.length ≤ c0) (h1 : (Kd.int .i64).C w A1 y.length y) (k1 : y.length ≤ c1) :
    Calls Try.prog 22 #[.slice A0 x.length c0, .slice A1 y.length c1] w fun e w' => e = .returned (.bool (decide (x = y))) ∧ Below w.heap.size w w' := by
  obtain ⟨k, hk⟩ := same_ev x y hb
  exact (phalaroperef01_Same.calls k A0 c0 x A1 c1 y _ w h0 k0 h1 k1 hk).mono fun e w' ⟨he, hw⟩ => ⟨he, hw.below⟩

/-! ### Few -/
def fewB (l : List S46) : Bool := decide (l.length ≤ 60) && l.all (fun x => decide (x.f1.length ≤ 20) && decide (x.f2.length ≤ 20))
/-- Few is false of too long a list whose first nodes are small; of others it is told by the first great node. -/
theorem few_loop (x : List S46) (d : Nat) : ∀ i : Nat, i ≤ 61 → i ≤ x.length → 61 - i = d → (∀ j : Nat, ∀ h : j < x.length, j < i → x[j].f1.length ≤ 20 ∧ x[j].f2.length ≤ 20) → Ev (fun k => phalaroperef16_Few.l0 k x i) (fewB x) := by
  have hfin : ∀ i : Nat, (x.length ≤ i ∨ 61 ≤ i) → (∀ j : Nat, ∀ h : j < x.length, j < i → x[j].f1.length ≤ 20 ∧ x[j].f2.length ≤ 20) → decide ((x.length : Int) ≤ 60) = fewB x := by
    intro i hi hs
    unfold fewB
    by_cases h60 : x.length ≤ 60
    · have : x.all (fun x => decide (x.f1.length ≤ 20) && decide (x.f2.length ≤ 20)) = true := by
        rw [List.all_eq_true]
        intro y hy
        obtain ⟨j, hj, rfl⟩ := List.getElem_of_mem hy
        have := hs j hj (by omega)
        simp [this.1, this.2]
      rw [this, decide_eq_true (by omega), decide_eq_true h60]; rfl
    · rw [decide_eq_false (by omega), decide_eq_false h60]; rfl
  induction d with
  | zero =>
    intro i h1 h2 h3 hs
    refine Ev.step (g := fun k => phalaroperef16_Few.l0 k x i) (f := fun k => phalaroperef16_Few.j1 k x i false) (fun k => ?_) (Ev.step (f := fun _ => some (fewB x)) (fun k => ?_) (Ev.now _))
    · simp only [phalaroperef16_Few.l0]
      split
      · rw [decide_eq_false (by omega)]
      · rfl
    · simp only [phalaroperef16_Few.j1]
      rw [if_neg (by simp), hfin i (.inr (by omega)) hs]
  | succ d ih =>
    intro i h1 h2 h3 hs
    by_cases hlt : i < x.length
    · refine Ev.step (g := fun k => phalaroperef16_Few.l0 k x i) (f := fun k => phalaroperef16_Few.j1 k x i true) (fun k => ?_) ?_
      · simp only [phalaroperef16_Few.l0]
        rw [if_pos (ltc _ _ hlt), decide_eq_true (by omega)]
      · have hbad : (20 < x[i].f1.length ∨ 20 < x[i].f2.length) → fewB x = false := fun h => by
          rw [Bool.eq_false_iff]
          intro hf
          unfold fewB at hf
          rw [Bool.and_eq_true, List.all_eq_true] at hf
          have := hf.2 x[i] (List.getElem_mem hlt)
          simp at this
          omega
        by_cases g1 : 20 < x[i].f1.length
        · refine Ev.step (f := fun _ => some (fewB x)) (fun k => ?_) (Ev.now _)
          simp only [phalaroperef16_Few.j1]
          rw [if_pos trivial, if_pos (by omega), if_pos (ltc _ _ hlt), rd46n x i hlt, if_pos (by omega), hbad (.inl g1)]
        · by_cases g2 : 20 < x[i].f2.length
          · refine Ev.step (f := fun _ => some (fewB x)) (fun k => ?_) (Ev.now _)
            simp only [phalaroperef16_Few.j1]
            rw [if_pos trivial, if_pos (by omega), if_pos (ltc _ _ hlt), rd46n x i hlt, if_neg (by omega), if_pos (by omega), hbad (.inr g2)]
          · refine Ev.step (f := fun k => phalaroperef16_Few.l0 k x ((i + 1 : Nat) : Int)) (fun k => ?_) (ih (i + 1) (by omega) (by omega) (by omega) (fun j hj hji => ?_))
            · simp only [phalaroperef16_Few.j1]
              rw [if_pos trivial, if_pos (by omega), if_pos (ltc _ _ hlt), rd46n x i hlt, if_neg (by omega), if_neg (by omega), wrap1 i (by omega)]
            · rcases Nat.lt_or_ge j i with h4 | h4
              · exact hs j hj h4
              · obtain rfl : j = i := by omega
                exact ⟨by omega, by omega⟩
    · refine Ev.step (g := fun k => phalaroperef16_Few.l0 k x i) (f := fun k => phalaroperef16_Few.j1 k x i false) (fun k => ?_) (Ev.step (f := fun _ => some (fewB x)) (fun k => ?_) (Ev.now _))
      · simp only [phalaroperef16_Few.l0]
        rw [if_neg (nltc _ _ (by omega))]
      · simp only [phalaroperef16_Few.j1]
        rw [if_neg (by simp), hfin i (.inl (by omega)) hs]
theorem few_calls (A0 : Option Addr) (c0 : Nat) (x : List S46) (w : World) (h0 : Kd.C k46 w A0 x.length x) (k0 : x.length ≤ c0) :
    Calls Try.prog 18 #[.slice A0 x.length c0] w fun e w' => e = .returned (.bool (fewB x)) ∧ Below w.heap.size w w' := by
  obtain ⟨k, hk⟩ := (few_loop x _ 0 (by omega) (Nat.zero_le _) rfl (fun j _ h => absurd h (by omega))).rounds
  exact (phalaroperef16_Few.calls k A0 c0 x _ w h0 k0 hk).mono fun e w' ⟨he, hw⟩ => ⟨he, hw.below⟩
end Go.Proofs.Ytolfamfgoafhlaa.M
end
section
namespace Go.Proofs.Ytolfamfgoafhlaa.M
open Go.RowKit Go.Proofs.YtolfamfgoafhlaaW.PrintWords Go.Proofs.YtolfamfgoafhlaaW.PrintLast Go.Proofs.YtolfamfgoafhlaaW.PrintMore
open Go.Proofs.Ytolfamfgoafhlaa.P Go.Proofs.Ytolfamfgoafhlaa.L

/-- A row of places. -/
def kPl : Kd Pl := Kd.pair (Kd.int .i64) (Kd.int .i64)
theorem kPl_mk (w : World) (p : Pl) : kPl.K w p [.int .i64 p.1, .int .i64 p.2] := ⟨[.int .i64 p.1], [.int .i64 p.2], rfl, rfl, rfl⟩
theorem kPl_mkM (w : World) (base : Nat) (ok : Nat → Prop) (p : Pl) : kPl.M w base ok p [.int .i64 p.1, .int .i64 p.2] := ⟨[.int .i64 p.1], [.int .i64 p.2], rfl, rfl, rfl⟩
theorem kPl_open {w : World} {p : Pl} {cs : List Value} (h : kPl.K w p cs) : cs = [.int .i64 p.1, .int .i64 p.2] := by
  obtain ⟨_, _, rfl, rfl, rfl⟩ := h
  exact rfl
theorem info87 : (Try.prog.info? 87).map (fun i => (i.zero, i.size, i.bytes)) = some (some (.agg #[.int .i64 0, .int .i64 0]), 2, 16) := by kernel_rfl
theorem rowP1 (w : World) (p : Pl) (base : Nat) (hb : base ≤ w.heap.size) : kPl.R 87 (w.alloc (.cells #[.int .i64 p.1, .int .i64 p.2] 87)) base (fun _ => True) (.slice (some ⟨w.heap.size, 0, none⟩) 1 1) [p] := by
  refine ⟨fun _ _ => trivial, [.int .i64 p.1, .int .i64 p.2], ?_, ?_⟩
  · have h2 := World.ownsRow_lit (base := base) (e := 87) (size := 2) w #[.int .i64 p.1, .int .i64 p.2] 1 hb (by unfold maxLen; omega) rfl
    exact h2
  · refine ⟨rfl, fun j q hq => ?_⟩
    rcases j with _ | j
    · simp at hq; subst hq
      exact kPl_mkM _ _ _ _
    · simp at hq
def Stop (p : Prop) : Prop := p
theorem stopit (p : Prop) (h : Stop p) : p := h
theorem below_sz {base : Nat} {w w1 : World} (h : Below base w w1) : w.heap.size ≤ w1.heap.size := h.size

set_option maxRecDepth 100000 in
set_option maxHeartbeats 2000000 in
theorem next_mark (m : List S33) (s : ByteArray) (A : Option Addr) (c F : Nat) (w : World) (h : Fi m s A c F w) (hf : Fit m) (x at_ : Int) (hp : okP (N33 m) s (x, at_)) (hk : (rd_T33 m x).f0 = 3) :
    Calls Try.prog 64 #[.pointer (some ⟨F, 0, none⟩), .agg #[.int .i64 x, .int .i64 at_]] w fun e w' => ∃ v, e = .returned v ∧ kPl.R 87 w' w.heap.size (fun _ => True) v (nextsP (N33 m) s (x, at_)) ∧ Below w.heap.size w w' := by
  obtain ⟨q1, q2, q3, q4⟩ := hp
  simp only [N33_length] at q1 q2 q3 q4
  have hnd : nd (N33 m) x = nn (rd_T33 m x) := nd_N33 m x (by omega)
  have hfx : FitN (rd_T33 m x) := by
    obtain ⟨i, rfl⟩ := Int.eq_ofNat_of_zero_le q1
    exact hf _ (rd33_mem m i (by omega))
  obtain ⟨ad, A1, c1, A2, c2, eA, hx0, hx1, hx2, hx3, hx4, hl1, hi1, hl2, hi2⟩ := at_T33 h.row x q1 q2
  have h0 := h.c0
  have h1 := h.c1
  subst eA
  have HN := Lib.hid hnd
  have HFx := Lib.hid hfx
  have HI1 := Lib.hid hi1
  have HI2 := Lib.hid hi2
  clear hnd hi1 hi2 h hfx
  generalize rd_T33 m x = y at *
  obtain ⟨kd, es, fs, tg, dst⟩ := y
  simp only at hx0 hx1 hx2 hx3 hx4 hl1 hl2 hk
  subst hk
  go_enter Try.func64, Try.ntmps64
  go_wp2
  generalize hw1 : World.alloc w _ = w1
  have hB1 : Below w.heap.size w w1 := by rw [← hw1]; exact (Below.refl _ _).alloc (Nat.le_refl _) _
  have z0 : w1.cell? ⟨F, 0, none⟩ = _ := (hB1.cell (World.block_lt_of_cell? w _ h0)).trans h0
  have z1 : w1.cell? ⟨F, 1, none⟩ = _ := (hB1.cell (World.block_lt_of_cell? w _ h1)).trans h1
  have zx0 := (hB1.cell (World.block_lt_of_cell? w _ hx0)).trans hx0
  have zx1 := (hB1.cell (World.block_lt_of_cell? w _ hx1)).trans hx1
  have zx2 := (hB1.cell (World.block_lt_of_cell? w _ hx2)).trans hx2
  have zx3 := (hB1.cell (World.block_lt_of_cell? w _ hx3)).trans hx3
  have zx4 := (hB1.cell (World.block_lt_of_cell? w _ hx4)).trans hx4
  have zb0 : w1.cell? ⟨w.heap.size, 0, none⟩ = some (.int .i64 x) := by rw [← hw1]; exact (box2 w _ _).1
  have zb1 : w1.cell? ⟨w.heap.size, 1, none⟩ = some (.int .i64 at_) := by rw [← hw1]; exact (box2 w _ _).2
  have HB1 := Lib.hid hB1
  have HF0 := Lib.hid z0
  have HF1 := Lib.hid z1
  have HZ0 := Lib.hid zb0
  have HZ1 := Lib.hid zb1
  clear hB1 hw1 h0 h1 hx0 hx1 hx2 hx3 hx4
  have y0 := old_cell z0 (.cells #[.int .i64 0, .slice none 0 0, .slice none 0 0, .int .i64 0, .int .i64 0] 33)
  have yx0 := old_cell zx0 (.cells #[.int .i64 0, .slice none 0 0, .slice none 0 0, .int .i64 0, .int .i64 0] 33)
  have yx1 := old_cell zx1 (.cells #[.int .i64 0, .slice none 0 0, .slice none 0 0, .int .i64 0, .int .i64 0] 33)
  have yx2 := old_cell zx2 (.cells #[.int .i64 0, .slice none 0 0, .slice none 0 0, .int .i64 0, .int .i64 0] 33)
  have yx3 := old_cell zx3 (.cells #[.int .i64 0, .slice none 0 0, .slice none 0 0, .int .i64 0, .int .i64 0] 33)
  have yx4 := old_cell zx4 (.cells #[.int .i64 0, .slice none 0 0, .slice none 0 0, .int .i64 0, .int .i64 0] 33)
  have yb0 := old_cell zb0 (.cells #[.int .i64 0, .slice none 0 0, .slice none 0 0, .int .i64 0, .int .i64 0] 33)
  go_region
  clear y0 yx0 yx1 yx2 yx3 yx4 yb0
  generalize hw2 : World.drew _ = w2
  have hB2 : Below w.heap.size w w2 := by rw [← hw2]; exact (HB1.out.alloc HB1.out.size _).drew
  have u0 : w2.cell? ⟨w1.heap.size, 0, none⟩ = some (.int .i64 3) := by rw [← hw2]; exact cells_new w1 _ 33 0 _ rfl
  have u1 : w2.cell? ⟨w1.heap.size, 1, none⟩ = some (.slice A1 es.length c1) := by rw [← hw2]; exact cells_new w1 _ 33 1 _ rfl
  have u2 : w2.cell? ⟨w1.heap.size, 2, none⟩ = some (.slice A2 fs.length c2) := by rw [← hw2]; exact cells_new w1 _ 33 2 _ rfl
  have u4 : w2.cell? ⟨w1.heap.size, 4, none⟩ = some (.int .i64 dst) := by rw [← hw2]; exact cells_new w1 _ 33 4 _ rfl
  have v1 : w2.cell? ⟨w.heap.size, 1, none⟩ = some (.int .i64 at_) := by rw [← hw2]; exact old_cell zb1 _
  have f0 : w2.cell? ⟨F, 0, none⟩ = some (.slice (some ad) m.length c) := by rw [← hw2]; exact old_cell z0 _
  have f1 : w2.cell? ⟨F, 1, none⟩ = some (.string s) := by rw [← hw2]; exact old_cell z1 _
  have HB2 := Lib.hid hB2
  clear hw2 hB2 z0 z1 zx0 zx1 zx2 zx3 zx4 zb0 zb1 HZ0 HZ1 HF0 HF1
  have HNx : Hid (nextsP (N33 m) s (x, at_) = [(dst, at_)]) := Lib.hid (by unfold nextsP; simp only [HN.out, nn]; exact if_pos trivial)
  go_wp2
  go_ret
  exact ⟨_, rfl, by rw [HNx.out]; exact rowP1 w2 (dst, at_) _ HB2.out.size, HB2.out.alloc HB2.out.size _⟩

set_option maxRecDepth 100000 in
set_option maxHeartbeats 2000000 in
theorem next_fork (m : List S33) (s : ByteArray) (A : Option Addr) (c F : Nat) (w : World) (h : Fi m s A c F w) (hf : Fit m) (x at_ : Int) (hp : okP (N33 m) s (x, at_)) (hk : (rd_T33 m x).f0 = 2) :
    Calls Try.prog 64 #[.pointer (some ⟨F, 0, none⟩), .agg #[.int .i64 x, .int .i64 at_]] w fun e w' => ∃ v, e = .returned v ∧ kPl.R 87 w' w.heap.size (fun _ => True) v (nextsP (N33 m) s (x, at_)) ∧ Below w.heap.size w w' := by
  obtain ⟨q1, q2, q3, q4⟩ := hp
  simp only [N33_length] at q1 q2 q3 q4
  have hnd : nd (N33 m) x = nn (rd_T33 m x) := nd_N33 m x (by omega)
  have hfx : FitN (rd_T33 m x) := by
    obtain ⟨i, rfl⟩ := Int.eq_ofNat_of_zero_le q1
    exact hf _ (rd33_mem m i (by omega))
  obtain ⟨ad, A1, c1, A2, c2, eA, hx0, hx1, hx2, hx3, hx4, hl1, hi1, hl2, hi2⟩ := at_T33 h.row x q1 q2
  have h0 := h.c0
  have h1 := h.c1
  subst eA
  have HN := Lib.hid hnd
  have HFx := Lib.hid hfx
  have HI1 := Lib.hid hi1
  have HI2 := Lib.hid hi2
  clear hnd hi1 hi2 h hfx
  generalize rd_T33 m x = y at *
  obtain ⟨kd, es, fs, tg, dst⟩ := y
  simp only at hx0 hx1 hx2 hx3 hx4 hl1 hl2 hk
  subst hk
  go_enter Try.func64, Try.ntmps64
  go_wp2
  generalize hw1 : World.alloc w _ = w1
  have hB1 : Below w.heap.size w w1 := by rw [← hw1]; exact (Below.refl _ _).alloc (Nat.le_refl _) _
  have z0 : w1.cell? ⟨F, 0, none⟩ = _ := (hB1.cell (World.block_lt_of_cell? w _ h0)).trans h0
  have z1 : w1.cell? ⟨F, 1, none⟩ = _ := (hB1.cell (World.block_lt_of_cell? w _ h1)).trans h1
  have zx0 := (hB1.cell (World.block_lt_of_cell? w _ hx0)).trans hx0
  have zx1 := (hB1.cell (World.block_lt_of_cell? w _ hx1)).trans hx1
  have zx2 := (hB1.cell (World.block_lt_of_cell? w _ hx2)).trans hx2
  have zx3 := (hB1.cell (World.block_lt_of_cell? w _ hx3)).trans hx3
  have zx4 := (hB1.cell (World.block_lt_of_cell? w _ hx4)).trans hx4
  have zb0 : w1.cell? ⟨w.heap.size, 0, none⟩ = some (.int .i64 x) := by rw [← hw1]; exact (box2 w _ _).1
  have zb1 : w1.cell? ⟨w.heap.size, 1, none⟩ = some (.int .i64 at_) := by rw [← hw1]; exact (box2 w _ _).2
  have HB1 := Lib.hid hB1
  have HF0 := Lib.hid z0
  have HF1 := Lib.hid z1
  have HZ0 := Lib.hid zb0
  have HZ1 := Lib.hid zb1
  clear hB1 hw1 h0 h1 hx0 hx1 hx2 hx3 hx4
  have y0 := old_cell z0 (.cells #[.int .i64 0, .slice none 0 0, .slice none 0 0, .int .i64 0, .int .i64 0] 33)
  have yx0 := old_cell zx0 (.cells #[.int .i64 0, .slice none 0 0, .slice none 0 0, .int .i64 0, .int .i64 0] 33)
  have yx1 := old_cell zx1 (.cells #[.int .i64 0, .slice none 0 0, .slice none 0 0, .int .i64 0, .int .i64 0] 33)
  have yx2 := old_cell zx2 (.cells #[.int .i64 0, .slice none 0 0, .slice none 0 0, .int .i64 0, .int .i64 0] 33)
  have yx3 := old_cell zx3 (.cells #[.int .i64 0, .slice none 0 0, .slice none 0 0, .int .i64 0, .int .i64 0] 33)
  have yx4 := old_cell zx4 (.cells #[.int .i64 0, .slice none 0 0, .slice none 0 0, .int .i64 0, .int .i64 0] 33)
  have yb0 := old_cell zb0 (.cells #[.int .i64 0, .slice none 0 0, .slice none 0 0, .int .i64 0, .int .i64 0] 33)
  go_region
  clear y0 yx0 yx1 yx2 yx3 yx4 yb0
  generalize hw2 : World.drew _ = w2
  have hB2 : Below w.heap.size w w2 := by rw [← hw2]; exact (HB1.out.alloc HB1.out.size _).drew
  have u0 : w2.cell? ⟨w1.heap.size, 0, none⟩ = some (.int .i64 2) := by rw [← hw2]; exact cells_new w1 _ 33 0 _ rfl
  have u1 : w2.cell? ⟨w1.heap.size, 1, none⟩ = some (.slice A1 es.length c1) := by rw [← hw2]; exact cells_new w1 _ 33 1 _ rfl
  have u2 : w2.cell? ⟨w1.heap.size, 2, none⟩ = some (.slice A2 fs.length c2) := by rw [← hw2]; exact cells_new w1 _ 33 2 _ rfl
  have u4 : w2.cell? ⟨w1.heap.size, 4, none⟩ = some (.int .i64 dst) := by rw [← hw2]; exact cells_new w1 _ 33 4 _ rfl
  have v1 : w2.cell? ⟨w.heap.size, 1, none⟩ = some (.int .i64 at_) := by rw [← hw2]; exact old_cell zb1 _
  have f0 : w2.cell? ⟨F, 0, none⟩ = some (.slice (some ad) m.length c) := by rw [← hw2]; exact old_cell z0 _
  have f1 : w2.cell? ⟨F, 1, none⟩ = some (.string s) := by rw [← hw2]; exact old_cell z1 _
  have HB2 := Lib.hid hB2
  clear hw2 hB2 z0 z1 zx0 zx1 zx2 zx3 zx4 zb0 zb1 HZ0 HZ1 HF0 HF1
  have HNx : Hid (nextsP (N33 m) s (x, at_) = fs.map (fun t => (t, at_))) := Lib.hid (by unfold nextsP; simp only [HN.out, nn]; rw [if_neg (by decide), if_pos trivial])
  have hlen : fs.length ≤ 1000000 := HFx.out.2.1
  clear u1 u4 f0 f1
  go_wp2
  go_loopw [6, 34] (fun v6 v34 wr => ∃ (k : Nat) (v8 : Value), k ≤ fs.length ∧ v34 = .int .i64 k ∧ v8 = v6 ∧ Aside0 (kPl.R 87 wr w2.heap.size (fun _ => True) v8 ((fs.take k).map (fun t => (t, at_)))) ∧ Aside0 (Below w2.heap.size w2 wr)) (fun _ v _ => fs.length - (RowKit.intOf v).toNat)
  case atStart => exact ⟨0, _, Nat.zero_le _, rfl, rfl, ⟨Kd.R_nil _ _ _ _ _⟩, ⟨Below.refl _ _⟩⟩
  case round =>
    obtain ⟨k, v8, hk, rfl, rfl, HR, HBr⟩ := hrel
    by_cases hlt : k < fs.length
    · have HBw := Lib.hid (HB2.out.trans (HBr.out.mono HB2.out.size))
      obtain ⟨ad2, eA2, hy⟩ := Kd.at_int (Kd.C_below HI2.out HBw.out) (k : Int) (by omega) (by omega)
      subst eA2
      rw [Int.toNat_natCast, rdn fs k hlt] at hy
      have hv := (HBr.out.cell (World.block_lt_of_cell? _ _ v1)).trans v1
      have hsn : ((fs.take (k + 1)).map (fun t => (t, at_)) : List Pl) = (fs.take k).map (fun t => (t, at_)) ++ [(fs[k], at_)] := by rw [List.take_succ_eq_append_getElem hlt, List.map_append]; rfl
      have hln : ((fs.take k).map (fun t => ((t, at_) : Pl))).length = k := by simp; omega
      have HS := Lib.hid hsn
      have HLn := Lib.hid hln
      clear hsn hln
      generalize fs[k] = fk at *
      generalize hxs : (fs.take k).map (fun t => ((t, at_) : Pl)) = xs at *
      go_wp2_with (first
        | ((with_reducible refine gate_builtin (b := .append) (xs := _) rfl ?_); at_builtin; refine stopit _ ?_))
      unfold Stop
      refine Kd.R_append kPl (w0 := w2) w2.heap.size rfl _ _ 89 87 (.agg #[.int .i64 0, .int .i64 0]) 16 rfl Try.underlying89 info87 rfl (by decide) (by omega) v8 xs (fk, at_) [.int .i64 fk, .int .i64 at_] (fun _ => True) (fun _ => False) rfl rfl (kPl_mkM _ _ _ (fk, at_)) (fun k_ hk_ => hk_.elim) (fun _ _ => trivial) HR.out HBr.out HBr.out.size (by rw [HLn.out]; omega) ?_
      intro v7 w7 hr7 hb7 hg7 hat7
      have HR7 := Lib.hid hr7
      have HB7 := Lib.hid hb7
      clear hr7 hb7 hg7 hat7
      go_wp2
      go_roundw
      case rel => exact ⟨k + 1, _, by omega, by go_num, rfl, ⟨by rw [HS.out]; exact HR7.out⟩, ⟨HB7.out⟩⟩
      case measure => simp [RowKit.intOf]; omega
    · obtain rfl : k = fs.length := by omega
      go_wp2
      go_ret
      refine ⟨_, rfl, ?_, HB2.out.trans (HBr.out.mono HB2.out.size)⟩
      have hr := HR.out
      rw [List.take_length] at hr
      rw [HNx.out]
      exact Kd.R_lower hr HB2.out.size

set_option maxRecDepth 100000 in
set_option maxHeartbeats 2000000 in
theorem next_none (m : List S33) (s : ByteArray) (A : Option Addr) (c F : Nat) (w : World) (h : Fi m s A c F w) (hf : Fit m) (x at_ : Int) (hp : okP (N33 m) s (x, at_)) (hk : (rd_T33 m x).f0 ≠ 3 ∧ (rd_T33 m x).f0 ≠ 2 ∧ (rd_T33 m x).f0 ≠ 1) :
    Calls Try.prog 64 #[.pointer (some ⟨F, 0, none⟩), .agg #[.int .i64 x, .int .i64 at_]] w fun e w' => ∃ v, e = .returned v ∧ kPl.R 87 w' w.heap.size (fun _ => True) v (nextsP (N33 m) s (x, at_)) ∧ Below w.heap.size w w' := by
  obtain ⟨q1, q2, q3, q4⟩ := hp
  simp only [N33_length] at q1 q2 q3 q4
  have hnd : nd (N33 m) x = nn (rd_T33 m x) := nd_N33 m x (by omega)
  have hfx : FitN (rd_T33 m x) := by
    obtain ⟨i, rfl⟩ := Int.eq_ofNat_of_zero_le q1
    exact hf _ (rd33_mem m i (by omega))
  obtain ⟨ad, A1, c1, A2, c2, eA, hx0, hx1, hx2, hx3, hx4, hl1, hi1, hl2, hi2⟩ := at_T33 h.row x q1 q2
  have h0 := h.c0
  have h1 := h.c1
  subst eA
  have HN := Lib.hid hnd
  have HFx := Lib.hid hfx
  have HI1 := Lib.hid hi1
  have HI2 := Lib.hid hi2
  clear hnd hi1 hi2 h hfx
  generalize rd_T33 m x = y at *
  obtain ⟨kd, es, fs, tg, dst⟩ := y
  simp only at hx0 hx1 hx2 hx3 hx4 hl1 hl2 hk
  obtain ⟨h3, h2, h1'⟩ := hk
  go_enter Try.func64, Try.ntmps64
  go_wp2
  generalize hw1 : World.alloc w _ = w1
  have hB1 : Below w.heap.size w w1 := by rw [← hw1]; exact (Below.refl _ _).alloc (Nat.le_refl _) _
  have z0 : w1.cell? ⟨F, 0, none⟩ = _ := (hB1.cell (World.block_lt_of_cell? w _ h0)).trans h0
  have z1 : w1.cell? ⟨F, 1, none⟩ = _ := (hB1.cell (World.block_lt_of_cell? w _ h1)).trans h1
  have zx0 := (hB1.cell (World.block_lt_of_cell? w _ hx0)).trans hx0
  have zx1 := (hB1.cell (World.block_lt_of_cell? w _ hx1)).trans hx1
  have zx2 := (hB1.cell (World.block_lt_of_cell? w _ hx2)).trans hx2
  have zx3 := (hB1.cell (World.block_lt_of_cell? w _ hx3)).trans hx3
  have zx4 := (hB1.cell (World.block_lt_of_cell? w _ hx4)).trans hx4
  have zb0 : w1.cell? ⟨w.heap.size, 0, none⟩ = some (.int .i64 x) := by rw [← hw1]; exact (box2 w _ _).1
  have zb1 : w1.cell? ⟨w.heap.size, 1, none⟩ = some (.int .i64 at_) := by rw [← hw1]; exact (box2 w _ _).2
  have HB1 := Lib.hid hB1
  have HF0 := Lib.hid z0
  have HF1 := Lib.hid z1
  have HZ0 := Lib.hid zb0
  have HZ1 := Lib.hid zb1
  clear hB1 hw1 h0 h1 hx0 hx1 hx2 hx3 hx4
  have y0 := old_cell z0 (.cells #[.int .i64 0, .slice none 0 0, .slice none 0 0, .int .i64 0, .int .i64 0] 33)
  have yx0 := old_cell zx0 (.cells #[.int .i64 0, .slice none 0 0, .slice none 0 0, .int .i64 0, .int .i64 0] 33)
  have yx1 := old_cell zx1 (.cells #[.int .i64 0, .slice none 0 0, .slice none 0 0, .int .i64 0, .int .i64 0] 33)
  have yx2 := old_cell zx2 (.cells #[.int .i64 0, .slice none 0 0, .slice none 0 0, .int .i64 0, .int .i64 0] 33)
  have yx3 := old_cell zx3 (.cells #[.int .i64 0, .slice none 0 0, .slice none 0 0, .int .i64 0, .int .i64 0] 33)
  have yx4 := old_cell zx4 (.cells #[.int .i64 0, .slice none 0 0, .slice none 0 0, .int .i64 0, .int .i64 0] 33)
  have yb0 := old_cell zb0 (.cells #[.int .i64 0, .slice none 0 0, .slice none 0 0, .int .i64 0, .int .i64 0] 33)
  go_region
  clear y0 yx0 yx1 yx2 yx3 yx4 yb0
  generalize hw2 : World.drew _ = w2
  have hB2 : Below w.heap.size w w2 := by rw [← hw2]; exact (HB1.out.alloc HB1.out.size _).drew
  have u0 : w2.cell? ⟨w1.heap.size, 0, none⟩ = some (.int .i64 kd) := by rw [← hw2]; exact cells_new w1 _ 33 0 _ rfl
  have u1 : w2.cell? ⟨w1.heap.size, 1, none⟩ = some (.slice A1 es.length c1) := by rw [← hw2]; exact cells_new w1 _ 33 1 _ rfl
  have u2 : w2.cell? ⟨w1.heap.size, 2, none⟩ = some (.slice A2 fs.length c2) := by rw [← hw2]; exact cells_new w1 _ 33 2 _ rfl
  have u4 : w2.cell? ⟨w1.heap.size, 4, none⟩ = some (.int .i64 dst) := by rw [← hw2]; exact cells_new w1 _ 33 4 _ rfl
  have v1 : w2.cell? ⟨w.heap.size, 1, none⟩ = some (.int .i64 at_) := by rw [← hw2]; exact old_cell zb1 _
  have f0 : w2.cell? ⟨F, 0, none⟩ = some (.slice (some ad) m.length c) := by rw [← hw2]; exact old_cell z0 _
  have f1 : w2.cell? ⟨F, 1, none⟩ = some (.string s) := by rw [← hw2]; exact old_cell z1 _
  have HB2 := Lib.hid hB2
  clear hw2 hB2 z0 z1 zx0 zx1 zx2 zx3 zx4 zb0 zb1 HZ0 HZ1 HF0 HF1
  have HNx : Hid (nextsP (N33 m) s (x, at_) = []) := Lib.hid (by unfold nextsP; simp only [HN.out, nn]; rw [if_neg h3, if_neg h2, if_neg h1'])
  have b3 : (kd == 3) = false := by simpa using h3
  have b2 : (kd == 2) = false := by simpa using h2
  have b1 : (kd == 1) = false := by simpa using h1'
  clear u1 u2 u4 f0 f1 h1' h2 h3
  go_wp2
  go_ret
  exact ⟨_, rfl, by rw [HNx.out]; exact Kd.R_nil _ _ _ _ _, HB2.out⟩
end Go.Proofs.Ytolfamfgoafhlaa.M
end
section
namespace Go.Proofs.Ytolfamfgoafhlaa.M
open Go.RowKit Go.Proofs.YtolfamfgoafhlaaW.PrintWords Go.Proofs.YtolfamfgoafhlaaW.PrintLast Go.Proofs.YtolfamfgoafhlaaW.PrintMore
open Go.Proofs.Ytolfamfgoafhlaa.P Go.Proofs.Ytolfamfgoafhlaa.L

def outs72 (ch at_ : Int) (es : List S72) : List Pl := (es.filter (fun e => decide (e.f0 ≤ ch ∧ ch ≤ e.f1))).map (fun e => (e.f2, at_ + 1))
theorem outs72_ed (ch at_ : Int) (es : List S72) : ((es.map ed).filter (fun e => e.has ch)).map (fun e => (e.dst, at_ + 1)) = outs72 ch at_ es := by
  unfold outs72
  induction es with
  | nil => rfl
  | cons e es ih =>
    have h : (ed e).has ch = decide (e.f0 ≤ ch ∧ ch ≤ e.f1) := by unfold Ed.has ed; rw [Bool.decide_and]
    simp only [List.map_cons, List.filter_cons, h]
    split
    · simp only [List.map_cons, ih]; rfl
    · exact ih
theorem outs72_snoc (ch at_ : Int) (es : List S72) (k : Nat) (hk : k < es.length) : outs72 ch at_ (es.take (k + 1)) = outs72 ch at_ (es.take k) ++ (if es[k].f0 ≤ ch ∧ ch ≤ es[k].f1 then [(es[k].f2, at_ + 1)] else []) := by
  unfold outs72
  rw [List.take_succ_eq_append_getElem hk, List.filter_append, List.map_append]
  congr 1
  by_cases h : es[k].f0 ≤ ch ∧ ch ≤ es[k].f1
  · rw [if_pos h, List.filter_cons_of_pos (by exact decide_eq_true h)]; rfl
  · rw [if_neg h, List.filter_cons_of_neg (by simpa using h)]; rfl
theorem outs72_len (ch at_ : Int) (es : List S72) (k : Nat) : (outs72 ch at_ (es.take k)).length ≤ k := by
  unfold outs72
  rw [List.length_map]
  exact Nat.le_trans (List.length_filter_le _ _) (by simp; omega)

set_option maxRecDepth 100000 in
set_option maxHeartbeats 2000000 in
theorem next_eat1 (m : List S33) (s : ByteArray) (A : Option Addr) (c F : Nat) (w : World) (h : Fi m s A c F w) (hf : Fit m) (x at_ : Int) (hp : okP (N33 m) s (x, at_)) (hk : (rd_T33 m x).f0 = 1) (ha : at_ < (s.size : Int)) (hsz : s.size ≤ 1000000) :
    Calls Try.prog 64 #[.pointer (some ⟨F, 0, none⟩), .agg #[.int .i64 x, .int .i64 at_]] w fun e w' => ∃ v, e = .returned v ∧ kPl.R 87 w' w.heap.size (fun _ => True) v (nextsP (N33 m) s (x, at_)) ∧ Below w.heap.size w w' := by
  obtain ⟨q1, q2, q3, q4⟩ := hp
  simp only [N33_length] at q1 q2 q3 q4
  have hnd : nd (N33 m) x = nn (rd_T33 m x) := nd_N33 m x (by omega)
  have hfx : FitN (rd_T33 m x) := by
    obtain ⟨i, rfl⟩ := Int.eq_ofNat_of_zero_le q1
    exact hf _ (rd33_mem m i (by omega))
  obtain ⟨ad, A1, c1, A2, c2, eA, hx0, hx1, hx2, hx3, hx4, hl1, hi1, hl2, hi2⟩ := at_T33 h.row x q1 q2
  have h0 := h.c0
  have h1 := h.c1
  subst eA
  have HN := Lib.hid hnd
  have HFx := Lib.hid hfx
  have HI1 := Lib.hid hi1
  have HI2 := Lib.hid hi2
  clear hnd hi1 hi2 h hfx
  generalize rd_T33 m x = y at *
  obtain ⟨kd, es, fs, tg, dst⟩ := y
  simp only at hx0 hx1 hx2 hx3 hx4 hl1 hl2 hk
  subst hk
  go_enter Try.func64, Try.ntmps64
  go_wp2
  generalize hw1 : World.alloc w _ = w1
  have hB1 : Below w.heap.size w w1 := by rw [← hw1]; exact (Below.refl _ _).alloc (Nat.le_refl _) _
  have z0 : w1.cell? ⟨F, 0, none⟩ = _ := (hB1.cell (World.block_lt_of_cell? w _ h0)).trans h0
  have z1 : w1.cell? ⟨F, 1, none⟩ = _ := (hB1.cell (World.block_lt_of_cell? w _ h1)).trans h1
  have zx0 := (hB1.cell (World.block_lt_of_cell? w _ hx0)).trans hx0
  have zx1 := (hB1.cell (World.block_lt_of_cell? w _ hx1)).trans hx1
  have zx2 := (hB1.cell (World.block_lt_of_cell? w _ hx2)).trans hx2
  have zx3 := (hB1.cell (World.block_lt_of_cell? w _ hx3)).trans hx3
  have zx4 := (hB1.cell (World.block_lt_of_cell? w _ hx4)).trans hx4
  have zb0 : w1.cell? ⟨w.heap.size, 0, none⟩ = some (.int .i64 x) := by rw [← hw1]; exact (box2 w _ _).1
  have zb1 : w1.cell? ⟨w.heap.size, 1, none⟩ = some (.int .i64 at_) := by rw [← hw1]; exact (box2 w _ _).2
  have HB1 := Lib.hid hB1
  have HF0 := Lib.hid z0
  have HF1 := Lib.hid z1
  have HZ0 := Lib.hid zb0
  have HZ1 := Lib.hid zb1
  clear hB1 hw1 h0 h1 hx0 hx1 hx2 hx3 hx4
  have y0 := old_cell z0 (.cells #[.int .i64 0, .slice none 0 0, .slice none 0 0, .int .i64 0, .int .i64 0] 33)
  have yx0 := old_cell zx0 (.cells #[.int .i64 0, .slice none 0 0, .slice none 0 0, .int .i64 0, .int .i64 0] 33)
  have yx1 := old_cell zx1 (.cells #[.int .i64 0, .slice none 0 0, .slice none 0 0, .int .i64 0, .int .i64 0] 33)
  have yx2 := old_cell zx2 (.cells #[.int .i64 0, .slice none 0 0, .slice none 0 0, .int .i64 0, .int .i64 0] 33)
  have yx3 := old_cell zx3 (.cells #[.int .i64 0, .slice none 0 0, .slice none 0 0, .int .i64 0, .int .i64 0] 33)
  have yx4 := old_cell zx4 (.cells #[.int .i64 0, .slice none 0 0, .slice none 0 0, .int .i64 0, .int .i64 0] 33)
  have yb0 := old_cell zb0 (.cells #[.int .i64 0, .slice none 0 0, .slice none 0 0, .int .i64 0, .int .i64 0] 33)
  go_region
  clear y0 yx0 yx1 yx2 yx3 yx4 yb0
  generalize hw2 : World.drew _ = w2
  have hB2 : Below w.heap.size w w2 := by rw [← hw2]; exact (HB1.out.alloc HB1.out.size _).drew
  have u0 : w2.cell? ⟨w1.heap.size, 0, none⟩ = some (.int .i64 1) := by rw [← hw2]; exact cells_new w1 _ 33 0 _ rfl
  have u1 : w2.cell? ⟨w1.heap.size, 1, none⟩ = some (.slice A1 es.length c1) := by rw [← hw2]; exact cells_new w1 _ 33 1 _ rfl
  have u2 : w2.cell? ⟨w1.heap.size, 2, none⟩ = some (.slice A2 fs.length c2) := by rw [← hw2]; exact cells_new w1 _ 33 2 _ rfl
  have u4 : w2.cell? ⟨w1.heap.size, 4, none⟩ = some (.int .i64 dst) := by rw [← hw2]; exact cells_new w1 _ 33 4 _ rfl
  have v1 : w2.cell? ⟨w.heap.size, 1, none⟩ = some (.int .i64 at_) := by rw [← hw2]; exact old_cell zb1 _
  have f0 : w2.cell? ⟨F, 0, none⟩ = some (.slice (some ad) m.length c) := by rw [← hw2]; exact old_cell z0 _
  have f1 : w2.cell? ⟨F, 1, none⟩ = some (.string s) := by rw [← hw2]; exact old_cell z1 _
  have HB2 := Lib.hid hB2
  clear hw2 hB2 z0 z1 zx0 zx1 zx2 zx3 zx4 zb0 zb1 HZ0 HZ1 HF0 HF1
  have HNx : Hid (nextsP (N33 m) s (x, at_) = if at_ < (s.size : Int) then ((es.map ed).filter (fun e => e.has (bt s at_))).map (fun e => (e.dst, at_ + 1)) else []) := Lib.hid (by unfold nextsP; simp only [HN.out, nn]; rw [if_neg (by decide), if_neg (by decide), if_pos trivial])
  have hlen : es.length ≤ 1000000 := HFx.out.1
  clear u2 u4 f0
  have HF1 := Lib.hid f1
  have HV1 := Lib.hid v1
  clear f1 v1
  go_wp2
  clear u1
  have HA : Hid (at_ < (s.size : Int)) := Lib.hid (by omega)
  have ha' : decide (at_ < (s.size : Int)) = true := decide_eq_true (by omega)
  have hat : at_.toNat < s.size := by omega
  have hbt := bt_at s at_
  have HOut : Hid (∀ k : Nat, (hk : k < es.length) → outs72 (bt s at_) at_ (es.take (k + 1)) = outs72 (bt s at_) at_ (es.take k) ++ (if es[k].f0 ≤ bt s at_ ∧ bt s at_ ≤ es[k].f1 then [(es[k].f2, at_ + 1)] else [])) := Lib.hid (fun k hk => outs72_snoc _ _ es k hk)
  have HOl : Hid (∀ k : Nat, (outs72 (bt s at_) at_ (es.take k)).length ≤ k) := Lib.hid (fun k => outs72_len _ _ es k)
  go_loopw [6, 51] (fun v6 v51 wr => ∃ (k : Nat) (v8 : Value), k ≤ es.length ∧ v51 = .int .i64 k ∧ v8 = v6 ∧ Aside0 (kPl.R 87 wr w2.heap.size (fun _ => True) v8 (outs72 (bt s at_) at_ (es.take k))) ∧ Aside0 (Below w2.heap.size w2 wr)) (fun _ v _ => es.length - (RowKit.intOf v).toNat)
  case atStart => exact ⟨0, _, Nat.zero_le _, rfl, rfl, ⟨Kd.R_nil _ _ _ _ _⟩, ⟨Below.refl _ _⟩⟩
  case round =>
    obtain ⟨k, v8, hk, rfl, rfl, HR, HBr⟩ := hrel
    by_cases hlt : k < es.length
    · have HBw := Lib.hid (HB2.out.trans (HBr.out.mono HB2.out.size))
      obtain ⟨ad2, eA2, hy0, hy1, hy2⟩ := at_T72 (Kd.C_below HI1.out HBw.out) (k : Int) (by omega) (by omega)
      subst eA2
      rw [Int.toNat_natCast] at hy0 hy1 hy2
      have hsn := HOut.out k hlt
      have hol := HOl.out k
      have e0 : rd_T72 es (k : Int) = es[k] := by simp [rd_T72, List.getD_eq_getElem?_getD, List.getElem?_eq_getElem hlt]
      rw [← e0] at hsn
      generalize rd_T72 es (k : Int) = e at *
      clear e0
      have HS := Lib.hid hsn
      have HL := Lib.hid hol
      clear hsn hol
      generalize hxs : outs72 (bt s at_) at_ (es.take k) = xs at *
      clear hxs
      by_cases d1 : e.f0 ≤ bt s at_
      · have d1' : decide (e.f0 ≤ bt s at_) = true := decide_eq_true d1
        by_cases d2 : bt s at_ ≤ e.f1
        · have d2' : decide (bt s at_ ≤ e.f1) = true := decide_eq_true d2
          have HK : Hid (outs72 (bt s at_) at_ (es.take (k + 1)) = xs ++ [(e.f2, at_ + 1)]) := Lib.hid (by rw [HS.out, if_pos ⟨d1, d2⟩])
          go_wp2
          generalize hw3 : World.alloc wr _ = w3
          have HBa : Hid (Below wr.heap.size wr w3) := Lib.hid (by rw [← hw3]; exact (Below.refl _ _).alloc (Nat.le_refl _) _)
          have g0 : w3.cell? ⟨wr.heap.size, 0, none⟩ = some (.int .u8 e.f0) := by rw [← hw3]; exact cells_new wr _ 72 0 _ rfl
          have g1 : w3.cell? ⟨wr.heap.size, 1, none⟩ = some (.int .u8 e.f1) := by rw [← hw3]; exact cells_new wr _ 72 1 _ rfl
          have g2 : w3.cell? ⟨wr.heap.size, 2, none⟩ = some (.int .i64 e.f2) := by rw [← hw3]; exact cells_new wr _ 72 2 _ rfl
          have hb3 : Below w2.heap.size w2 w3 := HBr.out.trans (HBa.out.mono HBr.out.size)
          have k1 : w3.cell? ⟨F, 1, none⟩ = _ := (hb3.cell (World.block_lt_of_cell? _ _ HF1.out)).trans HF1.out
          have kv : w3.cell? ⟨w.heap.size, 1, none⟩ = _ := (hb3.cell (World.block_lt_of_cell? _ _ HV1.out)).trans HV1.out
          have HB3 := Lib.hid hb3
          clear hw3 hb3 hy0 hy1 hy2
          go_quiet (fail)
          have HR3 : Hid (kPl.R 87 (w3.drewN nq) w2.heap.size (fun _ => True) v8 xs) := Lib.hid (Kd.R_drewN (Kd.R_below HR.out HBa.out) _)
          have HB9 : Hid (Below w2.heap.size w2 (w3.drewN nq)) := Lib.hid (pw_below_drewN HB3.out _)
          have hwr : IntKind.i64.wrap (at_ + 1) = at_ + 1 := IntWalk.i64_in _ ⟨by omega, by omega⟩
          go_wp2_with (first
            | ((with_reducible refine gate_builtin (b := .append) (xs := _) rfl ?_); at_builtin; refine stopit _ ?_))
          unfold Stop
          refine Kd.R_append kPl (w0 := w2) w2.heap.size rfl _ _ 89 87 (.agg #[.int .i64 0, .int .i64 0]) 16 rfl Try.underlying89 info87 rfl (by decide) (by omega) v8 xs (e.f2, at_ + 1) [.int .i64 e.f2, .int .i64 (at_ + 1)] (fun _ => True) (fun _ => False) rfl rfl (kPl_mkM _ _ _ (e.f2, at_ + 1)) (fun k_ hk_ => hk_.elim) (fun _ _ => trivial) HR3.out HB9.out HB9.out.size (by have := HL.out; omega) ?_
          intro v7 w7 hr7 hb7 hg7 hat7
          have HR7 := Lib.hid hr7
          have HB7 := Lib.hid hb7
          clear hr7 hb7 hg7 hat7
          go_wp2
          go_roundw
          case rel => exact ⟨k + 1, v7, by omega, by go_num, rfl, ⟨by rw [HK.out]; exact HR7.out⟩, ⟨HB7.out⟩⟩
          case measure => simp [RowKit.intOf]; omega
        · have d2' : decide (bt s at_ ≤ e.f1) = false := decide_eq_false d2
          have HK : Hid (outs72 (bt s at_) at_ (es.take (k + 1)) = xs) := Lib.hid (by rw [HS.out, if_neg (fun h => d2 h.2), List.append_nil])
          clear d2
          go_wp2
          generalize hw3 : World.alloc wr _ = w3
          have HBa : Hid (Below wr.heap.size wr w3) := Lib.hid (by rw [← hw3]; exact (Below.refl _ _).alloc (Nat.le_refl _) _)
          have g0 : w3.cell? ⟨wr.heap.size, 0, none⟩ = some (.int .u8 e.f0) := by rw [← hw3]; exact cells_new wr _ 72 0 _ rfl
          have g1 : w3.cell? ⟨wr.heap.size, 1, none⟩ = some (.int .u8 e.f1) := by rw [← hw3]; exact cells_new wr _ 72 1 _ rfl
          have g2 : w3.cell? ⟨wr.heap.size, 2, none⟩ = some (.int .i64 e.f2) := by rw [← hw3]; exact cells_new wr _ 72 2 _ rfl
          have hb3 : Below w2.heap.size w2 w3 := HBr.out.trans (HBa.out.mono HBr.out.size)
          have k1 : w3.cell? ⟨F, 1, none⟩ = _ := (hb3.cell (World.block_lt_of_cell? _ _ HF1.out)).trans HF1.out
          have kv : w3.cell? ⟨w.heap.size, 1, none⟩ = _ := (hb3.cell (World.block_lt_of_cell? _ _ HV1.out)).trans HV1.out
          have HB3 := Lib.hid hb3
          clear hw3 hb3 hy0 hy1 hy2
          go_quiet (fail)
          go_wp2
          go_roundw
          case rel => exact ⟨k + 1, v8, by omega, by go_num, rfl, ⟨by rw [HK.out]; exact Kd.R_drewN (Kd.R_below HR.out HBa.out) _⟩, ⟨pw_below_drewN HB3.out _⟩⟩
          case measure => simp [RowKit.intOf]; omega
      · have d1' : decide (e.f0 ≤ bt s at_) = false := decide_eq_false d1
        have HK : Hid (outs72 (bt s at_) at_ (es.take (k + 1)) = xs) := Lib.hid (by rw [HS.out, if_neg (fun h => d1 h.1), List.append_nil])
        clear d1
        go_wp2
        generalize hw3 : World.alloc wr _ = w3
        have HBa : Hid (Below wr.heap.size wr w3) := Lib.hid (by rw [← hw3]; exact (Below.refl _ _).alloc (Nat.le_refl _) _)
        have g0 : w3.cell? ⟨wr.heap.size, 0, none⟩ = some (.int .u8 e.f0) := by rw [← hw3]; exact cells_new wr _ 72 0 _ rfl
        have g1 : w3.cell? ⟨wr.heap.size, 1, none⟩ = some (.int .u8 e.f1) := by rw [← hw3]; exact cells_new wr _ 72 1 _ rfl
        have g2 : w3.cell? ⟨wr.heap.size, 2, none⟩ = some (.int .i64 e.f2) := by rw [← hw3]; exact cells_new wr _ 72 2 _ rfl
        have hb3 : Below w2.heap.size w2 w3 := HBr.out.trans (HBa.out.mono HBr.out.size)
        have k1 : w3.cell? ⟨F, 1, none⟩ = _ := (hb3.cell (World.block_lt_of_cell? _ _ HF1.out)).trans HF1.out
        have kv : w3.cell? ⟨w.heap.size, 1, none⟩ = _ := (hb3.cell (World.block_lt_of_cell? _ _ HV1.out)).trans HV1.out
        have HB3 := Lib.hid hb3
        clear hw3 hb3 hy0 hy1 hy2
        go_quiet (fail)
        go_wp2
        go_roundw
        case rel => exact ⟨k + 1, v8, by omega, by go_num, rfl, ⟨by rw [HK.out]; exact Kd.R_drewN (Kd.R_below HR.out HBa.out) _⟩, ⟨pw_below_drewN HB3.out _⟩⟩
        case measure => simp [RowKit.intOf]; omega
    · obtain rfl : k = es.length := by omega
      go_wp2
      go_ret
      refine ⟨_, rfl, ?_, HB2.out.trans (HBr.out.mono HB2.out.size)⟩
      have hr := HR.out
      rw [List.take_length, ← outs72_ed] at hr
      rw [HNx.out, if_pos HA.out]
      exact Kd.R_lower hr HB2.out.size

set_option maxRecDepth 100000 in
set_option maxHeartbeats 2000000 in
theorem next_eat0 (m : List S33) (s : ByteArray) (A : Option Addr) (c F : Nat) (w : World) (h : Fi m s A c F w) (hf : Fit m) (x at_ : Int) (hp : okP (N33 m) s (x, at_)) (hk : (rd_T33 m x).f0 = 1) (ha : ¬ at_ < (s.size : Int)) :
    Calls Try.prog 64 #[.pointer (some ⟨F, 0, none⟩), .agg #[.int .i64 x, .int .i64 at_]] w fun e w' => ∃ v, e = .returned v ∧ kPl.R 87 w' w.heap.size (fun _ => True) v (nextsP (N33 m) s (x, at_)) ∧ Below w.heap.size w w' := by
  obtain ⟨q1, q2, q3, q4⟩ := hp
  simp only [N33_length] at q1 q2 q3 q4
  have hnd : nd (N33 m) x = nn (rd_T33 m x) := nd_N33 m x (by omega)
  have hfx : FitN (rd_T33 m x) := by
    obtain ⟨i, rfl⟩ := Int.eq_ofNat_of_zero_le q1
    exact hf _ (rd33_mem m i (by omega))
  obtain ⟨ad, A1, c1, A2, c2, eA, hx0, hx1, hx2, hx3, hx4, hl1, hi1, hl2, hi2⟩ := at_T33 h.row x q1 q2
  have h0 := h.c0
  have h1 := h.c1
  subst eA
  have HN := Lib.hid hnd
  have HFx := Lib.hid hfx
  have HI1 := Lib.hid hi1
  have HI2 := Lib.hid hi2
  clear hnd hi1 hi2 h hfx
  generalize rd_T33 m x = y at *
  obtain ⟨kd, es, fs, tg, dst⟩ := y
  simp only at hx0 hx1 hx2 hx3 hx4 hl1 hl2 hk
  subst hk
  go_enter Try.func64, Try.ntmps64
  go_wp2
  generalize hw1 : World.alloc w _ = w1
  have hB1 : Below w.heap.size w w1 := by rw [← hw1]; exact (Below.refl _ _).alloc (Nat.le_refl _) _
  have z0 : w1.cell? ⟨F, 0, none⟩ = _ := (hB1.cell (World.block_lt_of_cell? w _ h0)).trans h0
  have z1 : w1.cell? ⟨F, 1, none⟩ = _ := (hB1.cell (World.block_lt_of_cell? w _ h1)).trans h1
  have zx0 := (hB1.cell (World.block_lt_of_cell? w _ hx0)).trans hx0
  have zx1 := (hB1.cell (World.block_lt_of_cell? w _ hx1)).trans hx1
  have zx2 := (hB1.cell (World.block_lt_of_cell? w _ hx2)).trans hx2
  have zx3 := (hB1.cell (World.block_lt_of_cell? w _ hx3)).trans hx3
  have zx4 := (hB1.cell (World.block_lt_of_cell? w _ hx4)).trans hx4
  have zb0 : w1.cell? ⟨w.heap.size, 0, none⟩ = some (.int .i64 x) := by rw [← hw1]; exact (box2 w _ _).1
  have zb1 : w1.cell? ⟨w.heap.size, 1, none⟩ = some (.int .i64 at_) := by rw [← hw1]; exact (box2 w _ _).2
  have HB1 := Lib.hid hB1
  have HF0 := Lib.hid z0
  have HF1 := Lib.hid z1
  have HZ0 := Lib.hid zb0
  have HZ1 := Lib.hid zb1
  clear hB1 hw1 h0 h1 hx0 hx1 hx2 hx3 hx4
  have y0 := old_cell z0 (.cells #[.int .i64 0, .slice none 0 0, .slice none 0 0, .int .i64 0, .int .i64 0] 33)
  have yx0 := old_cell zx0 (.cells #[.int .i64 0, .slice none 0 0, .slice none 0 0, .int .i64 0, .int .i64 0] 33)
  have yx1 := old_cell zx1 (.cells #[.int .i64 0, .slice none 0 0, .slice none 0 0, .int .i64 0, .int .i64 0] 33)
  have yx2 := old_cell zx2 (.cells #[.int .i64 0, .slice none 0 0, .slice none 0 0, .int .i64 0, .int .i64 0] 33)
  have yx3 := old_cell zx3 (.cells #[.int .i64 0, .slice none 0 0, .slice none 0 0, .int .i64 0, .int .i64 0] 33)
  have yx4 := old_cell zx4 (.cells #[.int .i64 0, .slice none 0 0, .slice none 0 0, .int .i64 0, .int .i64 0] 33)
  have yb0 := old_cell zb0 (.cells #[.int .i64 0, .slice none 0 0, .slice none 0 0, .int .i64 0, .int .i64 0] 33)
  go_region
  clear y0 yx0 yx1 yx2 yx3 yx4 yb0
  generalize hw2 : World.drew _ = w2
  have hB2 : Below w.heap.size w w2 := by rw [← hw2]; exact (HB1.out.alloc HB1.out.size _).drew
  have u0 : w2.cell? ⟨w1.heap.size, 0, none⟩ = some (.int .i64 1) := by rw [← hw2]; exact cells_new w1 _ 33 0 _ rfl
  have u1 : w2.cell? ⟨w1.heap.size, 1, none⟩ = some (.slice A1 es.length c1) := by rw [← hw2]; exact cells_new w1 _ 33 1 _ rfl
  have u2 : w2.cell? ⟨w1.heap.size, 2, none⟩ = some (.slice A2 fs.length c2) := by rw [← hw2]; exact cells_new w1 _ 33 2 _ rfl
  have u4 : w2.cell? ⟨w1.heap.size, 4, none⟩ = some (.int .i64 dst) := by rw [← hw2]; exact cells_new w1 _ 33 4 _ rfl
  have v1 : w2.cell? ⟨w.heap.size, 1, none⟩ = some (.int .i64 at_) := by rw [← hw2]; exact old_cell zb1 _
  have f0 : w2.cell? ⟨F, 0, none⟩ = some (.slice (some ad) m.length c) := by rw [← hw2]; exact old_cell z0 _
  have f1 : w2.cell? ⟨F, 1, none⟩ = some (.string s) := by rw [← hw2]; exact old_cell z1 _
  have HB2 := Lib.hid hB2
  clear hw2 hB2 z0 z1 zx0 zx1 zx2 zx3 zx4 zb0 zb1 HZ0 HZ1 HF0 HF1
  have HNx : Hid (nextsP (N33 m) s (x, at_) = if at_ < (s.size : Int) then ((es.map ed).filter (fun e => e.has (bt s at_))).map (fun e => (e.dst, at_ + 1)) else []) := Lib.hid (by unfold nextsP; simp only [HN.out, nn]; rw [if_neg (by decide), if_neg (by decide), if_pos trivial])
  have hlen : es.length ≤ 1000000 := HFx.out.1
  clear u2 u4 f0
  have HF1 := Lib.hid f1
  have HV1 := Lib.hid v1
  clear f1 v1
  go_wp2
  clear u1
  have HA : Hid (¬ at_ < (s.size : Int)) := Lib.hid (by omega)
  have ha' : decide (at_ < (s.size : Int)) = false := decide_eq_false (by omega)
  clear ha
  go_loopw [6, 51] (fun v6 v51 wr => ∃ k : Nat, k ≤ es.length ∧ v51 = .int .i64 k ∧ v6 = .slice none 0 0 ∧ Aside0 (Below w2.heap.size w2 wr)) (fun _ v _ => es.length - (RowKit.intOf v).toNat)
  case atStart => exact ⟨0, Nat.zero_le _, rfl, rfl, ⟨Below.refl _ _⟩⟩
  case round =>
    obtain ⟨k, hk, rfl, rfl, HBr⟩ := hrel
    by_cases hlt : k < es.length
    · have HBw := Lib.hid (HB2.out.trans (HBr.out.mono HB2.out.size))
      obtain ⟨ad2, eA2, hy0, hy1, hy2⟩ := at_T72 (Kd.C_below HI1.out HBw.out) (k : Int) (by omega) (by omega)
      subst eA2
      rw [Int.toNat_natCast] at hy0 hy1 hy2
      generalize rd_T72 es (k : Int) = e at *
      go_wp2
      generalize hw3 : World.alloc wr _ = w3
      have HBa : Hid (Below wr.heap.size wr w3) := Lib.hid (by rw [← hw3]; exact (Below.refl _ _).alloc (Nat.le_refl _) _)
      have g0 : w3.cell? ⟨wr.heap.size, 0, none⟩ = some (.int .u8 e.f0) := by rw [← hw3]; exact cells_new wr _ 72 0 _ rfl
      have g1 : w3.cell? ⟨wr.heap.size, 1, none⟩ = some (.int .u8 e.f1) := by rw [← hw3]; exact cells_new wr _ 72 1 _ rfl
      have g2 : w3.cell? ⟨wr.heap.size, 2, none⟩ = some (.int .i64 e.f2) := by rw [← hw3]; exact cells_new wr _ 72 2 _ rfl
      have hb3 : Below w2.heap.size w2 w3 := HBr.out.trans (HBa.out.mono HBr.out.size)
      have k1 : w3.cell? ⟨F, 1, none⟩ = _ := (hb3.cell (World.block_lt_of_cell? _ _ HF1.out)).trans HF1.out
      have kv : w3.cell? ⟨w.heap.size, 1, none⟩ = _ := (hb3.cell (World.block_lt_of_cell? _ _ HV1.out)).trans HV1.out
      have HB3 := Lib.hid hb3
      clear hw3 hb3 hy0 hy1 hy2
      go_quiet (fail)
      go_wp2
      go_roundw
      case rel => exact ⟨k + 1, by omega, by go_num, rfl, ⟨pw_below_drewN HB3.out _⟩⟩
      case measure => simp [RowKit.intOf]; omega
    · obtain rfl : k = es.length := by omega
      go_wp2
      go_ret
      exact ⟨_, rfl, by rw [HNx.out, if_neg (show ¬ at_ < (s.size : Int) by have := HA.out; omega)]; exact Kd.R_nil _ _ _ _ _, HB2.out.trans (HBr.out.mono HB2.out.size)⟩

/-- (*finder).next. -/
theorem next_calls (m : List S33) (s : ByteArray) (A : Option Addr) (c F : Nat) (w : World) (h : Fi m s A c F w) (hf : Fit m) (hsz : s.size ≤ 1000000) (p : Pl) (hp : okP (N33 m) s p) :
    Calls Try.prog 64 #[.pointer (some ⟨F, 0, none⟩), vPl p] w fun e w' => ∃ v, e = .returned v ∧ kPl.R 87 w' w.heap.size (fun _ => True) v (nextsP (N33 m) s p) ∧ Below w.heap.size w w' := by
  obtain ⟨x, at_⟩ := p
  by_cases h3 : (rd_T33 m x).f0 = 3
  · exact next_mark m s A c F w h hf x at_ hp h3
  · by_cases h2 : (rd_T33 m x).f0 = 2
    · exact next_fork m s A c F w h hf x at_ hp h2
    · by_cases h1 : (rd_T33 m x).f0 = 1
      · by_cases ha : at_ < (s.size : Int)
        · exact next_eat1 m s A c F w h hf x at_ hp h1 ha hsz
        · exact next_eat0 m s A c F w h hf x at_ hp h1 ha
      · exact next_none m s A c F w h hf x at_ hp ⟨h3, h2, h1⟩
end Go.Proofs.Ytolfamfgoafhlaa.M
end
section
namespace Go.Proofs.Ytolfamfgoafhlaa.M
open Go.RowKit Go.Proofs.YtolfamfgoafhlaaW.PrintWords Go.Proofs.YtolfamfgoafhlaaW.PrintLast Go.Proofs.YtolfamfgoafhlaaW.PrintMore
open Go.Proofs.Ytolfamfgoafhlaa.P Go.Proofs.Ytolfamfgoafhlaa.L

/-! ### what a finder knows -/
theorem nodup_sub {α : Type} [DecidableEq α] : ∀ {l1 l2 : List α}, l1.Nodup → (∀ x ∈ l1, x ∈ l2) → l1.length ≤ l2.length
  | [], _, _, _ => Nat.zero_le _
  | x :: xs, l2, hp, hs => by
    rw [List.nodup_cons] at hp
    have hx := hs x List.mem_cons_self
    have h1 := nodup_sub (l2 := l2.erase x) hp.2 (fun y hy => (List.mem_erase_of_ne (fun e => hp.1 (by rw [← e]; exact hy))).2 (hs y (List.mem_cons_of_mem _ hy)))
    rw [List.length_erase_of_mem hx] at h1
    have := List.length_pos_of_mem hx
    simp only [List.length_cons]
    omega
def grid (a b : Nat) : List Pl := (List.range a).flatMap (fun (i : Nat) => (List.range b).map (fun (j : Nat) => (((i : Int), (j : Int)) : Pl)))
theorem grid_length (a b : Nat) : (grid a b).length = a * b := by
  unfold grid
  induction a with
  | zero => simp
  | succ a ih => rw [List.range_succ, List.flatMap_append, List.length_append, ih, Nat.add_mul]; simp
theorem mem_grid {a b : Nat} {p : Pl} (h1 : 0 ≤ p.1) (h2 : p.1 < (a : Int)) (h3 : 0 ≤ p.2) (h4 : p.2 < (b : Int)) : p ∈ grid a b := by
  unfold grid
  rw [List.mem_flatMap]
  refine ⟨p.1.toNat, List.mem_range.2 (by omega), List.mem_map.2 ⟨p.2.toNat, List.mem_range.2 (by omega), ?_⟩⟩
  exact Prod.ext (by simp; omega) (by simp; omega)
theorem ok_bound {m : List Nd} {s : ByteArray} {ks : List Pl} (hn : ks.Nodup) (hok : ∀ p ∈ ks, okP m s p) : ks.length ≤ m.length * (s.size + 1) := by
  rw [← grid_length]
  exact nodup_sub hn (fun p hp => mem_grid (hok p hp).1 (hok p hp).2.1 (hok p hp).2.2.1 (by have := (hok p hp).2.2.2; omega))
theorem ok_wf {m : List Nd} {s : ByteArray} (hm : m.length ≤ 1000000) (hs : s.size ≤ 1000000) {p : Pl} (h : okP m s p) : (Lit.int .i64 p.1).wf = true ∧ (Lit.int .i64 p.2).wf = true :=
  ⟨WalkArith.wf_i64 (by have := h.1; have := h.2.1; omega), WalkArith.wf_i64 (by have := h.2.2.1; have := h.2.2.2; omega)⟩

/-- Block b is the map of how many ways there are from some places on. -/
def Known (m : List Nd) (s : ByteArray) (w : World) (b : Nat) : Prop :=
  ∃ (D : DataW Nat) (ks : List Pl), w.ownsMap Try.prog 87 (plainElem Try.prog 3) b (Maps.size D) D ∧ Maps.size D = ks.length ∧ ks.Nodup ∧ (∀ p ∈ ks, okP m s p) ∧
    (∀ p, okP m s p → Maps.has D (kl p) = decide (p ∈ ks)) ∧ ∀ p ∈ ks, ∀ z, D.atKey (kl p) z = .lit (.int .i64 (ways m s p))
theorem isKey_kl (p : Pl) : WideAt.IsKeyLit (kl p) := by simp [kl, WideAt.IsKeyLit]
namespace Known
variable {m : List Nd} {s : ByteArray} {w w1 : World} {b : Nat}
theorem made (w : World) : Known m s (w.alloc (.map #[] 0)) w.heap.size :=
  ⟨.map [], [], World.ownsMap_made w Try.prog 87 (plainElem Try.prog 3), rfl, List.nodup_nil, (by simp), (fun _ _ => rfl), (by simp)⟩
theorem kept (h : Known m s w b) {row : Option Nat} (hg : w.grownBy w1 row) (hne : some b ≠ row) : Known m s w1 b := by
  obtain ⟨D, ks, h1, h2⟩ := h
  exact ⟨D, ks, h1.kept hg hne, h2⟩
theorem lt (h : Known m s w b) : b < w.heap.size := by
  obtain ⟨D, ks, h1, _⟩ := h
  exact h1.lt
end Known
theorem zero3 (w : World) : (zeroValue 3).run Try.prog w = .ok (.int .i64 0) w := by kernel_rfl
theorem put_known {m : List Nd} {s : ByteArray} (hm : m.length ≤ 1000) (hs : s.size ≤ 1000) {w : World} {ops : Array Oper} {rest : List Oper} {o : Oper} {a : Act} {Q : Exit → Act → World → Prop} (hg : o.guard = none) (mo x v : Operand) (hop : o.op = Op.mapUpdate 120 mo x v)
    {b : Nat} (p : Pl) (hp : okP m s p) (hmay : mayB m = true) (ho : a.eval mo = .map (some b)) (hK : Known m s w b) (hx : a.eval x = vPl p) (hv : a.eval v = .int .i64 (ways m s p))
    (hk : ∀ w', Known m s w' b → w.grownBy w' (some b) → wpList Try.prog ops Q rest (a.put o.dst undef) w') : wpList Try.prog ops Q (o :: rest) a w := by
  obtain ⟨D, ks, h1, h2, h3, h4, h5, h6⟩ := hK
  have hwf := ok_wf (by omega) (by omega) hp
  have hr := ways_rng hmay hp
  have hb := ok_bound h3 h4
  have hb2 : m.length * (s.size + 1) ≤ 1000 * 1001 := Nat.mul_le_mul hm (by omega)
  have hT := h1.tidy key87
  refine wpList_mapUpdate_own w hg mo x v 120 hop 87 3 key87 Try.underlying120 (plainElem Try.prog 3) b _ D ho h1 (by unfold maxLen; omega) _ _ (kl p) hx hv (key_kl p hwf.1 hwf.2) _ [] (plainElem_int Try.underlying3 (WalkArith.wf_i64 (by omega))) ?_
  intro w' hown hgrow
  refine hk w' ⟨_, if p ∈ ks then ks else p :: ks, ownsMap_exact hown, ?_, ?_, ?_, ?_, ?_⟩ hgrow
  · rw [Maps.size_put hT, h5 p hp]
    by_cases hin : p ∈ ks
    · simp [hin, h2]
    · simp [hin, h2]
  · split
    · exact h3
    · rename_i hin
      exact List.nodup_cons.2 ⟨hin, h3⟩
  · intro q hq
    split at hq
    · exact h4 q hq
    · rcases List.mem_cons.1 hq with rfl | hq
      · exact hp
      · exact h4 q hq
  · intro q hq
    by_cases e : q = p
    · subst e
      rw [Maps.has_put_same hT.isMap (isKey_kl q)]
      split <;> simp_all
    · have hwq := ok_wf (by omega) (by omega) hq
      rw [Maps.has_put_other (fun h => e (kl_inj hwq.1 hwq.2 hwf.1 hwf.2 h)), h5 q hq]
      split
      · rfl
      · simp [e]
  · intro q hq z
    by_cases e : q = p
    · subst e
      exact Maps.atKey_put_same hT.isMap (isKey_kl q) _ _
    · have hq' : q ∈ ks := by
        split at hq
        · exact hq
        · rcases List.mem_cons.1 hq with h | h
          · exact absurd h e
          · exact h
      have hwq := ok_wf (by omega) (by omega) (h4 q hq')
      rw [Maps.atKey_put_other (fun h => e (kl_inj hwq.1 hwq.2 hwf.1 hwf.2 h))]
      exact h6 q hq' z
/-- 'n, ok := f.known[p]'. -/
theorem look_known {m : List Nd} {s : ByteArray} (hm : m.length ≤ 1000) (hs : s.size ≤ 1000) {w : World} {ops : Array Oper} {rest : List Oper} {o : Oper} {a : Act} {Q : Exit → Act → World → Prop} (hg : o.guard = none) (mo x : Operand) (hop : o.op = Op.lookup 120 mo x true)
    {b : Nat} (p : Pl) (hp : okP m s p) (ho : a.eval mo = .map (some b)) (hK : Known m s w b) (hx : a.eval x = vPl p)
    (hk : ∀ (c : Int) (is : Bool), (is = true → c = ways m s p) → wpList Try.prog ops Q rest (a.put o.dst (.tuple #[.int .i64 c, .bool is])) w) : wpList Try.prog ops Q (o :: rest) a w := by
  obtain ⟨D, ks, h1, h2, h3, h4, h5, h6⟩ := hK
  have hwf := ok_wf (by omega) (by omega) hp
  refine wpList_lookup_own_ok_int w hg mo x 120 hop 87 3 .i64 key87 Try.underlying120 Try.underlying3 (zero3 w) b _ D ho h1 _ (kl p) hx (key_kl p hwf.1 hwf.2) ?_
  intro c hc _
  refine hk c _ (fun h => ?_)
  rw [h5 p hp, decide_eq_true_eq] at h
  rw [h6 p h] at hc
  simp at hc
  exact hc.symm
end Go.Proofs.Ytolfamfgoafhlaa.M
end
