import Derived.Test.YtolfamfgoafhlaaS1
import Derived.Test.YtolfamfgoafhlaaSi
import Derived.Test.YtolfamfgoafhlaaA
import Derived.Lib.OwnBridge
namespace Go.Proofs.Ytolfamfgoafhlaa.M
open Go.RowKit Go.Shelf Go.Proofs.YtolfamfgoafhlaaW.PrintWords Go.Proofs.YtolfamfgoafhlaaW.PrintLast
open Go.Proofs.Ytolfamfgoafhlaa.P
open Go.Sort (HoldsK flatK putRowK get_flatK PermIn SortedIn SWO)

/-! ### the order of edges -/
def cf8 (x y : E8) : Int := x.1.f0 - y.1.f0
theorem lt8 (x y : E8) : Go.Proofs.ltOf cf8 x y = decide (x.1.f0 < y.1.f0) := by
  unfold Go.Proofs.ltOf cf8
  by_cases h : x.1.f0 < y.1.f0
  · rw [decide_eq_true h, decide_eq_true (by omega)]
  · rw [decide_eq_false h, decide_eq_false (by omega)]
theorem swo8 : SWO (Go.Proofs.ltOf cf8) where
  irrefl x := by rw [lt8]; simp
  trans x y z h1 h2 := by rw [lt8] at *; simp at *; omega
  ntrans x y z h1 h2 := by rw [lt8] at *; simp at *; omega

set_option maxHeartbeats 1000000 in
/-- eats' closure. -/
theorem cmp_calls (x y : E8) (W : World) : Calls Try.prog 96 #[.agg (c3 x).toArray, .agg (c3 y).toArray] W fun e w' => e = .returned (.int .i64 (cf8 x y)) ∧ ∃ q os', w' = Go.Sort.grow (W.drewN q) os' := by
  obtain ⟨x, x0, x1⟩ := x
  obtain ⟨y, y0, y1⟩ := y
  simp only [c3, cf8]
  go_enter Try.func96, Try.ntmps96
  go_wp2
  go_ret
  exact ⟨rfl, 0, _, by rw [Go.Sort.alloc_eq_grow, Go.Sort.alloc_eq_grow, Go.Sort.grow_grow]; rfl⟩

/-! ### a row of edges in the sort's words -/
theorem c3_length (x : E8) : (c3 x).length = 3 := rfl
theorem flat3_length (l : List E8) : (flat3 l).length = l.length * 3 := by
  induction l with
  | nil => rfl
  | cons x l ih =>
    have : flat3 (x :: l) = c3 x ++ flat3 l := rfl
    rw [this, List.length_append, ih, c3_length, List.length_cons]; omega
theorem flat3_get (l : List E8) : ∀ t, t < l.length * 3 → (flat3 l)[t]! = (c3 (l.toArray)[t / 3]!)[t % 3]! := by
  induction l with
  | nil => intro t h; simp at h
  | cons x l ih =>
    intro t h
    have e : flat3 (x :: l) = c3 x ++ flat3 l := rfl
    rw [e]
    rcases Nat.lt_or_ge t 3 with h3 | h3
    · have h0 : t / 3 = 0 := by omega
      have h1 : t % 3 = t := by omega
      rw [h0, h1]
      simp only [List.getElem!_eq_getElem?_getD, List.getElem?_append_left (show t < (c3 x).length from h3)]
      simp
    · have h0 : t / 3 = (t - 3) / 3 + 1 := by omega
      have h1 : t % 3 = (t - 3) % 3 := by omega
      have := ih (t - 3) (by rw [List.length_cons] at h; omega)
      rw [h0, h1]
      simp only [List.getElem!_eq_getElem?_getD] at this ⊢
      rw [List.getElem?_append_right (by rw [c3_length]; exact h3), c3_length, this]
      simp
theorem holds_of_own3 {w : World} {base : Nat} {v : Value} {l : List E8} (h : w.ownsRow base 72 3 v l.length (flat3 l)) (hl : 0 < l.length) :
    ∃ g cap, v = .slice (some ⟨g, 0, none⟩) l.length cap ∧ base ≤ g ∧ g < w.heap.size ∧ l.length ≤ cap ∧ cap ≤ maxLen ∧ HoldsK c3 3 w g 0 l.toArray := by
  rcases h.2 with ⟨_, e0⟩ | ⟨g, cap, cur, rfl, hb, hg, hn, hm, hs, ht⟩
  · omega
  · refine ⟨g, cap, rfl, hb, (Array.getElem?_eq_some_iff.1 hg).1, hn, hm, fun t htl => ?_⟩
    have ht' : t < l.length * 3 := by simpa using htl
    rw [get_flatK c3 3 _ t (by simpa using ht')]
    refine ⟨?_, by simp [World.frozen?, hg]⟩
    rw [← flat3_get l t ht', ← ht, Nat.zero_add]
    have hlt : t < cur.size := by rw [hs]; have := Nat.mul_le_mul_right 3 hn; omega
    refine cells_at hg ?_
    simp [List.getElem!_eq_getElem?_getD, ht', hlt]
theorem reads_of_holds3 {w : World} {g : Nat} {d : Array E8} (h : HoldsK c3 3 w g 0 d) (hm : d.size ≤ 9223372036854775807) : Kd.C k72 w (some ⟨g, 0, none⟩) d.size (vals d.toList) := by
  refine ⟨by simp [vals], hm, fun hn => ⟨_, rfl, fun j x hj => ?_⟩⟩
  have hj' : j < d.size := by
    have := (List.getElem?_eq_some_iff.1 hj).1
    simpa [vals] using this
  have hx : x = d[j]!.1 := by
    simp only [vals, List.getElem?_map] at hj
    rw [Array.getElem?_toList, Array.getElem?_eq_getElem hj'] at hj
    simp at hj
    rw [getElem!_pos d j hj', ← hj]
  refine ⟨c3 d[j]!, c3_length _, by rw [hx]; exact k72_mk _ _, fun i u hu => ?_⟩
  have hi : i < 3 := by have := (List.getElem?_eq_some_iff.1 hu).1; rwa [c3_length] at this
  have := (h.cell hj' hi).1
  rw [List.getElem!_eq_getElem?_getD, hu] at this
  show w.cell? ((⟨g, 0, none⟩ : Addr).add (j * 3 + i)) = some u
  rw [add_plain]
  simpa using this
theorem below_sortK {w0 w : World} {g n : Nat} {d : Array E8} {os : Array Obj} (h : Below w0.heap.size w0 w) (hg : w0.heap.size ≤ g) : Below w0.heap.size w0 (sortWorldK c3 3 w g 0 n d os) := by
  unfold sortWorldK
  have h1 : Below w0.heap.size w0 (putRowK c3 3 (Go.Sort.ahead w n) g 0 d) := Lib.below_putRow (enc := id) h hg
  exact ⟨h1.os, h1.tape, h1.output, Nat.le_trans h1.size (by show _ ≤ (_ ++ os).size; rw [Array.size_append]; omega), fun k hk => (Go.Sort.heap_grow_old _ _ (Nat.lt_of_lt_of_le hk h1.size)).trans (h1.block k hk)⟩
theorem holds_sortK {w : World} {g n : Nat} {d0 d : Array E8} {os : Array Obj} (h : HoldsK c3 3 w g 0 d0) (hlt : g < w.heap.size) (hs : d.size = d0.size) : HoldsK c3 3 (sortWorldK c3 3 w g 0 n d os) g 0 d := by
  unfold sortWorldK
  have h1 := Go.Sort.holdsK_putRowK c3 3 (Go.Sort.ahead w n) g 0 d0 d (Go.Sort.holdsK_ahead c3 3 w n g 0 d0 h) hs
  exact Go.Sort.holdsK_grow c3 3 _ os g 0 d (by simpa [putRowK, Go.Sort.putRow, Go.Sort.mapBlock, Go.Sort.ahead] using hlt) h1

set_option maxRecDepth 100000 in
set_option maxHeartbeats 1000000 in
/-- slices.Collect. -/
theorem collect_calls (n : Nat) (hn : 3 ≤ n) (g : Nat) (lb : Array Value) (eg : ∀ args w, (callFunc g args).run Try.prog w = .ok (.enter g args) w) (l : List E8) (hN : l.length ≤ 1000000) (n₀ : Nat) (w : World) (hn₀ : n₀ ≤ w.heap.size) (w1 : World) (hw1 : Below w1.heap.size w1 w)
    (hseq : SeqStopsK Fence.wide (n - 1 - 1) Try.prog g lb encs3 (Below n₀) (fun ys => ys = l) (fun _ => True) l.length w1) :
    CallsIn Fence.wide n Try.prog 101 #[.func (.func g) #[] lb] w fun e w' => ∃ v, e = .returned v ∧ w'.ownsRow w.heap.size 72 3 v l.length (flat3 l) ∧ Below w.heap.size w w' := by
  have h1 : 1 ≤ n := by omega
  have hf : Fence.wide.fn 107 := trivial
  refine callsIn_of_wp Try.func101 rfl trivial ?_ rfl
  simp only [Try.ntmps101, List.size_toArray, List.length_cons, List.length_nil, Nat.reduceAdd, Nat.reduceSub, Array.replicate_succ, Array.replicate_zero, List.push_toArray, List.append_toArray, List.nil_append, List.cons_append]
  gi_wp2_with (gi_at_call 107; refine (appendSeq_calls (n - 1) (by omega) g lb eg l hN n₀ _ hn₀ w1 hw1 hseq).mono ?_; rintro e w' ⟨v, rfl, hrow, hb⟩)
  go_ret
  exact ⟨v, rfl, hrow, hb⟩

set_option maxRecDepth 100000 in
set_option maxHeartbeats 1000000 in
/-- slices.SortedFunc(slices.Values(s), by Low): a new row, sorted. -/
theorem sortedFunc_calls (Bs : Nat) (A : Option Addr) (c : Nat) (l : List E8) (hN : l.length ≤ 1000000) (w0 w : World) (hb0 : Below w0.heap.size w0 w) (hBs : Bs < w.heap.size) (hc : w.cell? ⟨Bs, 0, none⟩ = some (.slice A l.length c)) (hl : Kd.C k72 w0 A l.length (vals l)) :
    Calls Try.prog 94 #[.func (.func 103) #[] #[.pointer (some ⟨Bs, 0, none⟩)], .func (.func 96) #[] #[]] w fun e w' => ∃ (l' : List E8) (A' : Option Addr) (c' : Nat), e = .returned (.slice A' l'.length c') ∧ l'.Perm l ∧ l'.Pairwise (fun x y => x.1.f0 ≤ y.1.f0) ∧ l'.length ≤ c' ∧ Kd.C k72 w' A' l'.length (vals l') ∧ Below w.heap.size w w' := by
  have hst : SeqStopsK Fence.wide (8 - 1 - 1 - 1) Try.prog 103 #[.pointer (some ⟨Bs, 0, none⟩)] encs3 (Below w0.heap.size) (fun ys => ys = l) (fun _ => True) l.length w :=
    vals_stops _ (by omega) Bs w0.heap.size A c l w hBs hb0.size w0 rfl hb0 hc hl
  have hcol := collect_calls (8 - 1) (by omega) 103 #[.pointer (some ⟨Bs, 0, none⟩)] (enters_of Try.func103 (by kernel_rfl) rfl) l hN w0.heap.size w hb0.size w (Below.refl _ _) hst
  have hcol' : Calls Try.prog 101 #[.func (.func 103) #[] #[.pointer (some ⟨Bs, 0, none⟩)]] w fun e w' => ∃ v, e = .returned v ∧ w'.ownsRow w.heap.size 72 3 v l.length (flat3 l) ∧ Below w.heap.size w w' := (callsIn_wide (n := 7)).1 hcol
  have HCL := Lib.hid hcol'
  clear hst hcol hcol' hl hc
  rcases Nat.eq_zero_or_pos l.length with h0 | hpos
  · obtain rfl : l = [] := List.eq_nil_of_length_eq_zero h0
    have hno := fun p cap W => AnyF.slices_SortFunc_none Try.sortF p cap (.func (.func 96) #[] #[]) W
    change ∀ p cap W, Calls Try.prog 102 _ _ _ at hno
    have HNO := Lib.hid hno
    clear hno
    go_enter Try.func94, Try.ntmps94
    go_wp2_with (first | (go_at_call 101; refine HCL.out.mono ?_; rintro e w1 ⟨v, rfl, hrow, hb1⟩; obtain ⟨A', c', rfl⟩ := own_slice hrow) | (go_at_call 102; refine (HNO.out _ _ _).mono ?_; rintro e w2 ⟨rfl, rfl⟩))
    go_ret
    exact ⟨[], A', c', rfl, .refl _, .nil, Nat.zero_le _, ⟨rfl, by simp, fun h => absurd h (by simp)⟩, hb1⟩
  · have hcon := fun (g cap : Nat) (w1 : World) (hH : HoldsK c3 3 w1 g 0 l.toArray) (hlt : g < w1.heap.size) => AnyQ.slices_SortFunc Try.sortF 3 Try.isAgg72 Try.sizeOf72 c3 c3_length (fun x v hv => by simp [c3] at hv; rcases hv with rfl | rfl | rfl <;> rfl) cf8 swo8 96 #[] g 0 cap l.toArray w1 (enters_of Try.func96 (by kernel_rfl) rfl) (fun _ _ _ _ x y => cmp_calls x y _) hH hlt (by simp; omega)
    change ∀ (g cap : Nat) (w1 : World) (hH : HoldsK c3 3 w1 g 0 l.toArray) (hlt : g < w1.heap.size), Calls Try.prog 102 _ _ _ at hcon
    have HNO := Lib.hid hcon
    clear hcon
    have hsz : l.toArray.size = l.length := by simp
    go_enter Try.func94, Try.ntmps94
    go_wp2_with (first | (go_at_call 101; refine HCL.out.mono ?_; rintro e w1 ⟨v, rfl, hrow, hb1⟩; obtain ⟨g, cap, rfl, hbg, hgl, hlc, hcm, hH⟩ := holds_of_own3 hrow hpos; have HH := Lib.hid hH; clear hH hrow) | (go_at_call 102; rw [← hsz]; refine (HNO.out g cap _ HH.out hgl).mono ?_; rintro e w2 ⟨rfl, d', n, os, hp, hs, rfl⟩))
    go_ret
    have hds : d'.size = l.length := by rw [hp.1]; simp
    have hperm : d'.toList.Perm l := by
      have h1 := hp.2.2
      rw [show l.toArray.size = d'.size from hp.1.symm, Array.extract_size, hp.1, Array.extract_size] at h1
      simpa using h1
    have hH2 := holds_sortK (n := n) (d := d') (os := os) HH.out hgl (by rw [hp.1])
    have hlen : d'.toList.length = l.length := by rw [Array.length_toList, hds]
    refine ⟨d'.toList, some ⟨g, 0, none⟩, cap, by rw [hlen]; simp, hperm, ?_, by rw [hlen]; exact hlc, ?_, below_sortK hb1 hbg⟩
    · rw [List.pairwise_iff_getElem]
      intro i j hi hj hij
      have hj' : j < d'.size := by simpa using hj
      have h1 := hs i j (Nat.zero_le _) hij (by simpa [hds] using hj')
      rw [lt8] at h1
      have h2 := of_decide_eq_false h1
      rw [getElem!_pos d' j hj', getElem!_pos d' i (by omega)] at h2
      simp only [Array.getElem_toList]
      omega
    · have := reads_of_holds3 hH2 (by omega)
      rw [Array.length_toList]
      exact this

set_option maxRecDepth 100000 in
/-- slices.Values(s). -/
theorem values_calls (A : Option Addr) (n c : Nat) (w : World) :
    Calls Try.prog 95 #[.slice A n c] w fun e w' => e = .returned (.func (.func 103) #[] #[.pointer (some ⟨w.heap.size, 0, none⟩)]) ∧ w' = w.alloc (.cells #[.slice A n c] 31) := by
  go_enter Try.func95, Try.ntmps95
  go_wp2
  go_ret
  exact ⟨rfl, rfl⟩
end Go.Proofs.Ytolfamfgoafhlaa.M
