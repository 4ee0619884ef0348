import Derived.Test.YtolfamfgoafhlaaS3
import Derived.Test.YtolfamfgoafhlaaM7
import Derived.Laws.EntriesVeiled
namespace Go.Proofs.Ytolfamfgoafhlaa.M
open Go.RowKit Go.Proofs.YtolfamfgoafhlaaW.PrintWords Go.Proofs.YtolfamfgoafhlaaW.PrintLast
open Go.Proofs.Ytolfamfgoafhlaa.P Go.Proofs.Ytolfamfgoafhlaa.L

/-- The four blocks that right makes. -/
def rW (w : World) (kd : Int) (A1 A2 : Option Addr) (n1 c1 n2 c2 : Nat) (tg dst at_ many : Int) : World :=
  (((w.alloc (.cells #[.int .i64 kd, .slice A1 n1 c1, .slice A2 n2 c2, .int .i64 tg, .int .i64 dst] 33)).alloc (.cells #[.int .i64 at_] 3)).alloc (.cells #[.int .i64 many] 3)).alloc (.cells #[.func (.func 79) #[] #[.pointer (some ⟨w.heap.size + 1, 0, none⟩), .pointer (some ⟨w.heap.size + 2, 0, none⟩)]] 77)

set_option maxRecDepth 100000 in
set_option maxHeartbeats 1000000 in
theorem right_eat (l : List E8) (fs : List Int) (tg dst at_ many : Int) (A1 A2 : Option Addr) (c1 c2 : Nat) (w : World) (hN : l.length ≤ 1000000) (h1 : Kd.C k72 w A1 l.length (vals l)) (h2 : (Kd.int .i64).C w A2 fs.length fs) :
    Calls Try.prog 55 #[.agg #[.int .i64 1, .slice A1 l.length c1, .slice A2 fs.length c2, .int .i64 tg, .int .i64 dst], .int .i64 at_, .int .i64 many] w fun e w' => e = .returned (.bool (decide (fs = []) && (decide (dst = 0) && edgesOk (l.map ed8) many))) ∧ Below w.heap.size w w' := by
  have hB : Below w.heap.size w (rW w 1 A1 A2 l.length c1 fs.length c2 tg dst at_ many) := by
    unfold rW
    exact ((((Below.refl _ _).alloc (Nat.le_refl _) _).alloc (by simp) _).alloc (by simp; omega) _).alloc (by simp; omega) _
  have HB := Lib.hid hB
  have H1 := Lib.hid h1
  have hf2 := h2.2.1
  clear hB h1 h2
  unfold rW at HB
  rcases fs with _ | ⟨f, fs⟩
  · by_cases hd : dst = 0
    · subst hd
      go_enter Try.func55, Try.ntmps55
      go_wp2_with (first | (go_at_call 80; refine (eats_calls A1 c1 l hN many _ (Kd.C_below H1.out HB.out)).mono ?_; rintro e w2 ⟨rfl, hb2⟩))
      go_ret
      exact ⟨by simp, HB.out.trans (hb2.mono HB.out.size)⟩
    · have hd' : (dst == 0) = false := by simpa using hd
      have hr : decide (dst = 0) = false := by simpa using hd
      have HR := Lib.hid hr
      clear hr hd
      go_enter Try.func55, Try.ntmps55
      go_wp2
      go_ret
      exact ⟨by rw [HR.out]; simp, HB.out⟩
  · have hd' : (((f :: fs).length : Int) == 0) = false := by simp; try omega
    have hl0 : (0 : Int) < ((f :: fs).length : Int) := by simp
    generalize hg : (f :: fs).length = q at *
    have hne : decide ((f :: fs) = []) = false := by simp
    have HR := Lib.hid hne
    clear hne hg
    go_enter Try.func55, Try.ntmps55
    go_wp2
    go_ret
    exact ⟨by rw [HR.out]; simp, HB.out⟩

theorem rW_cells (w : World) (kd : Int) (A1 A2 : Option Addr) (n1 c1 n2 c2 : Nat) (tg dst at_ many : Int) :
    (rW w kd A1 A2 n1 c1 n2 c2 tg dst at_ many).cell? ⟨w.heap.size + 1, 0, none⟩ = some (.int .i64 at_) ∧ (rW w kd A1 A2 n1 c1 n2 c2 tg dst at_ many).cell? ⟨w.heap.size + 2, 0, none⟩ = some (.int .i64 many) ∧ (rW w kd A1 A2 n1 c1 n2 c2 tg dst at_ many).cell? ⟨w.heap.size + 3, 0, none⟩ = some (.func (.func 79) #[] #[.pointer (some ⟨w.heap.size + 1, 0, none⟩), .pointer (some ⟨w.heap.size + 2, 0, none⟩)]) := by
  unfold rW
  generalize hw1 : w.alloc (.cells #[.int .i64 kd, .slice A1 n1 c1, .slice A2 n2 c2, .int .i64 tg, .int .i64 dst] 33) = w1
  have s1 : w1.heap.size = w.heap.size + 1 := by rw [← hw1]; simp
  generalize hw2 : w1.alloc (.cells #[.int .i64 at_] 3) = w2
  have s2 : w2.heap.size = w.heap.size + 2 := by rw [← hw2]; simp [s1]
  have x2 : w2.heap[w.heap.size + 1]? = some (.cells #[.int .i64 at_] 3 (0, 0)) := by rw [← hw2, ← s1]; exact World.alloc_heap_new w1 _
  generalize hw3 : w2.alloc (.cells #[.int .i64 many] 3) = w3
  have s3 : w3.heap.size = w.heap.size + 3 := by rw [← hw3]; simp [s2]
  have x3 : w3.heap[w.heap.size + 2]? = some (.cells #[.int .i64 many] 3 (0, 0)) := by rw [← hw3, ← s2]; exact World.alloc_heap_new w2 _
  have y3 : w3.heap[w.heap.size + 1]? = some (.cells #[.int .i64 at_] 3 (0, 0)) := by rw [← hw3]; exact (Below.heap_alloc w2 _ _ (by omega)).trans x2
  generalize hv : (Value.func (.func 79) #[] #[.pointer (some ⟨w.heap.size + 1, 0, none⟩), .pointer (some ⟨w.heap.size + 2, 0, none⟩)]) = fv
  have z1 := (Below.heap_alloc w3 (.cells #[fv] 77) (w.heap.size + 1) (by omega)).trans y3
  have z2 := (Below.heap_alloc w3 (.cells #[fv] 77) (w.heap.size + 2) (by omega)).trans x3
  have z3 := World.alloc_heap_new w3 (.cells #[fv] 77)
  rw [s3] at z3
  exact ⟨cells_at z1 rfl, cells_at z2 rfl, cells_at z3 rfl⟩

theorem any_not (l : List Int) (p : Int → Bool) : (!l.any fun x => !p x) = l.all p := by
  induction l with
  | nil => rfl
  | cons x l ih => simp only [List.any_cons, List.all_cons, Bool.not_or, Bool.not_not, ih]

set_option maxRecDepth 100000 in
set_option maxHeartbeats 1000000 in
theorem right_fork (l : List E8) (fs : List Int) (tg dst at_ many : Int) (A1 A2 : Option Addr) (c1 c2 : Nat) (w : World) (hN : l.length ≤ 1000000) (h2 : (Kd.int .i64).C w A2 fs.length fs) :
    Calls Try.prog 55 #[.agg #[.int .i64 2, .slice A1 l.length c1, .slice A2 fs.length c2, .int .i64 tg, .int .i64 dst], .int .i64 at_, .int .i64 many] w fun e w' => e = .returned (.bool (decide (l = []) && (decide (dst = 0) && fs.all (upB at_ many)))) ∧ Below w.heap.size w w' := by
  have hB : Below w.heap.size w (rW w 2 A1 A2 l.length c1 fs.length c2 tg dst at_ many) := by
    unfold rW
    exact ((((Below.refl _ _).alloc (Nat.le_refl _) _).alloc (by simp) _).alloc (by simp; omega) _).alloc (by simp; omega) _
  have hc := rW_cells w 2 A1 A2 l.length c1 fs.length c2 tg dst at_ many
  have HB := Lib.hid hB
  have HC := Lib.hid hc
  have H2 := Lib.hid h2
  clear hB h2 hc
  unfold rW at HB HC
  rcases l with _ | ⟨f, l⟩
  · by_cases hd : dst = 0
    · subst hd
      have ha := any_not fs (upB at_ many)
      have HA := Lib.hid ha
      clear ha
      go_enter Try.func55, Try.ntmps55
      go_wp2_with (first | (go_at_call 57; refine (contains81 (fun x => !upB at_ many x) (.pointer (some ⟨w.heap.size + 3, 0, none⟩)) A2 c2 fs _ (Kd.C_below H2.out HB.out) (fun x _ => notup_calls at_ many x _ _ _ _ HC.out.1 HC.out.2.1 HC.out.2.2)).mono ?_; rintro e w2 ⟨rfl, rfl⟩))
      go_ret
      exact ⟨by rw [← HA.out]; simp, HB.out⟩
    · have hd' : (dst == 0) = false := by simpa using hd
      have hr : decide (dst = 0) = false := by simpa using hd
      have HR := Lib.hid hr
      clear hr hd
      go_enter Try.func55, Try.ntmps55
      go_wp2
      go_ret
      exact ⟨by rw [HR.out]; simp, HB.out⟩
  · have hd' : (((f :: l).length : Int) == 0) = false := by simp; try omega
    have hl0 : (0 : Int) < ((f :: l).length : Int) := by simp
    have hne : decide ((f :: l) = []) = false := by simp
    have HR := Lib.hid hne
    clear hne
    generalize hg : (f :: l).length = q at *
    clear hg
    go_enter Try.func55, Try.ntmps55
    go_wp2
    go_ret
    exact ⟨by rw [HR.out]; simp, HB.out⟩

set_option maxRecDepth 100000 in
set_option maxHeartbeats 1000000 in
theorem right_mark (l : List E8) (fs : List Int) (tg dst at_ many : Int) (A1 A2 : Option Addr) (c1 c2 : Nat) (w : World) (hN : l.length ≤ 1000000) (hF : fs.length ≤ 9223372036854775807 - 1000000) :
    Calls Try.prog 55 #[.agg #[.int .i64 3, .slice A1 l.length c1, .slice A2 fs.length c2, .int .i64 tg, .int .i64 dst], .int .i64 at_, .int .i64 many] w fun e w' => e = .returned (.bool (decide (l = []) && (decide (fs = []) && upB at_ many dst))) ∧ Below w.heap.size w w' := by
  have hB : Below w.heap.size w (rW w 3 A1 A2 l.length c1 fs.length c2 tg dst at_ many) := by
    unfold rW
    exact ((((Below.refl _ _).alloc (Nat.le_refl _) _).alloc (by simp) _).alloc (by simp; omega) _).alloc (by simp; omega) _
  have hc := rW_cells w 3 A1 A2 l.length c1 fs.length c2 tg dst at_ many
  have HB := Lib.hid hB
  have HC := Lib.hid hc
  clear hB hc
  unfold rW at HB HC
  by_cases he : l = [] ∧ fs = []
  · obtain ⟨rfl, rfl⟩ := he
    go_enter Try.func55, Try.ntmps55
    go_wp2_with (first | (go_at_call 79; refine (up_calls at_ many dst _ _ _ HC.out.1 HC.out.2.1).mono ?_; rintro e w2 ⟨rfl, rfl⟩))
    go_ret
    exact ⟨by simp, HB.out⟩
  · have hr : (decide (l = []) && (decide (fs = []) && upB at_ many dst)) = false := by
      rw [Bool.eq_false_iff]; intro h; simp at h; exact he ⟨h.1, h.2.1⟩
    have hs : ((l.length : Int) + (fs.length : Int) == 0) = false := by
      rw [beq_eq_false_iff_ne]
      intro h
      have h1 : l.length = 0 := by omega
      have h2 : fs.length = 0 := by omega
      exact he ⟨List.eq_nil_of_length_eq_zero h1, List.eq_nil_of_length_eq_zero h2⟩
    have HR := Lib.hid hr
    clear hr he
    go_enter Try.func55, Try.ntmps55
    go_wp2
    go_ret
    exact ⟨by rw [HR.out]; rfl, HB.out⟩

set_option maxRecDepth 100000 in
set_option maxHeartbeats 1000000 in
theorem right_end (l : List E8) (fs : List Int) (tg dst at_ many : Int) (A1 A2 : Option Addr) (c1 c2 : Nat) (w : World) (hN : l.length ≤ 1000000) (hF : fs.length ≤ 9223372036854775807 - 1000000) :
    Calls Try.prog 55 #[.agg #[.int .i64 4, .slice A1 l.length c1, .slice A2 fs.length c2, .int .i64 tg, .int .i64 dst], .int .i64 at_, .int .i64 many] w fun e w' => e = .returned (.bool (decide (l = []) && (decide (fs = []) && decide (dst = 0)))) ∧ Below w.heap.size w w' := by
  have hB : Below w.heap.size w (rW w 4 A1 A2 l.length c1 fs.length c2 tg dst at_ many) := by
    unfold rW
    exact ((((Below.refl _ _).alloc (Nat.le_refl _) _).alloc (by simp) _).alloc (by simp; omega) _).alloc (by simp; omega) _
  have HB := Lib.hid hB
  clear hB
  unfold rW at HB
  by_cases he : l = [] ∧ fs = []
  · obtain ⟨rfl, rfl⟩ := he
    by_cases hd : dst = 0
    · subst hd
      go_enter Try.func55, Try.ntmps55
      go_wp2
      go_ret
      exact ⟨by simp, HB.out⟩
    · have hd' : (dst == 0) = false := by simpa using hd
      have hr : decide (dst = 0) = false := by simpa using hd
      have HR := Lib.hid hr
      clear hr hd
      go_enter Try.func55, Try.ntmps55
      go_wp2
      go_ret
      exact ⟨by rw [HR.out]; simp, HB.out⟩
  · have hr : (decide (l = []) && (decide (fs = []) && decide (dst = 0))) = false := by
      rw [Bool.eq_false_iff]; intro h; simp at h; exact he ⟨h.1, h.2.1⟩
    have hs : ((l.length : Int) + (fs.length : Int) == 0) = false := by
      rw [beq_eq_false_iff_ne]
      intro h
      have h1 : l.length = 0 := by omega
      have h2 : fs.length = 0 := by omega
      exact he ⟨List.eq_nil_of_length_eq_zero h1, List.eq_nil_of_length_eq_zero h2⟩
    have HR := Lib.hid hr
    clear hr he
    go_enter Try.func55, Try.ntmps55
    go_wp2
    go_ret
    exact ⟨by rw [HR.out]; rfl, HB.out⟩

set_option maxRecDepth 100000 in
set_option maxHeartbeats 1000000 in
theorem right_none (kd : Int) (k1 : ¬ kd = 1) (k2 : ¬ kd = 2) (k3 : ¬ kd = 3) (k4 : ¬ kd = 4) (n1 n2 : Nat) (tg dst at_ many : Int) (A1 A2 : Option Addr) (c1 c2 : Nat) (w : World) :
    Calls Try.prog 55 #[.agg #[.int .i64 kd, .slice A1 n1 c1, .slice A2 n2 c2, .int .i64 tg, .int .i64 dst], .int .i64 at_, .int .i64 many] w fun e w' => e = .returned (.bool false) ∧ Below w.heap.size w w' := by
  have hB : Below w.heap.size w (rW w kd A1 A2 n1 c1 n2 c2 tg dst at_ many) := by
    unfold rW
    exact ((((Below.refl _ _).alloc (Nat.le_refl _) _).alloc (by simp) _).alloc (by simp; omega) _).alloc (by simp; omega) _
  have HB := Lib.hid hB
  clear hB
  unfold rW at HB
  have e1 : (kd == 1) = false := by simpa using k1
  have e2 : (kd == 2) = false := by simpa using k2
  have e3 : (kd == 3) = false := by simpa using k3
  have e4 : (kd == 4) = false := by simpa using k4
  clear k1 k2 k3 k4
  go_enter Try.func55, Try.ntmps55
  go_wp2
  go_ret
  exact ⟨rfl, HB.out⟩
end Go.Proofs.Ytolfamfgoafhlaa.M
