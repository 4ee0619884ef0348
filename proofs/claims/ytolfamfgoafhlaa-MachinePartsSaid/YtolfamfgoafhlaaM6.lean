import Derived.Test.YtolfamfgoafhlaaM5
import Derived.Test.YtolfamfgoafhlaaM7
import Derived.StillTailTactics
namespace Go.Proofs.Ytolfamfgoafhlaa.M
open Go.RowKit Go.Proofs.YtolfamfgoafhlaaW.PrintWords Go.Proofs.YtolfamfgoafhlaaW.PrintLast Go.Proofs.YtolfamfgoafhlaaW.PrintMore
open Go.Proofs.Ytolfamfgoafhlaa.P Go.Proofs.Ytolfamfgoafhlaa.L

set_option maxRecDepth 100000 in
/-- machine.Close. -/
theorem close_calls (m : List S33) (hf : Fit m) (A A1 : Option Addr) (c c1 : Nat) (at_ : List Int) (w : World) (hC : Kd.C k33 w A m.length m) (hA : (Kd.int .i64).C w A1 at_.length at_) (hwf : ∀ x ∈ at_, (Lit.int .i64 x).wf = true) :
    Calls Try.prog 21 #[.slice A m.length c, .slice A1 at_.length c1] w fun e w' => ∃ v, e = .returned v ∧ Kd.R (Kd.int .i64) 3 w' w.heap.size (fun _ => True) v (closeL (N33 m) at_) ∧ Below w.heap.size w w' := by
  have HF := Lib.hid hf
  clear hf
  have HC := Lib.hid hC
  have HA := Lib.hid hA
  have HW := Lib.hid hwf
  clear hC hA hwf
  cases hM : mayB (N33 m) with
  | true =>
    have HM := Lib.hid hM
    clear hM
    go_enter Try.func21, Try.ntmps21
    go_wp2_with (first | (go_at_call 23; refine (may_calls m HF.out A c _ HC.out).mono ?_; rw [HM.out]; rintro e w1 ⟨rfl, hb1⟩) | (go_at_call 54; refine (closed_calls m HM.out A A1 c c1 at_ _ (Kd.C_below HC.out hb1) (Kd.C_below HA.out hb1) HW.out).mono ?_; rintro e w2 ⟨v, rfl, hv, hb2⟩))
    go_ret
    exact ⟨v, rfl, Kd.R_lower hv hb1.size, hb1.trans (hb2.mono hb1.size)⟩
  | false =>
    have HM := Lib.hid hM
    clear hM
    have hr : closeL (N33 m) at_ = [] := by unfold closeL; rw [HM.out]; rfl
    have HR := Lib.hid hr
    clear hr
    go_enter Try.func21, Try.ntmps21
    go_wp2_with (first | (go_at_call 23; refine (may_calls m HF.out A c _ HC.out).mono ?_; rw [HM.out]; rintro e w1 ⟨rfl, hb1⟩))
    go_ret
    rw [HR.out]
    exact ⟨_, rfl, Kd.R_nil _ _ _ _ _, hb1⟩

set_option maxRecDepth 100000 in
/-- machine.Step. -/
theorem step_calls (m : List S33) (hf : Fit m) (A A1 : Option Addr) (c c1 : Nat) (at_ : List Int) (ch : Int) (w : World) (hC : Kd.C k33 w A m.length m) (hA : (Kd.int .i64).C w A1 at_.length at_) :
    Calls Try.prog 27 #[.slice A m.length c, .slice A1 at_.length c1, .int .u8 ch] w fun e w' => ∃ v, e = .returned v ∧ Kd.R (Kd.int .i64) 3 w' w.heap.size (fun _ => True) v (stepL (N33 m) at_ ch) ∧ Below w.heap.size w w' := by
  have HF := Lib.hid hf
  clear hf
  have HC := Lib.hid hC
  have HA := Lib.hid hA
  clear hC hA
  cases hM : mayB (N33 m) with
  | true =>
    have HM := Lib.hid hM
    clear hM
    go_enter Try.func27, Try.ntmps27
    go_wp2_with (first | (go_at_call 23; refine (may_calls m HF.out A c _ HC.out).mono ?_; rw [HM.out]; rintro e w1 ⟨rfl, hb1⟩) | (go_at_call 56; refine (stepped_calls m HM.out A A1 c c1 at_ ch _ (Kd.C_below HC.out hb1) (Kd.C_below HA.out hb1)).mono ?_; rintro e w2 ⟨v, rfl, hv, hb2⟩))
    go_ret
    exact ⟨v, rfl, Kd.R_lower hv hb1.size, hb1.trans (hb2.mono hb1.size)⟩
  | false =>
    have HM := Lib.hid hM
    clear hM
    have hr : stepL (N33 m) at_ ch = [] := by unfold stepL closeL; rw [HM.out]; rfl
    have HR := Lib.hid hr
    clear hr
    go_enter Try.func27, Try.ntmps27
    go_wp2_with (first | (go_at_call 23; refine (may_calls m HF.out A c _ HC.out).mono ?_; rw [HM.out]; rintro e w1 ⟨rfl, hb1⟩))
    go_ret
    rw [HR.out]
    exact ⟨_, rfl, Kd.R_nil _ _ _ _ _, hb1⟩

set_option maxRecDepth 100000 in
/-- The closure of Accepts: is a node an end? -/
theorem isEnd_calls (m : List S33) (A : Option Addr) (c b : Nat) (x : Int) (w : World) (hC : Kd.C k33 w A m.length m) (hb : w.cell? ⟨b, 0, none⟩ = some (.slice A m.length c)) (h0 : 0 ≤ x) (h1 : x < (m.length : Int)) :
    Calls Try.prog 58 #[.int .i64 x, .pointer (some ⟨b, 0, none⟩)] w fun e w' => e = .returned (.bool (decide ((nd (N33 m) x).kind = 4))) ∧ w = w' := by
  obtain ⟨ad, A1, c1, A2, c2, eA, hx0, hx1, hx2, hx3, hx4, hl1, hi1, hl2, hi2⟩ := at_T33 hC x h0 h1
  have e1 : (nd (N33 m) x).kind = (rd_T33 m x).f0 := by rw [nd_N33 m x (by omega)]; rfl
  rw [e1]
  subst eA
  clear hC hx1 hx2 hx3 hx4 hl1 hi1 hl2 hi2 e1
  generalize (rd_T33 m x).f0 = kd at *
  by_cases hk : kd = 4
  · subst hk
    go_enter Try.func58, Try.ntmps58
    go_wp2
    go_ret
    exact ⟨rfl, rfl⟩
  · have hk' : (kd == 4) = false := by simpa using hk
    have hd : decide (kd = 4) = false := by simpa using hk
    have HD := Lib.hid hd
    clear hd hk
    go_enter Try.func58, Try.ntmps58
    go_wp2
    go_ret
    exact ⟨by rw [HD.out]; rfl, rfl⟩

theorem box_new (w : World) (v : Value) (t : TypeId) : (w.alloc (.cells #[v] t)).cell? ⟨w.heap.size, 0, none⟩ = some v := by
  have := cell_one_new w v t 0 v rfl
  rwa [add_plain] at this
theorem int_one (w : World) (x : Int) : (Kd.int .i64).C (w.alloc (.cells #[.int .i64 x] 3)) (some ⟨w.heap.size, 0, none⟩) 1 [x] := by
  refine Kd.C_of_reads (enc := Value.int .i64) (d := (0 : Int)) (h1 := fun _ => rfl) ⟨rfl, by simp, fun _ => ⟨_, rfl, fun j hj => ?_⟩⟩
  obtain rfl : j = 0 := by omega
  exact box_new w (.int .i64 x) 3

/-- The bytes of a text, up to the k-th. -/
def upto (s : ByteArray) (k : Nat) : List Int := (List.range k).map (fun (i : Nat) => bt s (i : Int))
def bts (s : ByteArray) : List Int := upto s s.size
theorem run_snoc (m : List Nd) (s : ByteArray) (k : Nat) : runL m (upto s (k + 1)) = stepL m (runL m (upto s k)) (bt s (k : Int)) := by
  unfold runL upto
  rw [List.range_succ, List.map_append, List.foldl_append]
  rfl
theorem runL_valid {m : List Nd} {l : List Int} {j : Int} (hj : j ∈ runL m l) : valid m j := by
  unfold runL at hj
  rcases List.eq_nil_or_concat l with rfl | ⟨l', x, rfl⟩
  · exact closeL_valid hj
  · rw [List.concat_eq_append, List.foldl_append] at hj
    exact closeL_valid hj

set_option maxRecDepth 100000 in
/-- machine.Accepts. -/
theorem accepts_calls (m : List S33) (hf : Fit m) (A : Option Addr) (c : Nat) (s : ByteArray) (w : World) (hC : Kd.C k33 w A m.length m) (hs : s.size ≤ 1000000000) :
    Calls Try.prog 24 #[.slice A m.length c, .string s] w fun e w' => e = .returned (.bool (acceptsB (N33 m) (bts s))) ∧ Below w.heap.size w w' := by
  have HF := Lib.hid hf
  clear hf
  have HC := Lib.hid hC
  clear hC
  have hb0 : Below w.heap.size w (w.alloc (.cells #[.slice A m.length c] 26)) := (Below.refl _ _).alloc (Nat.le_refl _) _
  have HB0 := Lib.hid hb0
  clear hb0
  have HX0 := Lib.hid (box_new w (.slice A m.length c) 26)
  cases hM : mayB (N33 m) with
  | true =>
    have HM := Lib.hid hM
    clear hM
    go_enter Try.func24, Try.ntmps24
    go_wp2_with (first | (go_at_call 23; refine (may_calls m HF.out A c _ (Kd.C_below HC.out HB0.out)).mono ?_; rw [HM.out]; rintro e w1 ⟨rfl, hb1⟩; have hx1 : w1.cell? ⟨w.heap.size, 0, none⟩ = some (.slice A m.length c) := (hb1.cell (p := ⟨w.heap.size, 0, none⟩) (by simp)).trans HX0.out; have hB1 : Below w.heap.size w w1 := HB0.out.trans (hb1.mono (by simp))) | (go_at_call 54; refine (closed_calls m HM.out A (some ⟨w1.heap.size, 0, none⟩) c 1 [0] _ (Kd.C_below HC.out (hB1.alloc hB1.size _)) (int_one w1 0) (by simp; decide)).mono ?_; rintro e w2 ⟨v, rfl, hv, hb2⟩))
    have hr0 := Kd.R_reads hv
    obtain ⟨A5, c5, rfl, hl5, hc5⟩ := hr0
    have hB2 : Below w.heap.size w w2 := (hB1.alloc hB1.size _).trans (hb2.mono (by have := hB1.size; simp; omega))
    have hx2 : w2.cell? ⟨w.heap.size, 0, none⟩ = some (.slice A m.length c) := (hb2.cell (p := ⟨w.heap.size, 0, none⟩) (by have := hb1.size; simp at this ⊢; omega)).trans ((((Below.refl _ w1).alloc (Nat.le_refl _) _).cell (p := ⟨w.heap.size, 0, none⟩) (by have := hb1.size; simp at this ⊢; omega)).trans hx1)
    clear hb2 hx1 hb1
    have HC5 := Lib.hid hc5
    have HB2 := Lib.hid hB2
    clear hc5 hB2 hv hB1
    go_loopw [5, 15] (fun v5 v wr => ∃ (k : Nat) (A6 : Option Addr) (c6 : Nat), k ≤ s.size ∧ v = .int .i64 k ∧ v5 = .slice A6 (runL (N33 m) (upto s k)).length c6 ∧ Aside0 ((runL (N33 m) (upto s k)).length ≤ c6) ∧ Aside0 ((Kd.int .i64).C wr A6 (runL (N33 m) (upto s k)).length (runL (N33 m) (upto s k))) ∧ Aside0 (wr.cell? ⟨w.heap.size, 0, none⟩ = some (.slice A m.length c)) ∧ Aside0 (Below w.heap.size w wr)) (fun _ v _ => s.size - (RowKit.intOf v).toNat)
    case atStart => exact ⟨0, A5, c5, Nat.zero_le _, rfl, rfl, ⟨hl5⟩, ⟨HC5.out⟩, ⟨hx2⟩, ⟨HB2.out⟩⟩
    case round =>
      obtain ⟨k, A6, c6, hk, rfl, rfl, HL6, HC6, HX6, HB6⟩ := hrel
      clear hx2
      by_cases hlt : k < s.size
      · have hx := HX6.out
        have hbt := bt_at s (k : Int)
        simp only [Int.toNat_natCast] at hbt
        go_wp2
        go_still_tail 5, (by kernel_rfl)
        change wpList _ _ _ _ _ wr.drew
        have hCd : (Kd.int .i64).C wr.drew A6 (runL (N33 m) (upto s k)).length (runL (N33 m) (upto s k)) := Kd.C_below HC6.out (below_drew (Below.refl _ _))
        have hBd : Below w.heap.size w wr.drew := HB6.out.drew
        have hxd : wr.drew.cell? ⟨w.heap.size, 0, none⟩ = some (.slice A m.length c) := HX6.out
        clear hx
        generalize wr.drew = w4 at *
        have HCd := Lib.hid hCd
        have HBd := Lib.hid hBd
        have HXd := Lib.hid hxd
        clear hCd hBd hxd
        go_wp2_with (first | (go_at_call 56; refine (stepped_calls m HM.out A A6 c c6 _ (bt s k) _ (Kd.C_below HC.out HBd.out) HCd.out).mono ?_; rintro e w5 ⟨v, rfl, hv, hb5⟩))
        obtain ⟨A7, c7, rfl, hl7, hc7⟩ := Kd.R_reads hv
        have hX7 := (hb5.cell (World.block_lt_of_cell? w4 _ HXd.out)).trans HXd.out
        have hB7 := HBd.out.trans (hb5.mono HBd.out.size)
        rw [← run_snoc] at hl7 hc7
        rw [← run_snoc]
        go_roundw
        case rel => exact ⟨k + 1, A7, c7, by omega, by go_num, rfl, ⟨hl7⟩, ⟨hc7⟩, ⟨hX7⟩, ⟨hB7⟩⟩
        case measure => simp [RowKit.intOf]; omega
      · obtain rfl : k = s.size := by omega
        have hx := HX6.out
        have hend : acceptsB (N33 m) (bts s) = (runL (N33 m) (upto s s.size)).any (fun a => decide ((nd (N33 m) a).kind = 4)) := rfl
        have HE := Lib.hid hend
        clear hend
        go_wp2_with (first | (go_at_call 57; refine (contains58 (fun a => decide ((nd (N33 m) a).kind = 4)) (.pointer (some ⟨w.heap.size, 0, none⟩)) A6 c6 _ _ HC6.out (fun x hx => isEnd_calls m A c w.heap.size x _ (Kd.C_below HC.out HB6.out) HX6.out (runL_valid hx).1 (by have := (runL_valid hx).2; rwa [N33_length] at this))).mono ?_; rintro e w5 ⟨rfl, rfl⟩))
        go_ret
        exact ⟨by rw [HE.out]; rfl, HB6.out⟩
  | false =>
    have hr : acceptsB (N33 m) (bts s) = false := by
      have h1 : ∀ l : List Int, runL (N33 m) l = [] := fun l => by
        unfold runL
        rcases List.eq_nil_or_concat l with rfl | ⟨l', x, rfl⟩
        · show closeL _ _ = []
          unfold closeL; rw [hM]; rfl
        · rw [List.concat_eq_append, List.foldl_append]
          show closeL _ _ = []
          unfold closeL; rw [hM]; rfl
      unfold acceptsB; rw [h1]; rfl
    have HM := Lib.hid hM
    have HR := Lib.hid hr
    clear hM hr
    go_enter Try.func24, Try.ntmps24
    go_wp2_with (first | (go_at_call 23; refine (may_calls m HF.out A c _ (Kd.C_below HC.out HB0.out)).mono ?_; rw [HM.out]; rintro e w1 ⟨rfl, hb1⟩))
    go_ret
    exact ⟨by rw [HR.out]; rfl, HB0.out.trans (hb1.mono (by simp))⟩
end Go.Proofs.Ytolfamfgoafhlaa.M
