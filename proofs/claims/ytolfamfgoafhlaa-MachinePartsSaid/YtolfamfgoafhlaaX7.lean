import Derived.Test.YtolfamfgoafhlaaK1
import Derived.Test.YtolfamfgoafhlaaB1
import Derived.Test.YtolfamfgoafhlaaR5
namespace Go.Proofs.Ytolfamfgoafhlaa.M
open Go.RowKit Go.Proofs.YtolfamfgoafhlaaW.PrintWords Go.Proofs.YtolfamfgoafhlaaW.PrintLast Go.Proofs.YtolfamfgoafhlaaW.PrintMore
open Go.Proofs.Ytolfamfgoafhlaa.P Go.Proofs.Ytolfamfgoafhlaa.L

/-- Is one of the first k nodes an end? -/
def endsTo (l : List S46) (k : Nat) : Bool := (l.take k).any (fun x => decide (x.f0 = 4))
theorem endsTo_succ (l : List S46) (k : Nat) (h : k < l.length) : endsTo l (k + 1) = (endsTo l k || decide ((rd_T46 l (k : Int)).f0 = 4)) := by
  unfold endsTo
  rw [List.take_succ_eq_append_getElem h, List.any_append, rd46n l k h]
  simp
theorem endsTo_all {l : List S46} {a : Int} (hv : valid (N46 l) a) (h : (nd (N46 l) a).kind = 4) : endsTo l l.length = true := by
  unfold valid at hv
  rw [N46_length] at hv
  obtain ⟨i, rfl⟩ := Int.eq_ofNat_of_zero_le hv.1
  have hi : i < l.length := by omega
  rw [nd_N46 l i hi] at h
  unfold endsTo
  rw [List.take_length, List.any_eq_true]
  exact ⟨l[i], List.getElem_mem hi, decide_eq_true h⟩
/-- Is one of the first k of these nodes an end? -/
def endTo (l : List S46) (at_ : List Int) (k : Nat) : Bool := (at_.take k).any (fun a => decide ((rd_T46 l a).f0 = 4))
theorem endTo_succ (l : List S46) (at_ : List Int) (k : Nat) (h : k < at_.length) : endTo l at_ (k + 1) = (endTo l at_ k || decide ((rd_T46 l (rd at_ (k : Int))).f0 = 4)) := by
  unfold endTo
  rw [List.take_succ_eq_append_getElem h, List.any_append, rdn at_ k h]
  simp
theorem endTo_all (l : List S46) (at_ : List Int) (hv : ∀ a ∈ at_, valid (N46 l) a) : endTo l at_ at_.length = endedB (N46 l) at_ := by
  unfold endTo endedB
  rw [List.take_length]
  induction at_ with
  | nil => rfl
  | cons a tl ih =>
    rw [List.any_cons, List.any_cons, ih (fun b hb => hv b (List.mem_cons_of_mem _ hb))]
    have h := hv a List.mem_cons_self
    unfold valid at h
    rw [N46_length] at h
    obtain ⟨i, rfl⟩ := Int.eq_ofNat_of_zero_le h.1
    have hi : i < l.length := by omega
    rw [nd_N46 l i hi, rd46n l i hi]
    rfl
theorem bts_take (s : ByteArray) (i : Nat) (h : i ≤ s.size) : bts (s.extract 0 i) = upto s i := by
  have hs : (s.extract 0 i).size = i := by rw [ByteArray.size_extract]; omega
  unfold bts upto
  rw [hs]
  refine List.map_congr_left (fun j hj => ?_)
  have hj' : j < i := by simpa using hj
  have e1 := bt_at (s.extract 0 i) (j : Int) (by rw [Int.toNat_natCast, hs]; exact hj')
  have e2 := bt_at s (j : Int) (by rw [Int.toNat_natCast]; omega)
  rw [← e1, ← e2]
  simp only [Int.toNat_natCast]
  congr 2
  simp [ByteArray.getElem_extract]

set_option maxRecDepth 100000 in
set_option maxHeartbeats 2000000 in
theorem machineParts_main (w : World) (A : Option Addr) (c : Nat) (l : List S46) (hc : l.length ≤ c) (hC : Kd.C k46 w A l.length l) (hok : ∀ y ∈ l, Ok46 y) (s : ByteArray)
    (hF : fewB l = true) (hM : mayB (N46 l) = true) (g1 : s.size ≤ 200) (R : Nat → List Int) (hR0 : closeL (N46 l) [0] = R 0) (hRs : ∀ k : Nat, stepL (N46 l) (R k) (bt s (k : Int)) = R (k + 1)) (hRl : ∀ k, (R k).length ≤ 100) (hRv : ∀ k, ∀ a ∈ R k, 0 ≤ a ∧ a < (l.length : Int))
    (E : Nat → Bool) (hE : ∀ k : Nat, k ≤ s.size → acceptsB (N46 l) (bts (s.extract 0 k)) = E k) (hE2 : ∀ k, endTo l (R k) (R k).length = E k) (b : Bool) (hb : endsTo l l.length = b) (hEb : ∀ k, E k = true → b = true) :
    Calls Try.prog 7 #[.slice A l.length c, .string s] w fun e w' => e = .returned (.bool true) ∧ Below w.heap.size w w' := by
  have b1 : decide ((s.size : Int) > 200) = false := decide_eq_false (by omega)
  have HC := Lib.hid hC
  have HO := Lib.hid hok
  have Hc := Lib.hid hc
  have HF := Lib.hid hF
  have HM := Lib.hid hM
  have HR0 := Lib.hid hR0
  have HRs := Lib.hid hRs
  have HRl := Lib.hid hRl
  have HRv := Lib.hid hRv
  have HE := Lib.hid hE
  have HE2 := Lib.hid hE2
  have Hb := Lib.hid hb
  have HEb := Lib.hid hEb
  clear hC hok hc hF hM hR0 hRs hRl hRv hE hE2 hb hEb
  go_enter Try.func7, Try.ntmps7
  go_wp2_with (first
    | (go_at_call 17; refine (awake16 _).mono ?_; rintro e w4 ⟨rfl, hb4⟩; have HB := Lib.hid hb4; clear hb4)
    | (go_at_call 18; refine (few_calls A c l _ (Kd.C_below HC.out HB.out) Hc.out).mono ?_; rw [HF.out]; rintro e w4 ⟨rfl, hb4⟩; have HB := Lib.hid (HB.out.trans (hb4.mono HB.out.size)); clear hb4)
    | (go_at_call 19; refine (refmay_calls A c l _ (Kd.C_below HC.out HB.out) Hc.out (by have := (fewB_small HF.out).1; omega) (fun x hx => by have := (fewB_small HF.out).2 x hx; omega)).mono ?_; rw [HM.out]; rintro e w4 ⟨rfl, hb4⟩; have HB := Lib.hid (HB.out.trans (hb4.mono HB.out.size)); clear hb4)
    | (go_at_call 20; refine (made16_reads A c l _ (Kd.C_below HC.out HB.out) Hc.out (fewB_Small HF.out)).mono ?_; rintro e w4 ⟨A5, c5, rfl, hl5, hv, hb4⟩; have HD := Lib.hid hv; have HB := Lib.hid (HB.out.trans (hb4.mono HB.out.size)); clear hb4 hv)
    | (go_at_call 21; refine (close_calls _ (made_fit (fewB_Small HF.out) HO.out) _ _ c5 1 [0] _ (Kd.C_below HD.out ((Below.refl _ _).alloc (Nat.le_refl _) _)) (int_one _ 0) (by simp; decide)).mono ?_; rw [N33_p33, HR0.out]; rintro e w5 ⟨v, rfl, hv, hb5⟩; obtain ⟨A6, c6, rfl, hl6, hc6⟩ := Kd.R_reads hv; have HB5 := Lib.hid (((Below.refl _ _).alloc (Nat.le_refl _) _).trans (hb5.mono (((Below.refl _ _).alloc (Nat.le_refl _) _).size))); have HAt := Lib.hid hc6; clear hv hc6 hb5))
  have hBx := HB.out.trans (HB5.out.mono HB.out.size)
  have hDx := Kd.C_below HD.out HB5.out
  have hCx := Kd.C_below HC.out hBx
  have HBx := Lib.hid hBx
  have HDx := Lib.hid hDx
  have HCx := Lib.hid hCx
  clear hBx hDx hCx
  go_loopw [8, 9] (fun v8 v9 wr => ∃ k : Nat, k ≤ l.length ∧ v9 = .int .i64 k ∧ v8 = .bool (endsTo l k) ∧ Aside0 (Below w5.heap.size w5 wr)) (fun _ v _ => l.length - (RowKit.intOf v).toNat)
  case atStart => exact ⟨0, Nat.zero_le _, rfl, rfl, ⟨Below.refl _ _⟩⟩
  case round =>
    obtain ⟨k, hk, rfl, rfl, HBr⟩ := hrel
    have hub : l.length ≤ 60 := (fewB_small HF.out).1
    by_cases hlt : k < l.length
    · obtain ⟨ad, A1, c1, A2, c2, eA, hx0, -⟩ := at_T46 (Kd.C_below HCx.out HBr.out) (k : Int) (by omega) (by omega)
      rw [Int.toNat_natCast] at hx0
      have hsucc := endsTo_succ l k hlt
      generalize (rd_T46 l (k : Int)).f0 = kd at *
      subst eA
      have HS := Lib.hid hsucc
      clear hsucc
      cases hb : endsTo l k with
      | true =>
        have HK : Hid (endsTo l (k + 1) = true) := Lib.hid (by rw [HS.out, hb]; rfl)
        go_wp2
        go_roundw
        case rel => exact ⟨k + 1, by omega, by go_num, by rw [HK.out], ⟨HBr.out⟩⟩
        case measure => simp [RowKit.intOf]; omega
      | false =>
        by_cases h4 : kd = 4
        · subst h4
          have HK : Hid (endsTo l (k + 1) = true) := Lib.hid (by rw [HS.out, hb]; rfl)
          go_wp2
          go_roundw
          case rel => exact ⟨k + 1, by omega, by go_num, by rw [HK.out], ⟨HBr.out⟩⟩
          case measure => simp [RowKit.intOf]; omega
        · have h4' : (kd == 4) = false := by simpa using h4
          have HK : Hid (endsTo l (k + 1) = false) := Lib.hid (by rw [HS.out, hb, decide_eq_false h4]; rfl)
          clear h4
          go_wp2
          go_roundw
          case rel => exact ⟨k + 1, by omega, by go_num, by rw [HK.out], ⟨HBr.out⟩⟩
          case measure => simp [RowKit.intOf]; omega
    · obtain rfl : k = l.length := by omega
      have HB6 := Lib.hid HBr.out
      rw [Hb.out]
      clear hk hlt HBr
      go_wp2
      go_loopw [7, 10] (fun v7 v10 wo => ∃ (i j : Nat) (A7 : Option Addr) (c7 : Nat), i ≤ s.size + 1 ∧ j ≤ s.size ∧ (i ≤ s.size → j = i) ∧ v10 = .int .i64 i ∧ v7 = .slice A7 (R j).length c7 ∧ Aside0 ((R j).length ≤ c7) ∧ Aside0 ((Kd.int .i64).C wo A7 (R j).length (R j)) ∧ Aside0 (Below w5.heap.size w5 wo)) (fun _ v _ => s.size + 1 - (RowKit.intOf v).toNat)
      case atStart => exact ⟨0, 0, A6, c6, Nat.zero_le _, Nat.zero_le _, fun _ => rfl, rfl, rfl, ⟨hl6⟩, ⟨Kd.C_below HAt.out HB6.out⟩, ⟨HB6.out⟩⟩
      case round =>
        obtain ⟨i, j, A7, c7, hi, hj, hij, rfl, rfl, Hl7, HC7, HBo⟩ := hrel
        by_cases hlt : i ≤ s.size
        · obtain rfl : j = i := hij hlt
          clear hij hi
          have Hn : Hid ((R j).length ≤ 100) := Lib.hid (HRl.out j)
          have hn := Hn.out
          have HEj := Lib.hid (HE2.out j)
          generalize hat : R j = at_ at *
          have Hat := Lib.hid hat
          clear hat
          go_wp2
          obtain ⟨w6, rfl⟩ : ∃ w6 : World, w6 = wr := ⟨_, rfl⟩
          go_loopw [11, 12] (fun v11 v12 wi => ∃ k : Nat, k ≤ at_.length ∧ v12 = .int .i64 k ∧ v11 = .bool (endTo l at_ k) ∧ Aside0 (Below w6.heap.size w6 wi)) (fun _ v _ => at_.length - (RowKit.intOf v).toNat)
          case atStart => exact ⟨0, Nat.zero_le _, rfl, rfl, ⟨Below.refl _ _⟩⟩
          case round =>
            obtain ⟨k, hk, rfl, rfl, HBi⟩ := hrel
            by_cases hkl : k < at_.length
            · obtain ⟨ad2, eA2, hy⟩ := Kd.at_int HC7.out (k : Int) (by omega) (by omega)
              subst eA2
              have hz := (HBi.out.cell (World.block_lt_of_cell? _ _ hy)).trans hy
              rw [Int.toNat_natCast] at hz
              clear hy
              have hmem := HRv.out j (rd at_ k) (by rw [Hat.out]; exact rd_mem at_ k hkl)
              have hsucc := endTo_succ l at_ k hkl
              generalize rd at_ (k : Int) = x at *
              obtain ⟨v0, v1⟩ := hmem
              have HBw := (HBo.out.trans (HBi.out.mono HBo.out.size))
              obtain ⟨ad, A1, c1, A2, c2, eA, hx0, -⟩ := at_T46 (Kd.C_below HCx.out HBw) x v0 v1
              have HBW := Lib.hid HBw
              clear HBw
              generalize (rd_T46 l x).f0 = kd at *
              subst eA
              have HS := Lib.hid hsucc
              have d0 : decide (x < 0) = false := decide_eq_false (by omega)
              have d1 : decide ((l.length : Int) ≤ x) = false := decide_eq_false (by omega)
              clear hsucc
              cases hb : endTo l at_ k with
              | true =>
                have HK : Hid (endTo l at_ (k + 1) = true) := Lib.hid (by rw [HS.out, hb]; rfl)
                go_wp2
                go_roundw
                case rel => exact ⟨k + 1, by omega, by go_num, by rw [HK.out], ⟨HBi.out⟩⟩
                case measure => simp [RowKit.intOf]; omega
              | false =>
                by_cases h4 : kd = 4
                · subst h4
                  have HK : Hid (endTo l at_ (k + 1) = true) := Lib.hid (by rw [HS.out, hb]; rfl)
                  go_wp2
                  go_roundw
                  case rel => exact ⟨k + 1, by omega, by go_num, by rw [HK.out], ⟨HBi.out⟩⟩
                  case measure => simp [RowKit.intOf]; omega
                · have h4' : (kd == 4) = false := by simpa using h4
                  have HK : Hid (endTo l at_ (k + 1) = false) := Lib.hid (by rw [HS.out, hb, decide_eq_false h4]; rfl)
                  clear h4
                  go_wp2
                  go_roundw
                  case rel => exact ⟨k + 1, by omega, by go_num, by rw [HK.out], ⟨HBi.out⟩⟩
                  case measure => simp [RowKit.intOf]; omega
            · obtain rfl : k = at_.length := by omega
              rw [HEj.out]
              have HBw := (HBo.out.trans (HBi.out.mono HBo.out.size))
              have HW := Lib.hid HBw
              have HDc := Lib.hid (Kd.C_below HDx.out HBw)
              have HAc := Lib.hid (Kd.C_below HC7.out HBi.out)
              have HEx := Lib.hid (HE.out j hlt)
              have HSx : Hid (stepL (N46 l) at_ (bt s (j : Int)) = R (j + 1)) := Lib.hid (by rw [← Hat.out]; exact HRs.out j)
              have hsx : (s.extract 0 j).size ≤ 1000000000 := by rw [ByteArray.size_extract]; omega
              have Hsx := Lib.hid hsx
              clear HBw hsx hk hkl HBi HBo
              have hbj := fun h => HEb.out j h
              cases hEj : E j with
              | true =>
                obtain rfl : b = true := hbj hEj
                clear hbj
                rw [hEj] at HEx
                by_cases hls : j < s.size
                · have hbt := bt_at s (j : Int)
                  simp only [Int.toNat_natCast] at hbt
                  go_wp2_with (first
                    | (go_at_call 24; refine (accepts_calls _ (made_fit (fewB_Small HF.out) HO.out) A5 c5 _ _ HDc.out Hsx.out).mono ?_; rw [N33_p33, HEx.out]; rintro e w8 ⟨rfl, hb8⟩; have HDc := Lib.hid (Kd.C_below HDc.out hb8); have HAc := Lib.hid (Kd.C_below HAc.out hb8); have HW := Lib.hid (HW.out.trans (hb8.mono HW.out.size)); clear hb8)
                    | (go_at_call 27; refine (step_calls _ (made_fit (fewB_Small HF.out) HO.out) A5 A7 c5 c7 at_ (bt s (j : Int)) _ HDc.out HAc.out).mono ?_; rw [N33_p33, HSx.out]; rintro e w8 ⟨v, rfl, hv, hb8⟩; obtain ⟨A8, c8, rfl, hl8, hC8⟩ := Kd.R_reads hv; have HA8 := Lib.hid hC8; have HW := Lib.hid (HW.out.trans (hb8.mono HW.out.size)); clear hb8 hv hC8))
                  go_roundw
                  case rel => exact ⟨j + 1, j + 1, A8, c8, by omega, by omega, fun _ => rfl, by go_num, rfl, ⟨hl8⟩, ⟨HA8.out⟩, ⟨HW.out⟩⟩
                  case measure => simp [RowKit.intOf]; omega
                · obtain rfl : j = s.size := by omega
                  have e0 : s.extract 0 s.size = s := by
                    apply ByteArray.ext
                    simp
                  rw [e0] at HEx Hsx
                  clear e0
                  go_wp2_with (first
                    | (go_at_call 24; refine (accepts_calls _ (made_fit (fewB_Small HF.out) HO.out) A5 c5 _ _ HDc.out Hsx.out).mono ?_; rw [N33_p33, HEx.out]; rintro e w8 ⟨rfl, hb8⟩; have HDc := Lib.hid (Kd.C_below HDc.out hb8); have HAc := Lib.hid (Kd.C_below HAc.out hb8); have HW := Lib.hid (HW.out.trans (hb8.mono HW.out.size)); clear hb8))
                  go_roundw
                  case rel => exact ⟨s.size + 1, s.size, A7, c7, by omega, by omega, fun h => absurd h (by omega), by go_num, by rw [Hat.out], ⟨by rw [Hat.out]; exact Hl7.out⟩, ⟨by rw [Hat.out]; exact HAc.out⟩, ⟨HW.out⟩⟩
                  case measure => simp [RowKit.intOf] <;> omega
              | false =>
                clear hbj
                rw [hEj] at HEx
                by_cases hls : j < s.size
                · have hbt := bt_at s (j : Int)
                  simp only [Int.toNat_natCast] at hbt
                  go_wp2_with (first
                    | (go_at_call 24; refine (accepts_calls _ (made_fit (fewB_Small HF.out) HO.out) A5 c5 _ _ HDc.out Hsx.out).mono ?_; rw [N33_p33, HEx.out]; rintro e w8 ⟨rfl, hb8⟩; have HDc := Lib.hid (Kd.C_below HDc.out hb8); have HAc := Lib.hid (Kd.C_below HAc.out hb8); have HW := Lib.hid (HW.out.trans (hb8.mono HW.out.size)); clear hb8)
                    | (go_at_call 27; refine (step_calls _ (made_fit (fewB_Small HF.out) HO.out) A5 A7 c5 c7 at_ (bt s (j : Int)) _ HDc.out HAc.out).mono ?_; rw [N33_p33, HSx.out]; rintro e w8 ⟨v, rfl, hv, hb8⟩; obtain ⟨A8, c8, rfl, hl8, hC8⟩ := Kd.R_reads hv; have HA8 := Lib.hid hC8; have HW := Lib.hid (HW.out.trans (hb8.mono HW.out.size)); clear hb8 hv hC8))
                  go_roundw
                  case rel => exact ⟨j + 1, j + 1, A8, c8, by omega, by omega, fun _ => rfl, by go_num, rfl, ⟨hl8⟩, ⟨HA8.out⟩, ⟨HW.out⟩⟩
                  case measure => simp [RowKit.intOf]; omega
                · obtain rfl : j = s.size := by omega
                  have e0 : s.extract 0 s.size = s := by
                    apply ByteArray.ext
                    simp
                  rw [e0] at HEx Hsx
                  clear e0
                  go_wp2_with (first
                    | (go_at_call 24; refine (accepts_calls _ (made_fit (fewB_Small HF.out) HO.out) A5 c5 _ _ HDc.out Hsx.out).mono ?_; rw [N33_p33, HEx.out]; rintro e w8 ⟨rfl, hb8⟩; have HDc := Lib.hid (Kd.C_below HDc.out hb8); have HAc := Lib.hid (Kd.C_below HAc.out hb8); have HW := Lib.hid (HW.out.trans (hb8.mono HW.out.size)); clear hb8))
                  go_roundw
                  case rel => exact ⟨s.size + 1, s.size, A7, c7, by omega, by omega, fun h => absurd h (by omega), by go_num, by rw [Hat.out], ⟨by rw [Hat.out]; exact Hl7.out⟩, ⟨by rw [Hat.out]; exact HAc.out⟩, ⟨HW.out⟩⟩
                  case measure => simp [RowKit.intOf] <;> omega
        · obtain rfl : i = s.size + 1 := by omega
          clear hij
          go_wp2
          go_ret
          exact ⟨rfl, HBx.out.trans (HBo.out.mono HBx.out.size)⟩
set_option maxRecDepth 100000 in
theorem machineParts_walk (w : World) (A : Option Addr) (c : Nat) (l : List S46) (hc : l.length ≤ c) (hC : Kd.C k46 w A l.length l) (hok : ∀ y ∈ l, Ok46 y) (s : ByteArray) :
    Calls Try.prog 7 #[.slice A l.length c, .string s] w fun e w' => e = .returned (.bool true) ∧ Below w.heap.size w w' := by
  cases hF : fewB l with
  | false =>
    have HC := Lib.hid hC
    have Hc := Lib.hid hc
    have HF := Lib.hid hF
    clear hF hC hc
    go_enter Try.func7, Try.ntmps7
    go_wp2_with (first
      | (go_at_call 17; refine (awake16 _).mono ?_; rintro e w4 ⟨rfl, hb4⟩; have HB := Lib.hid hb4; clear hb4)
      | (go_at_call 18; refine (few_calls A c l _ (Kd.C_below HC.out HB.out) Hc.out).mono ?_; rw [HF.out]; rintro e w4 ⟨rfl, hb4⟩; have HB := Lib.hid (HB.out.trans (hb4.mono HB.out.size)); clear hb4))
    go_ret
    exact ⟨rfl, HB.out⟩
  | true =>
    by_cases g1 : s.size ≤ 200
    · cases hM : mayB (N46 l) with
      | false =>
        have b1 : decide ((s.size : Int) > 200) = false := decide_eq_false (by omega)
        have HC := Lib.hid hC
        have Hc := Lib.hid hc
        have HF := Lib.hid hF
        have HM := Lib.hid hM
        clear hF hC hc hM
        go_enter Try.func7, Try.ntmps7
        go_wp2_with (first
          | (go_at_call 17; refine (awake16 _).mono ?_; rintro e w4 ⟨rfl, hb4⟩; have HB := Lib.hid hb4; clear hb4)
          | (go_at_call 18; refine (few_calls A c l _ (Kd.C_below HC.out HB.out) Hc.out).mono ?_; rw [HF.out]; rintro e w4 ⟨rfl, hb4⟩; have HB := Lib.hid (HB.out.trans (hb4.mono HB.out.size)); clear hb4)
          | (go_at_call 19; refine (refmay_calls A c l _ (Kd.C_below HC.out HB.out) Hc.out (by have := (fewB_small HF.out).1; omega) (fun x hx => by have := (fewB_small HF.out).2 x hx; omega)).mono ?_; rw [HM.out]; rintro e w4 ⟨rfl, hb4⟩; have HB := Lib.hid (HB.out.trans (hb4.mono HB.out.size)); clear hb4))
        go_ret
        exact ⟨rfl, HB.out⟩
      | true =>
        refine machineParts_main w A c l hc hC hok s hF hM g1 (fun k => runL (N46 l) (upto s k)) rfl (fun k => (run_snoc (N46 l) s k).symm) (fun k => ?_) (fun k a ha => ?_) (fun k => endedB (N46 l) (runL (N46 l) (upto s k))) (fun k hk => ?_) (fun k => ?_) _ rfl (fun k hk => ?_)
        · have h1 := (fewB_small hF).1
          have h2 : (runL (N46 l) (upto s k)).length ≤ (N46 l).length := runL_len (N46 l) (upto s k)
          rw [N46_length] at h2
          omega
        · have h2 := runL_valid ha
          exact ⟨h2.1, by have := h2.2; rwa [N46_length] at this⟩
        · rw [bts_take s k hk]; rfl
        · exact endTo_all l _ (fun a ha => runL_valid ha)
        · unfold endedB at hk
          rw [List.any_eq_true] at hk
          obtain ⟨a, ha, h4⟩ := hk
          exact endsTo_all (runL_valid ha) (of_decide_eq_true h4)
    · have b1 : decide ((s.size : Int) > 200) = true := decide_eq_true (by omega)
      have HC := Lib.hid hC
      have Hc := Lib.hid hc
      have HF := Lib.hid hF
      clear hF hC hc
      go_enter Try.func7, Try.ntmps7
      go_wp2_with (first
        | (go_at_call 17; refine (awake16 _).mono ?_; rintro e w4 ⟨rfl, hb4⟩; have HB := Lib.hid hb4; clear hb4)
        | (go_at_call 18; refine (few_calls A c l _ (Kd.C_below HC.out HB.out) Hc.out).mono ?_; rw [HF.out]; rintro e w4 ⟨rfl, hb4⟩; have HB := Lib.hid (HB.out.trans (hb4.mono HB.out.size)); clear hb4))
      go_ret
      exact ⟨rfl, HB.out⟩
end Go.Proofs.Ytolfamfgoafhlaa.M
