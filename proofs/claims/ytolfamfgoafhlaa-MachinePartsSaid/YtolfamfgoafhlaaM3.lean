import Derived.Test.YtolfamfgoafhlaaM2
import Derived.Test.YtolfamfgoafhlaaSh
namespace Go.Proofs.Ytolfamfgoafhlaa.M
open Go.RowKit Go.Proofs.YtolfamfgoafhlaaW.PrintWords Go.Proofs.YtolfamfgoafhlaaW.PrintLast Go.Proofs.YtolfamfgoafhlaaW.PrintMore
open Go.Proofs.Ytolfamfgoafhlaa.P Go.Proofs.Ytolfamfgoafhlaa.L
open Go.Maps Go.Sort Go.Shelf

theorem sortsI (m : Nat) : AnyZI.SortsIn Try.prog Try.sortedI_ren Fence.wide m :=
  ⟨fun blk off cap ss W hH hblk hsz => callsIn_wide.2 (AnyM.slices_Sort_int Try.sortI blk off cap ss W hH hblk hsz),
   fun p cap W => callsIn_wide.2 (AnyM.slices_Sort_int_none Try.sortI p cap W)⟩

theorem sort_rising {l : List Int} (h : l.Pairwise (· < ·)) : l.mergeSort (fun x y => decide (x ≤ y)) = l := by
  apply List.mergeSort_of_pairwise
  exact h.imp (fun h => by simp; omega)

set_option maxRecDepth 100000 in
set_option maxHeartbeats 1000000 in
/-- (nodes).list: all members, rising. -/
theorem list_calls (b N : Nat) (S : Int → Bool) (w : World) (hS : SetIs w b N S) (hN : N ≤ 100000) :
    Calls Try.prog 78 #[.map (some b)] w fun e w' => ∃ v, e = .returned v ∧ Kd.R (Kd.int .i64) 3 w' w.heap.size (fun _ => True) v (setList N S) ∧ Below w.heap.size w w' := by
  obtain ⟨D0, hown, hhas, hr⟩ := hS
  have hsz := setIs_size hown hhas hr
  have hperm := setIs_perm hown hhas hr
  have hmax : Maps.size D0 ≤ maxLen := by unfold maxLen; omega
  have hbytes : Maps.size D0 * 8 ≤ 140737488355328 := by omega
  refine (callsIn_wide (n := 6)).1 ?_
  have hbl := hown.lt
  have hseq : SeqGives Fence.wide 2 Try.prog 100 #[.pointer (some ⟨w.heap.size, 0, none⟩)] encZ (fun ss => ss.Perm (intKeys D0)) (Maps.size D0) (w.alloc (.cells #[.map (some b)] 115)) :=
    AnyZI.keys_gives (ρ := Try.keysI_ren) { Try.keysI with } Fence.wide _ trivial rfl (by omega) w.heap.size b _ D0 _ (by simp) (by simp) (by
      obtain ⟨es, clock, hb, Ft, hs, hD⟩ := hown
      exact ⟨es, clock, (Below.heap_alloc _ _ b hbl).trans hb, Ft, hs, hD⟩)
  have cK : ∀ mb W, CallsIn Fence.wide 5 Try.prog 93 #[.map mb] W fun e w' => e = .returned (.func (.func 100) #[] #[.pointer (some ⟨W.heap.size, 0, none⟩)]) ∧ w' = W.alloc (.cells #[.map mb] 115) := fun mb W => AnyZI.keys_in Try.keysI Fence.wide 5 trivial rfl mb W
  have cS := AnyZI.sorted_in Try.sortedI Fence.wide 5 trivial trivial trivial trivial rfl (by omega) (sortsI _) (enters_of Try.func99 (by kernel_rfl) rfl) 100 #[.pointer (some ⟨w.heap.size, 0, none⟩)] trivial (enters_of Try.func100 (by kernel_rfl) rfl) _ _ hmax hbytes _ hseq
  change CallsIn _ _ Try.prog 92 _ _ _ at cS
  have hfK : Fence.wide.fn 93 := trivial
  have hfS : Fence.wide.fn 92 := trivial
  refine callsIn_of_wp Try.func78 rfl trivial ?_ rfl
  simp only [Try.ntmps78, List.size_toArray, List.length_cons, List.length_nil, Nat.reduceAdd, Nat.reduceSub, Array.replicate_succ, Array.replicate_zero, List.push_toArray, List.append_toArray, List.nil_append, List.cons_append]
  gi_wp2_with (first
    | (gi_at_call 93; refine (cK _ _).mono ?_; rintro e w' ⟨rfl, rfl⟩)
    | (gi_at_call 92; refine cS.mono ?_; rintro e w' ⟨v, ss, rfl, hS, hrow, hnil, hb⟩))
  go_ret
  have hms : ss.mergeSort (fun x y => decide (x ≤ y)) = setList N S := by
    have h1 := mergeSort_of_perm_i (hS.trans hperm.symm)
    rw [sort_rising (setList_sorted N S)] at h1
    exact h1
  have hl : ss.length = (setList N S).length := (hS.trans hperm.symm).length_eq
  rw [hms, hl] at hrow
  exact ⟨v, rfl, Kd.R_of_own (ownsRow_base_a hrow (by simp)) (fun _ _ => trivial), ((Below.refl _ w).alloc (Nat.le_refl _) _).trans (hb.mono (by simp))⟩

theorem N33_valid (m : List S33) (T : Int → Bool) (b : Nat) (w : World) (h : SetIs w b m.length T) : ∀ i, T i = true → 0 ≤ i ∧ i < ((N33 m).length : Int) := by
  obtain ⟨D, _, _, h3⟩ := h
  intro i hi
  rw [N33_length]; exact h3 i hi

set_option maxRecDepth 100000 in
/-- closed: what is close, of a machine that may be. -/
theorem closed_calls (m : List S33) (hM : mayB (N33 m) = true) (A A1 : Option Addr) (c c1 : Nat) (at_ : List Int) (w : World) (hC : Kd.C k33 w A m.length m) (hA : (Kd.int .i64).C w A1 at_.length at_) (hwf : ∀ x ∈ at_, (Lit.int .i64 x).wf = true) :
    Calls Try.prog 54 #[.slice A m.length c, .slice A1 at_.length c1] w fun e w' => ∃ v, e = .returned v ∧ Kd.R (Kd.int .i64) 3 w' w.heap.size (fun _ => True) v (closeL (N33 m) at_) ∧ Below w.heap.size w w' := by
  have hlen : m.length ≤ 100000 := by have := ((may_iff _).1 hM).2.1; rwa [N33_length] at this
  have hal := hA.2.1
  have HC := Lib.hid hC
  have HM := Lib.hid hM
  have HA := Lib.hid hA
  have HW := Lib.hid hwf
  clear hC hM hA hwf
  have hB2 : Below w.heap.size w (w.alloc (.map #[] 0)) := (Below.refl _ _).alloc (Nat.le_refl _) _
  have hS2 := SetIs.made w m.length
  have HB2 := Lib.hid hB2
  have HS2 := Lib.hid hS2
  clear hB2 hS2
  have hmm := @run_makeMap Try.prog
  go_enter Try.func54, Try.ntmps54
  go_wp2
  go_loopw [11] (fun v wr => ∃ (k : Nat) (T : Int → Bool), k ≤ at_.length ∧ v = .int .i64 k ∧ Aside0 (SetIs wr w.heap.size m.length T) ∧ Aside0 (Grow (N33 m) (fun i => ∃ a ∈ at_, L.Reach (N33 m) a i) (fun _ => false) T) ∧ Aside0 (∀ f ∈ at_.take k, valid (N33 m) f → T f = true) ∧ Aside0 (Below w.heap.size w wr)) (fun v _ => at_.length - (RowKit.intOf v).toNat)
  case atStart => exact ⟨0, _, Nat.zero_le _, rfl, ⟨HS2.out⟩, ⟨Grow.refl _ _ _⟩, ⟨by simp⟩, ⟨HB2.out⟩⟩
  case round =>
    obtain ⟨k, T, hk, rfl, HT, HG, HIN, HBr⟩ := hrel
    by_cases hlt : k < at_.length
    · obtain ⟨ad2, eA2, hy⟩ := Kd.at_int HA.out (k : Int) (by omega) (by omega)
      subst eA2
      have hz := (HBr.out.cell (World.block_lt_of_cell? w _ hy)).trans hy
      simp only [Int.toNat_natCast] at hz
      clear hy
      have hmem := rd_mem at_ k hlt
      generalize hf : rd at_ k = f at *
      have Hf := Lib.hid hf
      clear hf
      have Hmem := Lib.hid hmem
      clear hmem
      have hwf := Lib.hid (HW.out f Hmem.out)
      have hdd := Lib.hid (show valid (N33 m) f → (m.length : Int) - f ≤ (m.length : Nat) from fun h => by have := h.1; omega)
      go_wp2_with (go_at_call 77; refine (add_calls m HM.out w A c HC.out w.heap.size (Nat.le_refl _) m.length f _ T hwf.out hdd.out HT.out HBr.out).mono ?_; rintro e w3 ⟨rfl, T3, hT3, hG3, hI3, hB3, hg3⟩)
      have hin3 := all_snoc (P := fun f => valid (N33 m) f → T3 f = true) at_ k hlt (fun f hf hv => hG3.sub f (HIN.out f hf hv)) (by rw [Hf.out]; exact hI3)
      have hG4 := HG.out.trans (hG3.mono (fun i hi => ⟨f, Hmem.out, hi⟩))
      go_roundw
      case rel => exact ⟨k + 1, T3, by omega, by go_num, ⟨hT3⟩, ⟨hG4⟩, ⟨hin3⟩, ⟨hB3⟩⟩
      case measure => simp [RowKit.intOf]; omega
    · have hin : ∀ f ∈ at_, valid (N33 m) f → T f = true := fun f hf => HIN.out f (by rw [List.take_of_length_le (by omega)]; exact hf)
      have hres := closeL_of_grow HM.out (N33_valid m T _ _ HT.out) HG.out hin
      rw [N33_length] at hres
      have HR := Lib.hid hres
      clear hin hres
      go_wp2_with (go_at_call 78; refine (list_calls _ m.length T _ HT.out hlen).mono ?_; rintro e w3 ⟨v, rfl, hv, hb3⟩)
      go_ret
      rw [HR.out] at hv
      have hle := HBr.out.size
      exact ⟨v, rfl, Kd.R_lower hv hle, HBr.out.trans (hb3.mono hle)⟩
end Go.Proofs.Ytolfamfgoafhlaa.M
