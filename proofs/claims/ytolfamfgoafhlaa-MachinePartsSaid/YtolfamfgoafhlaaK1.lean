import Derived.Test.YtolfamfgoafhlaaM6
namespace Go.Proofs.Ytolfamfgoafhlaa.M
open Go.RowKit Go.Proofs.YtolfamfgoafhlaaW.PrintWords Go.Proofs.YtolfamfgoafhlaaW.PrintLast Go.Proofs.YtolfamfgoafhlaaW.PrintMore
open Go.Proofs.Ytolfamfgoafhlaa.P Go.Proofs.Ytolfamfgoafhlaa.L

/-! ### the statements' own fixed machine -/
def awk : List S33 := [⟨2, [], [1, 2], 0, 0⟩, ⟨1, [⟨97, 97, 0⟩], [], 0, 0⟩, ⟨4, [], [], 0, 0⟩]
theorem awk_fit : Fit awk := by
  intro x hx
  simp only [awk, List.mem_cons, List.not_mem_nil, or_false] at hx
  rcases hx with rfl | rfl | rfl <;> refine ⟨by simp, by simp, fun e he => ?_⟩ <;> simp at he
  subst he; decide
theorem int_row (w : World) (l : List Int) (hl : l.length ≤ 9223372036854775807) : (Kd.int .i64).C (w.alloc (.cells (l.map (Value.int .i64)).toArray 3)) (some ⟨w.heap.size, 0, none⟩) l.length l := by
  refine Kd.C_of_reads (enc := Value.int .i64) (d := (0 : Int)) (h1 := fun _ => rfl) ⟨rfl, hl, fun _ => ⟨_, rfl, fun j hj => ?_⟩⟩
  rw [cells_new w _ 3 j (.int .i64 l[j]) (by simp [hj])]
  simp [List.getD_eq_getElem?_getD, List.getElem?_eq_getElem hj]
theorem k72_row1 (w : World) (x : S72) : k72.C (w.alloc (.cells #[.int .u8 x.f0, .int .u8 x.f1, .int .i64 x.f2] 72)) (some ⟨w.heap.size, 0, none⟩) 1 [x] := by
  refine ⟨rfl, by simp, fun _ => ⟨_, rfl, fun j p hp => ?_⟩⟩
  obtain ⟨rfl, rfl⟩ : j = 0 ∧ p = x := by
    rcases j with _ | j
    · simp at hp; exact ⟨rfl, hp.symm⟩
    · simp at hp
  exact ⟨[.int .u8 p.f0, .int .u8 p.f1, .int .i64 p.f2], rfl, k72_mk _ p, fun i u hu => cells_new w _ 72 _ u (by simpa using hu)⟩
theorem k72_nil (w : World) : k72.C w none 0 [] := ⟨rfl, by simp, fun h => absurd h (by omega)⟩
theorem int_nil (w : World) : (Kd.int .i64).C w none 0 [] := ⟨rfl, by simp, fun h => absurd h (by omega)⟩
/-- A row of nodes, of a block that was just made. -/
theorem k33_row (w w' : World) (xs : List S33) (css : List (List Value)) (hl : css.length = xs.length) (hn : xs.length ≤ 9223372036854775807) (hw : w' = w.alloc (.cells css.flatten.toArray 33)) (h5 : ∀ c ∈ css, c.length = 5)
    (h : ∀ (j : Nat) (x : S33) (c : List Value), xs[j]? = some x → css[j]? = some c → k33.K w' x c) : Kd.C k33 w' (some ⟨w.heap.size, 0, none⟩) xs.length xs := by
  refine ⟨rfl, hn, fun _ => ⟨_, rfl, fun j p hp => ?_⟩⟩
  have hj : j < xs.length := by
    rcases Nat.lt_or_ge j xs.length with h1 | h1
    · exact h1
    · rw [List.getElem?_eq_none h1] at hp; cases hp
  have hc := List.getElem?_eq_getElem (l := css) (i := j) (by omega)
  refine ⟨css[j]'(by omega), h5 _ (List.getElem_mem _), h j p _ hp hc, fun i u hu => ?_⟩
  subst hw
  refine cells_new w _ 33 _ u ?_
  have hi : i < 5 := by
    rcases Nat.lt_or_ge i 5 with h1 | h1
    · exact h1
    · rw [List.getElem?_eq_none (by rw [h5 _ (List.getElem_mem _)]; exact h1)] at hu; cases hu
  have key : ∀ (css : List (List Value)) (h5 : ∀ c ∈ css, c.length = 5) (j : Nat) (hj : j < css.length), css.flatten[j * 5 + i]? = (css[j])[i]? := by
    intro css
    induction css with
    | nil => intro _ j hj; simp at hj
    | cons c cs ih =>
      intro h5 j hj
      have hc5 := h5 c List.mem_cons_self
      rcases j with _ | j
      · simp only [List.flatten_cons, Nat.zero_mul, Nat.zero_add, List.getElem_cons_zero]
        rw [List.getElem?_append_left (by omega)]
      · simp only [List.flatten_cons, List.getElem_cons_succ]
        rw [List.getElem?_append_right (by omega), ← ih (fun c hc => h5 c (List.mem_cons_of_mem _ hc)) j (by simpa using hj), hc5]
        congr 1; omega
  rw [List.getElem?_toArray]
  show css.flatten[j * 5 + i]? = _
  rw [key css h5 j (by omega)]
  exact hu

theorem awk_row (w : World) : Kd.C k33 (((w.alloc (Obj.cells #[Value.int IntKind.i64 1, Value.int IntKind.i64 2] 3)).alloc
          (Obj.cells #[Value.int IntKind.u8 97, Value.int IntKind.u8 97, Value.int IntKind.i64 0] 72)).alloc
      (Obj.cells
        #[Value.int IntKind.i64 2, Value.slice none 0 0, Value.slice (some { block := w.heap.size, off := 0 }) 2 2,
          Value.int IntKind.i64 0, Value.int IntKind.i64 0, Value.int IntKind.i64 1,
          Value.slice (some { block := w.heap.size + 1, off := 0 }) 1 1, Value.slice none 0 0, Value.int IntKind.i64 0,
          Value.int IntKind.i64 0, Value.int IntKind.i64 4, Value.slice none 0 0, Value.slice none 0 0,
          Value.int IntKind.i64 0, Value.int IntKind.i64 0]
        33)) (some ⟨w.heap.size + 1 + 1, 0, none⟩) awk.length awk := by
  have h1 := int_row w [1, 2] (by simp)
  have h2 := k72_row1 (w.alloc (Obj.cells #[Value.int IntKind.i64 1, Value.int IntKind.i64 2] 3)) ⟨97, 97, 0⟩
  generalize hw1 : w.alloc (Obj.cells #[Value.int IntKind.i64 1, Value.int IntKind.i64 2] 3) = w1 at *
  have hs1 : w1.heap.size = w.heap.size + 1 := by rw [← hw1]; simp
  generalize hw2 : w1.alloc (Obj.cells #[Value.int IntKind.u8 97, Value.int IntKind.u8 97, Value.int IntKind.i64 0] 72) = w2 at *
  have hs2 : w2.heap.size = w.heap.size + 1 + 1 := by rw [← hw2]; simp [hs1]
  rw [← hs2]
  have hb2 : Below w1.heap.size w1 w2 := by rw [← hw2]; exact (Below.refl _ _).alloc (Nat.le_refl _) _
  have h1' : (Kd.int .i64).C w1 (some ⟨w.heap.size, 0, none⟩) 2 [1, 2] := by rw [← hw1]; exact h1
  have h1'' := Kd.C_below h1' hb2
  refine k33_row w2 _ awk [[Value.int IntKind.i64 2, Value.slice none 0 0, Value.slice (some { block := w.heap.size, off := 0 }) 2 2, Value.int IntKind.i64 0, Value.int IntKind.i64 0], [Value.int IntKind.i64 1,
          Value.slice (some { block := w.heap.size + 1, off := 0 }) 1 1, Value.slice none 0 0, Value.int IntKind.i64 0,
          Value.int IntKind.i64 0], [Value.int IntKind.i64 4, Value.slice none 0 0, Value.slice none 0 0,
          Value.int IntKind.i64 0, Value.int IntKind.i64 0]] rfl (by simp [awk]) rfl (by simp) ?_
  generalize hw3 : w2.alloc _ = w3
  have hb3 : Below w2.heap.size w2 w3 := by rw [← hw3]; exact (Below.refl _ _).alloc (Nat.le_refl _) _
  have g1 := Kd.C_below h1'' hb3
  have g2 := Kd.C_below h2 hb3
  rw [hs1] at g2
  intro j x c hx hc
  rcases j with _ | _ | _ | j
  · simp [awk] at hx hc; subst hx; subst hc
    exact k33_mk w3 ⟨2, [], [1, 2], 0, 0⟩ (Nat.le_refl _) (k72_nil _) (Nat.le_refl _) g1
  · simp [awk] at hx hc; subst hx; subst hc
    exact k33_mk w3 ⟨1, [⟨97, 97, 0⟩], [], 0, 0⟩ (Nat.le_refl _) g2 (Nat.le_refl _) (int_nil _)
  · simp [awk] at hx hc; subst hx; subst hc
    exact k33_mk w3 ⟨4, [], [], 0, 0⟩ (Nat.le_refl _) (k72_nil _) (Nat.le_refl _) (int_nil _)
  · simp [awk] at hx

theorem awk_may : mayB (N33 awk) = true := by kernel_rfl
theorem awk_nil : acceptsB (N33 awk) (bts ⟨#[]⟩) = true := by kernel_rfl
theorem awk_aaa : acceptsB (N33 awk) (bts ⟨#[97, 97, 97]⟩) = true := by kernel_rfl
theorem awk_ab : acceptsB (N33 awk) (bts ⟨#[97, 98]⟩) = false := by kernel_rfl
theorem awk_close : (closeL (N33 awk) [0]).length = 3 := by kernel_rfl

set_option maxRecDepth 100000 in
theorem awake16 (w : World) : Calls Try.prog 17 #[] w fun e w' => e = .returned (.bool true) ∧ Below w.heap.size w w' := by
  have h0 := awk_row w
  generalize hw3 : World.alloc _ _ = w3 at h0
  have hb0 : Below w.heap.size w w3 := by
    rw [← hw3]
    refine Below.alloc (Below.alloc (Below.alloc (Below.refl _ _) (Nat.le_refl _) _) ?_ _) ?_ _ <;> simp <;> omega
  have HR := Lib.hid h0
  have HB := Lib.hid hb0
  have HW := Lib.hid hw3
  clear h0 hb0 hw3
  go_enter Try.func17, Try.ntmps17
  go_wp2_with (first
    | (go_at_call 23; rw [HW.out]; refine (may_calls awk awk_fit _ 3 _ HR.out).mono ?_; rw [awk_may]; rintro e w4 ⟨rfl, hb4⟩; have HR := Lib.hid (Kd.C_below HR.out hb4); have HB := Lib.hid (HB.out.trans (hb4.mono HB.out.size)); clear hb4)
    | (go_at_call 24; refine (accepts_calls awk awk_fit _ 3 _ _ HR.out (by decide)).mono ?_; (first | rw [awk_nil] | rw [awk_aaa] | rw [awk_ab]); rintro e w4 ⟨rfl, hb4⟩; have HR := Lib.hid (Kd.C_below HR.out hb4); have HB := Lib.hid (HB.out.trans (hb4.mono HB.out.size)); clear hb4)
    | (go_at_call 21; refine (close_calls awk awk_fit _ _ 3 1 [0] _ (Kd.C_below HR.out ((Below.refl _ _).alloc (Nat.le_refl _) _)) (int_one _ 0) (by simp; decide)).mono ?_; rintro e w4 ⟨v, rfl, hv, hb4⟩; obtain ⟨A5, c5, rfl, hl5, hc5⟩ := Kd.R_reads hv; have HB := Lib.hid ((HB.out.alloc HB.out.size _).trans (hb4.mono (HB.out.alloc HB.out.size _).size)); rw [awk_close]; clear hv hl5 hc5 hb4))
  go_ret
  exact ⟨rfl, HB.out⟩
end Go.Proofs.Ytolfamfgoafhlaa.M
