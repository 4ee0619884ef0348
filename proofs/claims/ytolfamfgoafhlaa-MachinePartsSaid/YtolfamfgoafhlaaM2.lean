import Derived.Test.YtolfamfgoafhlaaP0
import Derived.Test.YtolfamfgoafhlaaA
import Derived.Lib.Hide
import Derived.Outline
import Derived.Maps.OwnSet
import Derived.Lib.SlKeysI
import Derived.Deep.DeepFit
namespace Go.Proofs.Ytolfamfgoafhlaa.M
open Go.RowKit Go.Proofs.YtolfamfgoafhlaaW.PrintWords Go.Proofs.YtolfamfgoafhlaaW.PrintLast Go.Proofs.YtolfamfgoafhlaaW.PrintMore
open Go.Proofs.Ytolfamfgoafhlaa.P Go.Proofs.Ytolfamfgoafhlaa.L

/-- A node as the plain law has it. -/
def ed (x : S72) : Ed := ⟨x.f0, x.f1, x.f2⟩
def nn (x : S33) : Nd := ⟨x.f0, x.f1.map ed, x.f2, x.f3, x.f4⟩
def N33 (l : List S33) : List Nd := l.map nn
theorem N33_length (l : List S33) : (N33 l).length = l.length := by simp [N33]
theorem nd_N33 (l : List S33) (i : Int) (h1 : i.toNat < l.length) : nd (N33 l) i = nn (rd_T33 l i) := by
  simp [nd, N33, rd_T33, List.getD_eq_getElem?_getD, List.getElem?_eq_getElem h1]

/-! ### a set of whole numbers as a map -/
/-- Block b is a map whose keys are just what S says, all of them below N. -/
def SetIs (w : World) (b N : Nat) (S : Int → Bool) : Prop :=
  ∃ D : DataW Nat, w.ownsMap Try.prog 3 unitElem b (Maps.size D) D ∧ (∀ i, Maps.has D (.int .i64 i) = S i) ∧ ∀ i, S i = true → 0 ≤ i ∧ i < (N : Int)

theorem key3 : Maps.Keyed Try.prog 3 := Maps.int_keyed Try.underlying3
theorem zero140 (w : World) : (zeroValue 140).run Try.prog w = .ok (.agg #[]) w := by kernel_rfl
theorem keyLit (i : Int) : WideAt.IsKeyLit (.int .i64 i) := by simp [WideAt.IsKeyLit]

theorem setIs_perm {w : World} {b N : Nat} {S : Int → Bool} {D : DataW Nat} {n : Nat} (h : w.ownsMap Try.prog 3 unitElem b n D) (hS : ∀ i, Maps.has D (.int .i64 i) = S i) (hr : ∀ i, S i = true → 0 ≤ i ∧ i < (N : Int)) :
    (setList N S).Perm (intKeys D) := by
  have hC : CollectedI D (fun _ => false) (setList N S) := by
    refine ⟨(setList_sorted N S).imp (fun h => by omega), fun x => ?_⟩
    rw [mem_setList N S hr, hS]
    simp
  exact hC.perm h key3 Try.underlying3 (fun _ => rfl)
theorem setIs_size {w : World} {b N : Nat} {S : Int → Bool} {D : DataW Nat} {n : Nat} (h : w.ownsMap Try.prog 3 unitElem b n D) (hS : ∀ i, Maps.has D (.int .i64 i) = S i) (hr : ∀ i, S i = true → 0 ≤ i ∧ i < (N : Int)) : Maps.size D ≤ N := by
  have h1 := (setIs_perm h hS hr).length_eq
  have h2 := setList_length N S
  obtain ⟨es, hD⟩ := h.isMap
  subst hD
  have e : (intKeys (DataW.map es)).length = es.length := by simp [intKeys]
  rw [Maps.size_eq]
  omega
theorem ownsMap_exact {P : Program} {k : TypeId} {R : Value → Option (DataW Nat × List MemPlace)} {w : World} {b n : Nat} {D : DataW Nat} (h : w.ownsMap P k R b n D) : w.ownsMap P k R b (Maps.size D) D := by
  obtain ⟨es, clock, hb, F, hs, rfl⟩ := h
  exact ⟨es, clock, hb, F, by simp [Maps.size, length_sorted], rfl⟩

namespace SetIs
variable {w w1 : World} {b N : Nat} {S : Int → Bool}
theorem made (w : World) (N : Nat) : SetIs (w.alloc (.map #[] 0)) w.heap.size N (fun _ => false) :=
  ⟨.map [], World.ownsMap_made w Try.prog 3 unitElem, fun _ => rfl, fun _ h => by cases h⟩
theorem kept (h : SetIs w b N S) {row : Option Nat} (hg : w.grownBy w1 row) (hne : some b ≠ row) : SetIs w1 b N S := by
  obtain ⟨D, h1, h2⟩ := h
  exact ⟨D, h1.kept hg hne, h2⟩
theorem lt (h : SetIs w b N S) : b < w.heap.size := by
  obtain ⟨D, h1, _⟩ := h
  exact h1.lt
theorem alloc (h : SetIs w b N S) (o : Obj) : SetIs (w.alloc o) b N S := by
  obtain ⟨D, h1, h2⟩ := h
  exact ⟨D, h1.alloc o, h2⟩
end SetIs

/-- 'v, ok := s[i]'. -/
theorem look_set {w : World} {ops : Array Oper} {rest : List Oper} {o : Oper} {a : Act} {Q : Exit → Act → World → Prop} (hg : o.guard = none) (m x : Operand) (hop : o.op = Op.lookup 115 m x true)
    {b N : Nat} {S : Int → Bool} (i : Int) (hm : a.eval m = .map (some b)) (hS : SetIs w b N S) (hx : a.eval x = .int .i64 i) (hw : (Lit.int .i64 i).wf = true)
    (hK : wpList Try.prog ops Q rest (a.put o.dst (.tuple #[.agg #[], .bool (S i)])) w) : wpList Try.prog ops Q (o :: rest) a w := by
  obtain ⟨D, h1, h2, _⟩ := hS
  refine wpList_lookup_own_unit w hg m x 115 hop 3 140 key3 Try.underlying115 (zero140 w) b _ D hm h1 _ (.int .i64 i) hx (Maps.keyOf_int_mk Try.underlying3 hw) ?_
  rw [h2]; exact hK
/-- 's[i] = struct{}{}'. -/
theorem put_set {w : World} {ops : Array Oper} {rest : List Oper} {o : Oper} {a : Act} {Q : Exit → Act → World → Prop} (hg : o.guard = none) (m x v : Operand) (hop : o.op = Op.mapUpdate 115 m x v)
    {b N : Nat} {S : Int → Bool} (i : Int) (hm : a.eval m = .map (some b)) (hS : SetIs w b N S) (hN : N < maxLen) (hx : a.eval x = .int .i64 i) (hv : a.eval v = .agg #[]) (h0 : 0 ≤ i) (hi : i < (N : Int))
    (hK : ∀ w', SetIs w' b N (with_ S i) → w.grownBy w' (some b) → wpList Try.prog ops Q rest (a.put o.dst undef) w') : wpList Try.prog ops Q (o :: rest) a w := by
  obtain ⟨D, h1, h2, h3⟩ := hS
  have hw : (Lit.int .i64 i).wf = true := by
    unfold maxLen at hN
    exact WalkArith.wf_i64 (by omega)
  refine wpList_mapUpdate_own w hg m x v 115 hop 3 140 key3 Try.underlying115 unitElem b _ D hm h1 (Nat.lt_of_le_of_lt (setIs_size h1 h2 h3) hN) _ _ (.int .i64 i) hx hv (Maps.keyOf_int_mk Try.underlying3 hw) _ [] unitElem_mk ?_
  intro w' hown hgrow
  refine hK w' ⟨_, ownsMap_exact hown, fun j => ?_, fun j hj => ?_⟩ hgrow
  · unfold with_
    by_cases e : j = i
    · subst e; rw [if_pos rfl]; exact Maps.has_put_same h1.isMap (keyLit _) _
    · rw [if_neg e, Maps.has_put_other (by simpa using e), h2]
  · unfold with_ at hj
    split at hj
    · rename_i e; rw [e]; exact ⟨h0, hi⟩
    · exact h3 j hj

theorem gtrans {w w1 w2 : World} {row : Option Nat} (h : w.grownBy w1 row) (h' : w1.grownBy w2 row) : w.grownBy w2 row :=
  ⟨h'.os.trans h.os, h'.tape.trans h.tape, h'.output.trans h.output, Nat.le_trans h.size h'.size, fun i hi hne => (h'.block i (Nat.lt_of_lt_of_le hi h.size) hne).trans (h.block i hi hne)⟩
theorem wf_lt {x : Int} {n : Nat} (hn : n ≤ 1000000) (h0 : 0 ≤ x) (h1 : x < (n : Int)) : (Lit.int .i64 x).wf = true := WalkArith.wf_i64 (by omega)
theorem rd_nat (l : List Int) (k : Nat) (h : k < l.length) : rd l k = l[k] := by simp [rd, List.getD_eq_getElem?_getD, List.getElem?_eq_getElem h]
theorem rd_mem (l : List Int) (k : Nat) (h : k < l.length) : rd l k ∈ l := by rw [rd_nat l k h]; exact List.getElem_mem h
theorem all_snoc {P : Int → Prop} (l : List Int) (k : Nat) (h : k < l.length) (h1 : ∀ x ∈ l.take k, P x) (h2 : P (rd l k)) : ∀ x ∈ l.take (k + 1), P x := by
  intro x hx
  rw [List.take_succ_eq_append_getElem h, List.mem_append] at hx
  rcases hx with hx | hx
  · exact h1 x hx
  · rw [List.mem_singleton.1 hx, ← rd_nat l k h]
    exact h2

/-! ### machine.nodes.add -/
/-- What 'add' leaves. -/
def AddPost (m : List S33) (w0 : World) (b : Nat) (x : Int) (w : World) (S : Int → Bool) (e : Ending) (w' : World) : Prop :=
  e = .returned (.tuple #[]) ∧ ∃ T, SetIs w' b m.length T ∧ Grow (N33 m) (L.Reach (N33 m) x) S T ∧ (valid (N33 m) x → T x = true) ∧ Below w0.heap.size w0 w' ∧ w.grownBy w' (some b)
set_option maxRecDepth 100000 in
theorem add_there (m : List S33) (w0 : World) (A : Option Addr) (c b : Nat) (x : Int) (w : World) (S : Int → Bool) (hw : (Lit.int .i64 x).wf = true) (hS : SetIs w b m.length S) (hB : Below w0.heap.size w0 w) (hs : S x = true) :
    Calls Try.prog 77 #[.map (some b), .slice A m.length c, .int .i64 x] w (AddPost m w0 b x w S) := by
  have HS := Lib.hid hS
  have HB := Lib.hid hB
  have HW := Lib.hid hw
  have Hs := Lib.hid hs
  clear hS hB hw hs
  go_enter Try.func77, Try.ntmps77
  go_wp2_with (first | (at_lookup; refine look_set rfl _ _ rfl x rfl HS.out rfl HW.out ?_; rw [Hs.out]) | fail)
  refine bodyPost_ret (results_none rfl _ _ _) rfl ?_
  exact ⟨rfl, S, HS.out.alloc _, Grow.refl _ _ _, fun _ => Hs.out, HB.out.alloc HB.out.size _, World.grownBy_alloc _ _ _⟩
set_option maxRecDepth 100000 in
theorem add_out (m : List S33) (w0 : World) (A : Option Addr) (c b : Nat) (x : Int) (w : World) (S : Int → Bool) (hw : (Lit.int .i64 x).wf = true) (hS : SetIs w b m.length S) (hB : Below w0.heap.size w0 w) (hs : S x = false) (hx : ¬ (0 ≤ x ∧ x < (m.length : Int))) :
    Calls Try.prog 77 #[.map (some b), .slice A m.length c, .int .i64 x] w (AddPost m w0 b x w S) := by
  have HS := Lib.hid hS
  have HB := Lib.hid hB
  have HW := Lib.hid hw
  have Hs := Lib.hid hs
  clear hS hB hw hs
  have hend : AddPost m w0 b x w S (.returned (.tuple #[])) (w.alloc (.cells #[] 140)) :=
    ⟨rfl, S, HS.out.alloc _, Grow.refl _ _ _, fun hv => by have h1 := hv.1; have h2 := hv.2; rw [N33_length] at h2; omega, HB.out.alloc HB.out.size _, World.grownBy_alloc _ _ _⟩
  have HE := Lib.hid hend
  clear hend
  by_cases h0 : x < 0
  · go_enter Try.func77, Try.ntmps77
    go_wp2_with (first | (at_lookup; refine look_set rfl _ _ rfl x rfl HS.out rfl HW.out ?_; rw [Hs.out]) | fail)
    exact bodyPost_ret (results_none rfl _ _ _) rfl HE.out
  · have h1 : (m.length : Int) ≤ x := by omega
    clear hx
    go_enter Try.func77, Try.ntmps77
    go_wp2_with (first | (at_lookup; refine look_set rfl _ _ rfl x rfl HS.out rfl HW.out ?_; rw [Hs.out]) | fail)
    exact bodyPost_ret (results_none rfl _ _ _) rfl HE.out
set_option maxRecDepth 100000 in
theorem add_calls (m : List S33) (hM : mayB (N33 m) = true) (w0 : World) (A : Option Addr) (c : Nat) (hC : Kd.C k33 w0 A m.length m) (b : Nat) (hb : w0.heap.size ≤ b) (d : Nat) :
    ∀ (x : Int) (w : World) (S : Int → Bool), (Lit.int .i64 x).wf = true → (valid (N33 m) x → (m.length : Int) - x ≤ d) → SetIs w b m.length S → Below w0.heap.size w0 w →
    Calls Try.prog 77 #[.map (some b), .slice A m.length c, .int .i64 x] w (AddPost m w0 b x w S) := by
  have hlen : m.length ≤ 100000 := by have := ((may_iff _).1 hM).2.1; rwa [N33_length] at this
  have HC := Lib.hid hC
  have HM := Lib.hid hM
  clear hC hM
  induction d with
  | zero =>
    intro x w S hw hd hS hB
    cases hs : S x with
    | true => exact add_there m w0 A c b x w S hw hS hB hs
    | false => exact add_out m w0 A c b x w S hw hS hB hs (fun hv => by have := hd ⟨hv.1, by rw [N33_length]; exact hv.2⟩; omega)
  | succ d ih =>
    intro x w S hw hd hS hB
    cases hs : S x with
    | true => exact add_there m w0 A c b x w S hw hS hB hs
    | false =>
      by_cases hv : 0 ≤ x ∧ x < (m.length : Int)
      · obtain ⟨v0, v1⟩ := hv
        have IH := Lib.hid ih
        have HD := Lib.hid hd
        have HS := Lib.hid hS
        have HB := Lib.hid hB
        have HW := Lib.hid hw
        have Hs := Lib.hid hs
        clear ih hd hS hB hw hs
        have hvx : valid (N33 m) x := ⟨v0, by rw [N33_length]; exact v1⟩
        have hsx : succ (nd (N33 m) x) = (rd_T33 m x).f2 ++ (if (rd_T33 m x).f0 = 3 then [(rd_T33 m x).f4] else []) := by rw [nd_N33 m x (by omega)]; rfl
        have hup : ∀ f ∈ succ (nd (N33 m) x), x < f ∧ f < (m.length : Int) := fun f hf => by have := succ_up HM.out hvx hf; rwa [N33_length] at this
        obtain ⟨ad, A1, c1, A2, c2, eA, hx0, hx1, hx2, hx3, hx4, hl1, hi1, hl2, hi2⟩ := at_T33 HC.out x v0 v1
        subst eA
        generalize (rd_T33 m x).f2 = fs at hsx hx2 hl2 hi2
        generalize (rd_T33 m x).f0 = kd at hsx hx0
        generalize (rd_T33 m x).f4 = t4 at hsx hx4
        have Hsx := Lib.hid hsx
        have Hup := Lib.hid hup
        have Hvx := Lib.hid hvx
        have HI2 := Lib.hid hi2
        have HD2 := Lib.hid (HD.out hvx)
        have hfl := hi2.2.1
        clear hsx hup hvx hi2 hi1 hl1 hx1 hx3
        have d0 : decide (x < 0) = false := by simp; omega
        have d1 : decide ((m.length : Int) ≤ x) = false := by simp; omega
        go_enter Try.func77, Try.ntmps77
        go_wp2_with (first | (at_lookup; refine look_set rfl _ _ rfl x rfl HS.out rfl HW.out ?_; rw [Hs.out]) | (at_mapUpdate; refine put_set rfl _ _ _ rfl x rfl (HS.out.alloc _) ?c1 rfl rfl v0 v1 ?_; (case c1 => unfold maxLen; omega); intro w2 hS2 hg2; have hB2 : Below w0.heap.size w0 w2 := (HB.out.alloc HB.out.size _).grown hg2 (by have := HB.out.size; simp; omega) (fun k e => by cases e; exact hb); have hz0 := (hB2.cell (World.block_lt_of_cell? w0 _ hx0)).trans hx0; have hz2 := (hB2.cell (World.block_lt_of_cell? w0 _ hx2)).trans hx2; have hz4 := (hB2.cell (World.block_lt_of_cell? w0 _ hx4)).trans hx4))
        clear hz0 hz2 hz4
        go_loopw [36] (fun v wr => ∃ (k : Nat) (T : Int → Bool), k ≤ fs.length ∧ v = .int .i64 k ∧ Aside0 (SetIs wr b m.length T) ∧ Aside0 (Grow (N33 m) (L.Reach (N33 m) x) (with_ S x) T) ∧ Aside0 (∀ f ∈ fs.take k, T f = true) ∧ Aside0 (Below w0.heap.size w0 wr) ∧ Aside0 (w2.grownBy wr (some b))) (fun v _ => fs.length - (RowKit.intOf v).toNat)
        case atStart => exact ⟨0, _, Nat.zero_le _, rfl, ⟨hS2⟩, ⟨Grow.refl _ _ _⟩, ⟨by simp⟩, ⟨hB2⟩, ⟨World.grownBy.refl _ _⟩⟩
        case round =>
          obtain ⟨k, T, hk, rfl, HT, HG, HIN, HBr, HGr⟩ := hrel
          by_cases hlt : k < fs.length
          · obtain ⟨ad2, eA2, hy⟩ := Kd.at_int HI2.out (k : Int) (by omega) (by omega)
            subst eA2
            have hz := (HBr.out.cell (World.block_lt_of_cell? w0 _ hy)).trans hy
            simp only [Int.toNat_natCast] at hz
            clear hy
            have hmem : rd fs k ∈ succ (nd (N33 m) x) := by rw [Hsx.out]; exact List.mem_append_left _ (rd_mem fs k hlt)
            have hu := Hup.out _ hmem
            generalize hf : rd fs k = f at *
            have Hf := Lib.hid hf
            clear hf
            have Hmem := Lib.hid hmem
            clear hmem
            have hwf := Lib.hid (wf_lt (n := m.length) (by omega) (by omega : 0 ≤ f) hu.2)
            have hdd := Lib.hid (show valid (N33 m) f → (m.length : Int) - f ≤ d from fun _ => by have := HD2.out; omega)
            go_wp2_with (go_at_call 77; refine (IH.out f _ T hwf.out hdd.out HT.out HBr.out).mono ?_; rintro e w3 ⟨rfl, T3, hT3, hG3, hI3, hB3, hg3⟩)
            have hr3 : ∀ i, L.Reach (N33 m) f i → L.Reach (N33 m) x i := fun i hi => ((L.Reach.refl Hvx.out).step Hmem.out).trans hi
            have hv3 : valid (N33 m) f := ⟨by omega, by rw [N33_length]; exact hu.2⟩
            have hin3 := all_snoc (P := fun f => T3 f = true) fs k hlt (fun f hf => hG3.sub f (HIN.out f hf)) (by rw [Hf.out]; exact hI3 hv3)
            have hG4 := HG.out.trans (hG3.mono hr3)
            have hg4 := gtrans HGr.out hg3
            go_roundw
            case rel => exact ⟨k + 1, T3, by omega, by go_num, ⟨hT3⟩, ⟨hG4⟩, ⟨hin3⟩, ⟨hB3⟩, ⟨hg4⟩⟩
            case measure => simp [RowKit.intOf]; omega
          · have hin : ∀ f ∈ fs, T f = true := fun f hf => HIN.out f (by rw [List.take_of_length_le (by omega)]; exact hf)
            have Hin := Lib.hid hin
            clear hin
            have hz0 := (HBr.out.cell (World.block_lt_of_cell? w0 _ hx0)).trans hx0
            by_cases hk3 : kd = 3
            · subst hk3
              have hz4 := (HBr.out.cell (World.block_lt_of_cell? w0 _ hx4)).trans hx4
              have hmem : t4 ∈ succ (nd (N33 m) x) := by rw [Hsx.out]; simp
              have hu := Hup.out _ hmem
              have Hmem := Lib.hid hmem
              clear hmem
              have hwf := Lib.hid (wf_lt (n := m.length) (by omega) (by omega : 0 ≤ t4) hu.2)
              have hdd := Lib.hid (show valid (N33 m) t4 → (m.length : Int) - t4 ≤ d from fun _ => by have := HD2.out; omega)
              go_wp2_with (go_at_call 77; refine (IH.out t4 _ T hwf.out hdd.out HT.out HBr.out).mono ?_; rintro e w3 ⟨rfl, T3, hT3, hG3, hI3, hB3, hg3⟩)
              go_end0
              have hr3 : ∀ i, L.Reach (N33 m) t4 i → L.Reach (N33 m) x i := fun i hi => ((L.Reach.refl Hvx.out).step Hmem.out).trans hi
              have hv3 : valid (N33 m) t4 := ⟨by omega, by rw [N33_length]; exact hu.2⟩
              have hG4 := Grow.close Hvx.out (HG.out.trans (hG3.mono hr3)) (fun j hj => by
                rw [Hsx.out] at hj
                rcases List.mem_append.1 hj with hj | hj
                · exact hG3.sub j (Hin.out j hj)
                · have hj' : j = t4 := by simpa using hj
                  rw [hj']; exact hI3 hv3)
              exact ⟨rfl, T3, hT3, hG4.1, fun _ => hG4.2, hB3, gtrans (gtrans (World.grownBy_alloc _ _ _) hg2) (gtrans HGr.out hg3)⟩
            · have hG4 := Grow.close Hvx.out HG.out (fun j hj => by
                rw [Hsx.out, if_neg hk3, List.append_nil] at hj
                exact Hin.out j hj)
              have HG4 := Lib.hid hG4
              clear hG4
              have hk3' : (kd == 3) = false := by simpa using hk3
              go_wp2
              go_end0
              exact ⟨rfl, T, HT.out, HG4.out.1, fun _ => HG4.out.2, HBr.out, gtrans (gtrans (World.grownBy_alloc _ _ _) hg2) HGr.out⟩
      · exact add_out m w0 A c b x w S hw hS hB hs hv
end Go.Proofs.Ytolfamfgoafhlaa.M
