/- The given row of the law FindEaten, proved without conditions: whatever the input, it returns true, does not panic, and its arguments read behind the call as they read before. -/
import Derived.Test.YtolfamfgoafhlaaZFindEaten0
import Derived.StillTailTactics
import Derived.Deep.LoopGhost
import Derived.Test.YtolfamfgoafhlaaP0
import Derived.Deep.Slices
import Derived.Deep.Fields
import Derived.ChangeSame
import Derived.ProofKit
import Derived.Test.YtolfamfgoafhlaaV0
import Derived.Test.YtolfamfgoafhlaaV1
import Derived.Test.YtolfamfgoafhlaaV2
import Derived.Test.YtolfamfgoafhlaaRows
import Derived.WalkKit
import Derived.OpenShut
import Derived.ShutString
import Derived.ChangeOld
import Derived.Below
import Derived.SizedLaws
section
namespace Go.Proofs.Ytolfamfgoafhlaa.M
open Go.RowKit Go.Proofs.YtolfamfgoafhlaaW.PrintWords Go.Proofs.YtolfamfgoafhlaaW.PrintLast Go.Proofs.YtolfamfgoafhlaaW.PrintMore
open Go.Proofs.Ytolfamfgoafhlaa.P Go.Proofs.Ytolfamfgoafhlaa.L
attribute [local go_sem] min2_int min_two

/-- A finder, as the call finds it: its machine's row stands since w0. -/
structure St (m : List S33) (s : ByteArray) (A : Option Addr) (c F b : Nat) (w0 w : World) : Prop where
  row0 : Kd.C k33 w0 A m.length m
  below : Below w0.heap.size w0 w
  leF : w0.heap.size ≤ F
  leb : w0.heap.size ≤ b
  ne : F ≠ b
  c0 : w.cell? ⟨F, 0, none⟩ = some (.slice A m.length c)
  c1 : w.cell? ⟨F, 1, none⟩ = some (.string s)
  c2 : w.cell? ⟨F, 2, none⟩ = some (.map (some b))
  known : Known (N33 m) s w b
namespace St
variable {m : List S33} {s : ByteArray} {A : Option Addr} {c F b : Nat} {w0 w w1 : World}
theorem fi (h : St m s A c F b w0 w) : Fi m s A c F w := ⟨h.c0, h.c1, Kd.C_below h.row0 h.below⟩
theorem ltb (h : St m s A c F b w0 w) : b < w.heap.size := h.known.lt
theorem ltF (h : St m s A c F b w0 w) : F < w.heap.size := World.block_lt_of_cell? w _ h.c0
theorem turned (h : St m s A c F b w0 w) (hg : w.grownBy w1 (some b)) (hk : Known (N33 m) s w1 b) : St m s A c F b w0 w1 :=
  ⟨h.row0, h.below.grown hg h.below.size (fun k hk => by injection hk with hk; rw [← hk]; exact h.leb), h.leF, h.leb, h.ne,
    hg.cell h.c0 (fun e => h.ne (by injection e)), hg.cell h.c1 (fun e => h.ne (by injection e)), hg.cell h.c2 (fun e => h.ne (by injection e)), hk⟩
theorem onward (h : St m s A c F b w0 w) (hb : Below w.heap.size w w1) : St m s A c F b w0 w1 :=
  ⟨h.row0, h.below.trans (hb.mono h.below.size), h.leF, h.leb, h.ne, (hb.cell (p := ⟨F, 0, none⟩) h.ltF).trans h.c0, (hb.cell (p := ⟨F, 1, none⟩) h.ltF).trans h.c1, (hb.cell (p := ⟨F, 2, none⟩) h.ltF).trans h.c2,
    h.known.kept (row := none) ⟨hb.os, hb.tape, hb.output, hb.size, fun k hk _ => hb.block k hk⟩ (by simp)⟩
end St
theorem below_grown {w w1 : World} (h : Below w.heap.size w w1) (row : Option Nat) : w.grownBy w1 row := ⟨h.os, h.tape, h.output, h.size, fun k hk _ => h.block k hk⟩
theorem at_Pl {w : World} {A : Option Addr} {n : Nat} {xs : List Pl} (h : Kd.C kPl w A n xs) (i : Int) (h0 : 0 ≤ i) (h1 : i < n) : ∃ ad, A = some ad ∧ w.cell? (ad.add (i.toNat * 2)) = some (.int .i64 (xs.getD i.toNat (0, 0)).1) ∧ w.cell? ⟨(ad.add (i.toNat * 2)).block, (ad.add (i.toNat * 2)).off + 1, none⟩ = some (.int .i64 (xs.getD i.toNat (0, 0)).2) := by
  obtain ⟨ad, c, e, _, hK, hc0⟩ := Kd.C_get h (0, 0) i h0 h1
  have hc : ∀ j u, c[j]? = some u → w.cell? (ad.add (i.toNat * 2 + j)) = some u := hc0
  obtain rfl := kPl_open hK
  exact ⟨ad, e, hc 0 _ rfl, by rw [← add_field _ _ 1 (by omega)]; exact hc 1 _ rfl⟩

/-- A look-up, in every world that has the map. -/
theorem known_run {m : List Nd} {s : ByteArray} (hm : m.length ≤ 1000) (hs : s.size ≤ 1000) {w : World} {b : Nat} {p : Pl} (hp : okP m s p) (hK : Known m s w b) : ∃ (c : Int) (is : Bool), (is = true → c = ways m s p) ∧ ∀ w', w.grownBy w' none → (Instr.lookup 120 (.map (some b)) (vPl p) true).run Try.prog w' = .ok (.tuple #[.int .i64 c, .bool is]) w' := by
  obtain ⟨D, ks, h1, h2, h3, h4, h5, h6⟩ := hK
  have hwf := ok_wf (by omega) (by omega) hp
  have hz : plainElem (H := Nat) Try.prog 3 (.int .i64 0) = some (.lit (.int .i64 0), []) := plainElem_int Try.underlying3 (by decide)
  have key : ∀ w', w.grownBy w' none → ∃ c : Int, D.atKey (kl p) (.lit (.int .i64 0)) = .lit (.int .i64 c) ∧ (Instr.lookup 120 (.map (some b)) (vPl p) true).run Try.prog w' = .ok (.tuple #[.int .i64 c, .bool (Maps.has D (kl p))]) w' := fun w' hg => by
    obtain ⟨v, ps, hrun, hv⟩ := (h1.kept hg (by simp)).look_ok key87 Try.underlying120 (zero3 w') hz (key_kl p hwf.1 hwf.2)
    obtain ⟨c, rfl, hc, _⟩ := plainElem_int_inv Try.underlying3 hv
    exact ⟨c, congrArg Prod.fst hc, hrun⟩
  obtain ⟨c, hc, _⟩ := key w ⟨rfl, rfl, rfl, Nat.le_refl _, fun _ _ _ => rfl⟩
  refine ⟨c, Maps.has D (kl p), fun h => ?_, fun w' hg => ?_⟩
  · rw [h5 p hp, decide_eq_true_eq] at h
    rw [h6 p h] at hc
    simp at hc
    exact hc.symm
  · obtain ⟨c', hc', hr⟩ := key w' hg
    rw [hc] at hc'
    simp at hc'
    rw [hc']
    exact hr
theorem drew_grown (w : World) : w.grownBy w.drew none := ⟨rfl, rfl, rfl, Nat.le_refl _, fun _ _ _ => rfl⟩
theorem nextsP_len {m : List S33} (hf : Fit m) (s : ByteArray) {p : Pl} (hp : okP (N33 m) s p) : (nextsP (N33 m) s p).length ≤ 1000000 := by
  obtain ⟨x, at_⟩ := p
  obtain ⟨q1, q2, _, _⟩ := hp
  simp only [N33_length] at q1 q2
  have hnd : nd (N33 m) x = nn (rd_T33 m x) := nd_N33 m x (by omega)
  have hfx : FitN (rd_T33 m x) := by
    obtain ⟨i, rfl⟩ := Int.eq_ofNat_of_zero_le q1
    exact hf _ (rd33_mem m i (by omega))
  unfold nextsP
  simp only [hnd]
  split
  · simp
  · split
    · rw [List.length_map]; exact hfx.2.1
    · split
      · split
        · rw [List.length_map]
          refine Nat.le_trans (List.length_filter_le _ _) ?_
          show ((rd_T33 m x).f1.map ed).length ≤ _
          rw [List.length_map]
          exact hfx.1
        · simp
      · simp
/-- What a call of many leaves. -/
def ManyPost (m : List S33) (s : ByteArray) (A : Option Addr) (c F b : Nat) (w0 w : World) (p : Pl) (e : Ending) (w' : World) : Prop :=
  e = .returned (.int .i64 (ways (N33 m) s p)) ∧ St m s A c F b w0 w' ∧ w.grownBy w' (some b)

set_option maxRecDepth 100000 in
set_option maxHeartbeats 2000000 in
theorem many_calls (m : List S33) (s : ByteArray) (A : Option Addr) (c F b : Nat) (w0 : World) (hf : Fit m) (hm : m.length ≤ 1000) (hs : s.size ≤ 1000) (hM : mayB (N33 m) = true) :
    ∀ (n : Nat) (p : Pl), mu (N33 m) s p ≤ n → okP (N33 m) s p → ∀ w, St m s A c F b w0 w → Calls Try.prog 62 #[.pointer (some ⟨F, 0, none⟩), vPl p] w (ManyPost m s A c F b w0 w p) := by
  intro n
  induction n with
  | zero =>
    intro p hn hp
    exfalso
    unfold mu at hn
    have := hp.1; have := hp.2.1
    omega
  | succ n ih =>
    intro p hn hp w hS
    have HIH := Lib.hid ih
    have HP := Lib.hid hp
    have HS := Lib.hid hS
    have HM := Lib.hid hM
    have HFt := Lib.hid hf
    have hN : (N33 m).length ≤ 1000 := by rw [N33_length]; exact hm
    clear ih hM hf
    obtain ⟨x, at_⟩ := p
    unfold vPl
    have h2 := hS.c2
    have hk := hS.known
    have HK := Lib.hid hk
    clear hS hk
    go_enter Try.func62, Try.ntmps62
    go_wp2
    generalize hw1 : World.alloc w _ = w1
    have hB1 : Below w.heap.size w w1 := by rw [← hw1]; exact (Below.refl _ _).alloc (Nat.le_refl _) _
    have z2 : w1.cell? ⟨F, 2, none⟩ = _ := (hB1.cell (World.block_lt_of_cell? w _ h2)).trans h2
    have zb0 : w1.cell? ⟨w.heap.size, 0, none⟩ = some (.int .i64 x) := by rw [← hw1]; exact (box2 w _ _).1
    have zb1 : w1.cell? ⟨w.heap.size, 1, none⟩ = some (.int .i64 at_) := by rw [← hw1]; exact (box2 w _ _).2
    have HS1 := Lib.hid (HS.out.onward hB1)
    have HB1 := Lib.hid hB1
    clear hB1 hw1 h2
    obtain ⟨kc, is, hkc, hrun⟩ := known_run hN hs HP.out HS1.out.known
    have r0 := hrun w1 ⟨rfl, rfl, rfl, Nat.le_refl _, fun _ _ _ => rfl⟩
    have r1 := hrun w1.drew (drew_grown w1)
    unfold vPl at r0 r1
    have HKc := Lib.hid hkc
    clear hrun hkc
    go_region
    clear r0 r1 z2
    obtain ⟨w2, hw2⟩ : ∃ w2, w2 = w1.drew := ⟨_, rfl⟩
    have hB2 : Below w1.heap.size w1 w2 := by rw [hw2]; exact (Below.refl _ _).drew
    have y0 : w2.cell? ⟨w.heap.size, 0, none⟩ = some (.int .i64 x) := by rw [hw2]; exact zb0
    have y1 : w2.cell? ⟨w.heap.size, 1, none⟩ = some (.int .i64 at_) := by rw [hw2]; exact zb1
    rw [← hw2]
    have HS2 := Lib.hid (HS1.out.onward hB2)
    have HG2 := Lib.hid ((below_grown HB1.out (some b)).trans (below_grown hB2 (some b)))
    clear hB2 hw2 zb0 zb1
    cases is with
    | true =>
      have hv := HKc.out rfl
      have HV := Lib.hid hv
      clear hv
      go_wp2
      go_ret
      exact ⟨by rw [HV.out]; rfl, HS2.out, HG2.out⟩
    | false =>
      cases hz : endP (N33 m) s (x, at_) with
      | true =>
        have HZ := Lib.hid hz
        have hun := ways_unfold HM.out HP.out
        rw [HZ.out] at hun
        have HUn : Hid (ways (N33 m) s (x, at_) = (nextsP (N33 m) s (x, at_)).foldl (fun n q => addW n (ways (N33 m) s q)) 1) := Lib.hid (by rw [hun]; rfl)
        have hnok : ∀ q ∈ nextsP (N33 m) s (x, at_), okP (N33 m) s q ∧ mu (N33 m) s q ≤ n := fun q hq => ⟨(nextsP_ok HM.out HP.out hq).1, by have := (nextsP_ok HM.out HP.out hq).2; omega⟩
        have HNok := Lib.hid hnok
        clear hz hun hnok
        have HY0 := Lib.hid y0
        have HY1 := Lib.hid y1
        have hnl := nextsP_len HFt.out s HP.out
        generalize hnx : nextsP (N33 m) s (x, at_) = nx at *
        have HNx := Lib.hid hnx
        clear hnx
        go_wp2_with (first
          | (go_at_call 63; refine (ends_calls m s A c F w2 HS2.out.fi (x, at_) HP.out).mono ?_; rw [HZ.out]; rintro e w3 ⟨rfl, hb3⟩; have HS3 := Lib.hid (HS2.out.onward hb3); have HG3 := Lib.hid (HG2.out.trans (below_grown hb3 (some b))); have y0 := (hb3.cell (World.block_lt_of_cell? _ _ HY0.out)).trans HY0.out; have y1 := (hb3.cell (World.block_lt_of_cell? _ _ HY1.out)).trans HY1.out; have HX0 := Lib.hid y0; have HX1 := Lib.hid y1; clear hb3)
          | (go_at_call 64; refine (next_calls m s A c F w3 HS3.out.fi HFt.out (by omega) (x, at_) HP.out).mono ?_; rw [HNx.out]; rintro e w4 ⟨v, rfl, hv, hb4⟩; obtain ⟨A9, c9, rfl, hl9, hc9⟩ := Kd.R_reads hv; have HR4 : Hid (kPl.R 87 w4 w3.heap.size (fun k => k ≠ b) (.slice A9 nx.length c9) nx) := Lib.hid (Kd.R_mono (Kd.R_bound hv) (fun k hk => by have h1 := hk.2.1; have h2 := HS3.out.ltb; omega)); have HS4 := Lib.hid (HS3.out.onward hb4); have HG4 := Lib.hid (HG3.out.trans (below_grown hb4 (some b))); have u0 := (hb4.cell (World.block_lt_of_cell? _ _ HX0.out)).trans HX0.out; have u1 := (hb4.cell (World.block_lt_of_cell? _ _ HX1.out)).trans HX1.out; have HU0 := Lib.hid u0; have HU1 := Lib.hid u1; clear hb4 hv hc9 y0 y1 u0 u1))
        go_loopw [7, 28] (fun v7 v28 wr => ∃ (k : Nat) (a : Int), k ≤ nx.length ∧ v28 = .int .i64 k ∧ v7 = .int .i64 a ∧ 0 ≤ a ∧ a ≤ 1000 ∧ Aside0 ((nx.take k).foldl (fun n q => addW n (ways (N33 m) s q)) 1 = a) ∧ Aside0 (St m s A c F b w0 wr) ∧ Aside0 (w.grownBy wr (some b)) ∧ Aside0 (kPl.R 87 wr w3.heap.size (fun k => k ≠ b) (.slice A9 nx.length c9) nx) ∧ Aside0 (wr.cell? ⟨w.heap.size, 0, none⟩ = some (.int .i64 x)) ∧ Aside0 (wr.cell? ⟨w.heap.size, 1, none⟩ = some (.int .i64 at_))) (fun _ v _ => nx.length - (RowKit.intOf v).toNat)
        case atStart => exact ⟨0, 1, Nat.zero_le _, rfl, rfl, by omega, by omega, ⟨rfl⟩, ⟨HS4.out⟩, ⟨HG4.out⟩, ⟨HR4.out⟩, ⟨HU0.out⟩, ⟨HU1.out⟩⟩
        case round =>
          obtain ⟨k, a, hk, rfl, rfl, ha0, ha1, HAc, HSr, HGr, HRr, HC0, HC1⟩ := hrel
          by_cases hlt : k < nx.length
          · obtain ⟨_, _, hC⟩ := Kd.R_reads' HRr.out
            obtain ⟨ad9, eA9, hq0, hq1⟩ := at_Pl hC (k : Int) (by omega) (by omega)
            subst eA9
            have eg : nx.getD (k : Int).toNat (0, 0) = nx[k] := by simp [List.getD_eq_getElem?_getD, List.getElem?_eq_getElem hlt]
            rw [eg, Int.toNat_natCast] at hq0 hq1
            have hqok := HNok.out nx[k] (List.getElem_mem hlt)
            have hacc : (nx.take (k + 1)).foldl (fun n q => addW n (ways (N33 m) s q)) 1 = addW a (ways (N33 m) s nx[k]) := by rw [List.take_succ_eq_append_getElem hlt, List.foldl_append, HAc.out]; rfl
            have hrg := ways_rng HM.out hqok.1
            generalize nx[k] = q at *
            obtain ⟨qx, qa⟩ := q
            have HQ := Lib.hid hqok
            have HA2 := Lib.hid hacc
            clear hqok hacc eg hC
            generalize hV : ways (N33 m) s (qx, qa) = V at *
            have HV := Lib.hid hV
            clear hV
            have hwr : IntKind.i64.wrap (a + V) = a + V := IntWalk.i64_in _ ⟨by omega, by omega⟩
            have HSa := Lib.hid (HSr.out.onward ((Below.refl _ wr).alloc (Nat.le_refl _) (.cells #[.int .i64 qx, .int .i64 qa] 87)))
            have HGa := Lib.hid (HGr.out.trans (World.grownBy_alloc wr (.cells #[.int .i64 qx, .int .i64 qa] 87) (some b)))
            go_wp2_with (first
              | (go_at_call 62; refine (HIH.out (qx, qa) HQ.out.2 HQ.out.1 _ HSa.out).mono ?_; rintro e w6 ⟨rfl, hS6, hg6⟩; rw [HV.out]; have HS6 := Lib.hid hS6; have HG6 := Lib.hid hg6; clear hS6 hg6))
            have HGb := Lib.hid ((World.grownBy_alloc wr (.cells #[.int .i64 qx, .int .i64 qa] 87) (some b)).trans HG6.out)
            have HNe : Hid (some w.heap.size ≠ some b) := Lib.hid (fun e => by have h1 := HS.out.ltb; injection e with e; omega)
            go_roundw
            case rel => exact ⟨k + 1, addW a V, by omega, by go_num, by unfold addW; congr 1; split <;> omega, by unfold addW; omega, by unfold addW; omega, ⟨HA2.out⟩, ⟨HS6.out⟩, ⟨HGr.out.trans HGb.out⟩, ⟨Kd.R_grown HRr.out HGb.out (fun j hj e => hj (by injection e))⟩, ⟨HGb.out.cell HC0.out HNe.out⟩, ⟨HGb.out.cell HC1.out HNe.out⟩⟩
            case measure => simp [RowKit.intOf]; omega
          · obtain rfl : k = nx.length := by omega
            have hfin := HAc.out
            rw [List.take_length, ← HUn.out] at hfin
            have HFin := Lib.hid hfin
            clear hfin
            have h2 := HSr.out.c2
            have hc0 := HC0.out
            have hc1 := HC1.out
            go_wp2
            go_still_tail 6, (by kernel_rfl)
            change wpList _ _ _ _ _ wr.drew
            have HKn := Lib.hid (HSr.out.known.kept (drew_grown wr) (by simp))
            have HSd := Lib.hid (HSr.out.onward (Below.refl wr.heap.size wr).drew)
            have HGd := Lib.hid (HGr.out.trans (below_grown (Below.refl wr.heap.size wr).drew (some b)))
            generalize wr.drew = w8 at *
            refine put_known hN hs rfl _ _ _ rfl (x, at_) HP.out HM.out rfl HKn.out rfl (by rw [HFin.out]; rfl) ?_
            intro w9 hk9 hg9
            have HS9 := Lib.hid (HSd.out.turned hg9 hk9)
            have HG9 := Lib.hid (HGd.out.trans hg9)
            clear hk9 hg9
            go_wp2
            go_ret
            exact ⟨by rw [HFin.out]; rfl, HS9.out, HG9.out⟩
      | false =>
        have HZ := Lib.hid hz
        have hun := ways_unfold HM.out HP.out
        rw [HZ.out] at hun
        have HUn : Hid (ways (N33 m) s (x, at_) = (nextsP (N33 m) s (x, at_)).foldl (fun n q => addW n (ways (N33 m) s q)) 0) := Lib.hid (by rw [hun]; rfl)
        have hnok : ∀ q ∈ nextsP (N33 m) s (x, at_), okP (N33 m) s q ∧ mu (N33 m) s q ≤ n := fun q hq => ⟨(nextsP_ok HM.out HP.out hq).1, by have := (nextsP_ok HM.out HP.out hq).2; omega⟩
        have HNok := Lib.hid hnok
        clear hz hun hnok
        have HY0 := Lib.hid y0
        have HY1 := Lib.hid y1
        have hnl := nextsP_len HFt.out s HP.out
        generalize hnx : nextsP (N33 m) s (x, at_) = nx at *
        have HNx := Lib.hid hnx
        clear hnx
        go_wp2_with (first
          | (go_at_call 63; refine (ends_calls m s A c F w2 HS2.out.fi (x, at_) HP.out).mono ?_; rw [HZ.out]; rintro e w3 ⟨rfl, hb3⟩; have HS3 := Lib.hid (HS2.out.onward hb3); have HG3 := Lib.hid (HG2.out.trans (below_grown hb3 (some b))); have y0 := (hb3.cell (World.block_lt_of_cell? _ _ HY0.out)).trans HY0.out; have y1 := (hb3.cell (World.block_lt_of_cell? _ _ HY1.out)).trans HY1.out; have HX0 := Lib.hid y0; have HX1 := Lib.hid y1; clear hb3)
          | (go_at_call 64; refine (next_calls m s A c F w3 HS3.out.fi HFt.out (by omega) (x, at_) HP.out).mono ?_; rw [HNx.out]; rintro e w4 ⟨v, rfl, hv, hb4⟩; obtain ⟨A9, c9, rfl, hl9, hc9⟩ := Kd.R_reads hv; have HR4 : Hid (kPl.R 87 w4 w3.heap.size (fun k => k ≠ b) (.slice A9 nx.length c9) nx) := Lib.hid (Kd.R_mono (Kd.R_bound hv) (fun k hk => by have h1 := hk.2.1; have h2 := HS3.out.ltb; omega)); have HS4 := Lib.hid (HS3.out.onward hb4); have HG4 := Lib.hid (HG3.out.trans (below_grown hb4 (some b))); have u0 := (hb4.cell (World.block_lt_of_cell? _ _ HX0.out)).trans HX0.out; have u1 := (hb4.cell (World.block_lt_of_cell? _ _ HX1.out)).trans HX1.out; have HU0 := Lib.hid u0; have HU1 := Lib.hid u1; clear hb4 hv hc9 y0 y1 u0 u1))
        go_loopw [7, 28] (fun v7 v28 wr => ∃ (k : Nat) (a : Int), k ≤ nx.length ∧ v28 = .int .i64 k ∧ v7 = .int .i64 a ∧ 0 ≤ a ∧ a ≤ 1000 ∧ Aside0 ((nx.take k).foldl (fun n q => addW n (ways (N33 m) s q)) 0 = a) ∧ Aside0 (St m s A c F b w0 wr) ∧ Aside0 (w.grownBy wr (some b)) ∧ Aside0 (kPl.R 87 wr w3.heap.size (fun k => k ≠ b) (.slice A9 nx.length c9) nx) ∧ Aside0 (wr.cell? ⟨w.heap.size, 0, none⟩ = some (.int .i64 x)) ∧ Aside0 (wr.cell? ⟨w.heap.size, 1, none⟩ = some (.int .i64 at_))) (fun _ v _ => nx.length - (RowKit.intOf v).toNat)
        case atStart => exact ⟨0, 0, Nat.zero_le _, rfl, rfl, by omega, by omega, ⟨rfl⟩, ⟨HS4.out⟩, ⟨HG4.out⟩, ⟨HR4.out⟩, ⟨HU0.out⟩, ⟨HU1.out⟩⟩
        case round =>
          obtain ⟨k, a, hk, rfl, rfl, ha0, ha1, HAc, HSr, HGr, HRr, HC0, HC1⟩ := hrel
          by_cases hlt : k < nx.length
          · obtain ⟨_, _, hC⟩ := Kd.R_reads' HRr.out
            obtain ⟨ad9, eA9, hq0, hq1⟩ := at_Pl hC (k : Int) (by omega) (by omega)
            subst eA9
            have eg : nx.getD (k : Int).toNat (0, 0) = nx[k] := by simp [List.getD_eq_getElem?_getD, List.getElem?_eq_getElem hlt]
            rw [eg, Int.toNat_natCast] at hq0 hq1
            have hqok := HNok.out nx[k] (List.getElem_mem hlt)
            have hacc : (nx.take (k + 1)).foldl (fun n q => addW n (ways (N33 m) s q)) 0 = addW a (ways (N33 m) s nx[k]) := by rw [List.take_succ_eq_append_getElem hlt, List.foldl_append, HAc.out]; rfl
            have hrg := ways_rng HM.out hqok.1
            generalize nx[k] = q at *
            obtain ⟨qx, qa⟩ := q
            have HQ := Lib.hid hqok
            have HA2 := Lib.hid hacc
            clear hqok hacc eg hC
            generalize hV : ways (N33 m) s (qx, qa) = V at *
            have HV := Lib.hid hV
            clear hV
            have hwr : IntKind.i64.wrap (a + V) = a + V := IntWalk.i64_in _ ⟨by omega, by omega⟩
            have HSa := Lib.hid (HSr.out.onward ((Below.refl _ wr).alloc (Nat.le_refl _) (.cells #[.int .i64 qx, .int .i64 qa] 87)))
            have HGa := Lib.hid (HGr.out.trans (World.grownBy_alloc wr (.cells #[.int .i64 qx, .int .i64 qa] 87) (some b)))
            go_wp2_with (first
              | (go_at_call 62; refine (HIH.out (qx, qa) HQ.out.2 HQ.out.1 _ HSa.out).mono ?_; rintro e w6 ⟨rfl, hS6, hg6⟩; rw [HV.out]; have HS6 := Lib.hid hS6; have HG6 := Lib.hid hg6; clear hS6 hg6))
            have HGb := Lib.hid ((World.grownBy_alloc wr (.cells #[.int .i64 qx, .int .i64 qa] 87) (some b)).trans HG6.out)
            have HNe : Hid (some w.heap.size ≠ some b) := Lib.hid (fun e => by have h1 := HS.out.ltb; injection e with e; omega)
            go_roundw
            case rel => exact ⟨k + 1, addW a V, by omega, by go_num, by unfold addW; congr 1; split <;> omega, by unfold addW; omega, by unfold addW; omega, ⟨HA2.out⟩, ⟨HS6.out⟩, ⟨HGr.out.trans HGb.out⟩, ⟨Kd.R_grown HRr.out HGb.out (fun j hj e => hj (by injection e))⟩, ⟨HGb.out.cell HC0.out HNe.out⟩, ⟨HGb.out.cell HC1.out HNe.out⟩⟩
            case measure => simp [RowKit.intOf]; omega
          · obtain rfl : k = nx.length := by omega
            have hfin := HAc.out
            rw [List.take_length, ← HUn.out] at hfin
            have HFin := Lib.hid hfin
            clear hfin
            have h2 := HSr.out.c2
            have hc0 := HC0.out
            have hc1 := HC1.out
            go_wp2
            go_still_tail 6, (by kernel_rfl)
            change wpList _ _ _ _ _ wr.drew
            have HKn := Lib.hid (HSr.out.known.kept (drew_grown wr) (by simp))
            have HSd := Lib.hid (HSr.out.onward (Below.refl wr.heap.size wr).drew)
            have HGd := Lib.hid (HGr.out.trans (below_grown (Below.refl wr.heap.size wr).drew (some b)))
            generalize wr.drew = w8 at *
            refine put_known hN hs rfl _ _ _ rfl (x, at_) HP.out HM.out rfl HKn.out rfl (by rw [HFin.out]; rfl) ?_
            intro w9 hk9 hg9
            have HS9 := Lib.hid (HSd.out.turned hg9 hk9)
            have HG9 := Lib.hid (HGd.out.trans hg9)
            clear hk9 hg9
            go_wp2
            go_ret
            exact ⟨by rw [HFin.out]; rfl, HS9.out, HG9.out⟩
end Go.Proofs.Ytolfamfgoafhlaa.M
end
section
namespace Go.Proofs.Ytolfamfgoafhlaa.M
open Go.RowKit Go.Proofs.YtolfamfgoafhlaaW.PrintWords Go.Proofs.YtolfamfgoafhlaaW.PrintLast Go.Proofs.YtolfamfgoafhlaaW.PrintMore
open Go.Proofs.Ytolfamfgoafhlaa.P Go.Proofs.Ytolfamfgoafhlaa.L
attribute [local go_sem] min2_int min_two

set_option maxRecDepth 100000 in
set_option maxHeartbeats 1000000 in
/-- find.of, of a machine. -/
theorem of_calls (m : List S33) (s : ByteArray) (A : Option Addr) (c : Nat) (hf : Fit m) (hM : mayB (N33 m) = true) (w : World) (hC : Kd.C k33 w A m.length m) :
    Calls Try.prog 61 #[.slice A m.length c, .string s] w fun e w' => ∃ F b, e = .returned (.pointer (some ⟨F, 0, none⟩)) ∧ St m s A c F b w w' ∧ Below w.heap.size w w' := by
  have HF := Lib.hid hf
  have HM := Lib.hid hM
  have HC := Lib.hid hC
  clear hf hM hC
  have hmm := @run_makeMap Try.prog
  go_enter Try.func61, Try.ntmps61
  go_wp2_with (first | (go_at_call 23; refine (may_calls m HF.out A c _ HC.out).mono ?_; rw [HM.out]; rintro e w1 ⟨rfl, hb1⟩; have HB1 := Lib.hid hb1; clear hb1))
  have hs : (w1.alloc (.map #[] 0)).heap.size = w1.heap.size + 1 := by simp
  have hk : Known (N33 m) s (w1.alloc (.map #[] 0)) w1.heap.size := Known.made w1
  have hb : Below w.heap.size w (w1.alloc (.map #[] 0)) := HB1.out.alloc HB1.out.size _
  generalize w1.alloc (.map #[] 0) = w2 at *
  have g0 := cells_new w2 #[.slice A m.length c, .string s, .map (some w1.heap.size)] 122 0 _ rfl
  have g1 := cells_new w2 #[.slice A m.length c, .string s, .map (some w1.heap.size)] 122 1 _ rfl
  have g2 := cells_new w2 #[.slice A m.length c, .string s, .map (some w1.heap.size)] 122 2 _ rfl
  have hk2 := hk.kept (World.grownBy_alloc w2 (.cells #[.slice A m.length c, .string s, .map (some w1.heap.size)] 122) none) (by simp)
  have hb2 := hb.alloc hb.size (.cells #[.slice A m.length c, .string s, .map (some w1.heap.size)] 122)
  rw [hs] at g0 g1 g2
  have hz := HB1.out.size
  go_ret
  exact ⟨w1.heap.size + 1, w1.heap.size, rfl, ⟨HC.out, hb2, by omega, hz, by omega, g0, g1, g2, hk2⟩, hb2⟩
set_option maxRecDepth 100000 in
/-- find.of, of what is no machine. -/
theorem of_none (m : List S33) (s : ByteArray) (A : Option Addr) (c : Nat) (hf : Fit m) (hM : mayB (N33 m) = false) (w : World) (hC : Kd.C k33 w A m.length m) :
    Calls Try.prog 61 #[.slice A m.length c, .string s] w fun e w' => e = .returned (.pointer none) ∧ Below w.heap.size w w' := by
  have HF := Lib.hid hf
  have HM := Lib.hid hM
  have HC := Lib.hid hC
  clear hf hM hC
  go_enter Try.func61, Try.ntmps61
  go_wp2_with (first | (go_at_call 23; refine (may_calls m HF.out A c _ HC.out).mono ?_; rw [HM.out]; rintro e w1 ⟨rfl, hb1⟩; have HB1 := Lib.hid hb1; clear hb1))
  go_ret
  exact ⟨rfl, HB1.out⟩

theorem ok0 {m : List S33} (hM : mayB (N33 m) = true) (s : ByteArray) : okP (N33 m) s (0, 0) :=
  ⟨by show (0 : Int) ≤ 0; omega, by have := ((may_iff _).1 hM).1; show (0 : Int) < _; omega, by show (0 : Int) ≤ 0; omega, by show (0 : Int) ≤ _; omega⟩
set_option maxRecDepth 100000 in
set_option maxHeartbeats 1000000 in
/-- find.Many, of a machine, up to 1000. -/
theorem Many_calls (m : List S33) (s : ByteArray) (A : Option Addr) (c : Nat) (hf : Fit m) (hm : m.length ≤ 1000) (hs : s.size ≤ 1000) (hM : mayB (N33 m) = true) (v : Int) (hv : ways (N33 m) s (0, 0) = v) (w : World) (hC : Kd.C k33 w A m.length m) :
    Calls Try.prog 34 #[.slice A m.length c, .string s, .int .i64 1000] w fun e w' => e = .returned (.int .i64 v) ∧ Below w.heap.size w w' := by
  have hrg := ways_rng hM (ok0 hM s)
  rw [hv] at hrg
  have HF := Lib.hid hf
  have HM := Lib.hid hM
  have HC := Lib.hid hC
  have HV := Lib.hid hv
  clear hf hM hC hv
  go_enter Try.func34, Try.ntmps34
  go_wp2_with (first
    | (go_at_call 61; refine (of_calls m s A c HF.out HM.out w HC.out).mono ?_; rintro e w1 ⟨F, b, rfl, hS, hb1⟩; have HS := Lib.hid hS; have HB1 := Lib.hid hb1; clear hb1 hS)
    | (go_at_call 62; refine (many_calls m s A c F b w HF.out hm hs HM.out _ (0, 0) (Nat.le_refl _) (ok0 HM.out s) w1 HS.out).mono ?_; rintro e w2 ⟨rfl, hS2, hg2⟩; rw [HV.out]; have HS2 := Lib.hid hS2; clear hg2 hS2))
  · go_ret
    exact ⟨rfl, HS2.out.below⟩
  · obtain rfl : v = 1000 := by omega
    go_ret
    exact ⟨rfl, HS2.out.below⟩
set_option maxRecDepth 100000 in
/-- find.Many, of what is no machine. -/
theorem Many_none (m : List S33) (s : ByteArray) (A : Option Addr) (c : Nat) (hf : Fit m) (hM : mayB (N33 m) = false) (lim : Int) (w : World) (hC : Kd.C k33 w A m.length m) :
    Calls Try.prog 34 #[.slice A m.length c, .string s, .int .i64 lim] w fun e w' => e = .returned (.int .i64 0) ∧ Below w.heap.size w w' := by
  have HF := Lib.hid hf
  have HM := Lib.hid hM
  have HC := Lib.hid hC
  clear hf hM hC
  go_enter Try.func34, Try.ntmps34
  go_wp2_with (first
    | (go_at_call 61; refine (of_none m s A c HF.out HM.out w HC.out).mono ?_; rintro e w1 ⟨rfl, hb1⟩; have HB1 := Lib.hid hb1; clear hb1))
  go_ret
  exact ⟨rfl, HB1.out⟩
end Go.Proofs.Ytolfamfgoafhlaa.M
end
section
namespace Go.Proofs.Ytolfamfgoafhlaa.M
open Go.RowKit Go.Proofs.YtolfamfgoafhlaaW.PrintWords Go.Proofs.YtolfamfgoafhlaaW.PrintLast Go.Proofs.YtolfamfgoafhlaaW.PrintMore
open Go.Proofs.Ytolfamfgoafhlaa.P Go.Proofs.Ytolfamfgoafhlaa.L

/-! ### find.Way -/
theorem fold_shift (V : Pl → Int) (l : List Pl) (hV : ∀ q ∈ l, 0 ≤ V q ∧ V q ≤ 1000) : ∀ (y z : Int), 0 ≤ y → 0 ≤ z → l.foldl (fun n q => addW n (V q)) (addW y z) ≤ y + l.foldl (fun n q => addW n (V q)) z := by
  induction l with
  | nil => intro y z hy hz; show addW y z ≤ y + z; unfold addW; omega
  | cons q l ih =>
    intro y z hy hz
    have hq := hV q List.mem_cons_self
    rw [List.foldl_cons, List.foldl_cons]
    have e : addW (addW y z) (V q) = addW y (addW z (V q)) := by unfold addW; omega
    rw [e]
    exact ih (fun r hr => hV r (List.mem_cons_of_mem _ hr)) y _ hy (by unfold addW; omega)
/-- The rest of a place's ways, from the i-th place behind it on. -/
def restW (V : Pl → Int) (nx : List Pl) (i : Nat) : Int := (nx.drop i).foldl (fun n q => addW n (V q)) 0
theorem restW_step (V : Pl → Int) (nx : List Pl) (hV : ∀ q ∈ nx, 0 ≤ V q ∧ V q ≤ 1000) (i : Nat) (hi : i < nx.length) (k : Int) (hk : k < restW V nx i) : k - V nx[i] < restW V nx (i + 1) := by
  unfold restW at *
  rw [List.drop_eq_getElem_cons hi, List.foldl_cons] at hk
  have hq := hV _ (List.getElem_mem hi)
  have e : addW 0 (V nx[i]) = addW (V nx[i]) 0 := by unfold addW; omega
  rw [e] at hk
  have := fold_shift V (nx.drop (i + 1)) (fun q hq => hV q (List.mem_of_mem_drop hq)) (V nx[i]) 0 hq.1 (Int.le_refl _)
  omega
theorem restW_end (V : Pl → Int) (nx : List Pl) : restW V nx nx.length = 0 := by unfold restW; rw [List.drop_length]; rfl
theorem restW_start {m : List Nd} {s : ByteArray} (h : mayB m = true) {p : Pl} (hp : okP m s p) (he : endP m s p = false) : restW (ways m s) (nextsP m s p) 0 = ways m s p := by
  rw [ways_unfold h hp, he]
  rfl
/-- The marks of the k-th way from a place on; which place is behind it is told by how many ways there are from each. -/
def pickF (V : Pl → Int) (H : Pl → Int → List Pl) : List Pl → Int → List Pl
  | [], _ => []
  | q :: l, k => if k < V q then H q k else pickF V H l (k - V q)
def hitsF (m : List Nd) (s : ByteArray) : Nat → Pl → Int → List Pl
  | 0, _, _ => []
  | f + 1, p, k => if endP m s p = true then [] else (if (nd m p.1).kind = 3 then [((nd m p.1).tag, p.2)] else []) ++ pickF (ways m s) (fun q k => hitsF m s f q k) (nextsP m s p) k
theorem pick_lt {V : Pl → Int} {H : Pl → Int → List Pl} {nx : List Pl} {i : Nat} (hi : i < nx.length) {k : Int} (hk : k < V nx[i]) : pickF V H (nx.drop i) k = H nx[i] k := by
  rw [List.drop_eq_getElem_cons hi]
  unfold pickF
  rw [if_pos hk]
theorem pick_ge {V : Pl → Int} {H : Pl → Int → List Pl} {nx : List Pl} {i : Nat} (hi : i < nx.length) {k : Int} (hk : ¬ k < V nx[i]) : pickF V H (nx.drop i) k = pickF V H (nx.drop (i + 1)) (k - V nx[i]) := by
  rw [List.drop_eq_getElem_cons hi]
  show (if k < V nx[i] then _ else _) = _
  rw [if_neg hk]
theorem hits_end {m : List Nd} {s : ByteArray} {f : Nat} {p : Pl} {k : Int} (h : endP m s p = true) : hitsF m s (f + 1) p k = [] := by unfold hitsF; rw [if_pos h]
theorem hits_on {m : List Nd} {s : ByteArray} {f : Nat} {p : Pl} {k : Int} (h : endP m s p = false) : hitsF m s (f + 1) p k = (if (nd m p.1).kind = 3 then [((nd m p.1).tag, p.2)] else []) ++ pickF (ways m s) (hitsF m s f) ((nextsP m s p).drop 0) k := by
  show (if endP m s p = true then _ else _) = _
  rw [if_neg (by rw [h]; simp), List.drop_zero]
set_option maxRecDepth 100000 in
set_option maxHeartbeats 2000000 in
/-- find.Way, of what is no machine. -/
theorem Way_none (m : List S33) (s : ByteArray) (A : Option Addr) (c : Nat) (hf : Fit m) (hM : mayB (N33 m) = false) (k : Int) (w : World) (hC : Kd.C k33 w A m.length m) :
    Calls Try.prog 35 #[.slice A m.length c, .string s, .int .i64 k] w fun e w' => ∃ v, e = .returned (.tuple #[v, .bool false]) ∧ Below w.heap.size w w' := by
  have HF := Lib.hid hf
  have HM := Lib.hid hM
  have HC := Lib.hid hC
  clear hf hM hC
  go_enter Try.func35, Try.ntmps35
  go_wp2_with (first
    | (go_at_call 61; refine (of_none m s A c HF.out HM.out w HC.out).mono ?_; rintro e w1 ⟨rfl, hb1⟩; have HB1 := Lib.hid hb1; clear hb1))
  go_ret2
  exact ⟨_, rfl, HB1.out⟩
end Go.Proofs.Ytolfamfgoafhlaa.M
end
section
namespace Go.Proofs.Ytolfamfgoafhlaa.M
open Go.RowKit Go.Proofs.YtolfamfgoafhlaaW.PrintWords Go.Proofs.YtolfamfgoafhlaaW.PrintLast Go.Proofs.YtolfamfgoafhlaaW.PrintMore
open Go.Proofs.Ytolfamfgoafhlaa.P Go.Proofs.Ytolfamfgoafhlaa.L

theorem St.aside {m : List S33} {s : ByteArray} {A : Option Addr} {c F b : Nat} {w0 w w1 : World} (h : St m s A c F b w0 w) {row : Option Nat} (hg : w.grownBy w1 row) (h1 : some F ≠ row) (h2 : some b ≠ row) (h3 : ∀ k, row = some k → w0.heap.size ≤ k) : St m s A c F b w0 w1 :=
  ⟨h.row0, h.below.grown hg h.below.size h3, h.leF, h.leb, h.ne, hg.cell h.c0 h1, hg.cell h.c1 h1, hg.cell h.c2 h1, h.known.kept hg h2⟩
theorem frozen_at {W : World} {g : Nat} {cells : Array Value} {t : TypeId} (h : W.heap[g]? = some (.cells cells t (0, 0))) (j : Nat) : W.frozen? ⟨g, j, none⟩ = false := by
  simp [World.frozen?, h]
theorem grown_set (w : World) (a : Addr) (u : Value) : w.grownBy (w.setCell a u) (some a.block) :=
  ⟨rfl, rfl, rfl, by simp [World.setCell], fun k _ hk => Below.heap_setCell _ _ _ _ (fun e => hk (by rw [e]))⟩
theorem info82 : (Try.prog.info? 82).map (fun i => (i.zero, i.size, i.bytes)) = some (some (.agg #[.int .i64 0, .int .i64 0]), 2, 16) := by kernel_rfl
set_option maxRecDepth 100000 in
set_option maxHeartbeats 2000000 in
/-- find.Way, of a way that is not. -/
theorem Way_out (m : List S33) (s : ByteArray) (A : Option Addr) (c : Nat) (hf : Fit m) (hm : m.length ≤ 1000) (hs : s.size ≤ 1000) (hM : mayB (N33 m) = true) (v : Int) (hv : ways (N33 m) s (0, 0) = v) (k : Int) (hk : k < 0 ∨ v ≤ k) (w : World) (hC : Kd.C k33 w A m.length m) :
    Calls Try.prog 35 #[.slice A m.length c, .string s, .int .i64 k] w fun e w' => ∃ v, e = .returned (.tuple #[v, .bool false]) ∧ Below w.heap.size w w' := by
  have hrg := ways_rng hM (ok0 hM s)
  rw [hv] at hrg
  have HF := Lib.hid hf
  have HM := Lib.hid hM
  have HC := Lib.hid hC
  have HV := Lib.hid hv
  clear hf hM hC hv
  by_cases h0 : k < 0
  · have b0 : decide (k < 0) = true := decide_eq_true h0
    go_enter Try.func35, Try.ntmps35
    go_wp2_with (first
      | (go_at_call 61; refine (of_calls m s A c HF.out HM.out w HC.out).mono ?_; rintro e w1 ⟨F, b, rfl, hS, hb1⟩; have HS := Lib.hid hS; have HB1 := Lib.hid hb1; clear hb1 hS))
    go_ret2
    exact ⟨_, rfl, HB1.out⟩
  · have b0 : decide (k < 0) = false := decide_eq_false h0
    have b1 : decide (v ≤ k) = true := decide_eq_true (by omega)
    go_enter Try.func35, Try.ntmps35
    go_wp2_with (first
      | (go_at_call 61; refine (of_calls m s A c HF.out HM.out w HC.out).mono ?_; rintro e w1 ⟨F, b, rfl, hS, hb1⟩; have HS := Lib.hid hS; have HB1 := Lib.hid hb1; clear hb1 hS)
      | (go_at_call 62; refine (many_calls m s A c F b w HF.out hm hs HM.out _ (0, 0) (Nat.le_refl _) (ok0 HM.out s) w1 HS.out).mono ?_; rintro e w2 ⟨rfl, hS2, hg2⟩; rw [HV.out]; have HS2 := Lib.hid hS2; clear hg2 hS2))
    go_ret2
    exact ⟨_, rfl, HS2.out.below⟩

set_option maxRecDepth 100000 in
set_option maxHeartbeats 2000000 in
/-- find.Way, of a way that is. -/
theorem Way_in (m : List S33) (s : ByteArray) (A : Option Addr) (c : Nat) (hf : Fit m) (hm : m.length ≤ 1000) (hs : s.size ≤ 1000) (hM : mayB (N33 m) = true) (v : Int) (hv : ways (N33 m) s (0, 0) = v) (k : Int) (hk0 : 0 ≤ k) (hk : k < v) (w : World) (hC : Kd.C k33 w A m.length m) :
    Calls Try.prog 35 #[.slice A m.length c, .string s, .int .i64 k] w fun e w' => ∃ v, e = .returned (.tuple #[v, .bool true]) ∧ kPl.R 82 w' w.heap.size (fun _ => True) v (hitsF (N33 m) s (mu (N33 m) s (0, 0)) (0, 0) k) ∧ Below w.heap.size w w' := by
  have hrg := ways_rng hM (ok0 hM s)
  rw [hv] at hrg
  have HF := Lib.hid hf
  have HM := Lib.hid hM
  have HC := Lib.hid hC
  have HV := Lib.hid hv
  clear hf hM hC hv
  have b0 : decide (k < 0) = false := decide_eq_false (by omega)
  have b1 : decide (v ≤ k) = false := decide_eq_false (by omega)
  go_enter Try.func35, Try.ntmps35
  go_wp2_with (first
    | (go_at_call 61; refine (of_calls m s A c HF.out HM.out w HC.out).mono ?_; rintro e w1 ⟨F, b, rfl, hS, hb1⟩; have HS := Lib.hid hS; have HB1 := Lib.hid hb1; clear hb1 hS)
    | (go_at_call 62; refine (many_calls m s A c F b w HF.out hm hs HM.out _ (0, 0) (Nat.le_refl _) (ok0 HM.out s) w1 HS.out).mono ?_; rintro e w2 ⟨rfl, hS2, hg2⟩; rw [HV.out]; have HS2 := Lib.hid hS2; clear hg2 hS2))
  have hS3 := HS2.out.onward ((Below.refl _ w2).alloc (Nat.le_refl _) (.cells #[.int .i64 0, .int .i64 0] 87))
  have hg3 : (w2.alloc (.cells #[.int .i64 0, .int .i64 0] 87)).heap[w2.heap.size]? = some (.cells #[.int .i64 0, .int .i64 0] 87 (0, 0)) := World.alloc_heap_new w2 _
  have hz3 : w2.heap.size < (w2.alloc (.cells #[.int .i64 0, .int .i64 0] 87)).heap.size := by simp
  generalize w2.alloc (.cells #[.int .i64 0, .int .i64 0] 87) = w3 at *
  have HS3 := Lib.hid hS3
  have HG3 := Lib.hid hg3
  have HZ3 := Lib.hid hz3
  clear hS3 hg3 hz3
  obtain ⟨TOT, htot⟩ : ∃ TOT, TOT = hitsF (N33 m) s (mu (N33 m) s (0, 0)) (0, 0) k := ⟨_, rfl⟩
  have HTot := Lib.hid htot
  clear htot
  go_loopg [2, 9, 10] (mu (N33 m) s (0, 0)) (fun gq v2 v9 v10 wr => ∃ (kk : Int) (g : Nat) (px pa : Int) (l : List Pl) (v8 : Value), v2 = .int .i64 kk ∧ v8 = v9 ∧ v10 = .pointer (some ⟨g, 0, none⟩) ∧ 0 ≤ kk ∧ Aside0 (okP (N33 m) s (px, pa)) ∧ Aside0 (mu (N33 m) s (px, pa) ≤ gq) ∧ Aside0 (kk < ways (N33 m) s (px, pa)) ∧ Aside0 (l.length + gq ≤ mu (N33 m) s (0, 0)) ∧ Aside0 (wr.heap[g]? = some (.cells #[.int .i64 px, .int .i64 pa] 87 (0, 0))) ∧ Aside0 (g ≠ b) ∧ Aside0 (g ≠ F) ∧ Aside0 (w.heap.size ≤ g) ∧ Aside0 (St m s A c F b w wr) ∧ Aside0 (kPl.R 82 wr w.heap.size (fun j => j ≠ g ∧ j ≠ b ∧ j ≠ F) v8 l) ∧ Aside0 (l ++ hitsF (N33 m) s gq (px, pa) kk = TOT))
  case atStart => exact ⟨k, w2.heap.size, 0, 0, [], _, rfl, rfl, rfl, hk0, ⟨ok0 HM.out s⟩, ⟨Nat.le_refl _⟩, ⟨by rw [HV.out]; exact hk⟩, ⟨by simp⟩, ⟨HG3.out⟩, ⟨by have := HS2.out.ltb; omega⟩, ⟨by have := HS2.out.ltF; omega⟩, ⟨HS2.out.below.size⟩, ⟨HS3.out⟩, ⟨Kd.R_nil _ _ _ _ _⟩, ⟨by rw [HTot.out]; rfl⟩⟩
  case round =>
    obtain ⟨kk, g, px, pa, l, v8, rfl, rfl, rfl, hkk, HOk, HMu, HKk, HLen, HBox, HNe, HGF, HGle, HSr, HRr, HHt⟩ := hrel
    cases gk with
    | zero =>
      have h1 := HMu.out
      have h2 := HOk.out
      have h3 := h2.1
      have h4 := h2.2.1
      unfold mu at h1
      simp only at h1 h3 h4
      omega
    | succ k1 =>
      have hc0 := cells_at HBox.out (j := 0) (u := .int .i64 px) rfl
      have hc1 := cells_at HBox.out (j := 1) (u := .int .i64 pa) rfl
      cases hz : endP (N33 m) s (px, pa) with
      | true =>
        have HZ := Lib.hid hz
        clear hz
        go_wp2_with (first
          | (go_at_call 63; refine (ends_calls m s A c F wr HSr.out.fi (px, pa) HOk.out).mono ?_; rw [HZ.out]; rintro e w4 ⟨rfl, hb4⟩; have HB4 := Lib.hid hb4; clear hb4))
        go_ret2
        have hh := HHt.out
        rw [hits_end HZ.out, List.append_nil] at hh
        exact ⟨_, rfl, by rw [← HTot.out, ← hh]; exact Kd.R_mono (Kd.R_below HRr.out HB4.out) (fun _ _ => trivial), HSr.out.below.trans (HB4.out.mono HSr.out.below.size)⟩
      | false =>
        have HZ := Lib.hid hz
        have hst := restW_start HM.out HOk.out hz
        have HSt := Lib.hid hst
        have hh := HHt.out
        rw [hits_on hz] at hh
        have hnd : nd (N33 m) px = nn (rd_T33 m px) := nd_N33 m px (by have h1 := HOk.out.2.1; have h2 := HOk.out.1; rw [N33_length] at h1; simp only at h1 h2; omega)
        simp only [hnd, nn] at hh
        have HHh := Lib.hid hh
        clear hz hst hh hnd
        have hpx := HOk.out
        have hpx1 := hpx.1
        have hpx2 := hpx.2.1
        simp only [N33_length] at hpx1 hpx2
        obtain ⟨ad, A1, c1, A2, c2, eA, hx0, hx1, hx2, hx3, hx4, -, -, -, -⟩ := at_T33 HSr.out.fi.row px hpx1 hpx2
        subst eA
        generalize (rd_T33 m px).f0 = kd at *
        generalize (rd_T33 m px).f1.length = n1 at *
        generalize (rd_T33 m px).f2.length = n2 at *
        generalize (rd_T33 m px).f3 = tg at *
        generalize (rd_T33 m px).f4 = dst at *
        have HX0 := Lib.hid hx0
        have HX1 := Lib.hid hx1
        have HX2 := Lib.hid hx2
        have HX3 := Lib.hid hx3
        have HX4 := Lib.hid hx4
        have HC0 := Lib.hid hc0
        have HC1 := Lib.hid hc1
        clear hpx hx0 hx1 hx2 hx3 hx4
        cases hk3 : (kd == 3)
        all_goals
         go_wp2_with (first
          | (go_at_call 63; refine (ends_calls m s (some ad) c F wr HSr.out.fi (px, pa) HOk.out).mono ?_; rw [HZ.out]; rintro e w4 ⟨rfl, hb4⟩; have hx0 := (hb4.cell (World.block_lt_of_cell? _ _ HX0.out)).trans HX0.out; have hx1 := (hb4.cell (World.block_lt_of_cell? _ _ HX1.out)).trans HX1.out; have hx2 := (hb4.cell (World.block_lt_of_cell? _ _ HX2.out)).trans HX2.out; have hx3 := (hb4.cell (World.block_lt_of_cell? _ _ HX3.out)).trans HX3.out; have hx4 := (hb4.cell (World.block_lt_of_cell? _ _ HX4.out)).trans HX4.out; have hc0 := (hb4.cell (World.block_lt_of_cell? _ _ HC0.out)).trans HC0.out; have hc1 := (hb4.cell (World.block_lt_of_cell? _ _ HC1.out)).trans HC1.out; have HB4 := Lib.hid hb4; have hd0 := old_cell hc0 (.cells #[.int .i64 kd, .slice A1 n1 c1, .slice A2 n2 c2, .int .i64 tg, .int .i64 dst] 33); have hd1 := old_cell hc1 (.cells #[.int .i64 kd, .slice A1 n1 c1, .slice A2 n2 c2, .int .i64 tg, .int .i64 dst] 33); clear hb4)
          | ((with_reducible refine gate_builtin (b := .append) (xs := _) rfl ?_); at_builtin; refine stopit _ ?_))
        · have hB4a := HB4.out.alloc HB4.out.size (.cells #[.int .i64 kd, .slice A1 n1 c1, .slice A2 n2 c2, .int .i64 tg, .int .i64 dst] 33)
          generalize w4.alloc (.cells #[.int .i64 kd, .slice A1 n1 c1, .slice A2 n2 c2, .int .i64 tg, .int .i64 dst] 33) = w7 at *
          have HS7 := Lib.hid (HSr.out.onward hB4a)
          have hgl : g < wr.heap.size := World.block_lt_of_cell? wr (a := ⟨g, 0, none⟩) HC0.out
          have HBox7 := Lib.hid ((hB4a.block g hgl).trans HBox.out)
          obtain ⟨v7, hv7⟩ : ∃ v7, v7 = v8 := ⟨_, rfl⟩
          have HR7 := Lib.hid (Kd.R_below HRr.out hB4a)
          have HLen7 : Hid (l.length + k1 ≤ mu (N33 m) s (0, 0)) := Lib.hid (by have := HLen.out; omega)
          have HHp : Hid (l ++ pickF (ways (N33 m) s) (hitsF (N33 m) s k1) ((nextsP (N33 m) s (px, pa)).drop 0) kk = TOT) := Lib.hid (by have h1 := HHh.out; rw [if_neg (by simpa using hk3), List.nil_append] at h1; exact h1)
          clear hv7 hB4a hgl hx0 hx1 hx2 hx3 hx4 hc0 hc1 hd0 hd1
          have hnl := nextsP_len HF.out s HOk.out
          have hnok : ∀ q ∈ nextsP (N33 m) s (px, pa), okP (N33 m) s q ∧ mu (N33 m) s q ≤ k1 := fun q hq => ⟨(nextsP_ok HM.out HOk.out hq).1, by have h1 := (nextsP_ok HM.out HOk.out hq).2; have h2 := HMu.out; omega⟩
          have HNok := Lib.hid hnok
          clear hnok
          generalize hnx : nextsP (N33 m) s (px, pa) = nx at *
          have HNx := Lib.hid hnx
          clear hnx
          have hc0 := cells_at HBox7.out (j := 0) (u := .int .i64 px) rfl
          have hc1 := cells_at HBox7.out (j := 1) (u := .int .i64 pa) rfl
          go_wp2_with (first
            | (go_at_call 64; refine (next_calls m s (some ad) c F w7 HS7.out.fi HF.out (by omega) (px, pa) HOk.out).mono ?_; rw [HNx.out]; rintro e w8 ⟨v9, rfl, hv, hb8⟩; obtain ⟨A9, c9, rfl, hl9, hc9⟩ := Kd.R_reads hv; have HR9 : Hid (kPl.R 87 w8 w7.heap.size (fun j => j ≠ b ∧ j ≠ g) (.slice A9 nx.length c9) nx) := Lib.hid (Kd.R_mono (Kd.R_bound hv) (fun j hj => by have h1 := hj.2.1; have h2 := HS7.out.ltb; have h3 := World.block_lt_of_cell? _ _ hc0; exact ⟨by omega, by simp only at h3; omega⟩)); have HS8 := Lib.hid (HS7.out.onward hb8); have HBox8 := Lib.hid ((hb8.block g (World.block_lt_of_cell? _ _ hc0)).trans HBox7.out); have HR8 := Lib.hid (Kd.R_below HR7.out hb8); clear hb8 hv hc9 hc0 hc1))
          go_loopw [2, 56] (fun v2 v56 wr => ∃ (i : Nat) (ki : Int), i ≤ nx.length ∧ v56 = .int .i64 i ∧ v2 = .int .i64 ki ∧ 0 ≤ ki ∧ ki ≤ 1000 ∧ Aside0 (ki < restW (ways (N33 m) s) nx i) ∧ Aside0 (St m s (some ad) c F b w wr) ∧ Aside0 (wr.heap[g]? = some (.cells #[.int .i64 px, .int .i64 pa] 87 (0, 0))) ∧ Aside0 (kPl.R 87 wr w7.heap.size (fun j => j ≠ b ∧ j ≠ g) (.slice A9 nx.length c9) nx) ∧ Aside0 (kPl.R 82 wr w.heap.size (fun j => j ≠ g ∧ j ≠ b ∧ j ≠ F) v8 l) ∧ Aside0 (l ++ pickF (ways (N33 m) s) (hitsF (N33 m) s k1) (nx.drop i) ki = TOT)) (fun _ v _ => nx.length - (RowKit.intOf v).toNat)
          case atStart => exact ⟨0, kk, Nat.zero_le _, rfl, rfl, hkk, by have := HKk.out; have := (ways_rng HM.out HOk.out).2; omega, ⟨by rw [HSt.out]; exact HKk.out⟩, ⟨HS8.out⟩, ⟨HBox8.out⟩, ⟨HR9.out⟩, ⟨HR8.out⟩, ⟨HHp.out⟩⟩
          case round =>
            obtain ⟨i, ki, hi, rfl, rfl, hki, hki2, HRest, HSi, HBoxi, HRi, HLi, HPi⟩ := hrel
            by_cases hlt : i < nx.length
            · obtain ⟨_, _, hC⟩ := Kd.R_reads' HRi.out
              obtain ⟨ad9, eA9, hq0, hq1⟩ := at_Pl hC (i : Int) (by omega) (by omega)
              subst eA9
              have eg : nx.getD (i : Int).toNat (0, 0) = nx[i] := by simp [List.getD_eq_getElem?_getD, List.getElem?_eq_getElem hlt]
              rw [eg, Int.toNat_natCast] at hq0 hq1
              have hqok := HNok.out nx[i] (List.getElem_mem hlt)
              have hstep := restW_step (ways (N33 m) s) nx (fun q hq => ways_rng HM.out (HNok.out q hq).1) i hlt ki HRest.out
              have hpk : ((ki < ways (N33 m) s nx[i]) → l ++ hitsF (N33 m) s k1 nx[i] ki = TOT) ∧ (¬ (ki < ways (N33 m) s nx[i]) → l ++ pickF (ways (N33 m) s) (hitsF (N33 m) s k1) (nx.drop (i + 1)) (ki - ways (N33 m) s nx[i]) = TOT) := ⟨fun h => by rw [← pick_lt (H := hitsF (N33 m) s k1) hlt h]; exact HPi.out, fun h => by rw [← pick_ge (H := hitsF (N33 m) s k1) hlt h]; exact HPi.out⟩
              have hrgq := ways_rng HM.out hqok.1
              generalize nx[i] = q at *
              obtain ⟨qx, qa⟩ := q
              have HQ := Lib.hid hqok
              have HStep := Lib.hid hstep
              have HPk := Lib.hid hpk
              clear hqok hstep eg hC hpk
              generalize hV : ways (N33 m) s (qx, qa) = V at *
              have HVq := Lib.hid hV
              clear hV
              have HSa := Lib.hid (HSi.out.onward ((Below.refl _ wr).alloc (Nat.le_refl _) (.cells #[.int .i64 qx, .int .i64 qa] 87)))
              have HGa := Lib.hid (World.grownBy_alloc wr (.cells #[.int .i64 qx, .int .i64 qa] 87) (some b))
              have hbx := box2 wr qx qa
              have HBx := Lib.hid hbx
              have HNb : Hid (∀ wr' : World, wr' = wr → some wr'.heap.size ≠ some b) := Lib.hid (fun wr' e h => by rw [e] at h; have := HSi.out.ltb; injection h with h; omega)
              have HNg : Hid (some g ≠ some b) := Lib.hid (fun h => HNe.out (by injection h))
              clear hbx
              by_cases hkV : ki < V
              · have d1 : decide (ki < V) = true := decide_eq_true hkV
                go_wp2_with (first
                  | (go_at_call 62; refine (many_calls m s (some ad) c F b w HF.out hm hs HM.out _ (qx, qa) (Nat.le_refl _) HQ.out.1 _ HSa.out).mono ?_; rintro e w10 ⟨rfl, hS10, hg10⟩; rw [HVq.out]; have HS10 := Lib.hid hS10; have HG10 := Lib.hid (HGa.out.trans hg10); have p0 := hg10.cell HBx.out.1 (HNb.out wr rfl); have p1 := hg10.cell HBx.out.2 (HNb.out wr rfl); have hbox := (HG10.out.block g (World.block_lt_of_cell? wr _ (cells_at HBoxi.out (j := 0) (u := .int .i64 px) rfl)) HNg.out).trans HBoxi.out; have HBox10 := Lib.hid hbox; have c0 := cells_at hbox (j := 0) (u := .int .i64 px) rfl; have c1 := cells_at hbox (j := 1) (u := .int .i64 pa) rfl; have f0 := frozen_at hbox 0; have f1 := frozen_at hbox 1; clear hS10 hg10 hbox))
                have hW := (grown_set w10 ⟨g, 0, none⟩ (.int .i64 qx)).trans (grown_set (w10.setCell ⟨g, 0, none⟩ (.int .i64 qx)) ⟨g, 1, none⟩ (.int .i64 qa))
                have hsz : ((w10.setCell ⟨g, 0, none⟩ (.int .i64 qx)).setCell ⟨g, 1, none⟩ (.int .i64 qa)).heap.size = w10.heap.size := by simp [World.setCell]
                generalize (w10.setCell ⟨g, 0, none⟩ (.int .i64 qx)).setCell ⟨g, 1, none⟩ (.int .i64 qa) = w11 at *
                have hgF : g ≠ F := HGF.out
                have hS11 := HS10.out.aside hW (fun e => hgF (by injection e with e; exact e.symm)) (fun e => HNe.out (by injection e with e; exact e.symm)) (fun q hq => by injection hq with hq; rw [← hq]; exact HGle.out)
                have hz11 := hS11.ltb
                have hz12 := hS11.ltF
                have HG11 := Lib.hid (HG10.out)
                have hR11 : kPl.R 82 w11 w.heap.size (fun j => j ≠ g ∧ j ≠ b ∧ j ≠ F) v8 l := Kd.R_grown (Kd.R_grown HLi.out HG10.out (fun j hj e => hj.2.1 (by injection e))) hW (fun j hj e => hj.1 (by injection e))
                have hgk := World.alloc_heap_new w11 (.cells #[.int .i64 qx, .int .i64 qa] 87)
                have hle := hS11.below.size
                have hR12 : kPl.R 82 (w11.alloc (.cells #[.int .i64 qx, .int .i64 qa] 87)) w.heap.size (fun j => j ≠ w11.heap.size ∧ j ≠ b ∧ j ≠ F) v8 l := Kd.R_mono (Kd.R_below (Kd.R_mono (Kd.R_bound hR11) (ok' := fun j => j < w11.heap.size ∧ j ≠ b ∧ j ≠ F) (fun j hj => ⟨hj.2.2.1, hj.1.2⟩)) ((Below.refl _ _).alloc (Nat.le_refl _) _)) (fun j hj => ⟨by omega, hj.2⟩)
                have hS12 := hS11.onward ((Below.refl _ w11).alloc (Nat.le_refl _) (.cells #[.int .i64 qx, .int .i64 qa] 87))
                rw [hsz] at hgk hR12 hz11 hz12 hle
                go_roundg k1
                case measure => omega
                case rel => exact ⟨ki, w10.heap.size, qx, qa, l, v8, rfl, rfl, rfl, hki, ⟨HQ.out.1⟩, ⟨HQ.out.2⟩, ⟨by rw [HVq.out]; exact hkV⟩, ⟨HLen7.out⟩, ⟨hgk⟩, ⟨by omega⟩, ⟨by omega⟩, ⟨hle⟩, ⟨hS12⟩, ⟨hR12⟩, ⟨HPk.out.1 hkV⟩⟩
              · have d1 : decide (ki < V) = false := decide_eq_false hkV
                have hwr : IntKind.i64.wrap (ki - V) = ki - V := IntWalk.i64_in _ ⟨by omega, by omega⟩
                go_wp2_with (first
                  | (go_at_call 62; refine (many_calls m s (some ad) c F b w HF.out hm hs HM.out _ (qx, qa) (Nat.le_refl _) HQ.out.1 _ HSa.out).mono ?_; rintro e w10 ⟨rfl, hS10, hg10⟩; rw [HVq.out]; have HS10 := Lib.hid hS10; have HG10 := Lib.hid (HGa.out.trans hg10); have hbox := (HG10.out.block g (World.block_lt_of_cell? wr _ (cells_at HBoxi.out (j := 0) (u := .int .i64 px) rfl)) HNg.out).trans HBoxi.out; have HBox10 := Lib.hid hbox; clear hS10 hg10 hbox))
                go_roundw
                case rel => exact ⟨i + 1, ki - V, by omega, by go_num, by go_num, by omega, by omega, ⟨HStep.out⟩, ⟨HS10.out⟩, ⟨HBox10.out⟩, ⟨Kd.R_grown HRi.out HG10.out (fun j hj e => hj.1 (by injection e))⟩, ⟨Kd.R_grown HLi.out HG10.out (fun j hj e => hj.2.1 (by injection e))⟩, ⟨HPk.out.2 hkV⟩⟩
                case measure => simp [RowKit.intOf]; omega
            · obtain rfl : i = nx.length := by omega
              have h1 := HRest.out
              rw [restW_end] at h1
              omega
        · unfold Stop
          have hl0 := HLen.out
          have hmu0 : mu (N33 m) s (0, 0) ≤ 2000000 := by
            unfold mu
            have h1 : (N33 m).length ≤ 1000 := by rw [N33_length]; exact hm
            have h2 : (s.size - ((0, 0) : Pl).2.toNat) * (N33 m).length ≤ 1000 * 1000 := Nat.mul_le_mul (by omega) h1
            omega
          have hB4a := HB4.out.alloc HB4.out.size (.cells #[.int .i64 kd, .slice A1 n1 c1, .slice A2 n2 c2, .int .i64 tg, .int .i64 dst] 33)
          have hsz5 : (w4.alloc (.cells #[.int .i64 kd, .slice A1 n1 c1, .slice A2 n2 c2, .int .i64 tg, .int .i64 dst] 33)).heap.size = w4.heap.size + 1 := by simp
          generalize w4.alloc (.cells #[.int .i64 kd, .slice A1 n1 c1, .slice A2 n2 c2, .int .i64 tg, .int .i64 dst] 33) = w5 at *
          have HS5 := Lib.hid (HSr.out.onward hB4a)
          have HR5 := Lib.hid (Kd.R_below HRr.out hB4a)
          have hgl : g < wr.heap.size := World.block_lt_of_cell? wr (a := ⟨g, 0, none⟩) HC0.out
          have HBox5 := Lib.hid ((hB4a.block g hgl).trans HBox.out)
          refine Kd.R_append kPl (w0 := w) w.heap.size rfl _ _ 47 82 (.agg #[.int .i64 0, .int .i64 0]) 16 rfl Try.underlying47 info82 rfl (by decide) (by omega) v8 l (tg, pa) [.int .i64 tg, .int .i64 pa] (fun j => j ≠ g ∧ j ≠ b ∧ j ≠ F) (fun _ => False) rfl (by rw [hsz5]; rfl) (kPl_mkM _ _ _ (tg, pa)) (fun k_ hk_ => hk_.elim) ?yF HR5.out HS5.out.below HS5.out.below.size (by omega) ?yh
          case yF =>
            intro j hj
            have h1 := HS5.out.ltb
            have h2 := HS5.out.ltF
            have h3 := hB4a.size
            exact ⟨by omega, by omega, by omega⟩
          intro v7 w7 hr7 hb7 hg7 hat7
          have HS7 := Lib.hid (HS5.out.aside hg7 (fun e => (HR5.out.1 F e.symm).2.2 rfl) (fun e => (HR5.out.1 b e.symm).2.1 rfl) (fun q hq => Kd.R_base HR5.out q hq))
          have HBox7 := Lib.hid ((hg7.block g (by have := hB4a.size; omega) (fun e => (HR5.out.1 g e.symm).1 rfl)).trans HBox5.out)
          have HR7 := Lib.hid hr7
          have HLen7 : Hid ((l ++ [((tg, pa) : Pl)]).length + k1 ≤ mu (N33 m) s (0, 0)) := Lib.hid (by rw [List.length_append]; simp only [List.length_singleton]; omega)
          have HHp : Hid ((l ++ [((tg, pa) : Pl)]) ++ pickF (ways (N33 m) s) (hitsF (N33 m) s k1) ((nextsP (N33 m) s (px, pa)).drop 0) kk = TOT) := Lib.hid (by have h1 := HHh.out; rw [if_pos (by simpa using hk3), ← List.append_assoc] at h1; exact h1)
          generalize l ++ [((tg, pa) : Pl)] = l7 at *
          clear hr7 hb7 hg7 hat7 hB4a hgl hsz5 hx0 hx1 hx2 hx3 hx4 hc0 hc1 hd0 hd1
          have hnl := nextsP_len HF.out s HOk.out
          have hnok : ∀ q ∈ nextsP (N33 m) s (px, pa), okP (N33 m) s q ∧ mu (N33 m) s q ≤ k1 := fun q hq => ⟨(nextsP_ok HM.out HOk.out hq).1, by have h1 := (nextsP_ok HM.out HOk.out hq).2; have h2 := HMu.out; omega⟩
          have HNok := Lib.hid hnok
          clear hnok
          generalize hnx : nextsP (N33 m) s (px, pa) = nx at *
          have HNx := Lib.hid hnx
          clear hnx
          have hc0 := cells_at HBox7.out (j := 0) (u := .int .i64 px) rfl
          have hc1 := cells_at HBox7.out (j := 1) (u := .int .i64 pa) rfl
          go_wp2_with (first
            | (go_at_call 64; refine (next_calls m s (some ad) c F w7 HS7.out.fi HF.out (by omega) (px, pa) HOk.out).mono ?_; rw [HNx.out]; rintro e w8 ⟨v9, rfl, hv, hb8⟩; obtain ⟨A9, c9, rfl, hl9, hc9⟩ := Kd.R_reads hv; have HR9 : Hid (kPl.R 87 w8 w7.heap.size (fun j => j ≠ b ∧ j ≠ g) (.slice A9 nx.length c9) nx) := Lib.hid (Kd.R_mono (Kd.R_bound hv) (fun j hj => by have h1 := hj.2.1; have h2 := HS7.out.ltb; have h3 := World.block_lt_of_cell? _ _ hc0; exact ⟨by omega, by simp only at h3; omega⟩)); have HS8 := Lib.hid (HS7.out.onward hb8); have HBox8 := Lib.hid ((hb8.block g (World.block_lt_of_cell? _ _ hc0)).trans HBox7.out); have HR8 := Lib.hid (Kd.R_below HR7.out hb8); clear hb8 hv hc9 hc0 hc1))
          go_loopw [2, 56] (fun v2 v56 wr => ∃ (i : Nat) (ki : Int), i ≤ nx.length ∧ v56 = .int .i64 i ∧ v2 = .int .i64 ki ∧ 0 ≤ ki ∧ ki ≤ 1000 ∧ Aside0 (ki < restW (ways (N33 m) s) nx i) ∧ Aside0 (St m s (some ad) c F b w wr) ∧ Aside0 (wr.heap[g]? = some (.cells #[.int .i64 px, .int .i64 pa] 87 (0, 0))) ∧ Aside0 (kPl.R 87 wr w7.heap.size (fun j => j ≠ b ∧ j ≠ g) (.slice A9 nx.length c9) nx) ∧ Aside0 (kPl.R 82 wr w.heap.size (fun j => j ≠ g ∧ j ≠ b ∧ j ≠ F) v7 l7) ∧ Aside0 (l7 ++ pickF (ways (N33 m) s) (hitsF (N33 m) s k1) (nx.drop i) ki = TOT)) (fun _ v _ => nx.length - (RowKit.intOf v).toNat)
          case atStart => exact ⟨0, kk, Nat.zero_le _, rfl, rfl, hkk, by have := HKk.out; have := (ways_rng HM.out HOk.out).2; omega, ⟨by rw [HSt.out]; exact HKk.out⟩, ⟨HS8.out⟩, ⟨HBox8.out⟩, ⟨HR9.out⟩, ⟨HR8.out⟩, ⟨HHp.out⟩⟩
          case round =>
            obtain ⟨i, ki, hi, rfl, rfl, hki, hki2, HRest, HSi, HBoxi, HRi, HLi, HPi⟩ := hrel
            by_cases hlt : i < nx.length
            · obtain ⟨_, _, hC⟩ := Kd.R_reads' HRi.out
              obtain ⟨ad9, eA9, hq0, hq1⟩ := at_Pl hC (i : Int) (by omega) (by omega)
              subst eA9
              have eg : nx.getD (i : Int).toNat (0, 0) = nx[i] := by simp [List.getD_eq_getElem?_getD, List.getElem?_eq_getElem hlt]
              rw [eg, Int.toNat_natCast] at hq0 hq1
              have hqok := HNok.out nx[i] (List.getElem_mem hlt)
              have hstep := restW_step (ways (N33 m) s) nx (fun q hq => ways_rng HM.out (HNok.out q hq).1) i hlt ki HRest.out
              have hpk : ((ki < ways (N33 m) s nx[i]) → l7 ++ hitsF (N33 m) s k1 nx[i] ki = TOT) ∧ (¬ (ki < ways (N33 m) s nx[i]) → l7 ++ pickF (ways (N33 m) s) (hitsF (N33 m) s k1) (nx.drop (i + 1)) (ki - ways (N33 m) s nx[i]) = TOT) := ⟨fun h => by rw [← pick_lt (H := hitsF (N33 m) s k1) hlt h]; exact HPi.out, fun h => by rw [← pick_ge (H := hitsF (N33 m) s k1) hlt h]; exact HPi.out⟩
              have hrgq := ways_rng HM.out hqok.1
              generalize nx[i] = q at *
              obtain ⟨qx, qa⟩ := q
              have HQ := Lib.hid hqok
              have HStep := Lib.hid hstep
              have HPk := Lib.hid hpk
              clear hqok hstep eg hC hpk
              generalize hV : ways (N33 m) s (qx, qa) = V at *
              have HVq := Lib.hid hV
              clear hV
              have HSa := Lib.hid (HSi.out.onward ((Below.refl _ wr).alloc (Nat.le_refl _) (.cells #[.int .i64 qx, .int .i64 qa] 87)))
              have HGa := Lib.hid (World.grownBy_alloc wr (.cells #[.int .i64 qx, .int .i64 qa] 87) (some b))
              have hbx := box2 wr qx qa
              have HBx := Lib.hid hbx
              have HNb : Hid (∀ wr' : World, wr' = wr → some wr'.heap.size ≠ some b) := Lib.hid (fun wr' e h => by rw [e] at h; have := HSi.out.ltb; injection h with h; omega)
              have HNg : Hid (some g ≠ some b) := Lib.hid (fun h => HNe.out (by injection h))
              clear hbx
              by_cases hkV : ki < V
              · have d1 : decide (ki < V) = true := decide_eq_true hkV
                go_wp2_with (first
                  | (go_at_call 62; refine (many_calls m s (some ad) c F b w HF.out hm hs HM.out _ (qx, qa) (Nat.le_refl _) HQ.out.1 _ HSa.out).mono ?_; rintro e w10 ⟨rfl, hS10, hg10⟩; rw [HVq.out]; have HS10 := Lib.hid hS10; have HG10 := Lib.hid (HGa.out.trans hg10); have p0 := hg10.cell HBx.out.1 (HNb.out wr rfl); have p1 := hg10.cell HBx.out.2 (HNb.out wr rfl); have hbox := (HG10.out.block g (World.block_lt_of_cell? wr _ (cells_at HBoxi.out (j := 0) (u := .int .i64 px) rfl)) HNg.out).trans HBoxi.out; have HBox10 := Lib.hid hbox; have c0 := cells_at hbox (j := 0) (u := .int .i64 px) rfl; have c1 := cells_at hbox (j := 1) (u := .int .i64 pa) rfl; have f0 := frozen_at hbox 0; have f1 := frozen_at hbox 1; clear hS10 hg10 hbox))
                have hW := (grown_set w10 ⟨g, 0, none⟩ (.int .i64 qx)).trans (grown_set (w10.setCell ⟨g, 0, none⟩ (.int .i64 qx)) ⟨g, 1, none⟩ (.int .i64 qa))
                have hsz : ((w10.setCell ⟨g, 0, none⟩ (.int .i64 qx)).setCell ⟨g, 1, none⟩ (.int .i64 qa)).heap.size = w10.heap.size := by simp [World.setCell]
                generalize (w10.setCell ⟨g, 0, none⟩ (.int .i64 qx)).setCell ⟨g, 1, none⟩ (.int .i64 qa) = w11 at *
                have hgF : g ≠ F := HGF.out
                have hS11 := HS10.out.aside hW (fun e => hgF (by injection e with e; exact e.symm)) (fun e => HNe.out (by injection e with e; exact e.symm)) (fun q hq => by injection hq with hq; rw [← hq]; exact HGle.out)
                have hz11 := hS11.ltb
                have hz12 := hS11.ltF
                have HG11 := Lib.hid (HG10.out)
                have hR11 : kPl.R 82 w11 w.heap.size (fun j => j ≠ g ∧ j ≠ b ∧ j ≠ F) v7 l7 := Kd.R_grown (Kd.R_grown HLi.out HG10.out (fun j hj e => hj.2.1 (by injection e))) hW (fun j hj e => hj.1 (by injection e))
                have hgk := World.alloc_heap_new w11 (.cells #[.int .i64 qx, .int .i64 qa] 87)
                have hle := hS11.below.size
                have hR12 : kPl.R 82 (w11.alloc (.cells #[.int .i64 qx, .int .i64 qa] 87)) w.heap.size (fun j => j ≠ w11.heap.size ∧ j ≠ b ∧ j ≠ F) v7 l7 := Kd.R_mono (Kd.R_below (Kd.R_mono (Kd.R_bound hR11) (ok' := fun j => j < w11.heap.size ∧ j ≠ b ∧ j ≠ F) (fun j hj => ⟨hj.2.2.1, hj.1.2⟩)) ((Below.refl _ _).alloc (Nat.le_refl _) _)) (fun j hj => ⟨by omega, hj.2⟩)
                have hS12 := hS11.onward ((Below.refl _ w11).alloc (Nat.le_refl _) (.cells #[.int .i64 qx, .int .i64 qa] 87))
                rw [hsz] at hgk hR12 hz11 hz12 hle
                go_roundg k1
                case measure => omega
                case rel => exact ⟨ki, w10.heap.size, qx, qa, l7, v7, rfl, rfl, rfl, hki, ⟨HQ.out.1⟩, ⟨HQ.out.2⟩, ⟨by rw [HVq.out]; exact hkV⟩, ⟨HLen7.out⟩, ⟨hgk⟩, ⟨by omega⟩, ⟨by omega⟩, ⟨hle⟩, ⟨hS12⟩, ⟨hR12⟩, ⟨HPk.out.1 hkV⟩⟩
              · have d1 : decide (ki < V) = false := decide_eq_false hkV
                have hwr : IntKind.i64.wrap (ki - V) = ki - V := IntWalk.i64_in _ ⟨by omega, by omega⟩
                go_wp2_with (first
                  | (go_at_call 62; refine (many_calls m s (some ad) c F b w HF.out hm hs HM.out _ (qx, qa) (Nat.le_refl _) HQ.out.1 _ HSa.out).mono ?_; rintro e w10 ⟨rfl, hS10, hg10⟩; rw [HVq.out]; have HS10 := Lib.hid hS10; have HG10 := Lib.hid (HGa.out.trans hg10); have hbox := (HG10.out.block g (World.block_lt_of_cell? wr _ (cells_at HBoxi.out (j := 0) (u := .int .i64 px) rfl)) HNg.out).trans HBoxi.out; have HBox10 := Lib.hid hbox; clear hS10 hg10 hbox))
                go_roundw
                case rel => exact ⟨i + 1, ki - V, by omega, by go_num, by go_num, by omega, by omega, ⟨HStep.out⟩, ⟨HS10.out⟩, ⟨HBox10.out⟩, ⟨Kd.R_grown HRi.out HG10.out (fun j hj e => hj.1 (by injection e))⟩, ⟨Kd.R_grown HLi.out HG10.out (fun j hj e => hj.2.1 (by injection e))⟩, ⟨HPk.out.2 hkV⟩⟩
                case measure => simp [RowKit.intOf]; omega
            · obtain rfl : i = nx.length := by omega
              have h1 := HRest.out
              rw [restW_end] at h1
              omega
end Go.Proofs.Ytolfamfgoafhlaa.M
end
section
namespace Go.Proofs.Ytolfamfgoafhlaa.M
open Go.RowKit Go.Proofs.YtolfamfgoafhlaaW.PrintWords Go.Proofs.YtolfamfgoafhlaaW.PrintLast Go.Proofs.YtolfamfgoafhlaaW.PrintMore
open Go.Proofs.Ytolfamfgoafhlaa.P Go.Proofs.Ytolfamfgoafhlaa.L

/-! ### the statements' own fixed machine -/
def awk : List S33 := [⟨2, [], [1, 2], 0, 0⟩, ⟨1, [⟨97, 97, 0⟩], [], 0, 0⟩, ⟨4, [], [], 0, 0⟩]
theorem awk_fit : Fit awk := by
  intro x hx
  simp only [awk, List.mem_cons, List.not_mem_nil, or_false] at hx
  rcases hx with rfl | rfl | rfl <;> refine ⟨by simp, by simp, fun e he => ?_⟩ <;> simp at he
  subst he; decide
theorem int_row (w : World) (l : List Int) (hl : l.length ≤ 9223372036854775807) : (Kd.int .i64).C (w.alloc (.cells (l.map (Value.int .i64)).toArray 3)) (some ⟨w.heap.size, 0, none⟩) l.length l := by
  refine Kd.C_of_reads (enc := Value.int .i64) (d := (0 : Int)) (h1 := fun _ => rfl) ⟨rfl, hl, fun _ => ⟨_, rfl, fun j hj => ?_⟩⟩
  rw [cells_new w _ 3 j (.int .i64 l[j]) (by simp [hj])]
  simp [List.getD_eq_getElem?_getD, List.getElem?_eq_getElem hj]
theorem k72_row1 (w : World) (x : S72) : k72.C (w.alloc (.cells #[.int .u8 x.f0, .int .u8 x.f1, .int .i64 x.f2] 72)) (some ⟨w.heap.size, 0, none⟩) 1 [x] := by
  refine ⟨rfl, by simp, fun _ => ⟨_, rfl, fun j p hp => ?_⟩⟩
  obtain ⟨rfl, rfl⟩ : j = 0 ∧ p = x := by
    rcases j with _ | j
    · simp at hp; exact ⟨rfl, hp.symm⟩
    · simp at hp
  exact ⟨[.int .u8 p.f0, .int .u8 p.f1, .int .i64 p.f2], rfl, k72_mk _ p, fun i u hu => cells_new w _ 72 _ u (by simpa using hu)⟩
theorem k72_nil (w : World) : k72.C w none 0 [] := ⟨rfl, by simp, fun h => absurd h (by omega)⟩
theorem int_nil (w : World) : (Kd.int .i64).C w none 0 [] := ⟨rfl, by simp, fun h => absurd h (by omega)⟩
/-- A row of nodes, of a block that was just made. -/
theorem k33_row (w w' : World) (xs : List S33) (css : List (List Value)) (hl : css.length = xs.length) (hn : xs.length ≤ 9223372036854775807) (hw : w' = w.alloc (.cells css.flatten.toArray 33)) (h5 : ∀ c ∈ css, c.length = 5)
    (h : ∀ (j : Nat) (x : S33) (c : List Value), xs[j]? = some x → css[j]? = some c → k33.K w' x c) : Kd.C k33 w' (some ⟨w.heap.size, 0, none⟩) xs.length xs := by
  refine ⟨rfl, hn, fun _ => ⟨_, rfl, fun j p hp => ?_⟩⟩
  have hj : j < xs.length := by
    rcases Nat.lt_or_ge j xs.length with h1 | h1
    · exact h1
    · rw [List.getElem?_eq_none h1] at hp; cases hp
  have hc := List.getElem?_eq_getElem (l := css) (i := j) (by omega)
  refine ⟨css[j]'(by omega), h5 _ (List.getElem_mem _), h j p _ hp hc, fun i u hu => ?_⟩
  subst hw
  refine cells_new w _ 33 _ u ?_
  have hi : i < 5 := by
    rcases Nat.lt_or_ge i 5 with h1 | h1
    · exact h1
    · rw [List.getElem?_eq_none (by rw [h5 _ (List.getElem_mem _)]; exact h1)] at hu; cases hu
  have key : ∀ (css : List (List Value)) (h5 : ∀ c ∈ css, c.length = 5) (j : Nat) (hj : j < css.length), css.flatten[j * 5 + i]? = (css[j])[i]? := by
    intro css
    induction css with
    | nil => intro _ j hj; simp at hj
    | cons c cs ih =>
      intro h5 j hj
      have hc5 := h5 c List.mem_cons_self
      rcases j with _ | j
      · simp only [List.flatten_cons, Nat.zero_mul, Nat.zero_add, List.getElem_cons_zero]
        rw [List.getElem?_append_left (by omega)]
      · simp only [List.flatten_cons, List.getElem_cons_succ]
        rw [List.getElem?_append_right (by omega), ← ih (fun c hc => h5 c (List.mem_cons_of_mem _ hc)) j (by simpa using hj), hc5]
        congr 1; omega
  rw [List.getElem?_toArray]
  show css.flatten[j * 5 + i]? = _
  rw [key css h5 j (by omega)]
  exact hu

theorem awk_row (w : World) : Kd.C k33 (((w.alloc (Obj.cells #[Value.int IntKind.i64 1, Value.int IntKind.i64 2] 3)).alloc
          (Obj.cells #[Value.int IntKind.u8 97, Value.int IntKind.u8 97, Value.int IntKind.i64 0] 72)).alloc
      (Obj.cells
        #[Value.int IntKind.i64 2, Value.slice none 0 0, Value.slice (some { block := w.heap.size, off := 0 }) 2 2,
          Value.int IntKind.i64 0, Value.int IntKind.i64 0, Value.int IntKind.i64 1,
          Value.slice (some { block := w.heap.size + 1, off := 0 }) 1 1, Value.slice none 0 0, Value.int IntKind.i64 0,
          Value.int IntKind.i64 0, Value.int IntKind.i64 4, Value.slice none 0 0, Value.slice none 0 0,
          Value.int IntKind.i64 0, Value.int IntKind.i64 0]
        33)) (some ⟨w.heap.size + 1 + 1, 0, none⟩) awk.length awk := by
  have h1 := int_row w [1, 2] (by simp)
  have h2 := k72_row1 (w.alloc (Obj.cells #[Value.int IntKind.i64 1, Value.int IntKind.i64 2] 3)) ⟨97, 97, 0⟩
  generalize hw1 : w.alloc (Obj.cells #[Value.int IntKind.i64 1, Value.int IntKind.i64 2] 3) = w1 at *
  have hs1 : w1.heap.size = w.heap.size + 1 := by rw [← hw1]; simp
  generalize hw2 : w1.alloc (Obj.cells #[Value.int IntKind.u8 97, Value.int IntKind.u8 97, Value.int IntKind.i64 0] 72) = w2 at *
  have hs2 : w2.heap.size = w.heap.size + 1 + 1 := by rw [← hw2]; simp [hs1]
  rw [← hs2]
  have hb2 : Below w1.heap.size w1 w2 := by rw [← hw2]; exact (Below.refl _ _).alloc (Nat.le_refl _) _
  have h1' : (Kd.int .i64).C w1 (some ⟨w.heap.size, 0, none⟩) 2 [1, 2] := by rw [← hw1]; exact h1
  have h1'' := Kd.C_below h1' hb2
  refine k33_row w2 _ awk [[Value.int IntKind.i64 2, Value.slice none 0 0, Value.slice (some { block := w.heap.size, off := 0 }) 2 2, Value.int IntKind.i64 0, Value.int IntKind.i64 0], [Value.int IntKind.i64 1,
          Value.slice (some { block := w.heap.size + 1, off := 0 }) 1 1, Value.slice none 0 0, Value.int IntKind.i64 0,
          Value.int IntKind.i64 0], [Value.int IntKind.i64 4, Value.slice none 0 0, Value.slice none 0 0,
          Value.int IntKind.i64 0, Value.int IntKind.i64 0]] rfl (by simp [awk]) rfl (by simp) ?_
  generalize hw3 : w2.alloc _ = w3
  have hb3 : Below w2.heap.size w2 w3 := by rw [← hw3]; exact (Below.refl _ _).alloc (Nat.le_refl _) _
  have g1 := Kd.C_below h1'' hb3
  have g2 := Kd.C_below h2 hb3
  rw [hs1] at g2
  intro j x c hx hc
  rcases j with _ | _ | _ | j
  · simp [awk] at hx hc; subst hx; subst hc
    exact k33_mk w3 ⟨2, [], [1, 2], 0, 0⟩ (Nat.le_refl _) (k72_nil _) (Nat.le_refl _) g1
  · simp [awk] at hx hc; subst hx; subst hc
    exact k33_mk w3 ⟨1, [⟨97, 97, 0⟩], [], 0, 0⟩ (Nat.le_refl _) g2 (Nat.le_refl _) (int_nil _)
  · simp [awk] at hx hc; subst hx; subst hc
    exact k33_mk w3 ⟨4, [], [], 0, 0⟩ (Nat.le_refl _) (k72_nil _) (Nat.le_refl _) (int_nil _)
  · simp [awk] at hx

theorem awk_may : mayB (N33 awk) = true := by kernel_rfl
theorem awk_nil : acceptsB (N33 awk) (bts ⟨#[]⟩) = true := by kernel_rfl
theorem awk_aaa : acceptsB (N33 awk) (bts ⟨#[97, 97, 97]⟩) = true := by kernel_rfl
theorem awk_ab : acceptsB (N33 awk) (bts ⟨#[97, 98]⟩) = false := by kernel_rfl
theorem awk_close : (closeL (N33 awk) [0]).length = 3 := by kernel_rfl

set_option maxRecDepth 100000 in
theorem awake16 (w : World) : Calls Try.prog 17 #[] w fun e w' => e = .returned (.bool true) ∧ Below w.heap.size w w' := by
  have h0 := awk_row w
  generalize hw3 : World.alloc _ _ = w3 at h0
  have hb0 : Below w.heap.size w w3 := by
    rw [← hw3]
    refine Below.alloc (Below.alloc (Below.alloc (Below.refl _ _) (Nat.le_refl _) _) ?_ _) ?_ _ <;> simp <;> omega
  have HR := Lib.hid h0
  have HB := Lib.hid hb0
  have HW := Lib.hid hw3
  clear h0 hb0 hw3
  go_enter Try.func17, Try.ntmps17
  go_wp2_with (first
    | (go_at_call 23; rw [HW.out]; refine (may_calls awk awk_fit _ 3 _ HR.out).mono ?_; rw [awk_may]; rintro e w4 ⟨rfl, hb4⟩; have HR := Lib.hid (Kd.C_below HR.out hb4); have HB := Lib.hid (HB.out.trans (hb4.mono HB.out.size)); clear hb4)
    | (go_at_call 24; refine (accepts_calls awk awk_fit _ 3 _ _ HR.out (by decide)).mono ?_; (first | rw [awk_nil] | rw [awk_aaa] | rw [awk_ab]); rintro e w4 ⟨rfl, hb4⟩; have HR := Lib.hid (Kd.C_below HR.out hb4); have HB := Lib.hid (HB.out.trans (hb4.mono HB.out.size)); clear hb4)
    | (go_at_call 21; refine (close_calls awk awk_fit _ _ 3 1 [0] _ (Kd.C_below HR.out ((Below.refl _ _).alloc (Nat.le_refl _) _)) (int_one _ 0) (by simp; decide)).mono ?_; rintro e w4 ⟨v, rfl, hv, hb4⟩; obtain ⟨A5, c5, rfl, hl5, hc5⟩ := Kd.R_reads hv; have HB := Lib.hid ((HB.out.alloc HB.out.size _).trans (hb4.mono (HB.out.alloc HB.out.size _).size)); rw [awk_close]; clear hv hl5 hc5 hb4))
  go_ret
  exact ⟨rfl, HB.out⟩
end Go.Proofs.Ytolfamfgoafhlaa.M
end
section
namespace Go.Proofs.Ytolfamfgoafhlaa.M
open Go.ChangeShapes Go.WideShapes Go.Deep
open Go.RowKit Go.Proofs.YtolfamfgoafhlaaW.PrintWords Go.Proofs.YtolfamfgoafhlaaW.PrintLast Go.Proofs.YtolfamfgoafhlaaW.PrintMore
open Go.Proofs.Ytolfamfgoafhlaa.P

/-! ### arguments that are slices, opened to a list of what they hold, however deep -/
section
variable {H : Type} {enc : TypeId × Value → H} {P : Program} {w : World} {base : Nat} {spare : Nat → Bool} {held : Bool}
theorem C_of_trod {α : Type} {d : Kd α} {Ok : α → Prop} {t e : TypeId} {fuel : Nat} {cs : List Value} {x : DataW H × List MemPlace} (ht : P.underlying t = some (.slice e)) (hsz : P.cellsOf e = d.sz)
    (hel : ∀ (n : Nat) (cs : List Value) (x : DataW H × List MemPlace), DataW.trod enc P w base spare held n e cs = some x → ∃ y, d.K w y cs ∧ Ok y)
    (h : DataW.trod enc P w base spare held fuel t cs = some x) : ∃ (A : Option Addr) (l : List α) (c : Nat), cs = [.slice A l.length c] ∧ l.length ≤ c ∧ d.C w A l.length l ∧ ∀ y ∈ l, Ok y := by
  rcases open_slice ht h with ⟨rfl, _⟩ | ⟨a, len, cap, m, n, D, Pl, rfl, hb, hl, hm, hmm, _, hi⟩
  · exact ⟨none, [], 0, rfl, Nat.le_refl _, ⟨rfl, by simp, fun h => absurd h (by simp)⟩, by simp⟩
  · have hlm : len ≤ m := by rw [hmm]; split <;> omega
    have key : ∀ i, i < len → ∃ y, Ok y ∧ ∃ c, c.length = d.sz ∧ d.K w y c ∧ ∀ j u, c[j]? = some u → w.cell? (a.add (i * d.sz + j)) = some u := by
      intro i hi'
      obtain ⟨cs', hc, ht'⟩ := hi i (by omega)
      obtain ⟨y, hk, hok⟩ := hel _ _ _ ht'
      obtain ⟨_, hcl, hat⟩ := World.cells?_some hc
      refine ⟨y, hok, cs', by rw [hcl, hsz], hk, fun j u hj => ?_⟩
      have hj' : j < P.cellsOf e := by
        rcases Nat.lt_or_ge j cs'.length with h1 | h1
        · omega
        · rw [List.getElem?_eq_none h1] at hj; cases hj
      rw [← hsz, ← Go.Deep.add_add, hat j hj', hj]
    rcases Nat.eq_zero_or_pos len with rfl | hpos
    · exact ⟨some a, [], cap, rfl, hl, ⟨rfl, by simp, fun h => absurd h (by simp)⟩, by simp⟩
    · obtain ⟨y0, _⟩ := key 0 hpos
      haveI : Inhabited α := ⟨y0⟩
      obtain ⟨Y, hY⟩ := choose_lt key
      have hll : ((List.range len).map Y).length = len := by simp
      refine ⟨some a, (List.range len).map Y, cap, by rw [hll], by rw [hll]; exact hl, ⟨rfl, by rw [hll]; unfold maxLen at hm; omega, fun _ => ⟨a, rfl, fun j p hj => ?_⟩⟩, fun y hy => ?_⟩
      · have hjl : j < len := by
          rcases Nat.lt_or_ge j len with h1 | h1
          · exact h1
          · rw [List.getElem?_eq_none (by rw [hll]; exact h1)] at hj; cases hj
        simp [List.getElem?_map, List.getElem?_range hjl] at hj
        subst hj
        exact (hY j hjl).2
      · simp only [List.mem_map, List.mem_range] at hy
        obtain ⟨i, hi', rfl⟩ := hy
        exact (hY i hi').1
end
theorem len3 {α : Type} {l : List α} (h : l.length = 3) : ∃ a b c, l = [a, b, c] := by
  match l, h with
  | [a, b, c], _ => exact ⟨a, b, c, rfl⟩
theorem len5 {α : Type} {l : List α} (h : l.length = 5) : ∃ a b c d e, l = [a, b, c, d, e] := by
  match l, h with
  | [a, b, c, d, e], _ => exact ⟨a, b, c, d, e, rfl⟩
section
variable {H : Type} {enc : TypeId × Value → H} {w : World} {base : Nat} {spare : Nat → Bool} {held : Bool}
theorem el_int (n : Nat) (cs : List Value) (x : DataW H × List MemPlace) (h : DataW.trod enc Try.prog w base spare held n 3 cs = some x) : ∃ y, (Kd.int .i64).K w y cs ∧ (Lit.int .i64 y).wf = true := by
  obtain ⟨y, rfl, _, hw⟩ := DataW.trod_int Try.underlying3 h
  exact ⟨y, rfl, hw⟩
theorem q3 : Try.prog.cellsOf 3 = 1 := by kernel_rfl
theorem q5 : Try.prog.cellsOf 5 = 1 := by kernel_rfl
theorem q23 : Try.prog.cellsOf 23 = 1 := by kernel_rfl
theorem q44 : Try.prog.cellsOf 44 = 1 := by kernel_rfl
def Ok74 (x : S74) : Prop := (Lit.int .u8 x.f0).wf = true ∧ (Lit.int .u8 x.f1).wf = true ∧ (Lit.int .i64 x.f2).wf = true
set_option maxRecDepth 100000 in
theorem el_74 (n : Nat) (cs : List Value) (x : DataW H × List MemPlace) (h : DataW.trod enc Try.prog w base spare held n 74 cs = some x) : ∃ y, k74.K w y cs ∧ Ok74 y := by
  obtain ⟨xs, n', _, _, hl, hxl, hf⟩ := DataW.trod_struct Try.underlying74 h
  have hl3 : cs.length = 3 := hl.trans (by kernel_rfl)
  obtain ⟨c0, c1, c2, rfl⟩ := len3 hl3
  obtain ⟨y0, y1, y2, rfl⟩ := len3 (hxl.trans (show _ = 3 from rfl))
  have g0 : DataW.trod enc Try.prog w base spare held n' 5 [c0] = some y0 := hf 0 _ rfl
  have g1 : DataW.trod enc Try.prog w base spare held n' 5 [c1] = some y1 := hf 1 _ rfl
  have g2 : DataW.trod enc Try.prog w base spare held n' 3 [c2] = some y2 := hf 2 _ rfl
  obtain ⟨a0, e0, _, w0⟩ := DataW.trod_int Try.underlying5 g0
  obtain ⟨a1, e1, _, w1⟩ := DataW.trod_int Try.underlying5 g1
  obtain ⟨a2, e2, _, w2⟩ := DataW.trod_int Try.underlying3 g2
  simp only [List.cons.injEq, and_true] at e0 e1 e2
  subst e0 e1 e2
  exact ⟨⟨a0, a1, a2⟩, k74_mk w _, w0, w1, w2⟩
def Ok46 (x : S46) : Prop := (Lit.int .i64 x.f0).wf = true ∧ (∀ e ∈ x.f1, Ok74 e) ∧ (∀ y ∈ x.f2, (Lit.int .i64 y).wf = true) ∧ (Lit.int .i64 x.f3).wf = true ∧ (Lit.int .i64 x.f4).wf = true
set_option maxRecDepth 100000 in
theorem el_46 (n : Nat) (cs : List Value) (x : DataW H × List MemPlace) (h : DataW.trod enc Try.prog w base spare held n 46 cs = some x) : ∃ y, k46.K w y cs ∧ Ok46 y := by
  obtain ⟨xs, n', _, _, hl, hxl, hf⟩ := DataW.trod_struct Try.underlying46 h
  have hl5 : cs.length = 5 := hl.trans (by kernel_rfl)
  obtain ⟨c0, c1, c2, c3, c4, rfl⟩ := len5 hl5
  obtain ⟨y0, y1, y2, y3, y4, rfl⟩ := len5 (hxl.trans (show _ = 5 from rfl))
  have g0 : DataW.trod enc Try.prog w base spare held n' 3 [c0] = some y0 := hf 0 _ rfl
  have g1 : DataW.trod enc Try.prog w base spare held n' 44 [c1] = some y1 := hf 1 _ rfl
  have g2 : DataW.trod enc Try.prog w base spare held n' 23 [c2] = some y2 := hf 2 _ rfl
  have g3 : DataW.trod enc Try.prog w base spare held n' 3 [c3] = some y3 := hf 3 _ rfl
  have g4 : DataW.trod enc Try.prog w base spare held n' 3 [c4] = some y4 := hf 4 _ rfl
  obtain ⟨a0, e0, _, w0⟩ := DataW.trod_int Try.underlying3 g0
  obtain ⟨A1, l1, k1, e1, b1, r1, w1⟩ := C_of_trod (d := k74) Try.underlying44 (by kernel_rfl) (fun n cs x => el_74 n cs x) g1
  obtain ⟨A2, l2, k2, e2, b2, r2, w2⟩ := C_of_trod (d := Kd.int .i64) Try.underlying23 (by kernel_rfl) (fun n cs x => el_int n cs x) g2
  obtain ⟨a3, e3, _, w3⟩ := DataW.trod_int Try.underlying3 g3
  obtain ⟨a4, e4, _, w4⟩ := DataW.trod_int Try.underlying3 g4
  simp only [List.cons.injEq, and_true] at e0 e1 e2 e3 e4
  subst e0 e1 e2 e3 e4
  exact ⟨⟨a0, l1, l2, a3, a4⟩, k46_mk w ⟨a0, l1, l2, a3, a4⟩ b1 r1 b2 r2, w0, w1, w2, w3, w4⟩
/-- An argument []Node of the references. -/
theorem open_nodes46 {a : Option Addr} {len cap : Nat} {d : DataW H} {p : List MemPlace} (_hv : True) (h : DataW.Trod enc Try.prog w base spare held 22 (.slice a len cap) d p) :
    ∃ l : List S46, len = l.length ∧ l.length ≤ cap ∧ k46.C w a l.length l ∧ ∀ y ∈ l, Ok46 y := by
  obtain ⟨fuel, hf⟩ := h
  obtain ⟨A, l, c, e, hl, hc, hk⟩ := C_of_trod (d := k46) Try.underlying22 (by kernel_rfl) (fun n cs x => el_46 n cs x) hf
  simp [Value.cells] at e
  obtain ⟨rfl, rfl, rfl⟩ := e
  exact ⟨l, rfl, hl, hc, hk⟩
theorem open_introw {a : Option Addr} {len cap : Nat} {d : DataW H} {p : List MemPlace} (_hv : True) (h : DataW.Trod enc Try.prog w base spare held 23 (.slice a len cap) d p) :
    ∃ l : List Int, len = l.length ∧ l.length ≤ cap ∧ (Kd.int .i64).C w a l.length l ∧ ∀ y ∈ l, (Lit.int .i64 y).wf = true := by
  obtain ⟨fuel, hf⟩ := h
  obtain ⟨A, l, c, e, hl, hc, hk⟩ := C_of_trod (d := Kd.int .i64) Try.underlying23 (by kernel_rfl) (fun n cs x => el_int n cs x) hf
  simp [Value.cells] at e
  obtain ⟨rfl, rfl, rfl⟩ := e
  exact ⟨l, rfl, hl, hc, hk⟩
end
end Go.Proofs.Ytolfamfgoafhlaa.M
end
section
namespace Go.Proofs.Ytolfamfgoafhlaa.M
open Go.RowKit Go.Proofs.YtolfamfgoafhlaaW.PrintWords Go.Proofs.YtolfamfgoafhlaaW.PrintLast Go.Proofs.YtolfamfgoafhlaaW.PrintMore
open Go.Proofs.Ytolfamfgoafhlaa.P Go.Proofs.Ytolfamfgoafhlaa.L

/-! ### what the statements' 'made' builds: the references' nodes, as the program has them -/
theorem C_trans {α β : Type} {d : Kd α} {d' : Kd β} (hsz : d.sz = d'.sz) {w : World} {A : Option Addr} {xs : List α} {ys : List β} (hl : ys.length = xs.length) (h : ∀ (j : Nat) (x : α) (y : β) (cs : List Value), xs[j]? = some x → ys[j]? = some y → d.K w x cs → d'.K w y cs)
    (hC : d.C w A xs.length xs) : d'.C w A ys.length ys := by
  rw [hl]
  refine ⟨hl, hC.2.1, fun hn => ?_⟩
  obtain ⟨ad, e, hc⟩ := hC.2.2 hn
  refine ⟨ad, e, fun j y hy => ?_⟩
  have hj : j < xs.length := by
    rw [← hl]
    rcases Nat.lt_or_ge j ys.length with h1 | h1
    · exact h1
    · rw [List.getElem?_eq_none h1] at hy; cases hy
  obtain ⟨c, c1, c2, c3⟩ := hc j _ (List.getElem?_eq_getElem hj)
  exact ⟨c, by rw [c1, hsz], h j _ y c (List.getElem?_eq_getElem hj) hy c2, by rw [← hsz]; exact c3⟩
theorem C_map {α β : Type} {d : Kd α} {d' : Kd β} (f : α → β) (hsz : d.sz = d'.sz) {w : World} {A : Option Addr} {xs : List α} (h : ∀ (x : α) (cs : List Value), d.K w x cs → d'.K w (f x) cs)
    (hC : d.C w A xs.length xs) : d'.C w A xs.length (xs.map f) := by
  have := C_trans (ys := xs.map f) hsz (by simp) (fun j x y cs hx hy hk => by
    rw [List.getElem?_map, hx] at hy
    obtain rfl := Option.some.inj hy
    exact h x cs hk) hC
  rwa [List.length_map] at this
/-- Elements of the one kind, read as the other. -/
theorem C_rel {α β : Type} {d : Kd α} {d' : Kd β} {Rel : α → β → Prop} (hsz : d.sz = d'.sz) {w : World} {A : Option Addr} {xs : List α} (h : ∀ (x : α) (cs : List Value), d.K w x cs → ∃ y, d'.K w y cs ∧ Rel x y)
    (hC : d.C w A xs.length xs) : ∃ ys : List β, ys.length = xs.length ∧ d'.C w A ys.length ys ∧ ∀ (j : Nat) (x : α) (y : β), xs[j]? = some x → ys[j]? = some y → Rel x y := by
  rcases Nat.eq_zero_or_pos xs.length with h0 | hpos
  · obtain rfl := List.eq_nil_of_length_eq_zero h0
    exact ⟨[], rfl, ⟨rfl, by simp, fun h => absurd h (by simp)⟩, fun j x y hx => by simp at hx⟩
  · obtain ⟨ad, e, hc⟩ := hC.2.2 hpos
    have key : ∀ j, j < xs.length → ∃ y : β, (∀ x, xs[j]? = some x → Rel x y) ∧ ∃ c, c.length = d'.sz ∧ d'.K w y c ∧ ∀ i u, c[i]? = some u → w.cell? (ad.add (j * d'.sz + i)) = some u := fun j hj => by
      obtain ⟨c, c1, c2, c3⟩ := hc j _ (List.getElem?_eq_getElem hj)
      obtain ⟨y, k1, k2⟩ := h _ c c2
      exact ⟨y, fun x hx => by rw [List.getElem?_eq_getElem hj] at hx; rw [← Option.some.inj hx]; exact k2, c, by rw [c1, hsz], k1, by rw [← hsz]; exact c3⟩
    obtain ⟨y0, _⟩ := key 0 hpos
    haveI : Inhabited β := ⟨y0⟩
    obtain ⟨Y, hY⟩ := Go.Deep.choose_lt key
    have hll : ((List.range xs.length).map Y).length = xs.length := by simp
    have hat : ∀ (j : Nat) (y : β), ((List.range xs.length).map Y)[j]? = some y → j < xs.length ∧ y = Y j := fun j y hy => by
      have hjl : j < xs.length := by
        rcases Nat.lt_or_ge j xs.length with h1 | h1
        · exact h1
        · rw [List.getElem?_eq_none (by rw [hll]; exact h1)] at hy; cases hy
      simp [List.getElem?_map, List.getElem?_range hjl] at hy
      exact ⟨hjl, hy.symm⟩
    refine ⟨(List.range xs.length).map Y, hll, ⟨rfl, by rw [hll]; exact hC.2.1, fun _ => ⟨ad, e, fun j y hy => ?_⟩⟩, fun j x y hx hy => ?_⟩
    · obtain ⟨hj, rfl⟩ := hat j y hy
      exact (hY j hj).2
    · obtain ⟨hj, rfl⟩ := hat j y hy
      exact (hY j hj).1 x hx

def p33 (x : S46) : S33 := ⟨x.f0, x.f1.map (fun e => ⟨e.f0, e.f1, e.f2⟩), x.f2, x.f3, x.f4⟩
theorem nn_p33 (x : S46) : nn (p33 x) = n46 x := by simp [nn, p33, n46, List.map_map, Function.comp_def, ed, ed74]
def P33s (l : List S46) : List S33 := l.map p33
theorem P33s_length (l : List S46) : (P33s l).length = l.length := by simp [P33s]
theorem N33_p33 (l : List S46) : N33 (P33s l) = N46 l := by simp [P33s, N33, N46, List.map_map, Function.comp_def, nn_p33]

/-- A node whose row of forks is carried as the value that it is. -/
def VR46 (w : World) (x : S46) (y : V.S46) : Prop := y.f0 = x.f0 ∧ y.f1 = x.f1.map (fun e => (⟨e.f0, e.f1, e.f2⟩ : V.S74)) ∧ y.f2.n = x.f2.length ∧ y.f2.n ≤ y.f2.c ∧ (Kd.int .i64).C w y.f2.A x.f2.length x.f2 ∧ y.f3 = x.f3 ∧ y.f4 = x.f4
theorem to_V46 {w : World} {x : S46} {cs : List Value} (h : k46.K w x cs) : ∃ y, V.k46.K w y cs ∧ VR46 w x y := by
  obtain ⟨A1, c1, A2, c2, rfl, l1, g1, l2, g2⟩ := k46_open h
  have g1' := C_map (d' := V.k74) (fun e : S74 => (⟨e.f0, e.f1, e.f2⟩ : V.S74)) rfl (fun x cs hk => by obtain rfl := k74_open hk; exact V.k74_mk w _) g1
  refine ⟨⟨x.f0, x.f1.map (fun e => (⟨e.f0, e.f1, e.f2⟩ : V.S74)), ⟨A2, x.f2.length, c2⟩, x.f3, x.f4⟩, ?_, rfl, rfl, rfl, l2, g2, rfl, rfl⟩
  have := V.k46_mk w ⟨x.f0, x.f1.map (fun e => (⟨e.f0, e.f1, e.f2⟩ : V.S74)), ⟨A2, x.f2.length, c2⟩, x.f3, x.f4⟩ (A1 := A1) (c1 := c1) (by simpa using l1) (by simpa using g1')
  simpa using this
/-- The program's node, its forks carried. -/
def VR33 (w : World) (x : S33) (y : V.S33) : Prop := y.f0 = x.f0 ∧ y.f1 = x.f1.map (fun e => (⟨e.f0, e.f1, e.f2⟩ : V.S72)) ∧ y.f2.n = x.f2.length ∧ y.f2.n ≤ y.f2.c ∧ (Kd.int .i64).C w y.f2.A x.f2.length x.f2 ∧ y.f3 = x.f3 ∧ y.f4 = x.f4
theorem of_V33 {w : World} {x : S33} {y : V.S33} {cs : List Value} (h : V.k33.K w y cs) (hr : VR33 w x y) : k33.K w x cs := by
  obtain ⟨A1, c1, rfl, l1, g1⟩ := V.k33_open h
  obtain ⟨r0, r1, r2, r3, r4, r5, r6⟩ := hr
  obtain ⟨y0, y1, ⟨yA, yn, yc⟩, y3, y4⟩ := y
  simp only at r0 r1 r2 r3 r4 r5 r6 l1 g1 ⊢
  subst r0 r1 r2 r5 r6
  have g1' := C_map (d' := k72) (fun e : V.S72 => (⟨e.f0, e.f1, e.f2⟩ : S72)) rfl (fun x cs hk => by obtain rfl := V.k72_open hk; exact k72_mk w _) g1
  simp only [List.length_map, List.map_map] at l1 g1'
  have e : x.f1.map ((fun e : V.S72 => (⟨e.f0, e.f1, e.f2⟩ : S72)) ∘ fun e : S72 => (⟨e.f0, e.f1, e.f2⟩ : V.S72)) = x.f1 := by
    rw [show ((fun e : V.S72 => (⟨e.f0, e.f1, e.f2⟩ : S72)) ∘ fun e : S72 => (⟨e.f0, e.f1, e.f2⟩ : V.S72)) = id from rfl, List.map_id]
  rw [e] at g1'
  have := k33_mk w x l1 g1' r3 r4
  simpa using this
def VRs (w : World) (l : List S33) (rv : List V.S33) : Prop := rv.length = l.length ∧ ∀ (j : Nat) (x : S33) (y : V.S33), l[j]? = some x → rv[j]? = some y → VR33 w x y
theorem VR33.below {w w' : World} {x : S33} {y : V.S33} (h : VR33 w x y) (hb : Below w.heap.size w w') : VR33 w' x y := ⟨h.1, h.2.1, h.2.2.1, h.2.2.2.1, Kd.C_below h.2.2.2.2.1 hb, h.2.2.2.2.2⟩
theorem VRs.below {w w' : World} {l : List S33} {rv : List V.S33} (h : VRs w l rv) (hb : Below w.heap.size w w') : VRs w' l rv := ⟨h.1, fun j x y hx hy => (h.2 j x y hx hy).below hb⟩
theorem VRs.C {w : World} {l : List S33} {rv : List V.S33} (h : VRs w l rv) {A : Option Addr} (hC : V.k33.C w A rv.length rv) : k33.C w A l.length l :=
  C_trans (d := V.k33) (d' := k33) rfl h.1.symm (fun j x y _ hx hy hk => of_V33 hk (h.2 j y x hy hx)) hC
def mkV (x : V.S46) : V.S33 := ⟨x.f0, x.f1.map (fun e => ⟨e.f0, e.f1, e.f2⟩), x.f2, x.f3, x.f4⟩
theorem vrd46n (l : List V.S46) (k : Nat) (h : k < l.length) : V.rd_T46 l (k : Int) = l[k] := by simp [V.rd_T46, List.getD_eq_getElem?_getD, List.getElem?_eq_getElem h]
theorem vrd74n (l : List V.S74) (k : Nat) (h : k < l.length) : V.rd_T74 l (k : Int) = l[k] := by simp [V.rd_T74, List.getD_eq_getElem?_getD, List.getElem?_eq_getElem h]
/-- What the nodes' own sizes must be. -/
def Small (l : List S46) : Prop := l.length ≤ 1000000 ∧ ∀ x ∈ l, x.f1.length ≤ 1000000 ∧ x.f2.length ≤ 1000000
theorem fewB_small {l : List S46} (h : fewB l = true) : l.length ≤ 60 ∧ ∀ x ∈ l, x.f1.length ≤ 20 ∧ x.f2.length ≤ 20 := by
  unfold fewB at h
  rw [Bool.and_eq_true, List.all_eq_true] at h
  refine ⟨by simpa using h.1, fun x hx => ?_⟩
  have := h.2 x hx
  simpa using this
theorem fewB_Small {l : List S46} (h : fewB l = true) : Small l := by
  obtain ⟨h1, h2⟩ := fewB_small h
  exact ⟨by omega, fun x hx => by have := h2 x hx; omega⟩
theorem made_fit {l : List S46} (h : Small l) (hok : ∀ x ∈ l, Ok46 x) : Fit (P33s l) := by
  intro x hx
  obtain ⟨y, hy, rfl⟩ := List.mem_map.1 hx
  refine ⟨by simpa [p33] using (h.2 y hy).1, by simpa [p33] using (h.2 y hy).2, fun e he => ?_⟩
  simp only [p33, List.mem_map] at he
  obtain ⟨e', he', rfl⟩ := he
  have h8 := ((hok y hy).2.1 e' he').1
  simp [Lit.wf, IntKind.min, IntKind.max, IntKind.signed, IntKind.bits] at h8
  exact h8
end Go.Proofs.Ytolfamfgoafhlaa.M
end
section
namespace Go.Proofs.Ytolfamfgoafhlaa.M
open Go.RowKit Go.Proofs.YtolfamfgoafhlaaW.PrintWords Go.Proofs.YtolfamfgoafhlaaW.PrintLast Go.Proofs.YtolfamfgoafhlaaW.PrintMore
open Go.Proofs.Ytolfamfgoafhlaa.P Go.Proofs.Ytolfamfgoafhlaa.L

theorem made16_inner (lv : List V.S46) (hb : lv.length ≤ 1000000) (i : Nat) (hi : i < lv.length) (he : (lv[i]).f1.length ≤ 1000000) (r : List V.S33) (acc : List V.S33) (ha : acc.length ≤ 1000000)
    (hn : Ev (fun k => V.phalaropelaw16_made.l0 k lv (acc ++ [mkV lv[i]]) ((i + 1 : Nat) : Int)) r) (d : Nat) :
    ∀ q : Nat, q ≤ (lv[i]).f1.length → (lv[i]).f1.length - q = d → Ev (fun k => V.phalaropelaw16_made.l1 k lv acc i q (lv[i]).f0 (((lv[i]).f1.take q).map (fun e => (⟨e.f0, e.f1, e.f2⟩ : V.S72))) (lv[i]).f2 (lv[i]).f3 (lv[i]).f4) r := by
  induction d with
  | zero =>
    intro q hq hd
    obtain rfl : q = (lv[i]).f1.length := by omega
    refine Ev.step (fun k => ?_) hn
    simp only [V.phalaropelaw16_made.l1]
    rw [if_pos (by omega), if_pos (ltc _ _ hi), vrd46n lv i hi, if_neg (nltc _ _ (Nat.le_refl _)), if_pos (by omega), wrap1 i (by omega), List.take_length]
    rfl
  | succ d ih =>
    intro q hq hd
    have hql : q < (lv[i]).f1.length := by omega
    refine Ev.step (fun k => ?_) (ih (q + 1) (by omega) (by omega))
    simp only [V.phalaropelaw16_made.l1]
    rw [if_pos (by omega), if_pos (ltc _ _ hi), vrd46n lv i hi, if_pos (ltc _ _ hql), if_pos (by omega), if_pos (by simp; omega), vrd74n _ q hql, wrap1 q (by omega), List.take_succ_eq_append_getElem hql, List.map_append]
    rfl
theorem made16_ev (lv : List V.S46) (hb : lv.length ≤ 1000000) (he : ∀ x ∈ lv, x.f1.length ≤ 1000000) : Ev (fun k => V.phalaropelaw16_made.f k lv) (lv.map mkV) := by
  have loop : ∀ d i : Nat, i ≤ lv.length → lv.length - i = d → Ev (fun k => V.phalaropelaw16_made.l0 k lv ((lv.take i).map mkV) i) (lv.map mkV) := by
    intro d
    induction d with
    | zero =>
      intro i hi hd
      obtain rfl : i = lv.length := by omega
      refine Ev.step (f := fun _ => some (lv.map mkV)) (fun k => ?_) (Ev.now _)
      simp only [V.phalaropelaw16_made.l0]
      rw [if_neg (nltc _ _ (Nat.le_refl _)), List.take_length]
    | succ d ih =>
      intro i hi hd
      have hlt : i < lv.length := by omega
      have h1 := ih (i + 1) (by omega) (by omega)
      rw [List.take_succ_eq_append_getElem hlt, List.map_append] at h1
      refine Ev.step (fun k => ?_) (made16_inner lv hb i hlt (he _ (List.getElem_mem hlt)) _ ((lv.take i).map mkV) (by simp; omega) h1 _ 0 (Nat.zero_le _) rfl)
      simp only [V.phalaropelaw16_made.l0]
      rw [if_pos (ltc _ _ hlt), if_pos (by omega), vrd46n lv i hlt]
      rfl
  exact Ev.congr (fun _ => rfl) (loop _ 0 (Nat.zero_le _) rfl)

/-- 'made' of the layer's law: the row is the call's own (its nodes' forks are the argument's, as they stand since w0). -/
theorem made16_calls (A : Option Addr) (c : Nat) (l : List S46) (w0 w : World) (hC : Kd.C k46 w0 A l.length l) (hb0 : Below w0.heap.size w0 w) (hc : l.length ≤ c) (hs : Small l) :
    Calls Try.prog 20 #[.slice A l.length c] w fun e w' => ∃ v rv, e = .returned v ∧ Kd.S V.k33 33 w' w.heap.size (fun _ => True) v rv ∧ VRs w0 (P33s l) rv ∧ Below w.heap.size w w' := by
  obtain ⟨lv, hl, hCv, hr⟩ := C_rel (d := k46) (d' := V.k46) (Rel := VR46 w0) rfl (fun x cs hk => to_V46 hk) hC
  have hm : ∀ y ∈ lv, ∃ x ∈ l, VR46 w0 x y := fun y hy => by
    obtain ⟨j, hj, rfl⟩ := List.getElem_of_mem hy
    exact ⟨l[j]'(by omega), List.getElem_mem _, hr j _ _ (List.getElem?_eq_getElem (by omega)) (List.getElem?_eq_getElem hj)⟩
  obtain ⟨k, hk⟩ := (made16_ev lv (by rw [hl]; exact hs.1) (fun y hy => by
    obtain ⟨x, hx, h⟩ := hm y hy
    rw [h.2.1, List.length_map]
    exact (hs.2 x hx).1)).rounds
  have hcall := V.phalaropelaw16_made.calls k A c lv _ w (Kd.C_below hCv hb0) (by omega) hk
  rw [hl] at hcall
  refine hcall.mono fun e w' ⟨v, he, hv, hb⟩ => ⟨v, _, he, hv, ⟨by simp [hl, P33s], fun j x y hx hy => ?_⟩, hb⟩
  unfold P33s at hx
  rw [List.getElem?_map] at hx hy
  obtain ⟨x', hx', rfl⟩ := Option.map_eq_some_iff.1 hx
  obtain ⟨y', hy', rfl⟩ := Option.map_eq_some_iff.1 hy
  obtain ⟨r0, r1, r2, r3, r4, r5, r6⟩ := hr j x' y' hx' hy'
  exact ⟨r0, by simp [mkV, p33, r1], r2, r3, r4, r5, r6⟩
/-- And as a row that is read. -/
theorem made16_reads (A : Option Addr) (c : Nat) (l : List S46) (w : World) (hC : Kd.C k46 w A l.length l) (hc : l.length ≤ c) (hs : Small l) :
    Calls Try.prog 20 #[.slice A l.length c] w fun e w' => ∃ A' c', e = .returned (.slice A' (P33s l).length c') ∧ (P33s l).length ≤ c' ∧ Kd.C k33 w' A' (P33s l).length (P33s l) ∧ Below w.heap.size w w' := by
  refine (made16_calls A c l w w hC (Below.refl _ _) hc hs).mono ?_
  rintro e w' ⟨v, rv, rfl, hv, hr, hb⟩
  obtain ⟨A', c', rfl, hl, hC'⟩ := Kd.S_reads hv
  have h1 := (hr.below hb).C hC'
  rw [hr.1] at hl ⊢
  exact ⟨A', c', rfl, hl, h1, hb⟩
end Go.Proofs.Ytolfamfgoafhlaa.M
end
section
namespace Go.Proofs.Ytolfamfgoafhlaa.M
open Go.RowKit Go.Proofs.YtolfamfgoafhlaaW.PrintWords Go.Proofs.YtolfamfgoafhlaaW.PrintLast Go.Proofs.YtolfamfgoafhlaaW.PrintMore
open Go.Proofs.Ytolfamfgoafhlaa.P Go.Proofs.Ytolfamfgoafhlaa.L

theorem VRs.snoc {w : World} {l : List S33} {rv : List V.S33} (h : VRs w l rv) {x : S33} {y : V.S33} (hxy : VR33 w x y) : VRs w (l ++ [x]) (rv ++ [y]) := by
  refine ⟨by simp [h.1], fun j a b ha hb => ?_⟩
  rcases Nat.lt_or_ge j l.length with h1 | h1
  · rw [List.getElem?_append_left h1] at ha
    rw [List.getElem?_append_left (by rw [h.1]; exact h1)] at hb
    exact h.2 j a b ha hb
  · rw [List.getElem?_append_right h1] at ha
    rw [List.getElem?_append_right (by rw [h.1]; exact h1), h.1] at hb
    rcases hj : j - l.length with _ | q
    · rw [hj] at ha hb
      simp at ha hb
      subst ha hb
      exact hxy
    · rw [hj] at ha; simp at ha
theorem fit_snoc {l : List S33} (h : Fit l) {x : S33} (hx : FitN x) : Fit (l ++ [x]) := by
  intro y hy
  rw [List.mem_append, List.mem_singleton] at hy
  rcases hy with hy | rfl
  · exact h y hy
  · exact hx
theorem bad_may' (l : List S33) : mayB (N33 (l ++ [⟨3, [], [], 0, 0⟩])) = false := by
  rw [Bool.eq_false_iff]
  intro h
  have h1 := ((may_iff _).1 h).2.2 l.length (by rw [N33_length]; simp)
  rw [nd_N33 _ _ (by simp)] at h1
  have e : rd_T33 (l ++ [⟨3, [], [], 0, 0⟩]) (l.length : Int) = ⟨3, [], [], 0, 0⟩ := by simp [rd_T33]
  rw [e] at h1
  simp [nodeOk, nn, upB] at h1
  omega
theorem no_close {m : List Nd} (h : mayB m = false) (l : List Int) : closeL m l = [] := by unfold closeL; rw [h]; rfl
theorem no_step {m : List Nd} (h : mayB m = false) (l : List Int) (c : Int) : stepL m l c = [] := no_close h _
theorem no_accepts {m : List Nd} (h : mayB m = false) (s : List Int) : acceptsB m s = false := by
  have h1 : runL m s = [] := by
    unfold runL
    rcases List.eq_nil_or_concat s with rfl | ⟨l', x, rfl⟩
    · exact no_close h _
    · rw [List.concat_eq_append, List.foldl_append]
      exact no_close h _
  unfold acceptsB
  rw [h1]
  rfl

theorem nil_may : mayB (N33 []) = false := rfl
theorem nil_fit : Fit [] := fun x hx => by cases hx
theorem nil33 (w : World) : Kd.C k33 w none 0 [] := ⟨rfl, by simp, fun h => absurd h (by omega)⟩
def badL (l : List S46) : List S33 := P33s l ++ [⟨3, [], [], 0, 0⟩]
theorem bad_rel {w : World} {l : List S46} {rv : List V.S33} (h : VRs w (P33s l) rv) : VRs w (badL l) (rv ++ [⟨3, [], V.svNil, 0, 0⟩]) := h.snoc ⟨rfl, rfl, rfl, Nat.le_refl _, int_nil _, rfl, rfl⟩
theorem bad_may (l : List S46) : mayB (N33 (badL l)) = false := bad_may' _
theorem bad_fit {l : List S46} (h : Small l) (hok : ∀ x ∈ l, Ok46 x) : Fit (badL l) := fit_snoc (made_fit h hok) ⟨by simp, by simp, fun e he => by cases he⟩

set_option maxRecDepth 100000 in
set_option maxHeartbeats 1000000 in
theorem machineNobody_walk (w : World) (A : Option Addr) (c : Nat) (l : List S46) (hc : l.length ≤ c) (hC : Kd.C k46 w A l.length l) (hok : ∀ y ∈ l, Ok46 y) (A1 : Option Addr) (c1 : Nat) (at_ : List Int) (_ : at_.length ≤ c1) (hC1 : (Kd.int .i64).C w A1 at_.length at_) (hwf : ∀ y ∈ at_, (Lit.int .i64 y).wf = true) (s : ByteArray) :
    Calls Try.prog 8 #[.slice A l.length c, .slice A1 at_.length c1, .string s] w fun e w' => e = .returned (.bool true) ∧ Below w.heap.size w w' := by
  have HC := Lib.hid hC
  have HA := Lib.hid hC1
  have HW := Lib.hid hwf
  have HO := Lib.hid hok
  have Hc := Lib.hid hc
  clear hC hC1 hwf hok hc
  cases hF : fewB l with
  | false =>
    have HF := Lib.hid hF
    clear hF
    go_enter Try.func8, Try.ntmps8
    go_wp2_with (first
      | (go_at_call 17; refine (awake16 _).mono ?_; rintro e w4 ⟨rfl, hb4⟩; have HB := Lib.hid hb4; clear hb4)
      | (go_at_call 18; refine (few_calls A c l _ (Kd.C_below HC.out HB.out) Hc.out).mono ?_; rw [HF.out]; rintro e w4 ⟨rfl, hb4⟩; have HB := Lib.hid (HB.out.trans (hb4.mono HB.out.size)); clear hb4))
    go_ret
    exact ⟨rfl, HB.out⟩
  | true =>
    have HF := Lib.hid hF
    clear hF
    by_cases g1 : at_.length ≤ 100
    · have b1 : decide ((at_.length : Int) > 100) = false := decide_eq_false (by omega)
      by_cases g2 : s.size ≤ 200
      · have b2 : decide ((s.size : Int) > 200) = false := decide_eq_false (by omega)
        go_enter Try.func8, Try.ntmps8
        go_wp2_with (first
          | (go_at_call 17; refine (awake16 _).mono ?_; rintro e w4 ⟨rfl, hb4⟩; have HB := Lib.hid hb4; clear hb4)
          | (go_at_call 18; refine (few_calls A c l _ (Kd.C_below HC.out HB.out) Hc.out).mono ?_; rw [HF.out]; rintro e w4 ⟨rfl, hb4⟩; have HB := Lib.hid (HB.out.trans (hb4.mono HB.out.size)); clear hb4)
          | (have HN' := HN; clear HN'; go_at_call 23; refine (may_calls [] nil_fit none 0 _ (nil33 _)).mono ?_; rw [nil_may]; rintro e w4 ⟨rfl, hb4⟩; have HB := Lib.hid (HB.out.trans (hb4.mono HB.out.size)); clear hb4)
          | (have HN' := HN; clear HN'; go_at_call 24; refine (accepts_calls [] nil_fit none 0 s _ (nil33 _) (by omega)).mono ?_; rw [no_accepts nil_may]; rintro e w4 ⟨rfl, hb4⟩; have HB := Lib.hid (HB.out.trans (hb4.mono HB.out.size)); clear hb4)
          | (go_at_call 20; refine (made16_calls A c l w _ HC.out HB.out Hc.out (fewB_Small HF.out)).mono ?_; rintro e w4 ⟨v, rv, rfl, hv, hr, hb4⟩; have HV := Lib.hid (Kd.S_lower hv HB.out.size); have HR := Lib.hid hr; have HB := Lib.hid (HB.out.trans (hb4.mono HB.out.size)); clear hb4 hv hr)
          | ((with_reducible refine gate_builtin (b := .append) (xs := _) rfl ?_); at_builtin; refine Kd.S_append V.k33 (w0 := w) w.heap.size rfl _ _ 26 33 (.agg #[(.int .i64 0), (.slice none 0 0), (.slice none 0 0), (.int .i64 0), (.int .i64 0)]) 72 rfl Try.underlying26 info33 rfl (by decide) (by omega) v rv (⟨3, [], V.svNil, 0, 0⟩ : V.S33) [.int .i64 3, .slice none 0 0, .slice none 0 0, .int .i64 0, .int .i64 0] (fun _ => True) (fun _ => False) rfl rfl ?aP (fun k_ hk_ => hk_.elim) ?aF ?aO ?aB ?aS ?aL ?_; (case aP => exact V.k33_mkM _ _ _ (⟨3, [], V.svNil, 0, 0⟩ : V.S33) (Kd.R_nil _ _ _ _ _)); (case aF => exact (fun _ _ => trivial)); (case aO => exact Kd.S_mono HV.out (fun k_ hk => ⟨trivial, fun e_ => e_⟩)); (case aB => exact HB.out); (case aS => exact HB.out.size); (case aL => have h1 := HR.out.1; have h2 := (fewB_small HF.out).1; rw [P33s_length] at h1; omega); intro v1 w5 ho hb hg hat; obtain ⟨A5, c5, e5, hl5, hC5⟩ := Kd.S_reads ho; have hr5 := bad_rel HR.out; rw [hr5.1] at e5 hl5; subst e5; have HD := Lib.hid ((hr5.below hb).C hC5); have HB := Lib.hid hb; clear ho hg hat hb hC5 hr5)
          | (go_at_call 23; refine (may_calls _ (bad_fit (fewB_Small HF.out) HO.out) A5 c5 _ HD.out).mono ?_; rw [bad_may]; rintro e w4 ⟨rfl, hb4⟩; have HD := Lib.hid (Kd.C_below HD.out hb4); have HB := Lib.hid (HB.out.trans (hb4.mono HB.out.size)); clear hb4)
          | (go_at_call 24; refine (accepts_calls _ (bad_fit (fewB_Small HF.out) HO.out) A5 c5 s _ HD.out (by omega)).mono ?_; rw [no_accepts (bad_may _)]; rintro e w4 ⟨rfl, hb4⟩; have HD := Lib.hid (Kd.C_below HD.out hb4); have HB := Lib.hid (HB.out.trans (hb4.mono HB.out.size)); clear hb4)
          | (go_at_call 21; refine (close_calls _ (bad_fit (fewB_Small HF.out) HO.out) A5 A1 c5 c1 at_ _ HD.out (Kd.C_below HA.out HB.out) HW.out).mono ?_; rw [no_close (bad_may _)]; rintro e w4 ⟨v, rfl, hv, hb4⟩; obtain ⟨A6, c6, rfl, hl6, hc6⟩ := Kd.R_reads hv; clear hv hl6 hc6; have HD := Lib.hid (Kd.C_below HD.out hb4); have HB := Lib.hid (HB.out.trans (hb4.mono HB.out.size)); clear hb4)
          | (go_at_call 27; refine (step_calls _ (bad_fit (fewB_Small HF.out) HO.out) A5 A1 c5 c1 at_ 97 _ HD.out (Kd.C_below HA.out HB.out)).mono ?_; rw [no_step (bad_may _)]; rintro e w4 ⟨v, rfl, hv, hb4⟩; obtain ⟨A6, c6, rfl, hl6, hc6⟩ := Kd.R_reads hv; clear hv hl6 hc6; have HD := Lib.hid (Kd.C_below HD.out hb4); have HB := Lib.hid (HB.out.trans (hb4.mono HB.out.size)); clear hb4; have HN := Lib.hid trivial))
        go_ret
        exact ⟨rfl, HB.out⟩
      · have b2 : decide ((s.size : Int) > 200) = true := decide_eq_true (by omega)
        go_enter Try.func8, Try.ntmps8
        go_wp2_with (first
          | (go_at_call 17; refine (awake16 _).mono ?_; rintro e w4 ⟨rfl, hb4⟩; have HB := Lib.hid hb4; clear hb4)
          | (go_at_call 18; refine (few_calls A c l _ (Kd.C_below HC.out HB.out) Hc.out).mono ?_; rw [HF.out]; rintro e w4 ⟨rfl, hb4⟩; have HB := Lib.hid (HB.out.trans (hb4.mono HB.out.size)); clear hb4))
        go_ret
        exact ⟨rfl, HB.out⟩
    · have b1 : decide ((at_.length : Int) > 100) = true := decide_eq_true (by omega)
      go_enter Try.func8, Try.ntmps8
      go_wp2_with (first
        | (go_at_call 17; refine (awake16 _).mono ?_; rintro e w4 ⟨rfl, hb4⟩; have HB := Lib.hid hb4; clear hb4)
        | (go_at_call 18; refine (few_calls A c l _ (Kd.C_below HC.out HB.out) Hc.out).mono ?_; rw [HF.out]; rintro e w4 ⟨rfl, hb4⟩; have HB := Lib.hid (HB.out.trans (hb4.mono HB.out.size)); clear hb4))
      go_ret
      exact ⟨rfl, HB.out⟩
end Go.Proofs.Ytolfamfgoafhlaa.M
end
section
namespace Go.Proofs.Ytolfamfgoafhlaa.M
open Go.RowKit Go.Proofs.YtolfamfgoafhlaaW.PrintWords Go.Proofs.YtolfamfgoafhlaaW.PrintLast Go.Proofs.YtolfamfgoafhlaaW.PrintMore
open Go.Proofs.Ytolfamfgoafhlaa.P Go.Proofs.Ytolfamfgoafhlaa.L

theorem made17_inner (lv : List V.S46) (hb : lv.length ≤ 1000000) (i : Nat) (hi : i < lv.length) (he : (lv[i]).f1.length ≤ 1000000) (r : List V.S33) (acc : List V.S33) (ha : acc.length ≤ 1000000)
    (hn : Ev (fun k => V.phalaropelaw17_made.l0 k lv (acc ++ [mkV lv[i]]) ((i + 1 : Nat) : Int)) r) (d : Nat) :
    ∀ q : Nat, q ≤ (lv[i]).f1.length → (lv[i]).f1.length - q = d → Ev (fun k => V.phalaropelaw17_made.l1 k lv acc i q (lv[i]).f0 (((lv[i]).f1.take q).map (fun e => (⟨e.f0, e.f1, e.f2⟩ : V.S72))) (lv[i]).f2 (lv[i]).f3 (lv[i]).f4) r := by
  induction d with
  | zero =>
    intro q hq hd
    obtain rfl : q = (lv[i]).f1.length := by omega
    refine Ev.step (fun k => ?_) hn
    simp only [V.phalaropelaw17_made.l1]
    rw [if_pos (by omega), if_pos (ltc _ _ hi), vrd46n lv i hi, if_neg (nltc _ _ (Nat.le_refl _)), if_pos (by omega), wrap1 i (by omega), List.take_length]
    rfl
  | succ d ih =>
    intro q hq hd
    have hql : q < (lv[i]).f1.length := by omega
    refine Ev.step (fun k => ?_) (ih (q + 1) (by omega) (by omega))
    simp only [V.phalaropelaw17_made.l1]
    rw [if_pos (by omega), if_pos (ltc _ _ hi), vrd46n lv i hi, if_pos (ltc _ _ hql), if_pos (by omega), if_pos (by simp; omega), vrd74n _ q hql, wrap1 q (by omega), List.take_succ_eq_append_getElem hql, List.map_append]
    rfl
theorem made17_ev (lv : List V.S46) (hb : lv.length ≤ 1000000) (he : ∀ x ∈ lv, x.f1.length ≤ 1000000) : Ev (fun k => V.phalaropelaw17_made.f k lv) (lv.map mkV) := by
  have loop : ∀ d i : Nat, i ≤ lv.length → lv.length - i = d → Ev (fun k => V.phalaropelaw17_made.l0 k lv ((lv.take i).map mkV) i) (lv.map mkV) := by
    intro d
    induction d with
    | zero =>
      intro i hi hd
      obtain rfl : i = lv.length := by omega
      refine Ev.step (f := fun _ => some (lv.map mkV)) (fun k => ?_) (Ev.now _)
      simp only [V.phalaropelaw17_made.l0]
      rw [if_neg (nltc _ _ (Nat.le_refl _)), List.take_length]
    | succ d ih =>
      intro i hi hd
      have hlt : i < lv.length := by omega
      have h1 := ih (i + 1) (by omega) (by omega)
      rw [List.take_succ_eq_append_getElem hlt, List.map_append] at h1
      refine Ev.step (fun k => ?_) (made17_inner lv hb i hlt (he _ (List.getElem_mem hlt)) _ ((lv.take i).map mkV) (by simp; omega) h1 _ 0 (Nat.zero_le _) rfl)
      simp only [V.phalaropelaw17_made.l0]
      rw [if_pos (ltc _ _ hlt), if_pos (by omega), vrd46n lv i hlt]
      rfl
  exact Ev.congr (fun _ => rfl) (loop _ 0 (Nat.zero_le _) rfl)

/-- 'made' of the layer's law: the row is the call's own (its nodes' forks are the argument's, as they stand since w0). -/
theorem made17_calls (A : Option Addr) (c : Nat) (l : List S46) (w0 w : World) (hC : Kd.C k46 w0 A l.length l) (hb0 : Below w0.heap.size w0 w) (hc : l.length ≤ c) (hs : Small l) :
    Calls Try.prog 32 #[.slice A l.length c] w fun e w' => ∃ v rv, e = .returned v ∧ Kd.S V.k33 33 w' w.heap.size (fun _ => True) v rv ∧ VRs w0 (P33s l) rv ∧ Below w.heap.size w w' := by
  obtain ⟨lv, hl, hCv, hr⟩ := C_rel (d := k46) (d' := V.k46) (Rel := VR46 w0) rfl (fun x cs hk => to_V46 hk) hC
  have hm : ∀ y ∈ lv, ∃ x ∈ l, VR46 w0 x y := fun y hy => by
    obtain ⟨j, hj, rfl⟩ := List.getElem_of_mem hy
    exact ⟨l[j]'(by omega), List.getElem_mem _, hr j _ _ (List.getElem?_eq_getElem (by omega)) (List.getElem?_eq_getElem hj)⟩
  obtain ⟨k, hk⟩ := (made17_ev lv (by rw [hl]; exact hs.1) (fun y hy => by
    obtain ⟨x, hx, h⟩ := hm y hy
    rw [h.2.1, List.length_map]
    exact (hs.2 x hx).1)).rounds
  have hcall := V.phalaropelaw17_made.calls k A c lv _ w (Kd.C_below hCv hb0) (by omega) hk
  rw [hl] at hcall
  refine hcall.mono fun e w' ⟨v, he, hv, hb⟩ => ⟨v, _, he, hv, ⟨by simp [hl, P33s], fun j x y hx hy => ?_⟩, hb⟩
  unfold P33s at hx
  rw [List.getElem?_map] at hx hy
  obtain ⟨x', hx', rfl⟩ := Option.map_eq_some_iff.1 hx
  obtain ⟨y', hy', rfl⟩ := Option.map_eq_some_iff.1 hy
  obtain ⟨r0, r1, r2, r3, r4, r5, r6⟩ := hr j x' y' hx' hy'
  exact ⟨r0, by simp [mkV, p33, r1], r2, r3, r4, r5, r6⟩
/-- And as a row that is read. -/
theorem made17_reads (A : Option Addr) (c : Nat) (l : List S46) (w : World) (hC : Kd.C k46 w A l.length l) (hc : l.length ≤ c) (hs : Small l) :
    Calls Try.prog 32 #[.slice A l.length c] w fun e w' => ∃ A' c', e = .returned (.slice A' (P33s l).length c') ∧ (P33s l).length ≤ c' ∧ Kd.C k33 w' A' (P33s l).length (P33s l) ∧ Below w.heap.size w w' := by
  refine (made17_calls A c l w w hC (Below.refl _ _) hc hs).mono ?_
  rintro e w' ⟨v, rv, rfl, hv, hr, hb⟩
  obtain ⟨A', c', rfl, hl, hC'⟩ := Kd.S_reads hv
  have h1 := (hr.below hb).C hC'
  rw [hr.1] at hl ⊢
  exact ⟨A', c', rfl, hl, h1, hb⟩
end Go.Proofs.Ytolfamfgoafhlaa.M
end
section
namespace Go.Proofs.Ytolfamfgoafhlaa.M
open Go.RowKit Go.Proofs.YtolfamfgoafhlaaW.PrintWords Go.Proofs.YtolfamfgoafhlaaW.PrintLast Go.Proofs.YtolfamfgoafhlaaW.PrintMore
open Go.Proofs.Ytolfamfgoafhlaa.P Go.Proofs.Ytolfamfgoafhlaa.L
attribute [local go_sem] min2_int min_two

/-! ### the layer's functions, and the statement -/
theorem ret_i64 {a b : Int} (h : a = b) : Ending.returned (.int .i64 a) = .returned (.int .i64 b) := by rw [h]
def manyB (m : List Nd) (s : ByteArray) : Int := if mayB m = true then ways m s (0, 0) else 0
theorem manyB_rng (m : List S33) (s : ByteArray) : 0 ≤ manyB (N33 m) s ∧ manyB (N33 m) s ≤ 1000 := by
  unfold manyB
  split
  · rename_i h; exact ways_rng h (ok0 h s)
  · omega
theorem manyB_pos (m : List S33) (s : ByteArray) : acceptsB (N33 m) (bts s) = decide (0 < manyB (N33 m) s) := by
  unfold manyB
  split
  · rename_i h; exact (ways_accepts h).symm
  · rename_i h; rw [no_accepts (by simpa using h)]; rfl
/-- What Way tells. -/
def wayB (m : List Nd) (s : ByteArray) (k : Int) : Bool := decide (0 ≤ k) && decide (k < manyB m s)
theorem Way_calls (m : List S33) (s : ByteArray) (A : Option Addr) (c : Nat) (hf : Fit m) (hm : m.length ≤ 1000) (hs : s.size ≤ 1000) (k : Int) (b : Bool) (hb : wayB (N33 m) s k = b) (w : World) (hC : Kd.C k33 w A m.length m) :
    Calls Try.prog 35 #[.slice A m.length c, .string s, .int .i64 k] w fun e w' => ∃ v, e = .returned (.tuple #[v, .bool b]) ∧ Below w.heap.size w w' := by
  subst hb
  unfold wayB manyB
  cases hM : mayB (N33 m) with
  | false =>
    refine (Way_none m s A c hf hM k w hC).mono ?_
    rintro e w' ⟨v, rfl, hb⟩
    have hx : (decide (0 ≤ k) && decide (k < (if false = true then ways (N33 m) s (0, 0) else 0))) = false := by
      rw [if_neg (by simp), Bool.and_eq_false_iff, decide_eq_false_iff_not, decide_eq_false_iff_not]; omega
    exact ⟨v, by rw [hx], hb⟩
  | true =>
    rw [if_pos rfl]
    by_cases h : 0 ≤ k ∧ k < ways (N33 m) s (0, 0)
    · refine (Way_in m s A c hf hm hs hM _ rfl k h.1 h.2 w hC).mono ?_
      rintro e w' ⟨v, rfl, _, hb⟩
      exact ⟨v, by rw [decide_eq_true h.1, decide_eq_true h.2]; rfl, hb⟩
    · refine (Way_out m s A c hf hm hs hM _ rfl k (by omega) w hC).mono ?_
      rintro e w' ⟨v, rfl, hb⟩
      have hx : (decide (0 ≤ k) && decide (k < ways (N33 m) s (0, 0))) = false := by
        rw [Bool.and_eq_false_iff, decide_eq_false_iff_not, decide_eq_false_iff_not]; omega
      exact ⟨v, by rw [hx], hb⟩
set_option maxRecDepth 100000 in
/-- find.First. -/
theorem First_calls (m : List S33) (s : ByteArray) (A : Option Addr) (c : Nat) (hf : Fit m) (hm : m.length ≤ 1000) (hs : s.size ≤ 1000) (b : Bool) (hb : acceptsB (N33 m) (bts s) = b) (w : World) (hC : Kd.C k33 w A m.length m) :
    Calls Try.prog 33 #[.slice A m.length c, .string s] w fun e w' => ∃ v, e = .returned (.tuple #[v, .bool b]) ∧ Below w.heap.size w w' := by
  have hb' : wayB (N33 m) s 0 = b := by rw [← hb, manyB_pos]; unfold wayB; rfl
  have HF := Lib.hid hf
  have HC := Lib.hid hC
  have HB := Lib.hid hb'
  clear hf hC hb hb'
  go_enter Try.func33, Try.ntmps33
  go_wp2_with (first | (go_at_call 35; refine (Way_calls m s A c HF.out hm hs 0 b HB.out w HC.out).mono ?_; rintro e w1 ⟨v, rfl, hb1⟩; have HB1 := Lib.hid hb1; clear hb1))
  go_ret2
  exact ⟨_, rfl, HB1.out⟩
set_option maxRecDepth 100000 in
set_option maxHeartbeats 1000000 in
/-- find.Many, of a machine, up to any number. -/
theorem Many_lim (m : List S33) (s : ByteArray) (A : Option Addr) (c : Nat) (hf : Fit m) (hm : m.length ≤ 1000) (hs : s.size ≤ 1000) (hM : mayB (N33 m) = true) (lim : Int) (hlim : 1 ≤ lim) (v : Int) (hv : ways (N33 m) s (0, 0) = v) (w : World) (hC : Kd.C k33 w A m.length m) :
    Calls Try.prog 34 #[.slice A m.length c, .string s, .int .i64 lim] w fun e w' => e = .returned (.int .i64 (min lim v)) ∧ Below w.heap.size w w' := by
  have hrg := ways_rng hM (ok0 hM s)
  rw [hv] at hrg
  have HF := Lib.hid hf
  have HM := Lib.hid hM
  have HC := Lib.hid hC
  have HV := Lib.hid hv
  clear hf hM hC hv
  go_enter Try.func34, Try.ntmps34
  go_wp2_with (first
    | (go_at_call 61; refine (of_calls m s A c HF.out HM.out w HC.out).mono ?_; rintro e w1 ⟨F, b, rfl, hS, hb1⟩; have HS := Lib.hid hS; have HB1 := Lib.hid hb1; clear hb1 hS)
    | (go_at_call 62; refine (many_calls m s A c F b w HF.out hm hs HM.out _ (0, 0) (Nat.le_refl _) (ok0 HM.out s) w1 HS.out).mono ?_; rintro e w2 ⟨rfl, hS2, hg2⟩; rw [HV.out]; have HS2 := Lib.hid hS2; clear hg2 hS2))
  all_goals
    go_ret
    exact ⟨ret_i64 (by omega), HS2.out.below⟩
theorem Many_all (m : List S33) (s : ByteArray) (A : Option Addr) (c : Nat) (hf : Fit m) (hm : m.length ≤ 1000) (hs : s.size ≤ 1000) (lim : Int) (hlim : 1 ≤ lim) (v : Int) (hv : min lim (manyB (N33 m) s) = v) (w : World) (hC : Kd.C k33 w A m.length m) :
    Calls Try.prog 34 #[.slice A m.length c, .string s, .int .i64 lim] w fun e w' => e = .returned (.int .i64 v) ∧ Below w.heap.size w w' := by
  subst hv
  unfold manyB
  cases hM : mayB (N33 m) with
  | false =>
    refine (Many_none m s A c hf hM lim w hC).mono ?_
    rintro e w' ⟨rfl, hb⟩
    have hx : min lim (if false = true then ways (N33 m) s (0, 0) else 0) = 0 := by rw [if_neg (by simp)]; omega
    exact ⟨by rw [hx], hb⟩
  | true => exact Many_lim m s A c hf hm hs hM lim hlim _ rfl w hC
set_option maxRecDepth 100000 in
theorem few17_calls (A : Option Addr) (c : Nat) (l : List S46) (s : ByteArray) (w : World) (hC : Kd.C k46 w A l.length l) (hc : l.length ≤ c) (b : Bool) (hb : (fewB l && decide (s.size ≤ 200)) = b) :
    Calls Try.prog 31 #[.slice A l.length c, .string s] w fun e w' => e = .returned (.bool b) ∧ Below w.heap.size w w' := by
  have HC := Lib.hid hC
  have Hc := Lib.hid hc
  subst hb
  clear hC hc
  cases hF : fewB l with
  | false =>
    have HF := Lib.hid hF
    clear hF
    go_enter Try.func31, Try.ntmps31
    go_wp2_with (first | (go_at_call 18; refine (few_calls A c l _ HC.out Hc.out).mono ?_; rw [HF.out]; rintro e w4 ⟨rfl, hb4⟩; have HB := Lib.hid hb4; clear hb4))
    go_ret
    exact ⟨rfl, HB.out⟩
  | true =>
    have HF := Lib.hid hF
    clear hF
    by_cases g : s.size ≤ 200
    · have b1 : decide ((s.size : Int) ≤ 200) = true := decide_eq_true (by omega)
      have HG := Lib.hid (decide_eq_true g)
      clear g
      go_enter Try.func31, Try.ntmps31
      go_wp2_with (first | (go_at_call 18; refine (few_calls A c l _ HC.out Hc.out).mono ?_; rw [HF.out]; rintro e w4 ⟨rfl, hb4⟩; have HB := Lib.hid hb4; clear hb4))
      go_ret
      exact ⟨by rw [HG.out]; rfl, HB.out⟩
    · have b1 : decide ((s.size : Int) ≤ 200) = false := decide_eq_false (by omega)
      have HG := Lib.hid (decide_eq_false g)
      clear g
      go_enter Try.func31, Try.ntmps31
      go_wp2_with (first | (go_at_call 18; refine (few_calls A c l _ HC.out Hc.out).mono ?_; rw [HF.out]; rintro e w4 ⟨rfl, hb4⟩; have HB := Lib.hid hb4; clear hb4))
      go_ret
      exact ⟨by rw [HG.out]; rfl, HB.out⟩
end Go.Proofs.Ytolfamfgoafhlaa.M
end
section
namespace Go.Proofs.Ytolfamfgoafhlaa.M
open Go.RowKit Go.Proofs.YtolfamfgoafhlaaW.PrintWords Go.Proofs.YtolfamfgoafhlaaW.PrintLast Go.Proofs.YtolfamfgoafhlaaW.PrintMore
open Go.Proofs.Ytolfamfgoafhlaa.P Go.Proofs.Ytolfamfgoafhlaa.L

def awk17 : List S33 := [⟨2, [], [2, 1], 0, 0⟩, ⟨3, [], [], 7, 2⟩, ⟨4, [], [], 0, 0⟩]
theorem awk17_fit : Fit awk17 := by
  intro x hx
  simp only [awk17, List.mem_cons, List.not_mem_nil, or_false] at hx
  rcases hx with rfl | rfl | rfl <;> refine ⟨by simp, by simp, fun e he => ?_⟩ <;> simp at he
theorem awk17_row (w : World) : Kd.C k33 ((w.alloc (Obj.cells #[Value.int IntKind.i64 2, Value.int IntKind.i64 1] 3)).alloc
      (Obj.cells
        #[Value.int IntKind.i64 2, Value.slice none 0 0, Value.slice (some { block := w.heap.size, off := 0 }) 2 2,
          Value.int IntKind.i64 0, Value.int IntKind.i64 0, Value.int IntKind.i64 3,
          Value.slice none 0 0, Value.slice none 0 0, Value.int IntKind.i64 7,
          Value.int IntKind.i64 2, Value.int IntKind.i64 4, Value.slice none 0 0, Value.slice none 0 0,
          Value.int IntKind.i64 0, Value.int IntKind.i64 0]
        33)) (some ⟨w.heap.size + 1, 0, none⟩) awk17.length awk17 := by
  have h1 := int_row w [2, 1] (by simp)
  have h1' : (Kd.int .i64).C (w.alloc (Obj.cells #[Value.int IntKind.i64 2, Value.int IntKind.i64 1] 3)) (some ⟨w.heap.size, 0, none⟩) 2 [2, 1] := h1
  generalize hw1 : w.alloc (Obj.cells #[Value.int IntKind.i64 2, Value.int IntKind.i64 1] 3) = w1 at *
  have hs1 : w1.heap.size = w.heap.size + 1 := by rw [← hw1]; simp
  rw [← hs1]
  clear h1
  refine k33_row w1 _ awk17 [[Value.int IntKind.i64 2, Value.slice none 0 0, Value.slice (some { block := w.heap.size, off := 0 }) 2 2, Value.int IntKind.i64 0, Value.int IntKind.i64 0], [Value.int IntKind.i64 3,
          Value.slice none 0 0, Value.slice none 0 0, Value.int IntKind.i64 7,
          Value.int IntKind.i64 2], [Value.int IntKind.i64 4, Value.slice none 0 0, Value.slice none 0 0,
          Value.int IntKind.i64 0, Value.int IntKind.i64 0]] rfl (by simp [awk17]) rfl (by simp) ?_
  generalize hw3 : w1.alloc _ = w3
  have hb3 : Below w1.heap.size w1 w3 := by rw [← hw3]; exact (Below.refl _ _).alloc (Nat.le_refl _) _
  have g1 := Kd.C_below h1' hb3
  intro j x c hx hc
  rcases j with _ | _ | _ | j
  · simp [awk17] at hx hc; subst hx; subst hc
    exact k33_mk w3 ⟨2, [], [2, 1], 0, 0⟩ (Nat.le_refl _) (k72_nil _) (Nat.le_refl _) g1
  · simp [awk17] at hx hc; subst hx; subst hc
    exact k33_mk w3 ⟨3, [], [], 7, 2⟩ (Nat.le_refl _) (k72_nil _) (Nat.le_refl _) (int_nil _)
  · simp [awk17] at hx hc; subst hx; subst hc
    exact k33_mk w3 ⟨4, [], [], 0, 0⟩ (Nat.le_refl _) (k72_nil _) (Nat.le_refl _) (int_nil _)
  · simp [awk17] at hx
def emp : ByteArray := ⟨#[]⟩
theorem awk17_may : mayB (N33 awk17) = true := by kernel_rfl
theorem awk17_ways : ways (N33 awk17) emp (0, 0) = 2 := by kernel_rfl
theorem awk17_hits0 : hitsF (N33 awk17) emp (mu (N33 awk17) emp (0, 0)) (0, 0) 0 = [] := by kernel_rfl
theorem awk17_hits1 : hitsF (N33 awk17) emp (mu (N33 awk17) emp (0, 0)) (0, 0) 1 = [(7, 0)] := by kernel_rfl
theorem awk17_in (w : World) (A : Option Addr) (k : Int) (h0 : 0 ≤ k) (h1 : k < 2) (l : List Pl) (hl : hitsF (N33 awk17) emp (mu (N33 awk17) emp (0, 0)) (0, 0) k = l) (hC : Kd.C k33 w A awk17.length awk17) :
    Calls Try.prog 35 #[.slice A 3 3, .string ⟨#[]⟩, .int .i64 k] w fun e w' => ∃ B c', e = .returned (.tuple #[.slice B l.length c', .bool true]) ∧ kPl.C w' B l.length l ∧ Below w.heap.size w w' := by
  refine (Way_in awk17 emp A 3 awk17_fit (by decide) (by decide) awk17_may 2 awk17_ways k h0 h1 w hC).mono ?_
  rintro e w' ⟨v, rfl, hv, hb⟩
  rw [hl] at hv
  obtain ⟨B, c', rfl, _, hc⟩ := Kd.R_reads hv
  exact ⟨B, c', rfl, hc, hb⟩
theorem awk17_out (w : World) (A : Option Addr) (hC : Kd.C k33 w A awk17.length awk17) :
    Calls Try.prog 35 #[.slice A 3 3, .string ⟨#[]⟩, .int .i64 2] w fun e w' => ∃ v, e = .returned (.tuple #[v, .bool false]) ∧ Below w.heap.size w w' :=
  Way_out awk17 emp A 3 awk17_fit (by decide) (by decide) awk17_may 2 awk17_ways 2 (by omega) w hC
theorem awk17_many (w : World) (A : Option Addr) (hC : Kd.C k33 w A awk17.length awk17) :
    Calls Try.prog 34 #[.slice A 3 3, .string ⟨#[]⟩, .int .i64 9] w fun e w' => e = .returned (.int .i64 2) ∧ Below w.heap.size w w' :=
  Many_lim awk17 emp A 3 awk17_fit (by decide) (by decide) awk17_may 9 (by omega) 2 awk17_ways w hC

theorem hit_one {w : World} {A : Option Addr} {p : Pl} (h : kPl.C w A 1 [p]) : ∃ ad, A = some ad ∧ w.cell? ad = some (.int .i64 p.1) ∧ w.cell? ⟨ad.block, ad.off + 1, none⟩ = some (.int .i64 p.2) := by
  obtain ⟨ad, e, h0, h1⟩ := at_Pl h 0 (Int.le_refl _) (by decide)
  have ea : ad.add ((0 : Int).toNat * 2) = ad := by cases ad; rfl
  rw [ea] at h0 h1
  exact ⟨ad, e, h0, h1⟩
set_option maxRecDepth 100000 in
theorem awake17 (w : World) : Calls Try.prog 30 #[] w fun e w' => e = .returned (.bool true) ∧ Below w.heap.size w w' := by
  have h0 := awk17_row w
  generalize hw3 : World.alloc _ _ = w3 at h0
  have hb0 : Below w.heap.size w w3 := by
    rw [← hw3]
    refine Below.alloc (Below.alloc (Below.refl _ _) (Nat.le_refl _) _) ?_ _
    simp
  have HR := Lib.hid h0
  have HB := Lib.hid hb0
  have HW := Lib.hid hw3
  clear h0 hb0 hw3
  go_enter Try.func30, Try.ntmps30
  go_wp2_with (first
    | (go_at_call 35; rw [HW.out]; with_reducible refine Calls.mono (awk17_in _ _ 0 (by omega) (by omega) [] awk17_hits0 HR.out) ?_; rintro e w4 ⟨B0, c0, rfl, hc0, hb4⟩; clear hc0 HW; have T1 := Lib.hid trivial; have HR := Lib.hid (Kd.C_below HR.out hb4); have HB := Lib.hid (HB.out.trans (hb4.mono HB.out.size)); clear hb4)
    | (have T1' := T1; clear T1' T1; go_at_call 35; with_reducible refine Calls.mono (awk17_in _ _ 1 (by omega) (by omega) [(7, 0)] awk17_hits1 HR.out) ?_; rintro e w4 ⟨B1, c1, rfl, hc1, hb4⟩; have HL := Lib.hid hc1; have HR := Lib.hid (Kd.C_below HR.out hb4); have HB := Lib.hid (HB.out.trans (hb4.mono HB.out.size)); clear hb4 hc1)
    | (go_at_call 35; with_reducible refine Calls.mono (awk17_out _ _ HR.out) ?_; rintro e w4 ⟨v2, rfl, hb4⟩; have HL := Lib.hid (Kd.C_below HL.out hb4); have HR := Lib.hid (Kd.C_below HR.out hb4); have HB := Lib.hid (HB.out.trans (hb4.mono HB.out.size)); clear hb4)
    | (go_at_call 34; with_reducible refine Calls.mono (awk17_many _ _ HR.out) ?_; rintro e w4 ⟨rfl, hb4⟩; have HL := Lib.hid (Kd.C_below HL.out hb4); have HB := Lib.hid (HB.out.trans (hb4.mono HB.out.size)); obtain ⟨ad9, eA9, hq0, hq1⟩ := hit_one HL.out; subst eA9; clear hb4))
  go_ret
  exact ⟨rfl, HB.out⟩

theorem u8_rng {k : Int} (h : (Lit.int .u8 k).wf = true) : 0 ≤ k ∧ k ≤ 255 := by
  simp [Lit.wf, IntKind.min, IntKind.max, IntKind.signed, IntKind.bits] at h
  exact h
set_option maxRecDepth 100000 in
set_option maxHeartbeats 1000000 in
theorem findEaten_walk (w : World) (A : Option Addr) (c : Nat) (l : List S46) (hc : l.length ≤ c) (hC : Kd.C k46 w A l.length l) (hok : ∀ y ∈ l, Ok46 y) (s : ByteArray) (k : Int) (hk : (Lit.int .u8 k).wf = true) :
    Calls Try.prog 9 #[.slice A l.length c, .string s, .int .u8 k] w fun e w' => e = .returned (.bool true) ∧ Below w.heap.size w w' := by
  have hkr := u8_rng hk
  have HC := Lib.hid hC
  have HO := Lib.hid hok
  have Hc := Lib.hid hc
  clear hC hok hc hk
  cases hF : (fewB l && decide (s.size ≤ 200)) with
  | false =>
    have HF := Lib.hid hF
    clear hF
    go_enter Try.func9, Try.ntmps9
    go_wp2_with (first
      | (go_at_call 30; refine (awake17 _).mono ?_; rintro e w4 ⟨rfl, hb4⟩; have HB := Lib.hid hb4; clear hb4)
      | (go_at_call 31; refine (few17_calls A c l s _ (Kd.C_below HC.out HB.out) Hc.out _ HF.out).mono ?_; rintro e w4 ⟨rfl, hb4⟩; have HB := Lib.hid (HB.out.trans (hb4.mono HB.out.size)); clear hb4))
    go_ret
    exact ⟨rfl, HB.out⟩
  | true =>
    have HF := Lib.hid hF
    rw [Bool.and_eq_true, decide_eq_true_eq] at hF
    have hF1 := hF.1
    have hs : s.size ≤ 200 := hF.2
    have HF1 := Lib.hid hF1
    have hl60 := (fewB_small hF1).1
    have hfit := made_fit (fewB_Small hF1) HO.out
    have hml : (P33s l).length ≤ 1000 := by rw [P33s_length]; omega
    clear hF hF1
    generalize hm : P33s l = m at *
    have hrg := manyB_rng m s
    have hpos := manyB_pos m s
    generalize hn : manyB (N33 m) s = n at *
    have hway : wayB (N33 m) s k = decide (k < n) := by unfold wayB; rw [hn, decide_eq_true hkr.1, Bool.true_and]
    have hn' : min 1000 (manyB (N33 m) s) = n := by rw [hn]; omega
    have Hm := Lib.hid hm
    have Hfit := Lib.hid hfit
    have Hn := Lib.hid hn'
    clear hm hfit hn hn'
    obtain ⟨b, hb⟩ : ∃ b, b = decide (0 < n) := ⟨_, rfl⟩
    obtain ⟨o, ho⟩ : ∃ o, o = decide (k < n) := ⟨_, rfl⟩
    rw [← hb] at hpos
    rw [← ho] at hway
    have Hp := Lib.hid hpos
    have Hw := Lib.hid hway
    have g1 : decide (n > 0) = b := by rw [hb]
    have g2 : decide (k < n) = o := ho.symm
    clear hpos hway hb ho
    cases b <;> cases o
    all_goals
      go_enter Try.func9, Try.ntmps9
      go_wp2_with (first
        | (go_at_call 30; refine (awake17 _).mono ?_; rintro e w4 ⟨rfl, hb4⟩; have HB := Lib.hid hb4; clear hb4)
        | (go_at_call 31; refine (few17_calls A c l s _ (Kd.C_below HC.out HB.out) Hc.out _ HF.out).mono ?_; rintro e w4 ⟨rfl, hb4⟩; have HB := Lib.hid (HB.out.trans (hb4.mono HB.out.size)); clear hb4)
        | (go_at_call 32; refine (made17_reads A c l _ (Kd.C_below HC.out HB.out) Hc.out (fewB_Small HF1.out)).mono ?_; rw [Hm.out]; rintro e w4 ⟨A5, c5, rfl, hl5, hc5, hb4⟩; have HD := Lib.hid hc5; have HB := Lib.hid (HB.out.trans (hb4.mono HB.out.size)); clear hb4 hc5)
        | (go_at_call 33; refine (First_calls m s A5 c5 Hfit.out hml (by omega) _ Hp.out _ HD.out).mono ?_; rintro e w4 ⟨v1, rfl, hb4⟩; have HD := Lib.hid (Kd.C_below HD.out hb4); have HB := Lib.hid (HB.out.trans (hb4.mono HB.out.size)); clear hb4)
        | (go_at_call 34; refine (Many_all m s A5 c5 Hfit.out hml (by omega) 1000 (by omega) n Hn.out _ HD.out).mono ?_; rintro e w4 ⟨rfl, hb4⟩; have HD := Lib.hid (Kd.C_below HD.out hb4); have HB := Lib.hid (HB.out.trans (hb4.mono HB.out.size)); clear hb4)
        | (go_at_call 35; refine (Way_calls m s A5 c5 Hfit.out hml (by omega) k _ Hw.out _ HD.out).mono ?_; rintro e w4 ⟨v2, rfl, hb4⟩; have HD := Lib.hid (Kd.C_below HD.out hb4); have HB := Lib.hid (HB.out.trans (hb4.mono HB.out.size)); clear hb4)
        | (go_at_call 24; refine (accepts_calls m Hfit.out A5 c5 s _ HD.out (by omega)).mono ?_; rw [Hp.out]; rintro e w4 ⟨rfl, hb4⟩; have HD := Lib.hid (Kd.C_below HD.out hb4); have HB := Lib.hid (HB.out.trans (hb4.mono HB.out.size)); clear hb4))
      go_ret
      exact ⟨rfl, HB.out⟩
end Go.Proofs.Ytolfamfgoafhlaa.M
end
section
namespace Go.Proofs.Ytolfamfgoafhlaa.findEaten
open Go.ChangeShapes Go.WideShapes Go.ChangeAt Go.RowKit
open Go.ChangeMaps (open_string shut_string)
open Go.Proofs.Ytolfamfgoafhlaa.P Go.Proofs.Ytolfamfgoafhlaa.M Go.Proofs.YtolfamfgoafhlaaW.PrintWords Go.Proofs.YtolfamfgoafhlaaW.PrintLast Go.Proofs.YtolfamfgoafhlaaW.PrintMore
set_option linter.unusedVariables false
theorem own : ownKnob Try.prog.godebug = none := by kernel_rfl
theorem laidOut : laidOutB Try.prog = true := by kernel_rfl
set_option maxRecDepth 100000 in
theorem lifted (os : Os) (started : os.Started) (H : Type) (enc : TypeId × Value → H) :
    ReturnsInHanded {} Try.checked os 9 .any (Rows.findEatenSpec.pre6 enc Try.prog Try.f9 Rows.findEatenRow.domain false) (Rows.findEatenSpec.post enc Try.prog Try.f9 false true false false) := by
  refine returnsInHanded_of_change_sized (C := Try.checked) own started (by kernel_rfl) Try.func9
    (ChangeSpec.witness6 (enc := enc) (C := Try.checked) false ⟨#[], #[.slice none 0 0, .string ByteArray.empty, .int .u8 0], []⟩ 8 (by kernel_rfl) (by kernel_rfl) (by kernel_rfl) (by kernel_rfl)) ?_
  intro W base args ds gs before hval0 hW hcnd hsz0 _
  have hsz : (DataW.weightsEach Try.prog (Try.f9.params.toList ++ Rows.findEatenSpec.plain.varTypes Try.prog) (ds ++ gs)).all (· ≤ reachBytes) = true := hsz0
  have hval : ∀ (j : Nat) t v, Try.f9.params[j]? = some t → args[j]? = some v → Value.okWide Try.prog W .any base t v := hval0
  have hW' := hW
  obtain ⟨p, q, hA0, hV, rfl, hfz, hnd⟩ := hW
  have hA : DataW.TrodAll enc Try.prog W 0 (fun _ => true) true Try.f9.params.toList args.toList ds p := hA0
  rw [Try.params9] at hA hval hsz
  obtain ⟨v0, vs0, d0, ds0, p0, q0, hargs, rfl, rfl, h0, r0⟩ := trodAll_cons hA
  obtain ⟨v1, vs1, d1, ds1, p1, q1, rfl, rfl, rfl, h1, r1⟩ := trodAll_cons r0
  obtain ⟨v2, vs2, d2, ds2, p2, q2, rfl, rfl, rfl, h2, r2⟩ := trodAll_cons r1
  obtain ⟨rfl, rfl, rfl⟩ := trodAll_nil r2
  obtain rfl : args = #[v0, v1, v2] := by cases args; simp_all
  obtain ⟨rfl, rfl⟩ := trodVars_none hV
  obtain ⟨a0, len0, cap0, rfl⟩ := okWide_slice Try.underlying22 (hval 0 22 v0 rfl rfl)
  have k0 := h0
  have lt0 : ∀ x ∈ p0, x.block < W.heap.size := by obtain ⟨m, hm⟩ := k0; exact DataW.trod_lt m _ _ _ hm
  obtain ⟨l0, e0, b0, c0, x0⟩ := open_nodes46 trivial h0
  subst e0
  obtain ⟨a1, rfl, rfl, rfl, y1⟩ := open_string Try.underlying9 (hval 1 9 v1 rfl rfl) h1
  obtain ⟨a2, rfl, rfl, rfl, w2⟩ := open_int Try.underlying5 (hval 2 5 v2 rfl rfl) h2
  clear hA0 hval0 hsz0 hsz
  refine (findEaten_walk W a0 cap0 l0 b0 c0 x0 a1 a2 w2).mono fun e W' ⟨he, bel⟩ => ?_
  subst he
  exact ⟨_, rfl, _, _, _, [], _, [], hW', trodAll_mk1 (shut_bool Try.underlying4 _), (trodAll_cons_mk (Below.trod laidOut (by kernel_rfl) (of_decide_eq_true (by kernel_rfl)) k0 bel lt0) (trodAll_cons_mk (shut_string Try.underlying9 y1) (trodAll_cons_mk (shut_int Try.underlying5 w2) trodAll_mk0))), rfl, bel.frame _, fun h => by cases h⟩
theorem over : Rows.findEatenRow.holds Try.pinned (OpenSpec.ofChange Rows.findEatenSpec) :=
  OpenClaim.holds_of_wide 9 Try.f9 rfl rfl rfl rfl rfl rfl rfl ⟨rfl, rfl, rfl, rfl, rfl⟩ rfl rfl rfl rfl rfl (by kernel_rfl) Try.func9 (by kernel_rfl)
    (of_decide_eq_true (by kernel_rfl)) (by unfold Func.isWrapper; first | (rw [if_pos (by decide +kernel)]; kernel_rfl) | (rw [if_neg (by decide +kernel)]; exact ⟨rfl, rfl⟩))
    (fun os started H enc _ => lifted os started H enc)
end Go.Proofs.Ytolfamfgoafhlaa.findEaten
namespace Go.Proofs.Ytolfamfgoafhlaa
theorem findEaten_holds : Rows.FindEatenSaid := findEaten.over
end Go.Proofs.Ytolfamfgoafhlaa
end
