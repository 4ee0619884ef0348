import Derived.Test.YtolfamfgoafhlaaX4a
namespace Go.Proofs.Ytolfamfgoafhlaa.M
open Go.RowKit Go.Proofs.YtolfamfgoafhlaaW.PrintWords Go.Proofs.YtolfamfgoafhlaaW.PrintLast Go.Proofs.YtolfamfgoafhlaaW.PrintMore
open Go.Proofs.Ytolfamfgoafhlaa.P Go.Proofs.Ytolfamfgoafhlaa.L

theorem R_front {α : Type} {d : Kd α} {e base : Nat} {ok : Nat → Prop} {w : World} {v : Value} {xs : List α} (h : d.R e w base ok v xs) (hn : 0 < xs.length) : ∃ (g c : Nat), v = .slice (some ⟨g, 0, none⟩) xs.length c := by
  have h0 := h
  obtain ⟨_, inner, ho, _⟩ := h
  rcases ho.2 with ⟨rfl, _⟩ | ⟨g, cap', cur, rfl, _⟩
  · have := (Kd.R_reads' h0).1
    omega
  · have h1 := (Kd.R_reads' h0).1
    exact ⟨g, cap', by rw [← h1]⟩
def Stop (p : Prop) : Prop := p
theorem stopit (p : Prop) (h : Stop p) : p := h
/-- The first k of the nodes marked. -/
def upTag (t : Int) (k : Nat) (rv : List V.S33) : List V.S33 := (rv.take k).map (tgV t) ++ rv.drop k
theorem upTag_length (t : Int) (k : Nat) (rv : List V.S33) : (upTag t k rv).length = rv.length := by simp [upTag]; omega
theorem upTag_zero (t : Int) (rv : List V.S33) : upTag t 0 rv = rv := by simp [upTag]
theorem upTag_all (t : Int) (rv : List V.S33) : upTag t rv.length rv = rv.map (tgV t) := by simp [upTag]
theorem upTag_get (t : Int) (k : Nat) (rv : List V.S33) (h : k < rv.length) : (upTag t k rv).getD k V.z33 = rv[k] := by
  simp only [upTag, List.getD_eq_getElem?_getD]
  rw [List.getElem?_append_right (by simp; omega)]
  simp [Nat.min_eq_left (Nat.le_of_lt h), h]
theorem upTag_set (t : Int) (k : Nat) (rv : List V.S33) (h : k < rv.length) : (upTag t k rv).set k (tgV t rv[k]) = upTag t (k + 1) rv := by
  unfold upTag
  have hl : ((rv.take k).map (tgV t)).length = k := by simp; omega
  rw [List.set_append_right _ _ (by rw [hl]; exact Nat.le_refl _), hl, Nat.sub_self, List.take_succ_eq_append_getElem h, List.map_append]
  have e := List.drop_eq_getElem_cons h
  rw [e, List.set_cons_zero]
  simp

set_option maxRecDepth 100000 in
set_option maxHeartbeats 2000000 in
theorem machineTags_main (w : World) (A : Option Addr) (c : Nat) (l : List S46) (hc : l.length ≤ c) (hC : Kd.C k46 w A l.length l) (hok : ∀ y ∈ l, Ok46 y) (s : ByteArray) (t : Int) (wt : (Lit.int .i64 t).wf = true)
    (hF : fewB l = true) (hM : mayB (N46 l) = true) (g1 : s.size ≤ 200) (b : Bool) (h0 : acceptsB (N46 l) (bts s) = b) (m2 : List S33) (h1 : tagL l t = m2) (h2 : mayB (N33 m2) = true) (h3 : acceptsB (N33 m2) (bts s) = b) (h4 : Fit m2) :
    Calls Try.prog 4 #[.slice A l.length c, .string s, .int .i64 t] w fun e w' => e = .returned (.bool true) ∧ Below w.heap.size w w' := by
  have b1 : decide ((s.size : Int) > 200) = false := decide_eq_false (by omega)
  have HC := Lib.hid hC
  have HO := Lib.hid hok
  have Hc := Lib.hid hc
  have HF := Lib.hid hF
  have HM := Lib.hid hM
  have H0 := Lib.hid h0
  have H1 := Lib.hid h1
  have H2 := Lib.hid h2
  have H3 := Lib.hid h3
  have H4 := Lib.hid h4
  clear hC hok hc hF hM h0 h1 h2 h3 h4
  go_enter Try.func4, Try.ntmps4
  go_wp2_with (first
    | (go_at_call 17; refine (awake16 _).mono ?_; rintro e w4 ⟨rfl, hb4⟩; have HB := Lib.hid hb4; clear hb4)
    | (go_at_call 18; refine (few_calls A c l _ (Kd.C_below HC.out HB.out) Hc.out).mono ?_; rw [HF.out]; rintro e w4 ⟨rfl, hb4⟩; have HB := Lib.hid (HB.out.trans (hb4.mono HB.out.size)); clear hb4)
    | (go_at_call 19; refine (refmay_calls A c l _ (Kd.C_below HC.out HB.out) Hc.out (by have := (fewB_small HF.out).1; omega) (fun x hx => by have := (fewB_small HF.out).2 x hx; omega)).mono ?_; rw [HM.out]; rintro e w4 ⟨rfl, hb4⟩; have HB := Lib.hid (HB.out.trans (hb4.mono HB.out.size)); clear hb4)
    | (have HN' := HD; clear HN'; go_at_call 20; refine (made16_calls A c l w _ HC.out HB.out Hc.out (fewB_Small HF.out)).mono ?_; rintro e w5 ⟨v, rv, rfl, hv, hr, hb5⟩; have HV := Lib.hid hv; have HR := Lib.hid hr; have HB5 := Lib.hid hb5; clear hb5 hv hr)
    | (go_at_call 20; refine (made16_reads A c l _ (Kd.C_below HC.out HB.out) Hc.out (fewB_Small HF.out)).mono ?_; rintro e w4 ⟨A5, c5, rfl, hl5, hv, hb4⟩; have HD := Lib.hid hv; have HB := Lib.hid (HB.out.trans (hb4.mono HB.out.size)); clear hb4 hv))
  have hlen : rv.length = l.length := by rw [HR.out.1, P33s_length]
  have hpos : 0 < rv.length := by
    rw [hlen]
    have := ((may_iff _).1 HM.out).1
    rwa [N46_length] at this
  obtain ⟨g, cap, rfl⟩ := R_front (Kd.S_R HV.out) hpos
  have hub : rv.length ≤ 60 := by rw [hlen]; exact (fewB_small HF.out).1
  have HL := Lib.hid hlen
  clear hlen
  go_loopw [10] (fun v wr => ∃ k : Nat, k ≤ rv.length ∧ v = .int .i64 k ∧ Aside0 (V.k33.R 33 wr w4.heap.size (fun _ => True) (.slice (some ⟨g, 0, none⟩) rv.length cap) (upTag t k rv)) ∧ Aside0 (Below w4.heap.size w4 wr)) (fun v _ => rv.length - (RowKit.intOf v).toNat)
  case atStart => exact ⟨0, Nat.zero_le _, rfl, ⟨by rw [upTag_zero]; exact Kd.S_R HV.out⟩, ⟨HB5.out⟩⟩
  case round =>
    obtain ⟨k, hk, rfl, HRk, HBk⟩ := hrel
    by_cases hlt : k < rv.length
    · obtain ⟨cs, hcl, hMM, hcc, hfr⟩ := Kd.R_elem HRk.out V.z33 (k : Int) (by omega) (by omega)
      rw [show ((k : Int)).toNat = k from Int.toNat_natCast k, upTag_get t k rv hlt] at hMM
      obtain ⟨v1, rfl, hr1⟩ := V.k33_openM hMM
      have HM1 := Lib.hid hr1
      have HCC := Lib.hid hcc
      clear hMM hcc hfr hr1
      go_wp2_with (first | ((with_reducible refine gate_store (t := 3) (p := 40) rfl ?_); refine stopit _ ?_))
      unfold Stop
      refine Kd.R_store V.k33 (w0 := w4) (o' := k * 5 + 3) (g := g) (n := rv.length) (cap := cap) w4.heap.size rfl rfl 3 _ _ rfl 33 (k : Int) 3 (upTag t k rv) (tgV t rv[k]) (.int .i64 t) [.int .i64 t] _ (fun _ => True) (fun q => True ∧ q ≠ g) rfl ?zoff rfl rfl ?zz ?z1 HRk.out ?z0 ?zi hcl HCC.out ?zj (V.k33_mkM _ _ _ (tgV t rv[k]) HM1.out) (fun q hq => hq) HBk.out ?zh
      case zoff =>
        show k * 5 + 3 = ((k : Int)).toNat * 5 + 3
        rw [Int.toNat_natCast]
      case zz => kernel_rfl
      case z1 =>
        intro q hq
        obtain rfl := List.mem_singleton.1 hq
        rfl
      case z0 => omega
      case zi => omega
      case zj => show 3 + 1 ≤ 5; omega
      intro w6 hr6 hb6 hg6
      rw [show ((k : Int)).toNat = k from Int.toNat_natCast k, upTag_set t k rv hlt] at hr6
      have HR6 := Lib.hid hr6
      have HB6 := Lib.hid hb6
      clear hr6 hb6 hg6
      go_wp2
      go_roundw
      case rel => exact ⟨k + 1, by omega, by go_num, ⟨HR6.out⟩, ⟨HB6.out⟩⟩
      case measure => simp [RowKit.intOf]; omega
    · obtain rfl : k = rv.length := by omega
      have hrel := tag_rel t HR.out
      rw [H1.out] at hrel
      have HV6 := HRk.out
      rw [upTag_all] at HV6
      have HV7 := Lib.hid HV6
      have HT := Lib.hid hrel
      clear HV6 hrel
      go_wp2_with (first
        | ((with_reducible refine gate_builtin (b := .append) (xs := _) rfl ?_); at_builtin; refine stopit _ ?_))
      unfold Stop
      refine Kd.R_append V.k33 (w0 := w4) w4.heap.size rfl _ _ 26 33 (.agg #[(.int .i64 0), (.slice none 0 0), (.slice none 0 0), (.int .i64 0), (.int .i64 0)]) 72 rfl Try.underlying26 info33 rfl (by decide) (by omega) (.slice (some ⟨g, 0, none⟩) rv.length cap) (rv.map (tgV t)) (⟨4, [], V.svNil, 0, 0⟩ : V.S33) [.int .i64 4, .slice none 0 0, .slice none 0 0, .int .i64 0, .int .i64 0] (fun _ => True) (fun _ => False) rfl rfl ?yP (fun k_ hk_ => hk_.elim) ?yF HV7.out HBk.out HBk.out.size ?yL ?yh
      case yP => exact V.k33_mkM _ _ _ (⟨4, [], V.svNil, 0, 0⟩ : V.S33) (Kd.R_nil _ _ _ _ _)
      case yF => exact fun _ _ => trivial
      case yL => rw [List.length_map]; omega
      intro v7 w7 hr7 hb7 hg7 hat7
      obtain ⟨A7, c7, e7, hl7, hC7⟩ := Kd.R_reads hr7
      have hB7 : Below w.heap.size w w7 := HB.out.trans (hb7.mono HB.out.size)
      have hlen2 := HT.out.1
      rw [hlen2] at e7 hl7
      subst e7
      have HD7 := Lib.hid ((HT.out.below hB7).C hC7)
      have HX7 := Lib.hid (Kd.C_below HD.out hb7)
      have HB := Lib.hid hB7
      clear hr7 hb7 hg7 hat7 hC7 hB7 hlen2
      go_wp2_with (first
        | (have HN' := HS1; clear HN'; go_at_call 24; refine (accepts_calls _ H4.out A7 c7 s _ HD7.out (by omega)).mono ?_; rw [H3.out]; rintro e w4 ⟨rfl, hb4⟩; have HD7 := Lib.hid (Kd.C_below HD7.out hb4); have HB := Lib.hid (HB.out.trans (hb4.mono HB.out.size)); clear hb4)
        | (go_at_call 24; refine (accepts_calls _ (made_fit (fewB_Small HF.out) HO.out) A5 c5 s _ HX7.out (by omega)).mono ?_; rw [N33_p33, H0.out]; rintro e w4 ⟨rfl, hb4⟩; have HD7 := Lib.hid (Kd.C_below HD7.out hb4); have HB := Lib.hid (HB.out.trans (hb4.mono HB.out.size)); clear hb4; have HS1 := Lib.hid trivial)
        | (go_at_call 23; refine (may_calls _ H4.out A7 c7 _ HD7.out).mono ?_; rw [H2.out]; rintro e w4 ⟨rfl, hb4⟩; have HD7 := Lib.hid (Kd.C_below HD7.out hb4); have HX7 := Lib.hid (Kd.C_below HX7.out hb4); have HB := Lib.hid (HB.out.trans (hb4.mono HB.out.size)); clear hb4))
      go_ret
      exact ⟨by simp, HB.out⟩

set_option maxRecDepth 100000 in
theorem machineTags_walk (w : World) (A : Option Addr) (c : Nat) (l : List S46) (hc : l.length ≤ c) (hC : Kd.C k46 w A l.length l) (hok : ∀ y ∈ l, Ok46 y) (s : ByteArray) (t : Int) (wt : (Lit.int .i64 t).wf = true) :
    Calls Try.prog 4 #[.slice A l.length c, .string s, .int .i64 t] w fun e w' => e = .returned (.bool true) ∧ Below w.heap.size w w' := by
  cases hF : fewB l with
  | false =>
    have HC := Lib.hid hC
    have Hc := Lib.hid hc
    have HF := Lib.hid hF
    clear hF hC hc
    go_enter Try.func4, Try.ntmps4
    go_wp2_with (first
      | (go_at_call 17; refine (awake16 _).mono ?_; rintro e w4 ⟨rfl, hb4⟩; have HB := Lib.hid hb4; clear hb4)
      | (go_at_call 18; refine (few_calls A c l _ (Kd.C_below HC.out HB.out) Hc.out).mono ?_; rw [HF.out]; rintro e w4 ⟨rfl, hb4⟩; have HB := Lib.hid (HB.out.trans (hb4.mono HB.out.size)); clear hb4))
    go_ret
    exact ⟨rfl, HB.out⟩
  | true =>
    by_cases g1 : s.size ≤ 200
    · cases hM : mayB (N46 l) with
      | false =>
        have b1 : decide ((s.size : Int) > 200) = false := decide_eq_false (by omega)
        have HC := Lib.hid hC
        have Hc := Lib.hid hc
        have HF := Lib.hid hF
        have HM := Lib.hid hM
        clear hF hC hc hM
        go_enter Try.func4, Try.ntmps4
        go_wp2_with (first
          | (go_at_call 17; refine (awake16 _).mono ?_; rintro e w4 ⟨rfl, hb4⟩; have HB := Lib.hid hb4; clear hb4)
          | (go_at_call 18; refine (few_calls A c l _ (Kd.C_below HC.out HB.out) Hc.out).mono ?_; rw [HF.out]; rintro e w4 ⟨rfl, hb4⟩; have HB := Lib.hid (HB.out.trans (hb4.mono HB.out.size)); clear hb4)
          | (go_at_call 19; refine (refmay_calls A c l _ (Kd.C_below HC.out HB.out) Hc.out (by have := (fewB_small HF.out).1; omega) (fun x hx => by have := (fewB_small HF.out).2 x hx; omega)).mono ?_; rw [HM.out]; rintro e w4 ⟨rfl, hb4⟩; have HB := Lib.hid (HB.out.trans (hb4.mono HB.out.size)); clear hb4))
        go_ret
        exact ⟨rfl, HB.out⟩
      | true =>
        have hl : (N46 l).length ≤ 1000 := by rw [N46_length]; have := (fewB_small hF).1; omega
        exact machineTags_main w A c l hc hC hok s t wt hF hM g1 _ rfl _ rfl ((tag_more l t).may hl hM) ((tag_more l t).accepts hl hM _) (tag_fit t (fewB_Small hF) hok)
    · have b1 : decide ((s.size : Int) > 200) = true := decide_eq_true (by omega)
      have HC := Lib.hid hC
      have Hc := Lib.hid hc
      have HF := Lib.hid hF
      clear hF hC hc
      go_enter Try.func4, Try.ntmps4
      go_wp2_with (first
        | (go_at_call 17; refine (awake16 _).mono ?_; rintro e w4 ⟨rfl, hb4⟩; have HB := Lib.hid hb4; clear hb4)
        | (go_at_call 18; refine (few_calls A c l _ (Kd.C_below HC.out HB.out) Hc.out).mono ?_; rw [HF.out]; rintro e w4 ⟨rfl, hb4⟩; have HB := Lib.hid (HB.out.trans (hb4.mono HB.out.size)); clear hb4))
      go_ret
      exact ⟨rfl, HB.out⟩
end Go.Proofs.Ytolfamfgoafhlaa.M
