/-
  The plain law of layer 16 (machine): what a machine is, what is close, what is eaten; no program in sight.
-/
namespace Go.Proofs.Ytolfamfgoafhlaa.L

/-- An edge: the bytes from one to another one, and where they lead. -/
structure Ed where
  lo : Int
  hi : Int
  dst : Int
deriving DecidableEq
/-- A node. -/
structure Nd where
  kind : Int
  es : List Ed
  fs : List Int
  tag : Int
  dst : Int
deriving DecidableEq

def Nd.none : Nd := ⟨0, [], [], 0, 0⟩
def nd (m : List Nd) (i : Int) : Nd := m.getD i.toNat Nd.none
def Ed.has (e : Ed) (c : Int) : Bool := decide (e.lo ≤ c) && decide (c ≤ e.hi)
/-- Have two edges a byte in common? -/
def Ed.meets (a b : Ed) : Bool := decide (a.lo ≤ b.hi) && decide (b.lo ≤ a.hi)
def apart : List Ed → Bool
  | [] => true
  | e :: l => l.all (fun x => !e.meets x) && apart l
def edgeOk (many : Int) (e : Ed) : Bool := decide (e.lo ≤ e.hi) && (decide (0 ≤ e.dst) && decide (e.dst < many))
def edgesOk (l : List Ed) (many : Int) : Bool := l.all (edgeOk many) && apart l
def upB (at_ many x : Int) : Bool := decide (at_ < x) && decide (x < many)
def nodeOk (n : Nd) (i many : Int) : Bool :=
  if n.kind = 1 then decide (n.fs = []) && (decide (n.dst = 0) && edgesOk n.es many)
  else if n.kind = 2 then decide (n.es = []) && (decide (n.dst = 0) && n.fs.all (upB i many))
  else if n.kind = 3 then decide (n.es = []) && (decide (n.fs = []) && upB i many n.dst)
  else if n.kind = 4 then decide (n.es = []) && (decide (n.fs = []) && decide (n.dst = 0))
  else false
/-- Are nodes, from the i-th on, as they may be? -/
def nodesOk (many : Int) : Nat → List Nd → Bool
  | _, [] => true
  | i, n :: l => nodeOk n i many && nodesOk many (i + 1) l
def mayB (m : List Nd) : Bool := decide (1 ≤ m.length) && (decide (m.length ≤ 100000) && nodesOk m.length 0 m)

def succ (n : Nd) : List Int := n.fs ++ (if n.kind = 3 then [n.dst] else [])
def valid (m : List Nd) (a : Int) : Prop := 0 ≤ a ∧ a < m.length
instance (m : List Nd) (a : Int) : Decidable (valid m a) := by unfold valid; infer_instance

def setAll (l : List Int) (s : List Bool) : List Bool := l.foldl (fun s j => s.set j.toNat true) s
def mark1 (m : List Nd) (s : List Bool) (i : Nat) : List Bool := if s.getD i false then setAll (succ (nd m i)) s else s
def pass (m : List Nd) (s : List Bool) : List Bool := (List.range m.length).foldl (mark1 m) s
def init (m : List Nd) (at_ : List Int) : List Bool := setAll (at_.filter (fun a => decide (valid m a))) (List.replicate m.length false)
def listOf (s : List Bool) : List Int := ((List.range s.length).filter (fun i => s.getD i false)).map Int.ofNat
def closeL (m : List Nd) (at_ : List Int) : List Int := if mayB m then listOf (pass m (init m at_)) else []
def nexts (m : List Nd) (at_ : List Int) (c : Int) : List Int :=
  (at_.filter (fun a => decide (valid m a))).flatMap (fun a => ((nd m a).es.filter (fun e => e.has c)).map Ed.dst)
def stepL (m : List Nd) (at_ : List Int) (c : Int) : List Int := closeL m (nexts m at_ c)
def endedB (m : List Nd) (at_ : List Int) : Bool := at_.any (fun a => decide ((nd m a).kind = 4))
def runL (m : List Nd) (s : List Int) : List Int := s.foldl (fun at_ c => stepL m at_ c) (closeL m [0])
def acceptsB (m : List Nd) (s : List Int) : Bool := endedB m (runL m s)

/-! ### edges, sorted by their lower bounds -/
theorem meets_comm (a b : Ed) : a.meets b = b.meets a := by unfold Ed.meets; exact Bool.and_comm _ _
theorem apart_iff (l : List Ed) : apart l = true ↔ l.Pairwise (fun a b => a.meets b = false) := by
  induction l with
  | nil => simp [apart]
  | cons e l ih =>
    unfold apart
    simp only [Bool.and_eq_true, List.all_eq_true, List.pairwise_cons, ih]
    constructor
    · rintro ⟨h1, h2⟩; exact ⟨fun x hx => by simpa using h1 x hx, h2⟩
    · rintro ⟨h1, h2⟩; exact ⟨fun x hx => by simpa using h1 x hx, h2⟩
theorem edgesOk_iff (l : List Ed) (many : Int) : edgesOk l many = true ↔ (∀ e ∈ l, edgeOk many e = true) ∧ l.Pairwise (fun a b => a.meets b = false) := by
  unfold edgesOk
  rw [Bool.and_eq_true, List.all_eq_true, apart_iff]
theorem edgesOk_perm {l l' : List Ed} (h : l.Perm l') (many : Int) : edgesOk l many = edgesOk l' many := by
  rw [Bool.eq_iff_iff, edgesOk_iff, edgesOk_iff, h.pairwise_iff (fun {a b} h => by rw [meets_comm]; exact h)]
  constructor
  · rintro ⟨h1, h2⟩; exact ⟨fun e he => h1 e (h.mem_iff.2 he), h2⟩
  · rintro ⟨h1, h2⟩; exact ⟨fun e he => h1 e (h.mem_iff.1 he), h2⟩
theorem edgesOk_adj {l : List Ed} {many : Int} (hs : l.Pairwise (fun x y => x.lo ≤ y.lo)) (h : ∀ (k : Nat) (hk : k < l.length), edgeOk many l[k] = true ∧ ∀ (h0 : 0 < k), (l[k - 1]'(by omega)).hi < l[k].lo) : edgesOk l many = true := by
  rw [edgesOk_iff]
  refine ⟨fun e he => ?_, ?_⟩
  · obtain ⟨k, hk, rfl⟩ := List.getElem_of_mem he
    exact (h k hk).1
  · rw [List.pairwise_iff_getElem] at hs ⊢
    intro i j hi hj hij
    have h1 := (h (i + 1) (by omega)).2 (by omega)
    simp only [Nat.add_sub_cancel] at h1
    have h2 : l[i + 1].lo ≤ l[j].lo := by
      rcases Nat.lt_or_ge (i + 1) j with h3 | h3
      · exact hs (i + 1) j (by omega) hj h3
      · have : i + 1 = j := by omega
        subst this; exact Int.le_refl _
    unfold Ed.meets
    have : decide (l[j].lo ≤ l[i].hi) = false := by simp; omega
    rw [this, Bool.and_false]
theorem edgesOk_bad {l : List Ed} {many : Int} {k : Nat} (hk : k < l.length) (h : edgeOk many l[k] = false) : edgesOk l many = false := by
  rw [Bool.eq_false_iff]
  intro h1
  rw [((edgesOk_iff l many).1 h1).1 _ (List.getElem_mem hk)] at h
  cases h
theorem edgesOk_meet {l : List Ed} {many : Int} (hs : l.Pairwise (fun x y => x.lo ≤ y.lo)) {k : Nat} (hk : k < l.length) (h0 : 0 < k) (he : l[k].lo ≤ l[k].hi) (h : l[k].lo ≤ (l[k - 1]'(by omega)).hi) : edgesOk l many = false := by
  rw [Bool.eq_false_iff]
  intro h1
  have h2 := List.pairwise_iff_getElem.1 ((edgesOk_iff l many).1 h1).2 (k - 1) k (by omega) hk (by omega)
  have h3 := List.pairwise_iff_getElem.1 hs (k - 1) k (by omega) hk (by omega)
  unfold Ed.meets at h2
  rw [decide_eq_true (by omega), decide_eq_true h] at h2
  cases h2

/-! ### what is reached -/
inductive Reach (m : List Nd) (a : Int) : Int → Prop where
  | refl : valid m a → Reach m a a
  | step {b c : Int} : Reach m a b → c ∈ succ (nd m b) → Reach m a c

theorem nodesOk_get {many : Int} : ∀ {l : List Nd} {i k : Nat}, nodesOk many i l = true → k < l.length → nodeOk (l.getD k Nd.none) ((i + k : Nat) : Int) many = true
  | [], _, _, _, h => absurd h (by simp)
  | n :: l, i, k, h, hk => by
    simp only [nodesOk, Bool.and_eq_true] at h
    cases k with
    | zero => simpa using h.1
    | succ k =>
      have := nodesOk_get (i := i + 1) (k := k) h.2 (by simpa using hk)
      have e : i + (k + 1) = i + 1 + k := by omega
      rw [e]
      simpa using this

theorem nodesOk_of {many : Int} : ∀ {l : List Nd} {i : Nat}, (∀ k, k < l.length → nodeOk (l.getD k Nd.none) ((i + k : Nat) : Int) many = true) → nodesOk many i l = true
  | [], _, _ => rfl
  | n :: l, i, h => by
    simp only [nodesOk, Bool.and_eq_true]
    refine ⟨by simpa using h 0 (by simp), nodesOk_of (fun k hk => ?_)⟩
    have := h (k + 1) (by simpa using hk)
    have e : i + (k + 1) = i + 1 + k := by omega
    rw [e] at this
    simpa using this

theorem may_iff (m : List Nd) : mayB m = true ↔ 1 ≤ m.length ∧ m.length ≤ 100000 ∧ ∀ i : Nat, i < m.length → nodeOk (nd m i) i m.length = true := by
  unfold mayB
  simp only [Bool.and_eq_true, decide_eq_true_eq]
  constructor
  · rintro ⟨h1, h2, h3⟩
    refine ⟨h1, h2, fun i hi => ?_⟩
    have := nodesOk_get (k := i) h3 hi
    simpa [nd] using this
  · rintro ⟨h1, h2, h3⟩
    refine ⟨h1, h2, nodesOk_of (fun k hk => ?_)⟩
    have := h3 k hk
    simpa [nd] using this

theorem may_node {m : List Nd} (h : mayB m = true) {a : Int} (ha : valid m a) : nodeOk (nd m a) a m.length = true := by
  obtain ⟨h0, h1⟩ := ha
  obtain ⟨n, rfl⟩ := Int.eq_ofNat_of_zero_le h0
  exact ((may_iff m).1 h).2.2 n (by omega)

/-- Forks and marks lead upwards, and stay inside. -/
theorem succ_up {m : List Nd} (h : mayB m = true) {a b : Int} (ha : valid m a) (hb : b ∈ succ (nd m a)) : a < b ∧ b < m.length := by
  have hn := may_node h ha
  unfold nodeOk at hn
  unfold succ at hb
  generalize nd m a = n at hn hb
  rcases List.mem_append.1 hb with hb | hb
  · split at hn
    · simp at hn; rw [hn.1] at hb; cases hb
    · split at hn
      · simp at hn
        have := hn.2.2 b hb
        simpa [upB] using this
      · split at hn
        · simp at hn; rw [hn.2.1] at hb; cases hb
        · split at hn
          · simp at hn; rw [hn.2.1] at hb; cases hb
          · cases hn
  · split at hb
    · rename_i h3
      rw [List.mem_singleton.1 hb]
      rw [if_neg (by omega), if_neg (by omega), if_pos h3] at hn
      simp [upB] at hn
      exact hn.2.2
    · cases hb

theorem succ_valid {m : List Nd} (h : mayB m = true) {a b : Int} (ha : valid m a) (hb : b ∈ succ (nd m a)) : valid m b := by
  have := succ_up h ha hb
  exact ⟨by have := ha.1; omega, this.2⟩

theorem Reach.valid_ {m : List Nd} (h : mayB m = true) {a b : Int} (hr : Reach m a b) : valid m b := by
  induction hr with
  | refl hv => exact hv
  | step _ hc ih => exact succ_valid h ih hc
theorem Reach.valid_a {m : List Nd} {a b : Int} (hr : Reach m a b) : valid m a := by
  induction hr with
  | refl hv => exact hv
  | step _ _ ih => exact ih
theorem Reach.trans {m : List Nd} {a b c : Int} (h1 : Reach m a b) (h2 : Reach m b c) : Reach m a c := by
  induction h2 with
  | refl _ => exact h1
  | step _ hc ih => exact ih.step hc

/-! ### lists of bools -/
theorem setAll_length (l : List Int) : ∀ s, (setAll l s).length = s.length := by
  induction l with
  | nil => intro s; rfl
  | cons j l ih =>
    intro s
    show (setAll l (s.set j.toNat true)).length = s.length
    rw [ih]; simp
theorem set_getD (s : List Bool) (j i : Nat) : (s.set j true).getD i false = true ↔ s.getD i false = true ∨ (i = j ∧ i < s.length) := by
  simp only [List.getD_eq_getElem?_getD, List.getElem?_set]
  by_cases h : j = i
  · subst h
    by_cases hl : j < s.length
    · simp [hl]
    · simp [hl]
  · rw [if_neg h]
    constructor
    · exact Or.inl
    · rintro (h1 | ⟨h1, _⟩)
      · exact h1
      · exact absurd h1.symm h
theorem setAll_getD (l : List Int) : ∀ (s : List Bool) (i : Nat), (setAll l s).getD i false = true ↔ s.getD i false = true ∨ (i < s.length ∧ ∃ j ∈ l, j.toNat = i) := by
  induction l with
  | nil => intro s i; simp [setAll]
  | cons j l ih =>
    intro s i
    show (setAll l (s.set j.toNat true)).getD i false = true ↔ _
    rw [ih, set_getD]
    simp only [List.length_set, List.mem_cons]
    constructor
    · rintro ((h | ⟨rfl, h⟩) | ⟨h, k, hk, rfl⟩)
      · exact .inl h
      · exact .inr ⟨h, j, .inl rfl, rfl⟩
      · exact .inr ⟨h, k, .inr hk, rfl⟩
    · rintro (h | ⟨h, k, (rfl | hk), rfl⟩)
      · exact .inl (.inl h)
      · exact .inl (.inr ⟨rfl, h⟩)
      · exact .inr ⟨h, k, hk, rfl⟩

theorem mark1_length (m : List Nd) (s : List Bool) (i : Nat) : (mark1 m s i).length = s.length := by
  unfold mark1; split
  · exact setAll_length _ _
  · rfl
theorem foldl_mark_length (m : List Nd) (l : List Nat) : ∀ s, (l.foldl (mark1 m) s).length = s.length := by
  induction l with
  | nil => intro s; rfl
  | cons i l ih => intro s; show (l.foldl (mark1 m) (mark1 m s i)).length = _; rw [ih, mark1_length]
theorem pass_length (m : List Nd) (s : List Bool) : (pass m s).length = s.length := foldl_mark_length m _ s
theorem init_length (m : List Nd) (at_ : List Int) : (init m at_).length = m.length := by unfold init; rw [setAll_length]; simp

theorem getD_lt {s : List Bool} {i : Nat} (h : s.getD i false = true) : i < s.length := by
  rcases Nat.lt_or_ge i s.length with h1 | h1
  · exact h1
  · simp [List.getD_eq_getElem?_getD, List.getElem?_eq_none h1] at h

theorem init_getD (m : List Nd) (at_ : List Int) (i : Nat) : (init m at_).getD i false = true ↔ i < m.length ∧ (i : Int) ∈ at_ := by
  unfold init
  rw [setAll_getD]
  simp only [List.length_replicate, List.mem_filter, decide_eq_true_eq]
  constructor
  · rintro (h | ⟨h, j, ⟨h1, h2⟩, rfl⟩)
    · simp only [List.getD_eq_getElem?_getD, List.getElem?_replicate] at h
      split at h <;> simp at h
    · refine ⟨h, ?_⟩
      rw [Int.toNat_of_nonneg h2.1]; exact h1
  · rintro ⟨h, h1⟩
    exact .inr ⟨h, i, ⟨h1, ⟨by omega, by omega⟩⟩, by simp⟩

/-- Behind a pass up to node n: all that is there was reached, what was there is there, and the first n nodes lead to what is there. -/
theorem pass_upto {m : List Nd} (h : mayB m = true) (s : List Bool) (hs : s.length = m.length) : ∀ n, n ≤ m.length →
    (∀ j : Nat, ((List.range n).foldl (mark1 m) s).getD j false = true → ∃ i : Nat, s.getD i false = true ∧ Reach m i j) ∧
    (∀ j : Nat, s.getD j false = true → ((List.range n).foldl (mark1 m) s).getD j false = true) ∧
    (∀ k : Nat, k < n → ((List.range n).foldl (mark1 m) s).getD k false = true → ∀ j ∈ succ (nd m k), ((List.range n).foldl (mark1 m) s).getD j.toNat false = true) := by
  intro n
  induction n with
  | zero =>
    intro _
    refine ⟨fun j hj => ⟨j, hj, .refl ⟨by omega, ?_⟩⟩, fun j hj => hj, fun k hk => absurd hk (by omega)⟩
    have := getD_lt hj
    simp at this
    omega
  | succ n ih =>
    intro hn
    obtain ⟨i1, i2, i3⟩ := ih (by omega)
    rw [List.range_succ, List.foldl_append]
    generalize hT : (List.range n).foldl (mark1 m) s = T at i1 i2 i3
    have hTl : T.length = m.length := by rw [← hT, foldl_mark_length, hs]
    show (∀ j : Nat, (mark1 m T n).getD j false = true → _) ∧ _
    have hv : valid m n := ⟨by omega, by omega⟩
    have key : ∀ j : Nat, (mark1 m T n).getD j false = true ↔ T.getD j false = true ∨ (T.getD n false = true ∧ (j : Int) ∈ succ (nd m n)) := by
      intro j
      unfold mark1
      by_cases hb : T.getD n false = true
      · rw [if_pos hb, setAll_getD]
        constructor
        · rintro (h1 | ⟨h1, k, hk, rfl⟩)
          · exact .inl h1
          · refine .inr ⟨hb, ?_⟩
            have := succ_up h hv hk
            rw [Int.toNat_of_nonneg (by omega)]; exact hk
        · rintro (h1 | ⟨_, h1⟩)
          · exact .inl h1
          · have := succ_up h hv h1
            exact .inr ⟨by omega, j, h1, by simp⟩
      · rw [if_neg hb]
        constructor
        · exact .inl
        · rintro (h1 | ⟨h1, _⟩)
          · exact h1
          · exact absurd h1 hb
    refine ⟨fun j hj => ?_, fun j hj => (key j).2 (.inl (i2 j hj)), fun k hk hkT j hj => ?_⟩
    · rcases (key j).1 hj with h1 | ⟨h1, h2⟩
      · exact i1 j h1
      · obtain ⟨i, hi, hr⟩ := i1 n h1
        exact ⟨i, hi, hr.step h2⟩
    · have hvk : valid m k := ⟨by omega, by omega⟩
      have hup := succ_up h hvk hj
      have e : ((j.toNat : Nat) : Int) = j := Int.toNat_of_nonneg (by omega)
      rcases (key k).1 hkT with h1 | ⟨h1, h2⟩
      · rcases Nat.lt_or_ge k n with hlt | hge
        · exact (key _).2 (.inl (i3 k hlt h1 j hj))
        · obtain rfl : k = n := by omega
          exact (key _).2 (.inr ⟨h1, by rw [e]; exact hj⟩)
      · have := succ_up h hv h2
        omega

theorem pass_getD {m : List Nd} (h : mayB m = true) (s : List Bool) (hs : s.length = m.length) (j : Nat) : (pass m s).getD j false = true ↔ ∃ i : Nat, s.getD i false = true ∧ Reach m i j := by
  obtain ⟨h1, h2, h3⟩ := pass_upto h s hs m.length (Nat.le_refl _)
  constructor
  · exact h1 j
  · rintro ⟨i, hi, hr⟩
    have : ∀ c : Int, Reach m i c → (pass m s).getD c.toNat false = true := by
      intro c hc
      induction hc with
      | refl _ => exact h2 _ (by simpa using hi)
      | step hb hc ih =>
        rename_i b c
        have hv := hb.valid_ h
        have e : ((b.toNat : Nat) : Int) = b := Int.toNat_of_nonneg hv.1
        exact h3 b.toNat (by have := hv.2; omega) ih c (by rw [e]; exact hc)
    simpa using this j hr

theorem mem_listOf (s : List Bool) (j : Int) : j ∈ listOf s ↔ 0 ≤ j ∧ s.getD j.toNat false = true := by
  unfold listOf
  simp only [List.mem_map, List.mem_filter, List.mem_range]
  constructor
  · rintro ⟨i, ⟨_, h⟩, rfl⟩
    exact ⟨by simp, by simpa using h⟩
  · rintro ⟨h0, h⟩
    exact ⟨j.toNat, ⟨getD_lt h, h⟩, by simp [Int.toNat_of_nonneg h0]⟩

/-- What is close: what is reached from any node of a list. -/
theorem mem_closeL {m : List Nd} (h : mayB m = true) (at_ : List Int) (j : Int) : j ∈ closeL m at_ ↔ ∃ a ∈ at_, Reach m a j := by
  unfold closeL
  rw [if_pos h, mem_listOf]
  constructor
  · rintro ⟨h0, h1⟩
    obtain ⟨i, hi, hr⟩ := (pass_getD h _ (init_length m at_) _).1 h1
    rw [Int.toNat_of_nonneg h0] at hr
    exact ⟨i, ((init_getD m at_ i).1 hi).2, hr⟩
  · rintro ⟨a, ha, hr⟩
    have hv := hr.valid_a
    have hj := hr.valid_ h
    refine ⟨hj.1, (pass_getD h _ (init_length m at_) _).2 ⟨a.toNat, (init_getD m at_ _).2 ⟨by have := hv.2; have := hv.1; omega, by rw [Int.toNat_of_nonneg hv.1]; exact ha⟩, ?_⟩⟩
    rw [Int.toNat_of_nonneg hv.1, Int.toNat_of_nonneg hj.1]; exact hr

theorem listOf_sorted (s : List Bool) : (listOf s).Pairwise (· < ·) := by
  unfold listOf
  rw [List.pairwise_map]
  have := (List.pairwise_lt_range (n := s.length)).filter (fun i => s.getD i false)
  exact this.imp (fun h => by simpa using h)
theorem closeL_sorted (m : List Nd) (at_ : List Int) : (closeL m at_).Pairwise (· < ·) := by
  unfold closeL; split
  · exact listOf_sorted _
  · exact .nil

/-- Two rising lists with the same members are one. -/
theorem rising_ext : ∀ {l l' : List Int}, l.Pairwise (· < ·) → l'.Pairwise (· < ·) → (∀ j, j ∈ l ↔ j ∈ l') → l = l'
  | [], [], _, _, _ => rfl
  | [], b :: l', _, _, h => absurd ((h b).2 (by simp)) (by simp)
  | a :: l, [], _, _, h => absurd ((h a).1 (by simp)) (by simp)
  | a :: l, b :: l', h1, h2, h => by
    rw [List.pairwise_cons] at h1 h2
    have hab : a = b := by
      rcases List.mem_cons.1 ((h a).1 (by simp)) with e | h3
      · exact e
      · rcases List.mem_cons.1 ((h b).2 (by simp)) with e | h4
        · exact e.symm
        · have := h1.1 b h4; have := h2.1 a h3; omega
    subst hab
    congr 1
    refine rising_ext h1.2 h2.2 (fun j => ?_)
    constructor
    · intro hj
      rcases List.mem_cons.1 ((h j).1 (List.mem_cons_of_mem _ hj)) with e | h3
      · subst e; have := h1.1 j hj; omega
      · exact h3
    · intro hj
      rcases List.mem_cons.1 ((h j).2 (List.mem_cons_of_mem _ hj)) with e | h3
      · subst e; have := h2.1 j hj; omega
      · exact h3

theorem closeL_ext {m : List Nd} {l : List Int} {at_ : List Int} (h : mayB m = true) (hs : l.Pairwise (· < ·)) (hm : ∀ j, j ∈ l ↔ ∃ a ∈ at_, Reach m a j) : l = closeL m at_ :=
  rising_ext hs (closeL_sorted m at_) (fun j => (hm j).trans (mem_closeL h at_ j).symm)

theorem closeL_valid {m : List Nd} {at_ : List Int} {j : Int} (hj : j ∈ closeL m at_) : valid m j := by
  by_cases h : mayB m = true
  · obtain ⟨a, _, hr⟩ := (mem_closeL h at_ j).1 hj
    exact hr.valid_ h
  · unfold closeL at hj; rw [if_neg h] at hj; cases hj

/-! ### a set of nodes that grows -/
/-- T is S, and more: what is new satisfies R, and leads to what is in T. -/
structure Grow (m : List Nd) (R : Int → Prop) (S T : Int → Bool) : Prop where
  sub : ∀ i, S i = true → T i = true
  new : ∀ i, T i = true → S i = true ∨ R i
  shut : ∀ i, T i = true → S i = false → ∀ j ∈ succ (nd m i), T j = true

theorem Grow.refl (m : List Nd) (R : Int → Prop) (S : Int → Bool) : Grow m R S S := ⟨fun _ h => h, fun _ h => .inl h, fun i h h' => by rw [h] at h'; cases h'⟩
theorem Grow.mono {m : List Nd} {R R' : Int → Prop} {S T : Int → Bool} (h : Grow m R S T) (hR : ∀ i, R i → R' i) : Grow m R' S T := ⟨h.sub, fun i hi => (h.new i hi).imp id (hR i), h.shut⟩
theorem Grow.trans {m : List Nd} {R : Int → Prop} {S T U : Int → Bool} (h : Grow m R S T) (h' : Grow m R T U) : Grow m R S U := by
  refine ⟨fun i hi => h'.sub i (h.sub i hi), fun i hi => ?_, fun i hi hS j hj => ?_⟩
  · rcases h'.new i hi with h1 | h1
    · exact h.new i h1
    · exact .inr h1
  · cases hT : T i with
    | true => exact h'.sub j (h.shut i hT hS j hj)
    | false => exact h'.shut i hi hT j hj
/-- S with x. -/
def with_ (S : Int → Bool) (x : Int) : Int → Bool := fun i => if i = x then true else S i
theorem with_self (S : Int → Bool) (x : Int) : with_ S x x = true := by simp [with_]
theorem with_sub (S : Int → Bool) (x i : Int) (h : S i = true) : with_ S x i = true := by unfold with_; split <;> simp [h]
/-- A node was put in, and then all to which it leads. -/
theorem Grow.close {m : List Nd} {S T : Int → Bool} {x : Int} (hv : valid m x) (h : Grow m (Reach m x) (with_ S x) T) (hs : ∀ j ∈ succ (nd m x), T j = true) : Grow m (Reach m x) S T ∧ T x = true := by
  refine ⟨⟨fun i hi => h.sub i (with_sub S x i hi), fun i hi => ?_, fun i hi hS j hj => ?_⟩, h.sub x (with_self S x)⟩
  · rcases h.new i hi with h1 | h1
    · unfold with_ at h1
      split at h1
      · rename_i e; rw [e]; exact .inr (.refl hv)
      · exact .inl h1
    · exact .inr h1
  · by_cases e : i = x
    · subst e; exact hs j hj
    · exact h.shut i hi (by unfold with_; rw [if_neg e]; exact hS) j hj

def setList (N : Nat) (S : Int → Bool) : List Int := ((List.range N).filter (fun (i : Nat) => S (i : Int))).map Int.ofNat
theorem mem_setList (N : Nat) (S : Int → Bool) (h : ∀ i, S i = true → 0 ≤ i ∧ i < (N : Int)) (j : Int) : j ∈ setList N S ↔ S j = true := by
  unfold setList
  simp only [List.mem_map, List.mem_filter, List.mem_range]
  constructor
  · rintro ⟨i, ⟨_, h1⟩, rfl⟩; exact h1
  · intro hj
    obtain ⟨h0, h1⟩ := h j hj
    exact ⟨j.toNat, ⟨by omega, by rw [Int.toNat_of_nonneg h0]; exact hj⟩, by simp [Int.toNat_of_nonneg h0]⟩
theorem setList_sorted (N : Nat) (S : Int → Bool) : (setList N S).Pairwise (· < ·) := by
  unfold setList
  rw [List.pairwise_map]
  exact ((List.pairwise_lt_range (n := N)).filter _).imp (fun h => by simpa using h)
theorem setList_length (N : Nat) (S : Int → Bool) : (setList N S).length ≤ N := by
  unfold setList
  rw [List.length_map]
  exact Nat.le_trans (List.length_filter_le _ _) (by simp)

/-- All nodes of a list have been put into the empty set: it is what is close. -/
theorem closeL_of_grow {m : List Nd} (hM : mayB m = true) {at_ : List Int} {T : Int → Bool} (hr : ∀ i, T i = true → 0 ≤ i ∧ i < (m.length : Int)) (h : Grow m (fun i => ∃ a ∈ at_, Reach m a i) (fun _ => false) T) (hin : ∀ a ∈ at_, valid m a → T a = true) :
    setList m.length T = closeL m at_ := by
  refine closeL_ext hM (setList_sorted _ _) (fun j => ?_)
  rw [mem_setList _ _ hr]
  constructor
  · intro hj
    rcases h.new j hj with h1 | h1
    · cases h1
    · exact h1
  · rintro ⟨a, ha, hreach⟩
    have hv := hreach.valid_a
    induction hreach with
    | refl _ => exact hin a ha hv
    | step _ hc ih => exact h.shut _ ih rfl _ hc

theorem mem_nexts (m : List Nd) (at_ : List Int) (c f : Int) : f ∈ nexts m at_ c ↔ ∃ a ∈ at_, valid m a ∧ ∃ e ∈ (nd m a).es, e.has c = true ∧ e.dst = f := by
  unfold nexts
  simp only [List.mem_flatMap, List.mem_filter, List.mem_map, decide_eq_true_eq]
  constructor
  · rintro ⟨a, ⟨h1, h2⟩, e, ⟨h3, h4⟩, h5⟩
    exact ⟨a, h1, h2, e, h3, h4, h5⟩
  · rintro ⟨a, h1, h2, e, h3, h4, h5⟩
    exact ⟨a, ⟨h1, h2⟩, e, ⟨h3, h4⟩, h5⟩
theorem edge_to {m : List Nd} (h : mayB m = true) {a : Int} (ha : valid m a) {e : Ed} (he : e ∈ (nd m a).es) : 0 ≤ e.dst ∧ e.dst < m.length := by
  have hn := may_node h ha
  unfold nodeOk at hn
  generalize nd m a = n at hn he
  split at hn
  · simp only [Bool.and_eq_true] at hn
    have := hn.2.2
    unfold edgesOk at this
    simp only [Bool.and_eq_true, List.all_eq_true] at this
    have := this.1 e he
    unfold edgeOk at this
    simp at this
    exact this.2
  · split at hn
    · simp at hn; rw [hn.1] at he; cases he
    · split at hn
      · simp at hn; rw [hn.1] at he; cases he
      · split at hn
        · simp at hn; rw [hn.1] at he; cases he
        · cases hn
theorem nexts_valid {m : List Nd} (h : mayB m = true) {at_ : List Int} {c f : Int} (hf : f ∈ nexts m at_ c) : valid m f := by
  obtain ⟨a, _, h2, e, h3, _, rfl⟩ := (mem_nexts m at_ c f).1 hf
  exact edge_to h h2 h3
end Go.Proofs.Ytolfamfgoafhlaa.L
