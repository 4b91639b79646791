/- Keys' order in plain Lean: lists of numbers that stand as the values do of which they were made. Conditions: bytes. -/
import Derived.Lib.Strings
namespace Go.Proofs.YthkanebmkeamlaaDoor.KeyM
set_option linter.unusedVariables false
set_option linter.unusedSimpArgs false
/-- One list stands ahead of another one. -/
def ltL : List Int → List Int → Bool
  | [], [] => false
  | [], _ :: _ => true
  | _ :: _, [] => false
  | x :: a, y :: b => if x < y then true else if y < x then false else ltL a b
/-- They part, and there the first one is less. -/
def part (a b : List Int) : Prop := ∃ p x y u v, a = p ++ x :: u ∧ b = p ++ y :: v ∧ x < y
theorem part.append {a b : List Int} (h : part a b) (r s : List Int) : part (a ++ r) (b ++ s) := by
  obtain ⟨p, x, y, u, v, rfl, rfl, hx⟩ := h
  exact ⟨p, x, y, u ++ r, v ++ s, by simp, by simp, hx⟩
theorem part.pre {a b : List Int} (h : part a b) (q : List Int) : part (q ++ a) (q ++ b) := by
  obtain ⟨p, x, y, u, v, rfl, rfl, hx⟩ := h
  exact ⟨q ++ p, x, y, u, v, by simp, by simp, hx⟩
theorem ltL_self : ∀ a : List Int, ltL a a = false
  | [] => rfl
  | x :: a => by rw [ltL, if_neg (by omega), if_neg (by omega), ltL_self a]
theorem ltL_pre : ∀ p a b : List Int, ltL (p ++ a) (p ++ b) = ltL a b
  | [], a, b => rfl
  | x :: p, a, b => by
    show ltL (x :: (p ++ a)) (x :: (p ++ b)) = _
    rw [ltL, if_neg (by omega), if_neg (by omega), ltL_pre p a b]
theorem part.lt {a b : List Int} (h : part a b) : ltL a b = true := by
  obtain ⟨p, x, y, u, v, rfl, rfl, hx⟩ := h
  rw [ltL_pre, ltL, if_pos hx]
theorem part.nlt {a b : List Int} (h : part a b) : ltL b a = false := by
  obtain ⟨p, x, y, u, v, rfl, rfl, hx⟩ := h
  rw [ltL_pre, ltL, if_neg (by omega), if_pos hx]
theorem part.ne {a b : List Int} (h : part a b) : a ≠ b := fun e => by
  subst e
  have := h.lt
  rw [ltL_self] at this
  cases this
theorem part.nbeg {a b : List Int} (h : part a b) : ¬ a <+: b := by
  rintro ⟨t, rfl⟩
  have h2 := (h.append t []).lt
  rw [List.append_nil, ltL_self] at h2
  cases h2
theorem part.nbeg' {a b : List Int} (h : part a b) : ¬ b <+: a := by
  rintro ⟨t, rfl⟩
  have h2 := (h.append [] t).lt
  rw [List.append_nil, ltL_self] at h2
  cases h2
/-- Lists are the same, or part, or one begins the other one. -/
theorem cases3 : ∀ a b : List Int, a <+: b ∨ b <+: a ∨ part a b ∨ part b a
  | [], b => .inl (List.nil_prefix)
  | x :: a, [] => .inr (.inl List.nil_prefix)
  | x :: a, y :: b => by
    rcases Int.lt_trichotomy x y with h | h | h
    · exact .inr (.inr (.inl ⟨[], x, y, a, b, rfl, rfl, h⟩))
    · subst h
      rcases cases3 a b with h | h | h | h
      · exact .inl (List.cons_prefix_cons.2 ⟨rfl, h⟩)
      · exact .inr (.inl (List.cons_prefix_cons.2 ⟨rfl, h⟩))
      · exact .inr (.inr (.inl (h.pre [x])))
      · exact .inr (.inr (.inr (h.pre [x])))
    · exact .inr (.inr (.inr ⟨[], y, x, b, a, rfl, rfl, h⟩))
/-! ### what a text is written as -/
def esc : List Int → List Int
  | [] => []
  | c :: t => if c = 0 then 0 :: 255 :: esc t else c :: esc t
theorem esc_app : ∀ s t : List Int, esc (s ++ t) = esc s ++ esc t
  | [], t => rfl
  | c :: s, t => by
    show esc (c :: (s ++ t)) = _
    rw [esc, esc, esc_app s t]
    split <;> rfl
theorem esc_part : ∀ s t : List Int, (∀ c ∈ s, 0 ≤ c) → (∀ c ∈ t, 0 ≤ c) → ltL s t = true → part (esc s ++ [0, 1]) (esc t ++ [0, 1])
  | [], [], hs, ht, h => by cases h
  | [], y :: t, hs, ht, h => by
    rw [esc]
    by_cases hy : y = 0
    · subst hy
      rw [esc, if_pos rfl]
      exact ⟨[0], 1, 255, [], esc t ++ [0, 1], rfl, rfl, by omega⟩
    · rw [esc, if_neg hy]
      exact ⟨[], 0, y, [1], esc t ++ [0, 1], rfl, rfl, by have := ht y (List.mem_cons_self ..); omega⟩
  | x :: s, [], hs, ht, h => by cases h
  | x :: s, y :: t, hs, ht, h => by
    have hx0 := hs x (List.mem_cons_self ..)
    have hy0 := ht y (List.mem_cons_self ..)
    rw [ltL] at h
    by_cases h1 : x < y
    · rw [esc, esc, if_neg (by omega : ¬ y = 0)]
      by_cases hx : x = 0
      · rw [if_pos hx]
        exact ⟨[], 0, y, 255 :: (esc s ++ [0, 1]), esc t ++ [0, 1], rfl, rfl, by omega⟩
      · rw [if_neg hx]
        exact ⟨[], x, y, esc s ++ [0, 1], esc t ++ [0, 1], rfl, rfl, h1⟩
    · rw [if_neg h1] at h
      by_cases h2 : y < x
      · rw [if_pos h2] at h
        cases h
      · rw [if_neg h2] at h
        obtain rfl : x = y := by omega
        have ih := esc_part s t (fun c hc => hs c (List.mem_cons_of_mem _ hc)) (fun c hc => ht c (List.mem_cons_of_mem _ hc)) h
        rw [esc, esc]
        by_cases hx : x = 0
        · rw [if_pos hx, if_pos hx]
          exact ih.pre [0, 255]
        · rw [if_neg hx, if_neg hx]
          exact ih.pre [x]
/-! ### what a number is written as -/
def be : Nat → Int → List Int
  | 0, _ => []
  | k + 1, n => be k (n / 256) ++ [n % 256]
theorem be_len : ∀ (k : Nat) (n : Int), (be k n).length = k
  | 0, n => rfl
  | k + 1, n => by rw [be, List.length_append, be_len k]; rfl
theorem be_part : ∀ (k : Nat) (x y : Int), 0 ≤ x → x < y → y < 256 ^ k → part (be k x) (be k y)
  | 0, x, y, h0, h, hk => by simp at hk; omega
  | k + 1, x, y, h0, h, hk => by
    rw [be, be]
    by_cases e : x / 256 = y / 256
    · rw [e]
      exact ⟨be k (y / 256), x % 256, y % 256, [], [], rfl, rfl, by omega⟩
    · refine (be_part k (x / 256) (y / 256) (by omega) (by omega) ?_).append _ _
      rw [Int.pow_succ] at hk
      omega
/-! ### values -/
/-- A value: its kind, its number, its text. -/
structure V where
  k : Int
  n : Int
  t : List Int
/-- One that may be. -/
def V.ok (v : V) : Prop := (v.k = 0 ∧ v.n = 0 ∧ v.t = []) ∨ (v.k = 1 ∧ v.t = [] ∧ -9223372036854775808 ≤ v.n ∧ v.n ≤ 9223372036854775807) ∨ (v.k = 2 ∧ v.t = [] ∧ 0 ≤ v.n ∧ v.n ≤ 1) ∨ (v.k = 3 ∧ v.n = 0 ∧ v.t.length ≤ 48 ∧ ∀ c ∈ v.t, 0 ≤ c ∧ c ≤ 255)
def V.lt (v w : V) : Prop := v.k < w.k ∨ (v.k = w.k ∧ (((v.k = 1 ∨ v.k = 2) ∧ v.n < w.n) ∨ (v.k = 3 ∧ ltL v.t w.t = true)))
instance (v w : V) : Decidable (v.lt w) := by unfold V.lt; infer_instance
def one (v : V) : List Int := (v.k + 1) :: (if v.k = 1 then be 8 (v.n + 9223372036854775808) else if v.k = 2 then [v.n % 256] else if v.k = 3 then esc v.t ++ [0, 1] else [])
theorem one_part {v w : V} (hv : v.ok) (hw : w.ok) (h : v.lt w) : part (one v) (one w) := by
  rcases h with h | ⟨e, h⟩
  · exact ⟨[], _, _, _, _, rfl, rfl, by omega⟩
  · have key : ∀ a b : List Int, part a b → part ((v.k + 1) :: a) ((w.k + 1) :: b) := fun a b h => by rw [e]; exact h.pre [w.k + 1]
    rcases h with ⟨h1 | h1, h⟩ | ⟨h1, h⟩
    · have h2 : w.k = 1 := by omega
      rw [one, one, if_pos h1, if_pos h2]
      refine key _ _ (be_part 8 _ _ ?_ ?_ ?_)
      · rcases hv with hv | hv | hv | hv <;> omega
      · omega
      · rcases hw with hw | hw | hw | hw
        · omega
        · have := hw.2.2.2
          have e : (256 : Int) ^ 8 = 18446744073709551616 := by decide
          omega
        · omega
        · omega
    · have h2 : w.k = 2 := by omega
      rw [one, one, if_neg (by omega : ¬ v.k = 1), if_pos h1, if_neg (by omega : ¬ w.k = 1), if_pos h2]
      refine key _ _ ⟨[], v.n % 256, w.n % 256, [], [], rfl, rfl, ?_⟩
      rcases hv with hv | hv | hv | hv <;> rcases hw with hw | hw | hw | hw <;> omega
    · have h2 : w.k = 3 := by omega
      rw [one, one, if_neg (by omega : ¬ v.k = 1), if_neg (by omega : ¬ v.k = 2), if_pos h1, if_neg (by omega : ¬ w.k = 1), if_neg (by omega : ¬ w.k = 2), if_pos h2]
      refine key _ _ (esc_part _ _ (fun c hc => ?_) (fun c hc => ?_) h)
      · rcases hv with hv | hv | hv | hv
        · omega
        · omega
        · omega
        · exact (hv.2.2.2 c hc).1
      · rcases hw with hw | hw | hw | hw
        · omega
        · omega
        · omega
        · exact (hw.2.2.2 c hc).1
theorem ltL_tri : ∀ a b : List Int, ltL a b = true ∨ ltL b a = true ∨ a = b
  | [], [] => .inr (.inr rfl)
  | [], _ :: _ => .inl rfl
  | _ :: _, [] => .inr (.inl rfl)
  | x :: a, y :: b => by
    rw [ltL, ltL]
    rcases Int.lt_trichotomy x y with h | h | h
    · rw [if_pos h]; exact .inl rfl
    · subst h
      rw [if_neg (by omega), if_neg (by omega), if_neg (by omega), if_neg (by omega)]
      rcases ltL_tri a b with h | h | h
      · exact .inl h
      · exact .inr (.inl h)
      · exact .inr (.inr (by rw [h]))
    · rw [if_pos h, if_neg (by omega), if_pos h]
      exact .inr (.inl rfl)
theorem V.tri {v w : V} (hv : v.ok) (hw : w.ok) : v.lt w ∨ w.lt v ∨ v = w := by
  rcases Int.lt_trichotomy v.k w.k with h | h | h
  · exact .inl (.inl h)
  · obtain ⟨k, n, t⟩ := v
    obtain ⟨k', n', t'⟩ := w
    simp only at h
    subst h
    simp only [V.ok, V.lt] at *
    rcases hv with ⟨rfl, rfl, rfl⟩ | ⟨rfl, rfl, h1⟩ | ⟨rfl, rfl, h1⟩ | ⟨rfl, rfl, h1⟩
    · rcases hw with ⟨_, rfl, rfl⟩ | ⟨h, _⟩ | ⟨h, _⟩ | ⟨h, _⟩
      · exact .inr (.inr rfl)
      all_goals omega
    · rcases hw with ⟨h, _⟩ | ⟨_, rfl, h2⟩ | ⟨h, _⟩ | ⟨h, _⟩
      · omega
      · rcases Int.lt_trichotomy n n' with h | h | h
        · exact .inl (.inr ⟨trivial, .inl ⟨.inl rfl, h⟩⟩)
        · subst h; exact .inr (.inr rfl)
        · exact .inr (.inl (.inr ⟨trivial, .inl ⟨.inl rfl, h⟩⟩))
      all_goals omega
    · rcases hw with ⟨h, _⟩ | ⟨h, _⟩ | ⟨_, rfl, h2⟩ | ⟨h, _⟩
      · omega
      · omega
      · rcases Int.lt_trichotomy n n' with h | h | h
        · exact .inl (.inr ⟨trivial, .inl ⟨.inr rfl, h⟩⟩)
        · subst h; exact .inr (.inr rfl)
        · exact .inr (.inl (.inr ⟨trivial, .inl ⟨.inr rfl, h⟩⟩))
      · omega
    · rcases hw with ⟨h, _⟩ | ⟨h, _⟩ | ⟨h, _⟩ | ⟨_, rfl, h2⟩
      · omega
      · omega
      · omega
      · rcases ltL_tri t t' with h | h | h
        · exact .inl (.inr ⟨trivial, .inr ⟨rfl, h⟩⟩)
        · exact .inr (.inl (.inr ⟨trivial, .inr ⟨rfl, h⟩⟩))
        · subst h; exact .inr (.inr rfl)
  · exact .inr (.inl (.inl h))
theorem ltL_asym (a b : List Int) (h : ltL a b = true) : ltL b a = false := by
  rcases cases3 a b with h1 | h1 | h1 | h1
  · obtain ⟨t, rfl⟩ := h1
    cases t with
    | nil => rw [List.append_nil, ltL_self]
    | cons x t =>
      have := ltL_pre a (x :: t) []
      rw [List.append_nil] at this
      rw [this]; rfl
  · obtain ⟨t, rfl⟩ := h1
    cases t with
    | nil => rw [List.append_nil, ltL_self] at h; cases h
    | cons x t =>
      have := ltL_pre b (x :: t) []
      rw [List.append_nil] at this
      rw [this] at h; cases h
  · exact h1.nlt
  · rw [h1.nlt] at h; cases h
theorem V.asym {v w : V} (hv : v.ok) (hw : w.ok) (h : v.lt w) : ¬ w.lt v := fun h2 => by
  have h3 := (one_part hv hw h).lt
  have h4 := (one_part hw hv h2).lt
  rw [ltL_asym _ _ h3] at h4
  cases h4
theorem V.irr {v : V} (hv : v.ok) : ¬ v.lt v := fun h => V.asym hv hv h h
/-! ### rows -/
def key (l : List V) : List Int := l.flatMap one
/-- How two rows stand: 0: they are the same; whether the first one stands ahead. -/
def rows : List V → List V → Int
  | [], [] => 0
  | [], _ :: _ => -1
  | _ :: _, [] => 1
  | v :: a, w :: b => if v.lt w then -1 else if w.lt v then 1 else rows a b
theorem key_cons (v : V) (l : List V) : key (v :: l) = one v ++ key l := by simp [key]
theorem key_order : ∀ a b : List V, (∀ v ∈ a, v.ok) → (∀ v ∈ b, v.ok) → (ltL (key a) (key b) = true ↔ rows a b = -1) ∧ (key a = key b ↔ rows a b = 0) ∧ (rows a b = -1 ∨ rows a b = 0 ∨ rows a b = 1)
  | [], [], ha, hb => by simp [key, rows, ltL]
  | [], w :: b, ha, hb => by
    rw [key_cons, rows]
    refine ⟨⟨fun _ => rfl, fun _ => rfl⟩, ⟨fun h => ?_, fun h => by omega⟩, .inl rfl⟩
    exact absurd h (by simp [key, one])
  | v :: a, [], ha, hb => by
    rw [key_cons, rows]
    refine ⟨⟨fun h => ?_, fun h => by omega⟩, ⟨fun h => ?_, fun h => by omega⟩, .inr (.inr rfl)⟩
    · cases h
    · exact absurd h (by simp [key, one])
  | v :: a, w :: b, ha, hb => by
    have hv := ha v (List.mem_cons_self ..)
    have hw := hb w (List.mem_cons_self ..)
    have ih := key_order a b (fun x hx => ha x (List.mem_cons_of_mem _ hx)) (fun x hx => hb x (List.mem_cons_of_mem _ hx))
    rw [key_cons, key_cons, rows]
    rcases V.tri hv hw with h | h | h
    · have hp := (one_part hv hw h).append (key a) (key b)
      rw [if_pos h]
      exact ⟨⟨fun _ => rfl, fun _ => hp.lt⟩, ⟨fun e => absurd e hp.ne, fun h => by omega⟩, .inl rfl⟩
    · have hp := (one_part hw hv h).append (key b) (key a)
      rw [if_neg (V.asym hw hv h), if_pos h]
      exact ⟨⟨fun h => (by rw [hp.nlt] at h; cases h), fun h => by omega⟩, ⟨fun e => absurd e.symm hp.ne, fun h => by omega⟩, .inr (.inr rfl)⟩
    · subst h
      rw [if_neg (V.irr hv), if_neg (V.irr hv), ltL_pre]
      refine ⟨ih.1, ⟨fun e => ih.2.1.1 (List.append_cancel_left e), fun h => by rw [ih.2.1.2 h]⟩, ih.2.2⟩
theorem key_begins : ∀ a b : List V, (∀ v ∈ a, v.ok) → (∀ v ∈ b, v.ok) → (key a <+: key b ↔ a.length ≤ b.length ∧ rows a (b.take a.length) = 0)
  | [], b, ha, hb => by simp [key, rows]
  | v :: a, [], ha, hb => by
    rw [key_cons]
    refine ⟨fun h => ?_, fun h => by have := h.1; simp at this⟩
    obtain ⟨t, h⟩ := h
    exact absurd h (by simp [key, one])
  | v :: a, w :: b, ha, hb => by
    have hv := ha v (List.mem_cons_self ..)
    have hw := hb w (List.mem_cons_self ..)
    have ih := key_begins a b (fun x hx => ha x (List.mem_cons_of_mem _ hx)) (fun x hx => hb x (List.mem_cons_of_mem _ hx))
    rw [key_cons, key_cons, List.length_cons, List.take_succ_cons, rows, List.length_cons]
    rcases V.tri hv hw with h | h | h
    · have hp := (one_part hv hw h).append (key a) (key b)
      rw [if_pos h]
      exact ⟨fun e => absurd e hp.nbeg, fun h => by omega⟩
    · have hp := (one_part hw hv h).append (key b) (key a)
      rw [if_neg (V.asym hw hv h), if_pos h]
      exact ⟨fun e => absurd e hp.nbeg', fun h => by omega⟩
    · subst h
      rw [if_neg (V.irr hv), if_neg (V.irr hv), List.prefix_append_right_inj, ih]
      omega
/-! ### what is behind all that begin so -/
/-- What is behind: the last byte that isn't 255 goes up, those behind it go. -/
def behR : List Int → Option (List Int)
  | [] => none
  | x :: r => if x = 255 then behR r else some ((x + 1) :: r)
def beh (s : List Int) : Option (List Int) := (behR s.reverse).map List.reverse
theorem behR_some : ∀ {l u : List Int}, behR l = some u → ∃ k x r, l = List.replicate k 255 ++ x :: r ∧ x ≠ 255 ∧ u = (x + 1) :: r
  | [], u, h => by cases h
  | x :: l, u, h => by
    rw [behR] at h
    by_cases hx : x = 255
    · rw [if_pos hx] at h
      obtain ⟨k, y, r, h1, h2, h3⟩ := behR_some h
      exact ⟨k + 1, y, r, by rw [h1, hx, List.replicate_succ]; rfl, h2, h3⟩
    · rw [if_neg hx] at h
      injection h with h
      exact ⟨0, x, l, rfl, hx, h.symm⟩
theorem behR_none : ∀ {l : List Int}, behR l = none → ∀ x ∈ l, x = 255
  | [], h => fun x hx => by cases hx
  | x :: l, h => fun y hy => by
    rw [behR] at h
    by_cases hx : x = 255
    · rw [if_pos hx] at h
      rcases List.mem_cons.1 hy with rfl | hy
      · exact hx
      · exact behR_none h y hy
    · rw [if_neg hx] at h
      cases h
theorem ltL_nil (t : List Int) : ltL t [] = false := by cases t <;> rfl
/-- All bytes of the first one are 255: what isn't below begins so. -/
theorem max_begins : ∀ (s t : List Int), (∀ x ∈ s, x = 255) → (∀ x ∈ t, x ≤ 255) → (ltL t s = false ↔ s <+: t)
  | [], t, hs, ht => by simp [ltL_nil]
  | x :: s, [], hs, ht => by simp [ltL]
  | x :: s, y :: t, hs, ht => by
    have hx := hs x (List.mem_cons_self ..)
    have hy := ht y (List.mem_cons_self ..)
    have ih := max_begins s t (fun z hz => hs z (List.mem_cons_of_mem _ hz)) (fun z hz => ht z (List.mem_cons_of_mem _ hz))
    rw [ltL, List.cons_prefix_cons]
    by_cases h : y < x
    · rw [if_pos h]
      exact ⟨fun h => (by cases h), fun e => by omega⟩
    · rw [if_neg h, if_neg (by omega), ih]
      exact ⟨fun h => ⟨by omega, h⟩, fun h => h.2⟩
theorem beh_some {s u : List Int} (h : beh s = some u) : ∃ k x r, s = r ++ x :: List.replicate k 255 ∧ x ≠ 255 ∧ u = r ++ [x + 1] := by
  unfold beh at h
  obtain ⟨v, h1, h2⟩ := Option.map_eq_some_iff.1 h
  obtain ⟨k, x, r, h3, h4, h5⟩ := behR_some h1
  refine ⟨k, x, r.reverse, ?_, h4, by rw [← h2, h5]; simp⟩
  have := congrArg List.reverse h3
  simpa using this
theorem range_begins : ∀ (r : List Int) (x : Int) (k : Nat) (t : List Int), x < 255 → (∀ y ∈ t, y ≤ 255) → (ltL t (r ++ x :: List.replicate k 255) = false ∧ ltL t (r ++ [x + 1]) = true ↔ r ++ x :: List.replicate k 255 <+: t)
  | [], x, k, [], hx, ht => by simp [ltL]
  | [], x, k, y :: t, hx, ht => by
    have hm := max_begins (List.replicate k 255) t (fun z hz => List.eq_of_mem_replicate hz) (fun z hz => ht z (List.mem_cons_of_mem _ hz))
    simp only [List.nil_append]
    rw [ltL, ltL, List.cons_prefix_cons, ltL_nil]
    by_cases h1 : y < x
    · rw [if_pos h1]
      exact ⟨fun h => (by cases h.1), fun h => by omega⟩
    · rw [if_neg h1]
      by_cases h2 : x < y
      · rw [if_pos h2, if_neg (by omega)]
        refine ⟨fun h => ?_, fun h => by omega⟩
        have := h.2
        split at this <;> cases this
      · rw [if_neg h2, if_pos (by omega), hm]
        exact ⟨fun h => ⟨by omega, h.1⟩, fun h => ⟨h.2, rfl⟩⟩
  | z :: r, x, k, [], hx, ht => by
    simp [ltL]
  | z :: r, x, k, y :: t, hx, ht => by
    have ih := range_begins r x k t hx (fun z hz => ht z (List.mem_cons_of_mem _ hz))
    simp only [List.cons_append]
    rw [ltL, ltL, List.cons_prefix_cons]
    by_cases h1 : y < z
    · rw [if_pos h1]
      exact ⟨fun h => (by cases h.1), fun h => by omega⟩
    · rw [if_neg h1]
      by_cases h2 : z < y
      · rw [if_pos h2, if_neg h1, if_pos h2]
        exact ⟨fun h => (by cases h.2), fun h => by omega⟩
      · rw [if_neg h2, if_neg h1, if_neg h2, ih]
        exact ⟨fun h => ⟨by omega, h⟩, fun h => h.2⟩
theorem beh_begins {s u t : List Int} (hs : ∀ y ∈ s, y ≤ 255) (ht : ∀ y ∈ t, y ≤ 255) (h : beh s = some u) : ltL t s = false ∧ ltL t u = true ↔ s <+: t := by
  obtain ⟨k, x, r, rfl, h2, rfl⟩ := beh_some h
  exact range_begins r x k t (by have := hs x (by simp); omega) ht
theorem beh_none {s : List Int} (h : beh s = none) : ∀ x ∈ s, x = 255 := fun x hx => by
  unfold beh at h
  have h1 : behR s.reverse = none := by simpa using h
  exact behR_none h1 x (by simpa using hx)
theorem beh_none_begins {s t : List Int} (ht : ∀ y ∈ t, y ≤ 255) (h : beh s = none) : s <+: t ∨ ltL t s = true := by
  have := max_begins s t (beh_none h) ht
  cases hb : ltL t s
  · exact .inl (this.1 hb)
  · exact .inr rfl
theorem key_beh : ∀ {l : List V}, (∀ v ∈ l, v.ok) → l ≠ [] → ∃ u, beh (key l) = some u
  | [], h, hn => absurd rfl hn
  | v :: l, h, hn => by
    cases hb : beh (key (v :: l)) with
    | some u => exact ⟨u, rfl⟩
    | none =>
      exfalso
      have h1 := beh_none hb (v.k + 1) (by rw [key_cons, one]; simp)
      have h2 := h v (List.mem_cons_self ..)
      rcases h2 with h2 | h2 | h2 | h2 <;> omega
end Go.Proofs.YthkanebmkeamlaaDoor.KeyM
