/- How entries stand, rise, and how many bytes they use, in plain Lean. Conditions: the entries are not endless. -/
import Derived.Test.YtihmkdjambdfjaaXLeafy1
import Derived.Test.YtihmkdjambdfjaaXLeafx2
import Derived.Lib.Strings
namespace Go.Proofs.Ytihmkdjambdfjaa.Lf
open Go.RowKit Go.Proofs.YtihmkdjambdfjaaW.PrintWords Go.Proofs.Ytihmkdjambdfjaa.XLeaf
set_option linter.unusedVariables false
set_option linter.unusedSimpArgs false
/-- From some number of rounds on an answer that says whether something holds. -/
def EvB (g : Nat → Option Bool) (P : Prop) : Prop := ∃ r, Ev g r ∧ (r = true ↔ P)
theorem EvB.step {g f : Nat → Option Bool} {P : Prop} (h : ∀ k, g (k + 1) = f k) (k : EvB f P) : EvB g P := by
  obtain ⟨r, hr, hp⟩ := k
  exact ⟨r, Ev.step h hr, hp⟩
theorem EvB.congr {g f : Nat → Option Bool} {P : Prop} (h : ∀ k, g k = f k) (k : EvB f P) : EvB g P := by
  obtain ⟨r, hr, hp⟩ := k
  exact ⟨r, Ev.congr h hr, hp⟩
theorem EvB.imp {g : Nat → Option Bool} {P Q : Prop} (k : EvB g P) (h : P ↔ Q) : EvB g Q := by
  obtain ⟨r, hr, hp⟩ := k
  exact ⟨r, hr, hp.trans h⟩
theorem EvB.no {P : Prop} (h : ¬ P) : EvB (fun _ => some false) P := ⟨false, Ev.now _, by simp [h]⟩
theorem EvB.yes {P : Prop} (h : P) : EvB (fun _ => some true) P := ⟨true, Ev.now _, by simp [h]⟩
theorem EvB.dec {P : Prop} [Decidable P] : EvB (fun _ => some (decide P)) P := ⟨decide P, Ev.now _, by simp⟩
/-- An answer, and behind it another one if it is 'true'. -/
theorem EvB.and {g : Nat → Option Bool} {f : Nat → Bool → Option Bool} {P Q : Prop} (h : EvB g P) (hn : ¬ P → EvB (fun k => f k false) (P ∧ Q)) (hy : P → EvB (fun k => f k true) Q) : EvB (fun k => (g k).bind (f k)) (P ∧ Q) := by
  obtain ⟨r, hr, hp⟩ := h
  cases r
  · have hnp : ¬ P := fun h => by simpa using hp.2 h
    obtain ⟨q, hq, hqp⟩ := hn hnp
    exact ⟨q, Ev.bind hr hq, hqp⟩
  · have hpp : P := hp.1 rfl
    obtain ⟨q, hq, hqp⟩ := hy hpp
    exact ⟨q, Ev.bind hr hq, hqp.trans ⟨fun h => ⟨hpp, h⟩, fun h => h.2⟩⟩
/-- A loop over numbers. -/
theorem EvB.loop {g : Nat → Nat → Option Bool} (n : Nat) (P : Nat → Prop) (Rest : Prop) (hend : EvB (g n) Rest) (hstep : ∀ i Q, i < n → EvB (g (i + 1)) Q → EvB (g i) (P i ∧ Q)) :
    ∀ m i, i + m = n → EvB (g i) ((∀ j, i ≤ j → j < n → P j) ∧ Rest)
  | 0, i, h => by
    obtain rfl : i = n := by omega
    exact hend.imp ⟨fun h => ⟨fun j h1 h2 => by omega, h⟩, fun h => h.2⟩
  | m + 1, i, h => by
    refine (hstep i _ (by omega) (EvB.loop n P Rest hend hstep m (i + 1) (by omega))).imp ⟨fun h => ⟨fun j h1 h2 => ?_, h.2.2⟩, fun h => ⟨h.1 i (Nat.le_refl _) (by omega), fun j h1 h2 => h.1 j (by omega) h2, h.2⟩⟩
    by_cases e : j = i
    · rw [e]; exact h.1
    · exact h.2.1 j (by omega) h2
theorem wr_in (n : Int) (h : -9223372036854775808 ≤ n ∧ n ≤ 9223372036854775807) : wrap64 n = n := by
  unfold wrap64
  omega
theorem wr_s (i n : Nat) (h : i < n) (hn : n ≤ 9223372036854775807) : wrap64 ((i : Int) + 1) = ((i + 1 : Nat) : Int) := by rw [wr_in _ (by omega)]; omega
theorem EvB.andT {g A B : Nat → Option Bool} {P Q : Prop} (h : EvB g P) (hn : ¬ P → EvB B False) (hy : P → EvB A Q) : EvB (fun k => (g k).bind fun t => if t = true then A k else B k) (P ∧ Q) :=
  EvB.and (f := fun k t => if t = true then A k else B k) h (fun hp => (EvB.congr (fun k => if_neg (by decide)) (hn hp)).imp ⟨False.elim, fun h => hp h.1⟩) (fun hp => EvB.congr (fun k => if_pos rfl) (hy hp))
theorem EvB.iteT {A B : Nat → Option Bool} {c P : Prop} [Decidable c] (hy : c → EvB A P) (hn : ¬ c → EvB B P) : EvB (fun k => if c then A k else B k) P := by
  by_cases h : c
  · exact EvB.congr (fun k => if_pos h) (hy h)
  · exact EvB.congr (fun k => if_neg h) (hn h)
theorem getD_at {α : Type} (l : List α) (d : α) (i : Nat) (h : i < l.length) : l.getD (i : Int).toNat d = l[i] := by
  rw [Int.toNat_natCast, List.getD_eq_getElem?_getD, List.getElem?_eq_getElem h]
  rfl
theorem rd_at (l : List S27) (i : Nat) (h : i < l.length) : rd_T27 l (i : Int) = l[i] := getD_at l z27 i h
/-- How two numbers stand. -/
def cn (x y : Int) : Int := if x < y then -1 else if x > y then 1 else 0
/-- How two entries stand. -/
def cmpE (a b : S27) : Int :=
  if Lib.compareBytes a.f0.data.toList b.f0.data.toList = 0 then (if cn a.f1.f0 b.f1.f0 = 0 then cn a.f1.f1 b.f1.f1 else cn a.f1.f0 b.f1.f0) else Lib.compareBytes a.f0.data.toList b.f0.data.toList
theorem cmp32 (x y : Int) : cmp_Compare_uint32.f x y = some (cn x y) := by
  rw [cmp_Compare_uint32.f, cmp_isNaN_uint32.f, cmp_isNaN_uint32.f, Option.bind_some, Option.bind_some, if_neg (by simp), if_neg (by simp), cn]
  split
  · rfl
  · split <;> rfl
theorem cmp16 (x y : Int) : cmp_Compare_uint16.f x y = some (cn x y) := by
  rw [cmp_Compare_uint16.f, cmp_isNaN_uint16.f, cmp_isNaN_uint16.f, Option.bind_some, Option.bind_some, if_neg (by simp), if_neg (by simp), cn]
  split
  · rfl
  · split <;> rfl
theorem or3 (x y z : Int) : Ev (fun k => cmp_Or_int.f k [x, y, z]) (if x = 0 then (if y = 0 then z else y) else x) := by
  have e1 : wrap64 (0 + 1) = 1 := by decide +kernel
  have e2 : wrap64 (1 + 1) = 2 := by decide +kernel
  have e3 : wrap64 (2 + 1) = 3 := by decide +kernel
  have h3 : Ev (fun k => cmp_Or_int.l0 k 0 [x, y, z] 3 3) 0 := Ev.step (f := fun _ => some 0) (fun k => by rw [cmp_Or_int.l0, if_neg (by omega)]) (Ev.now _)
  have h2 : Ev (fun k => cmp_Or_int.l0 k 0 [x, y, z] 3 2) z := by
    by_cases h : z = 0
    · subst h
      exact Ev.step (fun k => by rw [cmp_Or_int.l0, if_pos (by omega), if_pos (by omega), if_pos (by simp), show rd [x, y, (0 : Int)] 2 = 0 from rfl, if_pos rfl, e3]) h3
    · exact Ev.step (f := fun _ => some z) (fun k => by rw [cmp_Or_int.l0, if_pos (by omega), if_pos (by omega), if_pos (by simp), show rd [x, y, z] 2 = z from rfl, if_neg h]) (Ev.now _)
  have h1 : Ev (fun k => cmp_Or_int.l0 k 0 [x, y, z] 3 1) (if y = 0 then z else y) := by
    by_cases h : y = 0
    · subst h
      rw [if_pos rfl]
      exact Ev.step (fun k => by rw [cmp_Or_int.l0, if_pos (by omega), if_pos (by omega), if_pos (by simp), show rd [x, (0 : Int), z] 1 = 0 from rfl, if_pos rfl, e2]) h2
    · rw [if_neg h]
      exact Ev.step (f := fun _ => some y) (fun k => by rw [cmp_Or_int.l0, if_pos (by omega), if_pos (by omega), if_pos (by simp), show rd [x, y, z] 1 = y from rfl, if_neg h]) (Ev.now _)
  refine Ev.congr (f := fun k => cmp_Or_int.l0 k 0 [x, y, z] 3 0) (fun k => by rw [cmp_Or_int.f]; rfl) ?_
  by_cases h : x = 0
  · subst h
    rw [if_pos rfl]
    exact Ev.step (fun k => by rw [cmp_Or_int.l0, if_pos (by omega), if_pos (by omega), if_pos (by simp), show rd [(0 : Int), y, z] 0 = 0 from rfl, if_pos rfl, e1]) h1
  · rw [if_neg h]
    exact Ev.step (f := fun _ => some x) (fun k => by rw [cmp_Or_int.l0, if_pos (by omega), if_pos (by omega), if_pos (by simp), show rd [x, y, z] 0 = x from rfl, if_neg h]) (Ev.now _)
theorem eCmp (a b : S27) : Ev (fun k => leaf_Compare.f k a.f0 a.f1.f0 a.f1.f1 b.f0 b.f1.f0 b.f1.f1) (cmpE a b) := by
  have h := or3 (Lib.compareBytes a.f0.data.toList b.f0.data.toList) (cn a.f1.f0 b.f1.f0) (cn a.f1.f1 b.f1.f1)
  refine Ev.congr (fun k => by rw [leaf_Compare.f, strings_Compare.f, Option.bind_some, cmp32, Option.bind_some, cmp16, Option.bind_some]) ?_
  exact Ev.bind (f := fun _ t => some t) h (Ev.now _)
/-- They rise. -/
def riseB (l : List S27) : Bool := (List.range (l.length - 1)).all fun i => decide (cmpE (rd_T27 l (i : Int)) (rd_T27 l ((i + 1 : Nat) : Int)) < 0)
theorem riseB_iff (l : List S27) : riseB l = true ↔ ∀ i : Nat, i + 1 < l.length → cmpE (rd_T27 l (i : Int)) (rd_T27 l ((i + 1 : Nat) : Int)) < 0 := by
  simp only [riseB, List.all_eq_true, List.mem_range, decide_eq_true_eq]
  exact ⟨fun h i hi => h i (by omega), fun h i hi => h i (by omega)⟩
theorem eRise (l : List S27) (hl : l.length ≤ 9223372036854775806) : Ev (fun k => leaf_Rise.f k l) (riseB l) := by
  have hend : ∀ n : Nat, l.length ≤ n → EvB (fun k => leaf_Rise.l0 k l (n : Int)) True := fun n hn => EvB.step (f := fun _ => some true) (fun k => by rw [leaf_Rise.l0, if_neg (by omega)]) (EvB.yes trivial)
  have key : EvB (fun k => leaf_Rise.f k l) (riseB l = true) := by
    have h := EvB.loop (g := fun i k => leaf_Rise.l0 k l ((i + 1 : Nat) : Int)) (l.length - 1) (fun i => cmpE (rd_T27 l (i : Int)) (rd_T27 l ((i + 1 : Nat) : Int)) < 0) True (hend _ (by omega)) (fun i Q hi h => by
      have e1 : wrap64 (((i + 1 : Nat) : Int) - 1) = (i : Int) := by rw [wr_in _ (by omega)]; omega
      have e2 : wrap64 (((i + 1 : Nat) : Int) + 1) = ((i + 1 + 1 : Nat) : Int) := by rw [wr_in _ (by omega)]; omega
      have hc := eCmp (rd_T27 l (i : Int)) (rd_T27 l ((i + 1 : Nat) : Int))
      by_cases hlt : cmpE (rd_T27 l (i : Int)) (rd_T27 l ((i + 1 : Nat) : Int)) ≥ 0
      · have : Ev (fun k => (leaf_Compare.f k ((rd_T27 l (i : Int)).f0) ((rd_T27 l (i : Int)).f1.f0) ((rd_T27 l (i : Int)).f1.f1) ((rd_T27 l ((i + 1 : Nat) : Int)).f0) ((rd_T27 l ((i + 1 : Nat) : Int)).f1.f0) ((rd_T27 l ((i + 1 : Nat) : Int)).f1.f1)).bind fun t => if t ≥ 0 then some false else leaf_Rise.l0 k l ((i + 1 + 1 : Nat) : Int)) false :=
          Ev.bind (f := fun k t => if t ≥ 0 then some false else leaf_Rise.l0 k l ((i + 1 + 1 : Nat) : Int)) hc (Ev.congr (fun k => if_pos hlt) (Ev.now _))
        exact ⟨false, Ev.step (fun k => by rw [leaf_Rise.l0, if_pos (by omega), e1, e2, if_pos (by omega), if_pos (by omega), if_pos (by omega)]) this, ⟨(fun h => by cases h), fun h => absurd h.1 (by omega)⟩⟩
      · obtain ⟨r, hr, hp⟩ := h
        have : Ev (fun k => (leaf_Compare.f k ((rd_T27 l (i : Int)).f0) ((rd_T27 l (i : Int)).f1.f0) ((rd_T27 l (i : Int)).f1.f1) ((rd_T27 l ((i + 1 : Nat) : Int)).f0) ((rd_T27 l ((i + 1 : Nat) : Int)).f1.f0) ((rd_T27 l ((i + 1 : Nat) : Int)).f1.f1)).bind fun t => if t ≥ 0 then some false else leaf_Rise.l0 k l ((i + 1 + 1 : Nat) : Int)) r :=
          Ev.bind (f := fun k t => if t ≥ 0 then some false else leaf_Rise.l0 k l ((i + 1 + 1 : Nat) : Int)) hc (Ev.congr (fun k => if_neg hlt) hr)
        exact ⟨r, Ev.step (fun k => by rw [leaf_Rise.l0, if_pos (by omega), e1, e2, if_pos (by omega), if_pos (by omega), if_pos (by omega)]) this, hp.trans ⟨fun h => ⟨by omega, h⟩, fun h => h.2⟩⟩) (l.length - 1) 0 (by omega)
    exact (EvB.congr (fun k => by rw [leaf_Rise.f]; rfl) h).imp ⟨fun h => (riseB_iff l).2 (fun i hi => h.1 i (Nat.zero_le _) (by omega)), fun h => ⟨fun i h1 hi => (riseB_iff l).1 h i (by omega), trivial⟩⟩
  obtain ⟨r, hr, he⟩ := key
  have : r = riseB l := by cases r <;> cases h : riseB l <;> simp_all
  rw [← this]
  exact hr
/-- How many bytes entries use, beside a head. -/
def szE : List S27 → Int
  | [] => 0
  | x :: l => 8 + (x.f0.size : Int) + szE l
theorem szE_in : ∀ l : List S27, (∀ x ∈ l, x.f0.size ≤ 70000) → 0 ≤ szE l ∧ szE l ≤ 70008 * (l.length : Int)
  | [], _ => by simp [szE]
  | x :: l, h => by
    have h1 := h x (List.mem_cons_self ..)
    have h2 := szE_in l (fun y hy => h y (List.mem_cons_of_mem _ hy))
    rw [szE, List.length_cons]
    omega
theorem drop_rd (l : List S27) (i : Nat) (h : i < l.length) : l.drop i = rd_T27 l (i : Int) :: l.drop (i + 1) := by
  rw [rd_at l i h]
  exact List.drop_eq_getElem_cons h
theorem eSizeL (l : List S27) (hl : l.length ≤ 1000000) (hx : ∀ x ∈ l, x.f0.size ≤ 70000) : ∀ (m i : Nat) (a : Int), i + m = l.length → 0 ≤ a → a ≤ 70008 * (i : Int) + 8 → Ev (fun k => leaf_LeafSize.l0 k a l (l.length : Int) (i : Int)) (a + szE (l.drop i))
  | 0, i, a, h, h0, h1 => by
    rw [List.drop_of_length_le (by omega), szE, Int.add_zero]
    exact Ev.step (f := fun _ => some a) (fun k => by rw [leaf_LeafSize.l0, if_neg (by omega)]) (Ev.now _)
  | m + 1, i, a, h, h0, h1 => by
    have hb := hx l[i] (List.getElem_mem (by omega))
    rw [← rd_at l i (by omega)] at hb
    have ih := eSizeL l hl hx m (i + 1) (a + (8 + ((rd_T27 l (i : Int)).f0.size : Int))) (by omega) (by omega) (by omega)
    rw [drop_rd l i (by omega), szE]
    rw [show a + (8 + ((rd_T27 l (i : Int)).f0.size : Int)) + szE (l.drop (i + 1)) = a + (8 + ((rd_T27 l (i : Int)).f0.size : Int) + szE (l.drop (i + 1))) by omega] at ih
    exact Ev.step (fun k => by rw [leaf_LeafSize.l0, if_pos (by omega), if_pos (by omega), if_pos (by omega), wr_in (8 + _) (by omega), wr_in (a + _) (by omega), wr_s i l.length (by omega) (by omega)]) ih
theorem eSize (l : List S27) (hl : l.length ≤ 1000000) (hx : ∀ x ∈ l, x.f0.size ≤ 70000) : Ev (fun k => leaf_LeafSize.f k l) (8 + szE l) :=
  Ev.congr (fun k => by rw [leaf_LeafSize.f]; rfl) (eSizeL l hl hx l.length 0 8 (by omega) (by omega) (by omega))
/-- One's key is too long. -/
def longB (l : List S27) : Bool := l.any fun x => decide (200 < x.f0.size)
/-- May they be? The error's number. -/
def mayE (l : List S27) (n : Int) : Int := if riseB l = false ∨ longB l = true then 1 else if n > 512 then 7 else 0
end Go.Proofs.Ytihmkdjambdfjaa.Lf
