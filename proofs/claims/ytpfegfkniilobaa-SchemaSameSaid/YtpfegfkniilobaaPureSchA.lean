/- Which books may be: the reference's May in plain Lean. Conditions: kinds and roots are what their types hold. -/
import Derived.Test.YtpfegfkniilobaaXSchemax10
import Derived.Lib.Strings
namespace Go.Proofs.Ytpfegfkniilobaa.PureS
open Go.RowKit Go.Proofs.YtpfegfkniilobaaW.PrintWords Go.Proofs.Ytpfegfkniilobaa.XSchema
set_option linter.unusedVariables false
set_option linter.unusedSimpArgs false
/-- From some number of rounds on an answer that says whether something holds. -/
def EvB (g : Nat → Option Bool) (P : Prop) : Prop := ∃ r, Ev g r ∧ (r = true ↔ P)
theorem EvB.step {g f : Nat → Option Bool} {P : Prop} (h : ∀ k, g (k + 1) = f k) (k : EvB f P) : EvB g P := by
  obtain ⟨r, hr, hp⟩ := k
  exact ⟨r, Ev.step h hr, hp⟩
theorem EvB.congr {g f : Nat → Option Bool} {P : Prop} (h : ∀ k, g k = f k) (k : EvB f P) : EvB g P := by
  obtain ⟨r, hr, hp⟩ := k
  exact ⟨r, Ev.congr h hr, hp⟩
theorem EvB.imp {g : Nat → Option Bool} {P Q : Prop} (k : EvB g P) (h : P ↔ Q) : EvB g Q := by
  obtain ⟨r, hr, hp⟩ := k
  exact ⟨r, hr, hp.trans h⟩
theorem EvB.no {P : Prop} (h : ¬ P) : EvB (fun _ => some false) P := ⟨false, Ev.now _, by simp [h]⟩
theorem EvB.yes {P : Prop} (h : P) : EvB (fun _ => some true) P := ⟨true, Ev.now _, by simp [h]⟩
theorem EvB.dec {P : Prop} [Decidable P] : EvB (fun _ => some (decide P)) P := ⟨decide P, Ev.now _, by simp⟩
/-- An answer, and behind it another one if it is 'true'. -/
theorem EvB.and {g : Nat → Option Bool} {f : Nat → Bool → Option Bool} {P Q : Prop} (h : EvB g P) (hn : ¬ P → EvB (fun k => f k false) (P ∧ Q)) (hy : P → EvB (fun k => f k true) Q) : EvB (fun k => (g k).bind (f k)) (P ∧ Q) := by
  obtain ⟨r, hr, hp⟩ := h
  cases r
  · have hnp : ¬ P := fun h => by simpa using hp.2 h
    obtain ⟨q, hq, hqp⟩ := hn hnp
    exact ⟨q, Ev.bind hr hq, hqp⟩
  · have hpp : P := hp.1 rfl
    obtain ⟨q, hq, hqp⟩ := hy hpp
    exact ⟨q, Ev.bind hr hq, hqp.trans ⟨fun h => ⟨hpp, h⟩, fun h => h.2⟩⟩
/-- A loop over numbers. -/
theorem EvB.loop {g : Nat → Nat → Option Bool} (n : Nat) (P : Nat → Prop) (Rest : Prop) (hend : EvB (g n) Rest) (hstep : ∀ i Q, i < n → EvB (g (i + 1)) Q → EvB (g i) (P i ∧ Q)) :
    ∀ m i, i + m = n → EvB (g i) ((∀ j, i ≤ j → j < n → P j) ∧ Rest)
  | 0, i, h => by
    obtain rfl : i = n := by omega
    exact hend.imp ⟨fun h => ⟨fun j h1 h2 => by omega, h⟩, fun h => h.2⟩
  | m + 1, i, h => by
    refine (hstep i _ (by omega) (EvB.loop n P Rest hend hstep m (i + 1) (by omega))).imp ⟨fun h => ⟨fun j h1 h2 => ?_, h.2.2⟩, fun h => ⟨h.1 i (Nat.le_refl _) (by omega), fun j h1 h2 => h.1 j (by omega) h2, h.2⟩⟩
    by_cases e : j = i
    · rw [e]; exact h.1
    · exact h.2.1 j (by omega) h2
theorem wr_in (n : Int) (h : -9223372036854775808 ≤ n ∧ n ≤ 9223372036854775807) : wrap64 n = n := by
  unfold wrap64
  omega
theorem wr_s (i n : Nat) (h : i < n) (hn : n ≤ 9223372036854775807) : wrap64 ((i : Int) + 1) = ((i + 1 : Nat) : Int) := by rw [wr_in _ (by omega)]; omega
/-! ### names -/
def chk (c i : Int) : Prop := (97 ≤ c ∧ c ≤ 122) ∨ (i ≠ 0 ∧ (c = 95 ∨ (48 ≤ c ∧ c ≤ 57)))
def nameP (s : ByteArray) : Prop := 1 ≤ s.size ∧ s.size ≤ 24 ∧ ∀ i : Nat, i < s.size → chk (bt s i) i
theorem rName_step (s : ByteArray) (hs : s.size ≤ 9223372036854775807) (i : Nat) (Q : Prop) (hi : i < s.size) (h : EvB (fun k => rowlockref12_Name.l0 k s ((i + 1 : Nat) : Int)) Q) : EvB (fun k => rowlockref12_Name.l0 k s (i : Int)) (chk (bt s i) i ∧ Q) := by
  have hw := wr_s i s.size hi hs
  have e : ∀ k, rowlockref12_Name.l0 (k + 1) s (i : Int) = (if (97 ≤ bt s i ∧ bt s i ≤ 122) ∨ ((i : Int) ≠ 0 ∧ (bt s i = 95 ∨ (48 ≤ bt s i ∧ bt s i ≤ 57))) then rowlockref12_Name.l0 k s ((i + 1 : Nat) : Int) else some false) := fun k => by
    rw [rowlockref12_Name.l0, if_pos (by omega), if_pos (by omega), hw]
    repeat' split
    all_goals first | rfl | (exfalso; omega)
  by_cases hc : (97 ≤ bt s i ∧ bt s i ≤ 122) ∨ ((i : Int) ≠ 0 ∧ (bt s i = 95 ∨ (48 ≤ bt s i ∧ bt s i ≤ 57)))
  · exact (EvB.step (fun k => by rw [e, if_pos hc]) h).imp ⟨fun h => ⟨hc, h⟩, fun h => h.2⟩
  · exact EvB.step (f := fun _ => some false) (fun k => by rw [e, if_neg hc]) (EvB.no fun h => hc h.1)
theorem rName (s : ByteArray) : EvB (fun k => rowlockref12_Name.f k s) (nameP s) := by
  by_cases h1 : (s.size : Int) < 1
  · refine EvB.congr (fun k => by rw [rowlockref12_Name.f, if_pos h1]) (EvB.step (f := fun _ => some false) (fun k => by rw [rowlockref12_Name.j0, if_pos rfl]) (EvB.no fun h => ?_))
    have := h.1
    omega
  · by_cases h2 : (s.size : Int) > 24
    · refine EvB.congr (fun k => by rw [rowlockref12_Name.f, if_neg h1]) (EvB.step (f := fun _ => some false) (fun k => by rw [rowlockref12_Name.j0, if_pos (by simpa using h2)]) (EvB.no fun h => ?_))
      have := h.2.1
      omega
    · have hend : EvB (fun k => rowlockref12_Name.l0 k s (s.size : Int)) True := EvB.step (f := fun _ => some true) (fun k => by rw [rowlockref12_Name.l0, if_neg (by omega)]) (EvB.yes trivial)
      have := EvB.loop (g := fun i k => rowlockref12_Name.l0 k s (i : Int)) s.size (fun i => chk (bt s i) i) _ hend (fun i Q hi h => rName_step s (by omega) i Q hi h) s.size 0 (by omega)
      refine EvB.congr (fun k => by rw [rowlockref12_Name.f, if_neg h1]) (EvB.step (f := fun k => rowlockref12_Name.l0 k s ((0 : Nat) : Int)) (fun k => by rw [rowlockref12_Name.j0, if_neg (by simpa using h2)]; rfl) (this.imp ⟨fun h => ⟨by omega, by omega, fun i hi => h.1 i (Nat.zero_le _) hi⟩, fun h => ⟨fun i _ hi => h.2.2 i hi, trivial⟩⟩))
/-! ### numbers -/
def numP (n : Int) : Prop := 0 ≤ n ∧ n < 2147483648
theorem rNum (n : Int) : EvB (fun _ => rowlockref12_number.f n) (numP n) := by
  unfold rowlockref12_number.f numP
  by_cases h : n ≥ 0
  · simp only [if_pos h]
    exact EvB.dec.imp (by omega)
  · simp only [if_neg h]
    exact EvB.no (by omega)
theorem EvB.andT {g A B : Nat → Option Bool} {P Q : Prop} (h : EvB g P) (hn : ¬ P → EvB B False) (hy : P → EvB A Q) : EvB (fun k => (g k).bind fun t => if t = true then A k else B k) (P ∧ Q) :=
  EvB.and (f := fun k t => if t = true then A k else B k) h (fun hp => (EvB.congr (fun k => if_neg (by decide)) (hn hp)).imp ⟨False.elim, fun h => hp h.1⟩) (fun hp => EvB.congr (fun k => if_pos rfl) (hy hp))
theorem EvB.iteT {A B : Nat → Option Bool} {c P : Prop} [Decidable c] (hy : c → EvB A P) (hn : ¬ c → EvB B P) : EvB (fun k => if c then A k else B k) P := by
  by_cases h : c
  · exact EvB.congr (fun k => if_pos h) (hy h)
  · exact EvB.congr (fun k => if_neg h) (hn h)
/-! ### the reference's table -/
def colP (c : S87) : Prop := nameP c.f0 ∧ 1 ≤ c.f1 ∧ c.f1 ≤ 3 ∧ numP c.f2 ∧ numP c.f3
def newC (L : List S87) (i : Nat) : Prop := ∀ j : Nat, j < i → (rd_T87 L (j : Int)).f0.toList ≠ (rd_T87 L (i : Int)).f0.toList
def tableP (t : S84) : Prop := nameP t.f0 ∧ 1 ≤ t.f1.length ∧ t.f1.length ≤ 8 ∧ numP t.f2 ∧ numP t.f3 ∧ numP t.f4 ∧ ∀ i : Nat, i < t.f1.length → colP (rd_T87 t.f1 (i : Int)) ∧ newC t.f1 i
/-- What the types hold. -/
def colW (c : S87) : Prop := 0 ≤ c.f1 ∧ c.f1 ≤ 255
def tableW (t : S84) : Prop := 0 ≤ t.f2 ∧ t.f2 < 4294967296 ∧ ∀ i : Nat, i < t.f1.length → colW (rd_T87 t.f1 (i : Int))
section
variable (a : ByteArray) (L : List S87) (x y z : Int)
theorem rt_j0 : EvB (fun k => rowlockref12_table.j0 k true a L x y z) False := EvB.step (f := fun _ => some false) (fun k => by rw [rowlockref12_table.j0, if_pos rfl]) (EvB.no fun h => h)
theorem rt_l1 (hL : L.length ≤ 1000000) (n : Int) (i : Nat) (hi : i < L.length) (Q : Prop) (b : ByteArray) (f1 f2 f3 : Int) (hb : b = (rd_T87 L (i : Int)).f0) (h : EvB (fun k => rowlockref12_table.l0 k n ((i + 1 : Nat) : Int) a L x y z) Q) :
    EvB (fun k => rowlockref12_table.l1 k (i : Int) ((0 : Nat) : Int) n (i : Int) a L x y z b f1 f2 f3) (newC L i ∧ Q) := by
  subst hb
  have hend : EvB (fun k => rowlockref12_table.l1 k (i : Int) (i : Int) n (i : Int) a L x y z ((rd_T87 L (i : Int)).f0) f1 f2 f3) Q := EvB.step (fun k => by rw [rowlockref12_table.l1, if_neg (by omega), wr_s i L.length hi (by omega)]) h
  refine (EvB.loop (g := fun j k => rowlockref12_table.l1 k (i : Int) (j : Int) n (i : Int) a L x y z ((rd_T87 L (i : Int)).f0) f1 f2 f3) i (fun j => (rd_T87 L (j : Int)).f0.toList ≠ (rd_T87 L (i : Int)).f0.toList) Q hend (fun j Q hj h => ?_) i 0 (by omega)).imp ⟨fun h => ⟨fun j hj => h.1 j (Nat.zero_le _) hj, h.2⟩, fun h => ⟨fun j _ hj => h.1 j hj, h.2⟩⟩
  by_cases e : (rd_T87 L (j : Int)).f0.toList = (rd_T87 L (i : Int)).f0.toList
  · exact EvB.step (f := fun _ => some false) (fun k => by rw [rowlockref12_table.l1, if_pos (by omega), if_pos (by omega), if_pos (by omega), if_pos e]) (EvB.no fun h => h.1 e)
  · exact (EvB.step (fun k => by rw [rowlockref12_table.l1, if_pos (by omega), if_pos (by omega), if_pos (by omega), if_neg e, wr_s j i hj (by omega)]) h).imp ⟨fun h => ⟨e, h⟩, fun h => h.2⟩
theorem rt_j2 (n : Int) (i : Int) (b : ByteArray) (f1 f2 f3 : Int) : EvB (fun k => rowlockref12_table.j2 k i n i true a L x y z b f1 f2 f3) False := EvB.step (f := fun _ => some false) (fun k => by rw [rowlockref12_table.j2, if_pos rfl]) (EvB.no fun h => h)
theorem rt_step (hL : L.length ≤ 1000000) (hw : ∀ i : Nat, i < L.length → colW (rd_T87 L (i : Int))) (i : Nat) (Q : Prop) (hi : i < L.length) (h : EvB (fun k => rowlockref12_table.l0 k (L.length : Int) ((i + 1 : Nat) : Int) a L x y z) Q) :
    EvB (fun k => rowlockref12_table.l0 k (L.length : Int) (i : Int) a L x y z) ((colP (rd_T87 L (i : Int)) ∧ newC L i) ∧ Q) := by
  have hc := hw i hi
  obtain ⟨c, hcc⟩ : ∃ c, c = rd_T87 L (i : Int) := ⟨_, rfl⟩
  have h1 := rt_l1 a L x y z hL (L.length : Int) i hi Q c.f0 c.f1 c.f2 c.f3 (by rw [hcc]) h
  rw [← hcc] at hc ⊢
  have h2 : EvB (fun k => rowlockref12_table.j2 k (i : Int) (L.length : Int) (i : Int) false a L x y z c.f0 c.f1 c.f2 c.f3) (newC L i ∧ Q) := EvB.step (fun k => by rw [rowlockref12_table.j2, if_neg (by decide)]; rfl) h1
  have hb := rt_j2 a L x y z (L.length : Int) (i : Int) c.f0 c.f1 c.f2 c.f3
  have h3 := EvB.andT (rName c.f0) (fun _ => hb) (fun _ => EvB.iteT (c := c.f1 = 0) (P := (1 ≤ c.f1 ∧ c.f1 ≤ 3) ∧ numP c.f2 ∧ numP c.f3 ∧ newC L i ∧ Q) (fun e => hb.imp ⟨False.elim, fun h => by omega⟩) (fun e0 => EvB.iteT (c := c.f1 > 3) (fun e => hb.imp ⟨False.elim, fun h => by omega⟩) (fun e1 => (EvB.andT (rNum c.f2) (fun _ => hb) (fun _ => EvB.and (f := fun k t => rowlockref12_table.j2 k (i : Int) (L.length : Int) (i : Int) (!t) a L x y z c.f0 c.f1 c.f2 c.f3) (rNum c.f3) (fun hp => hb.imp ⟨False.elim, fun h => hp h.1⟩) (fun _ => h2))).imp ⟨fun h => ⟨⟨by have := hc.1; omega, by omega⟩, h⟩, fun h => h.2⟩)))
  refine EvB.step (fun k => ?_) (h3.imp ⟨fun h => ⟨⟨⟨h.1, h.2.1.1, h.2.1.2, h.2.2.1, h.2.2.2.1⟩, h.2.2.2.2.1⟩, h.2.2.2.2.2⟩, fun h => ⟨h.1.1.1, ⟨h.1.1.2.1, h.1.1.2.2.1⟩, h.1.1.2.2.2.1, h.1.1.2.2.2.2, h.1.2, h.2⟩⟩)
  rw [rowlockref12_table.l0, if_pos (by omega), if_pos (by omega), if_pos (by omega), ← hcc]
theorem rTable (hW : tableW ⟨a, L, x, y, z⟩) : EvB (fun k => rowlockref12_table.f k a L x y z) (tableP ⟨a, L, x, y, z⟩) := by
  have hb := rt_j0 a L x y z
  have hx : wrap64 x = x := wr_in x (by have := hW.1; have := hW.2.1; simp only at *; omega)
  have h := EvB.andT (rName a) (fun _ => hb) (fun _ => EvB.iteT (c := (L.length : Int) < 1) (P := (1 ≤ L.length ∧ L.length ≤ 8) ∧ numP x ∧ numP y ∧ numP z ∧ ∀ i : Nat, i < L.length → colP (rd_T87 L (i : Int)) ∧ newC L i) (fun e => hb.imp ⟨False.elim, fun h => by omega⟩) (fun e0 => EvB.iteT (c := (L.length : Int) > 8) (fun e => hb.imp ⟨False.elim, fun h => by omega⟩) (fun e1 => (EvB.andT (rNum x) (fun _ => hb) (fun _ => EvB.andT (rNum y) (fun _ => hb) (fun _ => EvB.and (f := fun k t => rowlockref12_table.j0 k (!t) a L x y z) (rNum z) (fun hp => hb.imp ⟨False.elim, fun h => hp h.1⟩) (fun _ => by
      have hend : EvB (fun k => rowlockref12_table.l0 k (L.length : Int) (L.length : Int) a L x y z) True := EvB.step (f := fun _ => some true) (fun k => by rw [rowlockref12_table.l0, if_neg (by omega)]) (EvB.yes trivial)
      have hl := EvB.loop (g := fun i k => rowlockref12_table.l0 k (L.length : Int) (i : Int) a L x y z) L.length (fun i => colP (rd_T87 L (i : Int)) ∧ newC L i) True hend (fun i Q hi h => rt_step a L x y z (by omega) hW.2.2 i Q hi h) L.length 0 (by omega)
      exact EvB.step (f := fun k => rowlockref12_table.l0 k (L.length : Int) ((0 : Nat) : Int) a L x y z) (fun k => by show rowlockref12_table.j0 (k + 1) false a L x y z = _; rw [rowlockref12_table.j0, if_neg (by decide)]; rfl) (hl.imp (Q := ∀ i : Nat, i < L.length → colP (rd_T87 L (i : Int)) ∧ newC L i) ⟨fun h i hi => h.1 i (Nat.zero_le _) hi, fun h => ⟨fun i _ hi => h i hi, trivial⟩⟩))))).imp ⟨fun h => ⟨⟨by omega, by omega⟩, h⟩, fun h => h.2⟩)))
  refine EvB.congr (fun k => ?_) (h.imp ⟨fun h => ⟨h.1, h.2.1.1, h.2.1.2, h.2.2.1, h.2.2.2.1, h.2.2.2.2.1, h.2.2.2.2.2⟩, fun h => ⟨h.1, ⟨h.2.1, h.2.2.1⟩, h.2.2.2.1, h.2.2.2.2.1, h.2.2.2.2.2.1, h.2.2.2.2.2.2⟩⟩)
  rw [rowlockref12_table.f, hx]
end
/-! ### the reference's index -/
def colsP (T : List S84) (x : S135) : Prop := ∀ i : Nat, i < x.f2.length → 0 ≤ rd x.f2 (i : Int) ∧ rd x.f2 (i : Int) < (rd_T84 T x.f1).f1.length
def indexP (T : List S84) (x : S135) : Prop := nameP x.f0 ∧ (0 ≤ x.f1 ∧ x.f1 < T.length) ∧ (1 ≤ x.f2.length ∧ x.f2.length ≤ 2) ∧ x.f6.length = x.f2.length ∧ colsP T x ∧ (∀ i : Nat, i < x.f6.length → numP (rd x.f6 (i : Int))) ∧ (x.f2.length = 2 → rd x.f2 0 ≠ rd x.f2 1) ∧ numP x.f3 ∧ numP x.f4 ∧ numP x.f5
def indexW (x : S135) : Prop := 0 ≤ x.f3 ∧ x.f3 < 4294967296
section
variable (T : List S84) (X : List S135) (a : ByteArray) (t : Int) (C : List Int) (r l h : Int) (D : List Int)
theorem ri_j0 : EvB (fun k => rowlockref12_index.j0 k true T X a t C r l h D) False := EvB.step (f := fun _ => some false) (fun k => by rw [rowlockref12_index.j0, if_pos rfl]) (EvB.no fun h => h)
theorem ri_j2 (hr : wrap64 r = r) (b : Bool) : EvB (fun k => rowlockref12_index.j2 k b a t C r l h D) (b = false ∧ numP r ∧ numP l ∧ numP h) := by
  cases b
  · have h1 := EvB.andT (rNum r) (B := fun _ => some false) (fun _ => EvB.no fun h => h) (fun _ => EvB.andT (rNum l) (B := fun _ => some false) (fun _ => EvB.no fun h => h) (fun _ => (EvB.and (f := fun _ t => some t) (Q := True) (rNum h) (fun hp => EvB.no fun h => hp h.1) (fun _ => EvB.yes trivial)).imp (Q := numP h) ⟨fun h => h.1, fun h => ⟨h, trivial⟩⟩))
    exact EvB.step (fun k => by rw [rowlockref12_index.j2, if_neg (by decide), hr]) (h1.imp ⟨fun h => ⟨rfl, h⟩, fun h => h.2⟩)
  · exact EvB.step (f := fun _ => some false) (fun k => by rw [rowlockref12_index.j2, if_pos rfl]) (EvB.no fun h => by cases h.1)
theorem rIndex (hW : indexW ⟨a, t, C, r, l, h, D⟩) : EvB (fun k => rowlockref12_index.f k T X a t C r l h D) (indexP T ⟨a, t, C, r, l, h, D⟩) := by
  have hb := ri_j0 T X a t C r l h D
  have hr : wrap64 r = r := wr_in r (by have := hW.1; have := hW.2; simp only at *; omega)
  obtain ⟨R, hR⟩ : ∃ R : Prop, R = (D.length = C.length ∧ colsP T ⟨a, t, C, r, l, h, D⟩ ∧ (∀ i : Nat, i < D.length → numP (rd D (i : Int))) ∧ (C.length = 2 → rd C 0 ≠ rd C 1) ∧ numP r ∧ numP l ∧ numP h) := ⟨_, rfl⟩
  have hin : ¬ t < 0 → ¬ t ≥ (T.length : Int) → ¬ (C.length : Int) < 1 → ¬ (C.length : Int) > 2 → EvB (fun k => rowlockref12_index.j0 k ((D.length : Int) != (C.length : Int)) T X a t C r l h D) R := fun e0 e1 e2 e3 => by
    by_cases hl : (D.length : Int) = (C.length : Int)
    · have hend : EvB (fun k => rowlockref12_index.l0 k (C.length : Int) (C.length : Int) T X a t C r l h D) ((C.length = 2 → rd C 0 ≠ rd C 1) ∧ numP r ∧ numP l ∧ numP h) := by
        by_cases h2 : (C.length : Int) = 2
        · exact EvB.step (fun k => by rw [rowlockref12_index.l0, if_neg (by omega), if_pos h2, if_pos (by omega), if_pos (by omega)]) ((ri_j2 a t C r l h D hr (rd C 0 == rd C 1)).imp ⟨fun h => ⟨fun _ => by simpa using h.1, h.2⟩, fun h => ⟨by simpa using h.1 (by omega), h.2⟩⟩)
        · exact EvB.step (fun k => by rw [rowlockref12_index.l0, if_neg (by omega), if_neg h2]) ((ri_j2 a t C r l h D hr false).imp ⟨fun h => ⟨fun e => absurd e (by omega), h.2⟩, fun h => ⟨rfl, h.2⟩⟩)
      have hl0 := EvB.loop (g := fun i k => rowlockref12_index.l0 k (C.length : Int) (i : Int) T X a t C r l h D) C.length (fun i => (0 ≤ rd C (i : Int) ∧ rd C (i : Int) < (rd_T84 T t).f1.length) ∧ numP (rd D (i : Int))) _ hend (fun i Q hi h => by
        by_cases c0 : rd C (i : Int) < 0
        · exact EvB.step (f := fun _ => some false) (fun k => by rw [rowlockref12_index.l0, if_pos (by omega), if_pos (by omega), if_pos (by omega), if_pos c0]) (EvB.no fun h => by omega)
        · by_cases c1 : rd C (i : Int) ≥ ((rd_T84 T t).f1.length : Int)
          · exact EvB.step (f := fun _ => some false) (fun k => by rw [rowlockref12_index.l0, if_pos (by omega), if_pos (by omega), if_pos (by omega), if_neg c0, if_pos (by omega), if_pos (by omega), if_pos c1]) (EvB.no fun h => by omega)
          · exact EvB.step (fun k => by rw [rowlockref12_index.l0, if_pos (by omega), if_pos (by omega), if_pos (by omega), if_neg c0, if_pos (by omega), if_pos (by omega), if_neg c1, if_pos (by omega), wr_s i C.length hi (by omega)]) ((EvB.andT (rNum (rd D (i : Int))) (B := fun _ => some false) (fun _ => EvB.no fun h => h) (fun _ => h)).imp ⟨fun h => ⟨⟨⟨by omega, by omega⟩, h.1⟩, h.2⟩, fun h => ⟨h.1.2, h.2⟩⟩)) C.length 0 (by omega)
      have hjf : ((D.length : Int) != (C.length : Int)) = false := by simpa using hl
      refine EvB.step (f := fun k => rowlockref12_index.l0 k (C.length : Int) ((0 : Nat) : Int) T X a t C r l h D) (fun k => by show rowlockref12_index.j0 (k + 1) ((D.length : Int) != (C.length : Int)) T X a t C r l h D = _; rw [hjf, rowlockref12_index.j0, if_neg (by decide)]; rfl) (hl0.imp ?_)
      rw [hR]
      refine ⟨fun h => ⟨by omega, fun i hi => (h.1 i (Nat.zero_le _) hi).1, fun i hi => (h.1 i (Nat.zero_le _) (by omega)).2, h.2⟩, fun h => ⟨fun i _ hi => ⟨h.2.1 i hi, h.2.2.1 i (by omega)⟩, h.2.2.2⟩⟩
    · refine EvB.step (f := fun _ => some false) (fun k => by rw [rowlockref12_index.j0, if_pos (by simpa using hl)]) (EvB.no fun h => ?_)
      rw [hR] at h
      have := h.1
      omega
  have h1 := EvB.andT (rName a) (fun _ => hb) (fun _ => EvB.iteT (c := t < 0) (P := ((0 ≤ t ∧ t < T.length) ∧ (1 ≤ C.length ∧ C.length ≤ 2)) ∧ R) (fun e => hb.imp ⟨False.elim, fun h => by omega⟩) (fun e0 => EvB.iteT (c := t ≥ (T.length : Int)) (fun e => hb.imp ⟨False.elim, fun h => by omega⟩) (fun e1 => EvB.iteT (c := (C.length : Int) < 1) (fun e => hb.imp ⟨False.elim, fun h => by omega⟩) (fun e2 => EvB.iteT (c := (C.length : Int) > 2) (fun e => hb.imp ⟨False.elim, fun h => by omega⟩) (fun e3 => (hin e0 e1 e2 e3).imp ⟨fun h => ⟨⟨⟨by omega, by omega⟩, by omega, by omega⟩, h⟩, fun h => h.2⟩)))))
  refine EvB.congr (fun k => by rw [rowlockref12_index.f]) (h1.imp ?_)
  rw [hR]
  exact ⟨fun h => ⟨h.1, h.2.1.1, h.2.1.2, h.2.2⟩, fun h => ⟨h.1, ⟨h.2.1, h.2.2.1⟩, h.2.2.2⟩⟩
end
/-! ### the reference's May -/
def newT (T : List S84) (i : Nat) : Prop := ∀ j : Nat, j < i → (rd_T84 T (j : Int)).f0.toList ≠ (rd_T84 T (i : Int)).f0.toList
def newX (X : List S135) (i : Nat) : Prop := ∀ j : Nat, j < i → (rd_T135 X (j : Int)).f0.toList ≠ (rd_T135 X (i : Int)).f0.toList
def MayP (T : List S84) (X : List S135) : Prop := (T.length ≤ 16 ∧ X.length ≤ 16) ∧ (∀ i : Nat, i < T.length → tableP (rd_T84 T (i : Int)) ∧ newT T i) ∧ ∀ i : Nat, i < X.length → indexP T (rd_T135 X (i : Int)) ∧ newX X i
def bookW (T : List S84) (X : List S135) : Prop := (∀ i : Nat, i < T.length → tableW (rd_T84 T (i : Int))) ∧ ∀ i : Nat, i < X.length → indexW (rd_T135 X (i : Int))
section
variable (T : List S84) (X : List S135)
theorem rm_l1 (hT : T.length ≤ 1000000) (n : Int) (i : Nat) (hi : i < T.length) (Q : Prop) (h : EvB (fun k => rowlockref12_May.l0 k n ((i + 1 : Nat) : Int) T X) Q) :
    EvB (fun k => rowlockref12_May.l1 k (i : Int) ((0 : Nat) : Int) n (i : Int) T X) (newT T i ∧ Q) := by
  have hend : EvB (fun k => rowlockref12_May.l1 k (i : Int) (i : Int) n (i : Int) T X) Q := EvB.step (fun k => by rw [rowlockref12_May.l1, if_neg (by omega), wr_s i T.length hi (by omega)]) h
  refine (EvB.loop (g := fun j k => rowlockref12_May.l1 k (i : Int) (j : Int) n (i : Int) T X) i (fun j => (rd_T84 T (j : Int)).f0.toList ≠ (rd_T84 T (i : Int)).f0.toList) Q hend (fun j Q hj h => ?_) i 0 (by omega)).imp ⟨fun h => ⟨fun j hj => h.1 j (Nat.zero_le _) hj, h.2⟩, fun h => ⟨fun j _ hj => h.1 j hj, h.2⟩⟩
  by_cases e : (rd_T84 T (j : Int)).f0.toList = (rd_T84 T (i : Int)).f0.toList
  · exact EvB.step (f := fun _ => some false) (fun k => by rw [rowlockref12_May.l1, if_pos (by omega), if_pos (by omega), if_pos (by omega), if_pos (by omega), if_pos (by omega), if_pos e]) (EvB.no fun h => h.1 e)
  · exact (EvB.step (fun k => by rw [rowlockref12_May.l1, if_pos (by omega), if_pos (by omega), if_pos (by omega), if_pos (by omega), if_pos (by omega), if_neg e, wr_s j i hj (by omega)]) h).imp ⟨fun h => ⟨e, h⟩, fun h => h.2⟩
theorem rm_l3 (hX : X.length ≤ 1000000) (n : Int) (i : Nat) (hi : i < X.length) (Q : Prop) (h : EvB (fun k => rowlockref12_May.l2 k n ((i + 1 : Nat) : Int) T X) Q) :
    EvB (fun k => rowlockref12_May.l3 k (i : Int) ((0 : Nat) : Int) n (i : Int) T X) (newX X i ∧ Q) := by
  have hend : EvB (fun k => rowlockref12_May.l3 k (i : Int) (i : Int) n (i : Int) T X) Q := EvB.step (fun k => by rw [rowlockref12_May.l3, if_neg (by omega), wr_s i X.length hi (by omega)]) h
  refine (EvB.loop (g := fun j k => rowlockref12_May.l3 k (i : Int) (j : Int) n (i : Int) T X) i (fun j => (rd_T135 X (j : Int)).f0.toList ≠ (rd_T135 X (i : Int)).f0.toList) Q hend (fun j Q hj h => ?_) i 0 (by omega)).imp ⟨fun h => ⟨fun j hj => h.1 j (Nat.zero_le _) hj, h.2⟩, fun h => ⟨fun j _ hj => h.1 j hj, h.2⟩⟩
  by_cases e : (rd_T135 X (j : Int)).f0.toList = (rd_T135 X (i : Int)).f0.toList
  · exact EvB.step (f := fun _ => some false) (fun k => by rw [rowlockref12_May.l3, if_pos (by omega), if_pos (by omega), if_pos (by omega), if_pos (by omega), if_pos (by omega), if_pos e]) (EvB.no fun h => h.1 e)
  · exact (EvB.step (fun k => by rw [rowlockref12_May.l3, if_pos (by omega), if_pos (by omega), if_pos (by omega), if_pos (by omega), if_pos (by omega), if_neg e, wr_s j i hj (by omega)]) h).imp ⟨fun h => ⟨e, h⟩, fun h => h.2⟩
theorem rMay (hW : bookW T X) : EvB (fun k => rowlockref12_May.f k T X) (MayP T X) := by
  by_cases c0 : (T.length : Int) > 16
  · exact EvB.congr (fun k => by rw [rowlockref12_May.f, if_pos c0]) (EvB.step (f := fun _ => some false) (fun k => by rw [rowlockref12_May.j0, if_pos rfl]) (EvB.no fun h => by have := h.1.1; omega))
  by_cases c1 : (X.length : Int) > 16
  · exact EvB.congr (fun k => by rw [rowlockref12_May.f, if_neg c0]) (EvB.step (f := fun _ => some false) (fun k => by rw [rowlockref12_May.j0, if_pos (by simpa using c1)]) (EvB.no fun h => by have := h.1.2; omega))
  have e2 : EvB (fun k => rowlockref12_May.l2 k (X.length : Int) (X.length : Int) T X) True := EvB.step (f := fun _ => some true) (fun k => by rw [rowlockref12_May.l2, if_neg (by omega)]) (EvB.yes trivial)
  have h2 := EvB.loop (g := fun i k => rowlockref12_May.l2 k (X.length : Int) (i : Int) T X) X.length (fun i => indexP T (rd_T135 X (i : Int)) ∧ newX X i) True e2 (fun i Q hi h => by
    have h3 := EvB.andT (rIndex T X _ _ _ _ _ _ _ (hW.2 i hi)) (B := fun _ => some false) (fun _ => EvB.no fun h => h) (fun _ => rm_l3 T X (by omega) (X.length : Int) i hi Q h)
    refine EvB.step (fun k => ?_) (h3.imp ⟨fun h => ⟨⟨h.1, h.2.1⟩, h.2.2⟩, fun h => ⟨h.1.1, h.1.2, h.2⟩⟩)
    rw [rowlockref12_May.l2, if_pos (by omega), if_pos (by omega), if_pos (by omega)]
    rfl) X.length 0 (by omega)
  have e1 : EvB (fun k => rowlockref12_May.l0 k (T.length : Int) (T.length : Int) T X) _ := EvB.step (f := fun k => rowlockref12_May.l2 k (X.length : Int) ((0 : Nat) : Int) T X) (fun k => by rw [rowlockref12_May.l0, if_neg (by omega)]; rfl) h2
  have h1 := EvB.loop (g := fun i k => rowlockref12_May.l0 k (T.length : Int) (i : Int) T X) T.length (fun i => tableP (rd_T84 T (i : Int)) ∧ newT T i) _ e1 (fun i Q hi h => by
    have h3 := EvB.andT (rTable _ _ _ _ _ (hW.1 i hi)) (B := fun _ => some false) (fun _ => EvB.no fun h => h) (fun _ => rm_l1 T X (by omega) (T.length : Int) i hi Q h)
    refine EvB.step (fun k => ?_) (h3.imp ⟨fun h => ⟨⟨h.1, h.2.1⟩, h.2.2⟩, fun h => ⟨h.1.1, h.1.2, h.2⟩⟩)
    rw [rowlockref12_May.l0, if_pos (by omega), if_pos (by omega), if_pos (by omega)]
    rfl) T.length 0 (by omega)
  exact EvB.congr (fun k => by rw [rowlockref12_May.f, if_neg c0]) (EvB.step (f := fun k => rowlockref12_May.l0 k (T.length : Int) ((0 : Nat) : Int) T X) (fun k => by rw [rowlockref12_May.j0, if_neg (by simpa using c1)]; rfl) (h1.imp ⟨fun h => ⟨⟨by omega, by omega⟩, fun i hi => h.1 i (Nat.zero_le _) hi, fun i hi => h.2.1 i (Nat.zero_le _) hi⟩, fun h => ⟨fun i _ hi => h.2.1 i hi, fun i _ hi => h.2.2 i hi, trivial⟩⟩))
end
end Go.Proofs.Ytpfegfkniilobaa.PureS
