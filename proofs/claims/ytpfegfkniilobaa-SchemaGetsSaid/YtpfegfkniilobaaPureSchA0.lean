/- Which books may be, in plain Lean; the reference's names and numbers. No conditions. -/
import Derived.Test.YtpfegfkniilobaaXSchemax7
import Derived.Lib.Strings
namespace Go.Proofs.Ytpfegfkniilobaa.PureS
open Go.RowKit Go.Proofs.YtpfegfkniilobaaW.PrintWords Go.Proofs.Ytpfegfkniilobaa.XSchema
set_option linter.unusedVariables false
set_option linter.unusedSimpArgs false
/-- From some number of rounds on an answer that says whether something holds. -/
def EvB (g : Nat → Option Bool) (P : Prop) : Prop := ∃ r, Ev g r ∧ (r = true ↔ P)
theorem EvB.step {g f : Nat → Option Bool} {P : Prop} (h : ∀ k, g (k + 1) = f k) (k : EvB f P) : EvB g P := by
  obtain ⟨r, hr, hp⟩ := k
  exact ⟨r, Ev.step h hr, hp⟩
theorem EvB.congr {g f : Nat → Option Bool} {P : Prop} (h : ∀ k, g k = f k) (k : EvB f P) : EvB g P := by
  obtain ⟨r, hr, hp⟩ := k
  exact ⟨r, Ev.congr h hr, hp⟩
theorem EvB.imp {g : Nat → Option Bool} {P Q : Prop} (k : EvB g P) (h : P ↔ Q) : EvB g Q := by
  obtain ⟨r, hr, hp⟩ := k
  exact ⟨r, hr, hp.trans h⟩
theorem EvB.no {P : Prop} (h : ¬ P) : EvB (fun _ => some false) P := ⟨false, Ev.now _, by simp [h]⟩
theorem EvB.yes {P : Prop} (h : P) : EvB (fun _ => some true) P := ⟨true, Ev.now _, by simp [h]⟩
theorem EvB.dec {P : Prop} [Decidable P] : EvB (fun _ => some (decide P)) P := ⟨decide P, Ev.now _, by simp⟩
/-- An answer, and behind it another one if it is 'true'. -/
theorem EvB.and {g : Nat → Option Bool} {f : Nat → Bool → Option Bool} {P Q : Prop} (h : EvB g P) (hn : ¬ P → EvB (fun k => f k false) (P ∧ Q)) (hy : P → EvB (fun k => f k true) Q) : EvB (fun k => (g k).bind (f k)) (P ∧ Q) := by
  obtain ⟨r, hr, hp⟩ := h
  cases r
  · have hnp : ¬ P := fun h => by simpa using hp.2 h
    obtain ⟨q, hq, hqp⟩ := hn hnp
    exact ⟨q, Ev.bind hr hq, hqp⟩
  · have hpp : P := hp.1 rfl
    obtain ⟨q, hq, hqp⟩ := hy hpp
    exact ⟨q, Ev.bind hr hq, hqp.trans ⟨fun h => ⟨hpp, h⟩, fun h => h.2⟩⟩
/-- A loop over numbers. -/
theorem EvB.loop {g : Nat → Nat → Option Bool} (n : Nat) (P : Nat → Prop) (Rest : Prop) (hend : EvB (g n) Rest) (hstep : ∀ i Q, i < n → EvB (g (i + 1)) Q → EvB (g i) (P i ∧ Q)) :
    ∀ m i, i + m = n → EvB (g i) ((∀ j, i ≤ j → j < n → P j) ∧ Rest)
  | 0, i, h => by
    obtain rfl : i = n := by omega
    exact hend.imp ⟨fun h => ⟨fun j h1 h2 => by omega, h⟩, fun h => h.2⟩
  | m + 1, i, h => by
    refine (hstep i _ (by omega) (EvB.loop n P Rest hend hstep m (i + 1) (by omega))).imp ⟨fun h => ⟨fun j h1 h2 => ?_, h.2.2⟩, fun h => ⟨h.1 i (Nat.le_refl _) (by omega), fun j h1 h2 => h.1 j (by omega) h2, h.2⟩⟩
    by_cases e : j = i
    · rw [e]; exact h.1
    · exact h.2.1 j (by omega) h2
theorem wr_in (n : Int) (h : -9223372036854775808 ≤ n ∧ n ≤ 9223372036854775807) : wrap64 n = n := by
  unfold wrap64
  omega
theorem wr_s (i n : Nat) (h : i < n) (hn : n ≤ 9223372036854775807) : wrap64 ((i : Int) + 1) = ((i + 1 : Nat) : Int) := by rw [wr_in _ (by omega)]; omega
/-! ### names -/
def chk (c i : Int) : Prop := (97 ≤ c ∧ c ≤ 122) ∨ (i ≠ 0 ∧ (c = 95 ∨ (48 ≤ c ∧ c ≤ 57)))
def nameP (s : ByteArray) : Prop := 1 ≤ s.size ∧ s.size ≤ 24 ∧ ∀ i : Nat, i < s.size → chk (bt s i) i
theorem rName_step (s : ByteArray) (hs : s.size ≤ 9223372036854775807) (i : Nat) (Q : Prop) (hi : i < s.size) (h : EvB (fun k => rowlockref12_Name.l0 k s ((i + 1 : Nat) : Int)) Q) : EvB (fun k => rowlockref12_Name.l0 k s (i : Int)) (chk (bt s i) i ∧ Q) := by
  have hw := wr_s i s.size hi hs
  have e : ∀ k, rowlockref12_Name.l0 (k + 1) s (i : Int) = (if (97 ≤ bt s i ∧ bt s i ≤ 122) ∨ ((i : Int) ≠ 0 ∧ (bt s i = 95 ∨ (48 ≤ bt s i ∧ bt s i ≤ 57))) then rowlockref12_Name.l0 k s ((i + 1 : Nat) : Int) else some false) := fun k => by
    rw [rowlockref12_Name.l0, if_pos (by omega), if_pos (by omega), hw]
    repeat' split
    all_goals first | rfl | (exfalso; omega)
  by_cases hc : (97 ≤ bt s i ∧ bt s i ≤ 122) ∨ ((i : Int) ≠ 0 ∧ (bt s i = 95 ∨ (48 ≤ bt s i ∧ bt s i ≤ 57)))
  · exact (EvB.step (fun k => by rw [e, if_pos hc]) h).imp ⟨fun h => ⟨hc, h⟩, fun h => h.2⟩
  · exact EvB.step (f := fun _ => some false) (fun k => by rw [e, if_neg hc]) (EvB.no fun h => hc h.1)
theorem rName (s : ByteArray) : EvB (fun k => rowlockref12_Name.f k s) (nameP s) := by
  by_cases h1 : (s.size : Int) < 1
  · refine EvB.congr (fun k => by rw [rowlockref12_Name.f, if_pos h1]) (EvB.step (f := fun _ => some false) (fun k => by rw [rowlockref12_Name.j0, if_pos rfl]) (EvB.no fun h => ?_))
    have := h.1
    omega
  · by_cases h2 : (s.size : Int) > 24
    · refine EvB.congr (fun k => by rw [rowlockref12_Name.f, if_neg h1]) (EvB.step (f := fun _ => some false) (fun k => by rw [rowlockref12_Name.j0, if_pos (by simpa using h2)]) (EvB.no fun h => ?_))
      have := h.2.1
      omega
    · have hend : EvB (fun k => rowlockref12_Name.l0 k s (s.size : Int)) True := EvB.step (f := fun _ => some true) (fun k => by rw [rowlockref12_Name.l0, if_neg (by omega)]) (EvB.yes trivial)
      have := EvB.loop (g := fun i k => rowlockref12_Name.l0 k s (i : Int)) s.size (fun i => chk (bt s i) i) _ hend (fun i Q hi h => rName_step s (by omega) i Q hi h) s.size 0 (by omega)
      refine EvB.congr (fun k => by rw [rowlockref12_Name.f, if_neg h1]) (EvB.step (f := fun k => rowlockref12_Name.l0 k s ((0 : Nat) : Int)) (fun k => by rw [rowlockref12_Name.j0, if_neg (by simpa using h2)]; rfl) (this.imp ⟨fun h => ⟨by omega, by omega, fun i hi => h.1 i (Nat.zero_le _) hi⟩, fun h => ⟨fun i _ hi => h.2.2 i hi, trivial⟩⟩))
/-! ### numbers -/
def numP (n : Int) : Prop := 0 ≤ n ∧ n < 2147483648
theorem rNum (n : Int) : EvB (fun _ => rowlockref12_number.f n) (numP n) := by
  unfold rowlockref12_number.f numP
  by_cases h : n ≥ 0
  · simp only [if_pos h]
    exact EvB.dec.imp (by omega)
  · simp only [if_neg h]
    exact EvB.no (by omega)
theorem EvB.andT {g A B : Nat → Option Bool} {P Q : Prop} (h : EvB g P) (hn : ¬ P → EvB B False) (hy : P → EvB A Q) : EvB (fun k => (g k).bind fun t => if t = true then A k else B k) (P ∧ Q) :=
  EvB.and (f := fun k t => if t = true then A k else B k) h (fun hp => (EvB.congr (fun k => if_neg (by decide)) (hn hp)).imp ⟨False.elim, fun h => hp h.1⟩) (fun hp => EvB.congr (fun k => if_pos rfl) (hy hp))
theorem EvB.iteT {A B : Nat → Option Bool} {c P : Prop} [Decidable c] (hy : c → EvB A P) (hn : ¬ c → EvB B P) : EvB (fun k => if c then A k else B k) P := by
  by_cases h : c
  · exact EvB.congr (fun k => if_pos h) (hy h)
  · exact EvB.congr (fun k => if_neg h) (hn h)
/-! ### what may be -/
def colP (c : S87) : Prop := nameP c.f0 ∧ 1 ≤ c.f1 ∧ c.f1 ≤ 3 ∧ numP c.f2 ∧ numP c.f3
def newC (L : List S87) (i : Nat) : Prop := ∀ j : Nat, j < i → (rd_T87 L (j : Int)).f0.toList ≠ (rd_T87 L (i : Int)).f0.toList
def tableP (t : S84) : Prop := nameP t.f0 ∧ 1 ≤ t.f1.length ∧ t.f1.length ≤ 8 ∧ numP t.f2 ∧ numP t.f3 ∧ numP t.f4 ∧ ∀ i : Nat, i < t.f1.length → colP (rd_T87 t.f1 (i : Int)) ∧ newC t.f1 i
def colW (c : S87) : Prop := 0 ≤ c.f1 ∧ c.f1 ≤ 255
def tableW (t : S84) : Prop := 0 ≤ t.f2 ∧ t.f2 < 4294967296 ∧ ∀ i : Nat, i < t.f1.length → colW (rd_T87 t.f1 (i : Int))
def colsP (T : List S84) (x : S135) : Prop := ∀ i : Nat, i < x.f2.length → 0 ≤ rd x.f2 (i : Int) ∧ rd x.f2 (i : Int) < (rd_T84 T x.f1).f1.length
def indexP (T : List S84) (x : S135) : Prop := nameP x.f0 ∧ (0 ≤ x.f1 ∧ x.f1 < T.length) ∧ (1 ≤ x.f2.length ∧ x.f2.length ≤ 2) ∧ x.f6.length = x.f2.length ∧ colsP T x ∧ (∀ i : Nat, i < x.f6.length → numP (rd x.f6 (i : Int))) ∧ (x.f2.length = 2 → rd x.f2 0 ≠ rd x.f2 1) ∧ numP x.f3 ∧ numP x.f4 ∧ numP x.f5
def indexW (x : S135) : Prop := 0 ≤ x.f3 ∧ x.f3 < 4294967296
def newT (T : List S84) (i : Nat) : Prop := ∀ j : Nat, j < i → (rd_T84 T (j : Int)).f0.toList ≠ (rd_T84 T (i : Int)).f0.toList
def newX (X : List S135) (i : Nat) : Prop := ∀ j : Nat, j < i → (rd_T135 X (j : Int)).f0.toList ≠ (rd_T135 X (i : Int)).f0.toList
def MayP (T : List S84) (X : List S135) : Prop := (T.length ≤ 16 ∧ X.length ≤ 16) ∧ (∀ i : Nat, i < T.length → tableP (rd_T84 T (i : Int)) ∧ newT T i) ∧ ∀ i : Nat, i < X.length → indexP T (rd_T135 X (i : Int)) ∧ newX X i
def bookW (T : List S84) (X : List S135) : Prop := (∀ i : Nat, i < T.length → tableW (rd_T84 T (i : Int))) ∧ ∀ i : Nat, i < X.length → indexW (rd_T135 X (i : Int))
instance chkDec (c i : Int) : Decidable (chk c i) := by unfold chk; infer_instance
instance nameDec (s : ByteArray) : Decidable (nameP s) := by unfold nameP; infer_instance
instance numDec (n : Int) : Decidable (numP n) := by unfold numP; infer_instance
instance colDec (c : S87) : Decidable (colP c) := by unfold colP; infer_instance
instance newCDec (L : List S87) (i : Nat) : Decidable (newC L i) := by unfold newC; infer_instance
instance tableDec (t : S84) : Decidable (tableP t) := by unfold tableP; infer_instance
instance colWDec (c : S87) : Decidable (colW c) := by unfold colW; infer_instance
instance tableWDec (t : S84) : Decidable (tableW t) := by unfold tableW; infer_instance
instance colsDec (T : List S84) (x : S135) : Decidable (colsP T x) := by unfold colsP; infer_instance
instance indexDec (T : List S84) (x : S135) : Decidable (indexP T x) := by unfold indexP; infer_instance
instance indexWDec (x : S135) : Decidable (indexW x) := by unfold indexW; infer_instance
instance newTDec (T : List S84) (i : Nat) : Decidable (newT T i) := by unfold newT; infer_instance
instance newXDec (X : List S135) (i : Nat) : Decidable (newX X i) := by unfold newX; infer_instance
instance mayDec (T : List S84) (X : List S135) : Decidable (MayP T X) := by unfold MayP; infer_instance
instance bookWDec (T : List S84) (X : List S135) : Decidable (bookW T X) := by unfold bookW; infer_instance
end Go.Proofs.Ytpfegfkniilobaa.PureS
