/- The eye and the reference's reader read alike, in plain Lean. Conditions: none. -/
import Derived.Test.YtpfegfkniilobaaGgetm
namespace Go.Proofs.Ytpfegfkniilobaa.PureS
open Go.RowKit Go.Proofs.YtpfegfkniilobaaW.PrintWords Go.Proofs.Ytpfegfkniilobaa.XSchema
open Go.Proofs.Ytpfegfkniilobaa.Tk (tk cnt txR nmR colR colsR tabR tabE tabsR idsR numsR idxR idxE idxF idxG idxsR getR getG nv St tk_len)
open Go.Proofs.Ytpfegfkniilobaa.Rr (rt rnb rtx rcol rcolE rcols rcols_bad rtab rtabE rns rns_bad ridx ridxD ridxF ridxG rtabs rtabs_bad ridxs ridxs_bad rget rgetG nv_one)
set_option linter.unusedVariables false
set_option linter.unusedSimpArgs false
/-- Two readings: the same, and nothing was missing; or something was, in both. -/
def Sm {α : Type} (x y : α × St) : Prop := (x.2.2 = false ∧ y = x) ∨ (x.2.2 = true ∧ y.2.2 = true)
theorem Sm.bind {α β : Type} {x y : α × St} (f g : α × St → β × St) (h : Sm x y) (h1 : ∀ z, z.2.2 = false → Sm (f z) (g z)) (h2 : ∀ z, z.2.2 = true → (f z).2.2 = true) (h3 : ∀ z, z.2.2 = true → (g z).2.2 = true) : Sm (f x) (g y) := by
  rcases h with ⟨a, rfl⟩ | ⟨a, b⟩
  · exact h1 _ a
  · exact .inr ⟨h2 _ a, h3 _ b⟩
theorem Sm.val {α : Type} {s : St} (v : α) (h : s.2 = false) : Sm (v, s) (v, s) := .inl ⟨h, rfl⟩
/-! ### what is bad stays bad -/
theorem tk_b (xs : List Int) (b : Bool) (n : Int) (h : b = true) : (tk xs b n).2.2 = true := by
  subst h
  unfold tk
  split <;> rfl
theorem rt_b (s : St) (n : Int) (h : s.2 = true) : (rt s n).2.2 = true := by rw [rt, if_pos (.inl h)]
theorem cnt_b {s : St} (h : s.2 = true) : (cnt s).2.2 = true := tk_b _ _ _ h
theorem nmR_b {s : St} (h : s.2 = true) : (nmR s).2.2 = true := tk_b _ _ _ h
theorem txR_b {s : St} (h : s.2 = true) : (txR s).2.2 = true := tk_b _ _ _ (cnt_b h)
theorem rnb_b {s : St} (m : Int) (h : s.2 = true) : (rnb m s).2.2 = true := rt_b _ _ h
theorem rtx_b {s : St} (h : s.2 = true) : (rtx s).2.2 = true := rt_b _ _ (rnb_b 1 h)
theorem colR_b {s : St} (h : s.2 = true) : (colR s).2.2 = true := nmR_b (nmR_b (cnt_b (txR_b h)))
theorem rcol_b {s : St} (h : s.2 = true) : (rcol s).2.2 = true := rnb_b 4 (rnb_b 4 (rnb_b 1 (rtx_b h)))
theorem colsR_b : ∀ (n : Nat) (cs : List S87) {s : St}, s.2 = true → (colsR n cs s).2.2 = true
  | 0, _, _, h => h
  | n + 1, cs, s, h => colsR_b n _ (colR_b h)
theorem idsR_b : ∀ (n : Nat) (cs : List Int) {s : St}, s.2 = true → (idsR n cs s).2.2 = true
  | 0, _, _, h => h
  | n + 1, cs, s, h => idsR_b n _ (cnt_b h)
theorem numsR_b : ∀ (n : Nat) (cs : List Int) {s : St}, s.2 = true → (numsR n cs s).2.2 = true
  | 0, _, _, h => h
  | n + 1, cs, s, h => numsR_b n _ (nmR_b h)
theorem rcols_b (n : Nat) (cs : List S87) {s : St} (h : s.2 = true) : (rcols n cs s).2.2 = true := by rw [rcols_bad n cs s h]; exact h
theorem rns_b (m : Int) (n : Nat) (cs : List Int) {s : St} (h : s.2 = true) : (rns m n cs s).2.2 = true := by rw [rns_bad m n cs s h]; exact h
theorem tabE_b (a : ByteArray) {c : List S87 × St} (h : c.2.2 = true) : (tabE a c).2.2 = true := nmR_b (nmR_b (nmR_b h))
theorem rtabE_b (a : ByteArray) {c : List S87 × St} (h : c.2.2 = true) : (rtabE a c).2.2 = true := rnb_b 4 (rnb_b 4 (rnb_b 4 h))
theorem tabR_b {s : St} (h : s.2 = true) : (tabR s).2.2 = true := tabE_b _ (colsR_b _ _ (cnt_b (txR_b h)))
theorem rtab_b {s : St} (h : s.2 = true) : (rtab s).2.2 = true := rtabE_b _ (rcols_b _ _ (rnb_b 1 (rtx_b h)))
theorem idxG_b (a : ByteArray) (t : Int) {c : List Int × St} (h : c.2.2 = true) : (idxG a t c).2.2 = true := numsR_b _ _ (nmR_b (nmR_b (nmR_b h)))
theorem ridxG_b (a : ByteArray) (t : Int) (n : Nat) {c : List Int × St} (h : c.2.2 = true) : (ridxG a t n c).2.2 = true := rns_b 4 _ _ (rnb_b 4 (rnb_b 4 (rnb_b 4 h)))
theorem idxR_b {s : St} (h : s.2 = true) : (idxR s).2.2 = true := idxG_b _ _ (idsR_b _ _ (cnt_b (cnt_b (txR_b h))))
theorem ridx_b {s : St} (h : s.2 = true) : (ridx s).2.2 = true := ridxG_b _ _ _ (rns_b 1 _ _ (rnb_b 1 (rnb_b 1 (rtx_b h))))
theorem tabsR_b : ∀ (n : Nat) (cs : List S84) {s : St}, s.2 = true → (tabsR n cs s).2.2 = true
  | 0, _, _, h => h
  | n + 1, cs, s, h => tabsR_b n _ (tabR_b h)
theorem idxsR_b : ∀ (n : Nat) (cs : List S135) {s : St}, s.2 = true → (idxsR n cs s).2.2 = true
  | 0, _, _, h => h
  | n + 1, cs, s, h => idxsR_b n _ (idxR_b h)
theorem rtabs_b (n : Nat) (cs : List S84) {s : St} (h : s.2 = true) : (rtabs n cs s).2.2 = true := by rw [rtabs_bad n cs s h]; exact h
theorem ridxs_b (n : Nat) (cs : List S135) {s : St} (h : s.2 = true) : (ridxs n cs s).2.2 = true := by rw [ridxs_bad n cs s h]; exact h
/-! ### alike -/
theorem sm_tk (s : St) (n : Int) (h : s.2 = false) : Sm (tk s.1 s.2 n) (rt s n) := by
  unfold tk rt
  by_cases hl : n ≤ s.1.length
  · rw [if_pos hl, if_neg (by
      rintro (h1 | h1)
      · rw [h] at h1; cases h1
      · omega)]
    exact .inl ⟨h, by rw [h]; rfl⟩
  · rw [if_neg hl, if_pos (.inr (by omega))]
    exact .inr ⟨rfl, rfl⟩
theorem Sm.map {α β : Type} {x y : α × St} (F : α → β) (h : Sm x y) : Sm (F x.1, x.2) (F y.1, y.2) := by
  rcases h with ⟨a, rfl⟩ | h
  · exact .inl ⟨a, rfl⟩
  · exact .inr h
theorem sm_nm (s : St) (h : s.2 = false) : Sm (nmR s) (rnb 4 s) := Sm.map nv (sm_tk s 4 h)
theorem sm_cnt (s : St) (h : s.2 = false) : Sm (cnt s) (rnb 1 s) := by
  have e : cnt s = (nv (tk s.1 s.2 1).1, (tk s.1 s.2 1).2) := by
    unfold cnt
    rw [nv_one (by rw [tk_len s.1 s.2 1 (by omega)]; rfl)]
    rfl
  rw [e]
  exact Sm.map nv (sm_tk s 1 h)
theorem sm_tx (s : St) (h : s.2 = false) : Sm (txR s) (rtx s) :=
  Sm.bind (fun z : Int × St => (strOfNums (tk z.2.1 z.2.2 z.1).1, (tk z.2.1 z.2.2 z.1).2)) (fun z => (strOfNums (rt z.2 z.1).1, (rt z.2 z.1).2)) (sm_cnt s h) (fun z hz => Sm.map strOfNums (sm_tk z.2 z.1 hz)) (fun z hz => tk_b _ _ _ hz) (fun z hz => rt_b _ _ hz)
theorem sm_col (s : St) (h : s.2 = false) : Sm (colR s) (rcol s) :=
  Sm.bind (fun z : ByteArray × St => ((⟨z.1, (cnt z.2).1, (nmR (cnt z.2).2).1, (nmR (nmR (cnt z.2).2).2).1⟩ : S87), (nmR (nmR (cnt z.2).2).2).2)) (fun z => ((⟨z.1, (rnb 1 z.2).1, (rnb 4 (rnb 1 z.2).2).1, (rnb 4 (rnb 4 (rnb 1 z.2).2).2).1⟩ : S87), (rnb 4 (rnb 4 (rnb 1 z.2).2).2).2)) (sm_tx s h)
    (fun z hz => Sm.bind (fun y : Int × St => ((⟨z.1, y.1, (nmR y.2).1, (nmR (nmR y.2).2).1⟩ : S87), (nmR (nmR y.2).2).2)) (fun y => ((⟨z.1, y.1, (rnb 4 y.2).1, (rnb 4 (rnb 4 y.2).2).1⟩ : S87), (rnb 4 (rnb 4 y.2).2).2)) (sm_cnt z.2 hz)
      (fun y hy => Sm.bind (fun x : Int × St => ((⟨z.1, y.1, x.1, (nmR x.2).1⟩ : S87), (nmR x.2).2)) (fun x => ((⟨z.1, y.1, x.1, (rnb 4 x.2).1⟩ : S87), (rnb 4 x.2).2)) (sm_nm y.2 hy)
        (fun x hx => Sm.map (fun v => (⟨z.1, y.1, x.1, v⟩ : S87)) (sm_nm x.2 hx)) (fun x hx => nmR_b hx) (fun x hx => rnb_b 4 hx))
      (fun y hy => nmR_b (nmR_b hy)) (fun y hy => rnb_b 4 (rnb_b 4 hy)))
    (fun z hz => nmR_b (nmR_b (cnt_b hz))) (fun z hz => rnb_b 4 (rnb_b 4 (rnb_b 1 hz)))
theorem good {s : St} (h : s.2 = false) : ¬ s.2 = true := by rw [h]; decide
theorem sm_cols : ∀ (n : Nat) (cs : List S87) (s : St), s.2 = false → Sm (colsR n cs s) (rcols n cs s)
  | 0, cs, s, h => Sm.val cs h
  | n + 1, cs, s, h => by
    rw [rcols, if_neg (good h)]
    exact Sm.bind (fun z : S87 × St => colsR n (cs ++ [z.1]) z.2) (fun z => rcols n (cs ++ [z.1]) z.2) (sm_col s h) (fun z hz => sm_cols n _ z.2 hz) (fun z hz => colsR_b n _ hz) (fun z hz => rcols_b n _ hz)
theorem sm_ids : ∀ (n : Nat) (cs : List Int) (s : St), s.2 = false → Sm (idsR n cs s) (rns 1 n cs s)
  | 0, cs, s, h => Sm.val cs h
  | n + 1, cs, s, h => by
    rw [rns, if_neg (good h)]
    exact Sm.bind (fun z : Int × St => idsR n (cs ++ [z.1]) z.2) (fun z => rns 1 n (cs ++ [z.1]) z.2) (sm_cnt s h) (fun z hz => sm_ids n _ z.2 hz) (fun z hz => idsR_b n _ hz) (fun z hz => rns_b 1 n _ hz)
theorem sm_nums : ∀ (n : Nat) (cs : List Int) (s : St), s.2 = false → Sm (numsR n cs s) (rns 4 n cs s)
  | 0, cs, s, h => Sm.val cs h
  | n + 1, cs, s, h => by
    rw [rns, if_neg (good h)]
    exact Sm.bind (fun z : Int × St => numsR n (cs ++ [z.1]) z.2) (fun z => rns 4 n (cs ++ [z.1]) z.2) (sm_nm s h) (fun z hz => sm_nums n _ z.2 hz) (fun z hz => numsR_b n _ hz) (fun z hz => rns_b 4 n _ hz)
theorem sm_tabE (a : ByteArray) (c : List S87 × St) (h : c.2.2 = false) : Sm (tabE a c) (rtabE a c) :=
  Sm.bind (fun y : Int × St => ((⟨a, c.1, y.1, (nmR y.2).1, (nmR (nmR y.2).2).1⟩ : S84), (nmR (nmR y.2).2).2)) (fun y => ((⟨a, c.1, y.1, (rnb 4 y.2).1, (rnb 4 (rnb 4 y.2).2).1⟩ : S84), (rnb 4 (rnb 4 y.2).2).2)) (sm_nm c.2 h)
    (fun y hy => Sm.bind (fun x : Int × St => ((⟨a, c.1, y.1, x.1, (nmR x.2).1⟩ : S84), (nmR x.2).2)) (fun x => ((⟨a, c.1, y.1, x.1, (rnb 4 x.2).1⟩ : S84), (rnb 4 x.2).2)) (sm_nm y.2 hy)
      (fun x hx => Sm.map (fun v => (⟨a, c.1, y.1, x.1, v⟩ : S84)) (sm_nm x.2 hx)) (fun x hx => nmR_b hx) (fun x hx => rnb_b 4 hx))
    (fun y hy => nmR_b (nmR_b hy)) (fun y hy => rnb_b 4 (rnb_b 4 hy))
theorem sm_tab (s : St) (h : s.2 = false) : Sm (tabR s) (rtab s) :=
  Sm.bind (fun z : ByteArray × St => tabE z.1 (colsR (cnt z.2).1.toNat [] (cnt z.2).2)) (fun z => rtabE z.1 (rcols (rnb 1 z.2).1.toNat [] (rnb 1 z.2).2)) (sm_tx s h)
    (fun z hz => Sm.bind (fun y : Int × St => tabE z.1 (colsR y.1.toNat [] y.2)) (fun y => rtabE z.1 (rcols y.1.toNat [] y.2)) (sm_cnt z.2 hz)
      (fun y hy => Sm.bind (fun c : List S87 × St => tabE z.1 c) (fun c => rtabE z.1 c) (sm_cols y.1.toNat [] y.2 hy) (fun c hc => sm_tabE z.1 c hc) (fun c hc => tabE_b _ hc) (fun c hc => rtabE_b _ hc))
      (fun y hy => tabE_b _ (colsR_b _ _ hy)) (fun y hy => rtabE_b _ (rcols_b _ _ hy)))
    (fun z hz => tabE_b _ (colsR_b _ _ (cnt_b hz))) (fun z hz => rtabE_b _ (rcols_b _ _ (rnb_b 1 hz)))
theorem idsR_len : ∀ (n : Nat) (cs : List Int) (s : St), (idsR n cs s).1.length = cs.length + n
  | 0, _, _ => rfl
  | n + 1, cs, s => by
    show (idsR n (cs ++ [(cnt s).1]) (cnt s).2).1.length = _
    rw [idsR_len n, List.length_append, List.length_singleton]
    omega
theorem sm_idxG (a : ByteArray) (t : Int) (n : Nat) (c : List Int × St) (hn : c.1.length = n) (h : c.2.2 = false) : Sm (idxG a t c) (ridxG a t n c) := by
  subst hn
  exact Sm.bind (fun f : Int × St => ((⟨a, t, c.1, f.1, (nmR f.2).1, (nmR (nmR f.2).2).1, (numsR c.1.length [] (nmR (nmR f.2).2).2).1⟩ : S135), (numsR c.1.length [] (nmR (nmR f.2).2).2).2)) (fun f => ((⟨a, t, c.1, f.1, (rnb 4 f.2).1, (rnb 4 (rnb 4 f.2).2).1, (rns 4 c.1.length [] (rnb 4 (rnb 4 f.2).2).2).1⟩ : S135), (rns 4 c.1.length [] (rnb 4 (rnb 4 f.2).2).2).2)) (sm_nm c.2 h)
    (fun f hf => Sm.bind (fun l : Int × St => ((⟨a, t, c.1, f.1, l.1, (nmR l.2).1, (numsR c.1.length [] (nmR l.2).2).1⟩ : S135), (numsR c.1.length [] (nmR l.2).2).2)) (fun l => ((⟨a, t, c.1, f.1, l.1, (rnb 4 l.2).1, (rns 4 c.1.length [] (rnb 4 l.2).2).1⟩ : S135), (rns 4 c.1.length [] (rnb 4 l.2).2).2)) (sm_nm f.2 hf)
      (fun l hl => Sm.bind (fun p : Int × St => ((⟨a, t, c.1, f.1, l.1, p.1, (numsR c.1.length [] p.2).1⟩ : S135), (numsR c.1.length [] p.2).2)) (fun p => ((⟨a, t, c.1, f.1, l.1, p.1, (rns 4 c.1.length [] p.2).1⟩ : S135), (rns 4 c.1.length [] p.2).2)) (sm_nm l.2 hl)
        (fun p hp => Sm.map (fun d => (⟨a, t, c.1, f.1, l.1, p.1, d⟩ : S135)) (sm_nums c.1.length [] p.2 hp)) (fun p hp => numsR_b _ _ hp) (fun p hp => rns_b 4 _ _ hp))
      (fun l hl => numsR_b _ _ (nmR_b hl)) (fun l hl => rns_b 4 _ _ (rnb_b 4 hl)))
    (fun f hf => numsR_b _ _ (nmR_b (nmR_b hf))) (fun f hf => rns_b 4 _ _ (rnb_b 4 (rnb_b 4 hf)))
theorem sm_idxN (a : ByteArray) (t : Int) (m : Int × St) (h : m.2.2 = false) : Sm (idxG a t (idsR m.1.toNat [] m.2)) (ridxG a t m.1.toNat (rns 1 m.1.toNat [] m.2)) := by
  rcases sm_ids m.1.toNat [] m.2 h with ⟨g, e⟩ | ⟨g, e⟩
  · rw [e]
    exact sm_idxG a t _ _ (by rw [idsR_len]; simp) g
  · exact .inr ⟨idxG_b _ _ g, ridxG_b _ _ _ e⟩
theorem sm_idx (s : St) (h : s.2 = false) : Sm (idxR s) (ridx s) :=
  Sm.bind (fun z : ByteArray × St => idxG z.1 (cnt z.2).1 (idsR (cnt (cnt z.2).2).1.toNat [] (cnt (cnt z.2).2).2)) (fun z => ridxG z.1 (rnb 1 z.2).1 (rnb 1 (rnb 1 z.2).2).1.toNat (rns 1 (rnb 1 (rnb 1 z.2).2).1.toNat [] (rnb 1 (rnb 1 z.2).2).2)) (sm_tx s h)
    (fun z hz => Sm.bind (fun t : Int × St => idxG z.1 t.1 (idsR (cnt t.2).1.toNat [] (cnt t.2).2)) (fun t => ridxG z.1 t.1 (rnb 1 t.2).1.toNat (rns 1 (rnb 1 t.2).1.toNat [] (rnb 1 t.2).2)) (sm_cnt z.2 hz)
      (fun t ht => Sm.bind (fun m : Int × St => idxG z.1 t.1 (idsR m.1.toNat [] m.2)) (fun m => ridxG z.1 t.1 m.1.toNat (rns 1 m.1.toNat [] m.2)) (sm_cnt t.2 ht)
        (fun m hm => sm_idxN z.1 t.1 m hm) (fun m hm => idxG_b _ _ (idsR_b _ _ hm)) (fun m hm => ridxG_b _ _ _ (rns_b 1 _ _ hm)))
      (fun t ht => idxG_b _ _ (idsR_b _ _ (cnt_b ht))) (fun t ht => ridxG_b _ _ _ (rns_b 1 _ _ (rnb_b 1 ht))))
    (fun z hz => idxG_b _ _ (idsR_b _ _ (cnt_b (cnt_b hz)))) (fun z hz => ridxG_b _ _ _ (rns_b 1 _ _ (rnb_b 1 (rnb_b 1 hz))))
theorem sm_tabs : ∀ (n : Nat) (cs : List S84) (s : St), s.2 = false → Sm (tabsR n cs s) (rtabs n cs s)
  | 0, cs, s, h => Sm.val cs h
  | n + 1, cs, s, h => by
    rw [rtabs, if_neg (good h)]
    exact Sm.bind (fun z : S84 × St => tabsR n (cs ++ [z.1]) z.2) (fun z => rtabs n (cs ++ [z.1]) z.2) (sm_tab s h) (fun z hz => sm_tabs n _ z.2 hz) (fun z hz => tabsR_b n _ hz) (fun z hz => rtabs_b n _ hz)
theorem sm_idxs : ∀ (n : Nat) (cs : List S135) (s : St), s.2 = false → Sm (idxsR n cs s) (ridxs n cs s)
  | 0, cs, s, h => Sm.val cs h
  | n + 1, cs, s, h => by
    rw [ridxs, if_neg (good h)]
    exact Sm.bind (fun z : S135 × St => idxsR n (cs ++ [z.1]) z.2) (fun z => ridxs n (cs ++ [z.1]) z.2) (sm_idx s h) (fun z hz => sm_idxs n _ z.2 hz) (fun z hz => idxsR_b n _ hz) (fun z hz => ridxs_b n _ hz)
/-- The eye and the reference read alike. -/
theorem sm_get (s : St) (h : s.2 = false) : Sm (getR s) (rget s) :=
  Sm.bind (fun z : Int × St => getG (tabsR z.1.toNat [] z.2)) (fun z => rgetG (rtabs z.1.toNat [] z.2)) (sm_cnt s h)
    (fun z hz => Sm.bind (fun t : List S84 × St => getG t) (fun t => rgetG t) (sm_tabs z.1.toNat [] z.2 hz)
      (fun t ht => Sm.bind (fun m : Int × St => ((t.1, (idxsR m.1.toNat [] m.2).1), (idxsR m.1.toNat [] m.2).2)) (fun m => ((t.1, (ridxs m.1.toNat [] m.2).1), (ridxs m.1.toNat [] m.2).2)) (sm_cnt t.2 ht)
        (fun m hm => Sm.map (fun X => (t.1, X)) (sm_idxs m.1.toNat [] m.2 hm)) (fun m hm => idxsR_b _ _ hm) (fun m hm => ridxs_b _ _ hm))
      (fun t ht => idxsR_b _ _ (cnt_b ht)) (fun t ht => ridxs_b _ _ (rnb_b 1 ht)))
    (fun z hz => idxsR_b _ _ (cnt_b (tabsR_b _ _ hz))) (fun z hz => ridxs_b _ _ (rnb_b 1 (rtabs_b _ _ hz)))
end Go.Proofs.Ytpfegfkniilobaa.PureS
namespace Go.Proofs.Ytpfegfkniilobaa.PureS
open Go.RowKit Go.Proofs.YtpfegfkniilobaaW.PrintWords Go.Proofs.Ytpfegfkniilobaa.XSchema
open Go.Proofs.Ytpfegfkniilobaa.Tk (tk cnt txR nmR colR colsR tabR tabE tabsR idsR numsR idxR idxE idxF idxG idxsR getR getG nv St tk_len cnt_ok txR_ok nmR_ok cnt_in)
set_option linter.unusedVariables false
set_option linter.unusedSimpArgs false
theorem bytesOf_str {l : List Int} (h : Tk.By l) : bytesOf (strOfNums l) = l := by
  simp only [bytesOf, strOfNums, List.map_map]
  show List.map ((fun b : UInt8 => ((b.toNat : Nat) : Int)) ∘ fun n : Int => UInt8.ofNat n.toNat) l = l
  conv => rhs; rw [← List.map_id l]
  refine List.map_congr_left fun x hx => ?_
  have h1 := h x hx
  show (((UInt8.ofNat x.toNat).toNat : Nat) : Int) = x
  have h2 : (UInt8.ofNat x.toNat).toNat = x.toNat % 256 := rfl
  rw [h2]
  omega
theorem tk_w {s : St} {n : Int} (g : (tk s.1 s.2 n).2.2 = false) : s.1 = (tk s.1 s.2 n).1 ++ (tk s.1 s.2 n).2.1 ∧ s.2 = false := by
  unfold tk at g ⊢
  split at g
  · rename_i h
    rw [if_pos h]
    exact ⟨(List.take_append_drop _ _).symm, g⟩
  · cases g
theorem tk_byt {s : St} (h : St.ok s) (n : Int) : Tk.By (tk s.1 s.2 n).1 := Tk.By.tk1 h.1 s.2 n
theorem cnt_w {s : St} (h : St.ok s) (g : (cnt s).2.2 = false) : s.1 = be1 (cnt s).1 ++ (cnt s).2.1 ∧ s.2 = false := by
  obtain ⟨e, f⟩ := tk_w (n := 1) g
  refine ⟨?_, f⟩
  have hl : (tk s.1 s.2 1).1.length = 1 := by rw [tk_len s.1 s.2 1 (by omega)]; rfl
  have hb := tk_byt h 1
  unfold cnt
  simp only
  obtain ⟨x, hx⟩ := List.length_eq_one_iff.1 hl
  rw [hx] at hb e ⊢
  have hx1 := hb x (List.mem_singleton.2 rfl)
  have e1 : be1 (rd [x] 0) = [x] := by
    show [x % 256] = [x]
    rw [show x % 256 = x by omega]
  rw [e1]
  exact e
theorem nm_w {s : St} (h : St.ok s) (g : (nmR s).2.2 = false) : s.1 = be4 (nmR s).1 ++ (nmR s).2.1 ∧ s.2 = false := by
  obtain ⟨e, f⟩ := tk_w (n := 4) g
  refine ⟨?_, f⟩
  have hl : (tk s.1 s.2 4).1.length = 4 := by rw [tk_len s.1 s.2 4 (by omega)]; rfl
  have hb := tk_byt h 4
  unfold nmR
  simp only
  generalize (tk s.1 s.2 4).1 = l at hl hb e ⊢
  match l, hl with
  | [a, b, c, d], _ =>
    have ha := hb a (by simp)
    have hb1 := hb b (by simp)
    have hc := hb c (by simp)
    have hd := hb d (by simp)
    have e1 : be4 (nv [a, b, c, d]) = [a, b, c, d] := by
      simp only [nv, be4, List.foldl_cons, List.foldl_nil]
      rw [show (((0 * 256 + a) * 256 + b) * 256 + c) * 256 + d = a * 16777216 + b * 65536 + c * 256 + d by omega]
      rw [show (a * 16777216 + b * 65536 + c * 256 + d) / 16777216 % 256 = a by omega, show (a * 16777216 + b * 65536 + c * 256 + d) / 65536 % 256 = b by omega, show (a * 16777216 + b * 65536 + c * 256 + d) / 256 % 256 = c by omega, show (a * 16777216 + b * 65536 + c * 256 + d) % 256 = d by omega]
    rw [e1]
    exact e
theorem tx_w {s : St} (h : St.ok s) (g : (txR s).2.2 = false) : s.1 = txt (txR s).1 ++ (txR s).2.1 ∧ s.2 = false := by
  obtain ⟨e2, f2⟩ := tk_w (s := (cnt s).2) (n := (cnt s).1) g
  obtain ⟨e1, f1⟩ := cnt_w h f2
  refine ⟨?_, f1⟩
  have hl : (tk (cnt s).2.1 (cnt s).2.2 (cnt s).1).1.length = (cnt s).1.toNat := tk_len _ _ _ (cnt_in h).1
  have hb := tk_byt (cnt_ok h) (cnt s).1
  have hc := (cnt_in h).1
  unfold txR
  simp only
  rw [txt, bytesOf_str hb, Byt.str_size, hl, List.append_assoc, show (((cnt s).1.toNat : Nat) : Int) = (cnt s).1 by omega, ← e2]
  exact e1
theorem col_w {s : St} (h : St.ok s) (g : (colR s).2.2 = false) : s.1 = wrC (colR s).1 ++ (colR s).2.1 ∧ s.2 = false := by
  have o1 := txR_ok h
  have o2 := cnt_ok o1
  have o3 := nmR_ok o2
  obtain ⟨e4, f4⟩ := nm_w o3 g
  obtain ⟨e3, f3⟩ := nm_w o2 f4
  obtain ⟨e2, f2⟩ := cnt_w o1 f3
  obtain ⟨e1, f1⟩ := tx_w h f2
  refine ⟨?_, f1⟩
  unfold colR
  simp only [wrC, List.append_assoc]
  rw [← e4, ← e3, ← e2]
  exact e1
theorem colR_ok {s : St} (h : St.ok s) : St.ok (colR s).2 := nmR_ok (nmR_ok (cnt_ok (txR_ok h)))
theorem cols_w : ∀ (n : Nat) (cs : List S87) {s : St}, St.ok s → (colsR n cs s).2.2 = false → ∃ L, (colsR n cs s).1 = cs ++ L ∧ L.length = n ∧ s.1 = L.flatMap wrC ++ (colsR n cs s).2.1 ∧ s.2 = false
  | 0, cs, s, h, g => ⟨[], (List.append_nil cs).symm, rfl, rfl, g⟩
  | n + 1, cs, s, h, g => by
    obtain ⟨L, e1, e2, e3, e4⟩ := cols_w n (cs ++ [(colR s).1]) (colR_ok h) g
    obtain ⟨e5, e6⟩ := col_w h e4
    refine ⟨(colR s).1 :: L, ?_, by rw [List.length_cons, e2], ?_, e6⟩
    · show (colsR n (cs ++ [(colR s).1]) (colR s).2).1 = _
      rw [e1, List.append_assoc]; rfl
    · show s.1 = _ ++ (colsR n (cs ++ [(colR s).1]) (colR s).2).2.1
      rw [List.flatMap_cons, List.append_assoc, ← e3]
      exact e5
theorem ids_w : ∀ (n : Nat) (cs : List Int) {s : St}, St.ok s → (idsR n cs s).2.2 = false → ∃ L, (idsR n cs s).1 = cs ++ L ∧ L.length = n ∧ s.1 = L.flatMap be1 ++ (idsR n cs s).2.1 ∧ s.2 = false
  | 0, cs, s, h, g => ⟨[], (List.append_nil cs).symm, rfl, rfl, g⟩
  | n + 1, cs, s, h, g => by
    obtain ⟨L, e1, e2, e3, e4⟩ := ids_w n (cs ++ [(cnt s).1]) (cnt_ok h) g
    obtain ⟨e5, e6⟩ := cnt_w h e4
    refine ⟨(cnt s).1 :: L, ?_, by rw [List.length_cons, e2], ?_, e6⟩
    · show (idsR n (cs ++ [(cnt s).1]) (cnt s).2).1 = _
      rw [e1, List.append_assoc]; rfl
    · show s.1 = _ ++ (idsR n (cs ++ [(cnt s).1]) (cnt s).2).2.1
      rw [List.flatMap_cons, List.append_assoc, ← e3]
      exact e5
theorem nums_w : ∀ (n : Nat) (cs : List Int) {s : St}, St.ok s → (numsR n cs s).2.2 = false → ∃ L, (numsR n cs s).1 = cs ++ L ∧ L.length = n ∧ s.1 = L.flatMap be4 ++ (numsR n cs s).2.1 ∧ s.2 = false
  | 0, cs, s, h, g => ⟨[], (List.append_nil cs).symm, rfl, rfl, g⟩
  | n + 1, cs, s, h, g => by
    obtain ⟨L, e1, e2, e3, e4⟩ := nums_w n (cs ++ [(nmR s).1]) (nmR_ok h) g
    obtain ⟨e5, e6⟩ := nm_w h e4
    refine ⟨(nmR s).1 :: L, ?_, by rw [List.length_cons, e2], ?_, e6⟩
    · show (numsR n (cs ++ [(nmR s).1]) (nmR s).2).1 = _
      rw [e1, List.append_assoc]; rfl
    · show s.1 = _ ++ (numsR n (cs ++ [(nmR s).1]) (nmR s).2).2.1
      rw [List.flatMap_cons, List.append_assoc, ← e3]
      exact e5
theorem colsR_ok : ∀ (n : Nat) (cs : List S87) {s : St}, St.ok s → St.ok (colsR n cs s).2
  | 0, _, _, h => h
  | n + 1, cs, s, h => colsR_ok n _ (colR_ok h)
theorem idsR_ok : ∀ (n : Nat) (cs : List Int) {s : St}, St.ok s → St.ok (idsR n cs s).2
  | 0, _, _, h => h
  | n + 1, cs, s, h => idsR_ok n _ (cnt_ok h)
theorem numsR_ok : ∀ (n : Nat) (cs : List Int) {s : St}, St.ok s → St.ok (numsR n cs s).2
  | 0, _, _, h => h
  | n + 1, cs, s, h => numsR_ok n _ (nmR_ok h)
theorem cnt_e {s s1 : St} {a : Int} (h : St.ok s) (e : cnt s = (a, s1)) (g : s1.2 = false) : s.1 = be1 a ++ s1.1 ∧ s.2 = false := by
  have := cnt_w h (by rw [e]; exact g)
  rwa [e] at this
theorem nm_e {s s1 : St} {a : Int} (h : St.ok s) (e : nmR s = (a, s1)) (g : s1.2 = false) : s.1 = be4 a ++ s1.1 ∧ s.2 = false := by
  have := nm_w h (by rw [e]; exact g)
  rwa [e] at this
theorem tx_e {s s1 : St} {a : ByteArray} (h : St.ok s) (e : txR s = (a, s1)) (g : s1.2 = false) : s.1 = txt a ++ s1.1 ∧ s.2 = false := by
  have := tx_w h (by rw [e]; exact g)
  rwa [e] at this
theorem cols_e {s s1 : St} {n : Nat} {L : List S87} (h : St.ok s) (e : colsR n [] s = (L, s1)) (g : s1.2 = false) : L.length = n ∧ s.1 = L.flatMap wrC ++ s1.1 ∧ s.2 = false := by
  obtain ⟨L', e1, e2, e3, e4⟩ := cols_w n [] h (by rw [e]; exact g)
  rw [e] at e1 e3
  rw [List.nil_append] at e1
  subst e1
  exact ⟨e2, e3, e4⟩
theorem ids_e {s s1 : St} {n : Nat} {L : List Int} (h : St.ok s) (e : idsR n [] s = (L, s1)) (g : s1.2 = false) : L.length = n ∧ s.1 = L.flatMap be1 ++ s1.1 ∧ s.2 = false := by
  obtain ⟨L', e1, e2, e3, e4⟩ := ids_w n [] h (by rw [e]; exact g)
  rw [e] at e1 e3
  rw [List.nil_append] at e1
  subst e1
  exact ⟨e2, e3, e4⟩
theorem nums_e {s s1 : St} {n : Nat} {L : List Int} (h : St.ok s) (e : numsR n [] s = (L, s1)) (g : s1.2 = false) : L.length = n ∧ s.1 = L.flatMap be4 ++ s1.1 ∧ s.2 = false := by
  obtain ⟨L', e1, e2, e3, e4⟩ := nums_w n [] h (by rw [e]; exact g)
  rw [e] at e1 e3
  rw [List.nil_append] at e1
  subst e1
  exact ⟨e2, e3, e4⟩
theorem cnt_o {s s1 : St} {a : Int} (h : St.ok s) (e : cnt s = (a, s1)) : St.ok s1 ∧ 0 ≤ a ∧ a ≤ 255 := by
  have h1 := cnt_ok h
  have h2 := cnt_in h
  rw [e] at h1 h2
  exact ⟨h1, h2⟩
theorem nm_o {s s1 : St} {a : Int} (h : St.ok s) (e : nmR s = (a, s1)) : St.ok s1 := by have := nmR_ok h; rwa [e] at this
theorem tx_o {s s1 : St} {a : ByteArray} (h : St.ok s) (e : txR s = (a, s1)) : St.ok s1 := by have := txR_ok h; rwa [e] at this
theorem cols_o {s s1 : St} {n : Nat} {L : List S87} (h : St.ok s) (e : colsR n [] s = (L, s1)) : St.ok s1 := by have := colsR_ok n [] h; rwa [e] at this
theorem ids_o {s s1 : St} {n : Nat} {L : List Int} (h : St.ok s) (e : idsR n [] s = (L, s1)) : St.ok s1 := by have := idsR_ok n [] h; rwa [e] at this
theorem nums_o {s s1 : St} {n : Nat} {L : List Int} (h : St.ok s) (e : numsR n [] s = (L, s1)) : St.ok s1 := by have := numsR_ok n [] h; rwa [e] at this
theorem tab_all {s : St} (h : St.ok s) : St.ok (tabR s).2 ∧ ((tabR s).2.2 = false → s.1 = wrT (tabR s).1 ++ (tabR s).2.1 ∧ s.2 = false) := by
  obtain ⟨a, s1, e1⟩ : ∃ a s1, txR s = (a, s1) := ⟨_, _, rfl⟩
  obtain ⟨n, s2, e2⟩ : ∃ n s2, cnt s1 = (n, s2) := ⟨_, _, rfl⟩
  obtain ⟨C, s3, e3⟩ : ∃ C s3, colsR n.toNat [] s2 = (C, s3) := ⟨_, _, rfl⟩
  obtain ⟨f, s4, e4⟩ : ∃ f s4, nmR s3 = (f, s4) := ⟨_, _, rfl⟩
  obtain ⟨r, s5, e5⟩ : ∃ r s5, nmR s4 = (r, s5) := ⟨_, _, rfl⟩
  obtain ⟨p, s6, e6⟩ : ∃ p s6, nmR s5 = (p, s6) := ⟨_, _, rfl⟩
  have e : tabR s = (⟨a, C, f, r, p⟩, s6) := by simp only [tabR, tabE, e1, e2, e3, e4, e5, e6]
  have o1 := tx_o h e1
  obtain ⟨o2, hn, _⟩ := cnt_o o1 e2
  have o3 := cols_o o2 e3
  have o4 := nm_o o3 e4
  have o5 := nm_o o4 e5
  rw [e]
  refine ⟨nm_o o5 e6, fun g => ?_⟩
  obtain ⟨h6, f6⟩ := nm_e o5 e6 g
  obtain ⟨h5, f5⟩ := nm_e o4 e5 f6
  obtain ⟨h4, f4⟩ := nm_e o3 e4 f5
  obtain ⟨hl, h3, f3⟩ := cols_e o2 e3 f4
  obtain ⟨h2, f2⟩ := cnt_e o1 e2 f3
  obtain ⟨h1, f1⟩ := tx_e h e1 f2
  refine ⟨?_, f1⟩
  simp only [wrT, List.append_assoc]
  rw [hl, show ((n.toNat : Nat) : Int) = n by omega, ← h6, ← h5, ← h4, ← h3, ← h2]
  exact h1
theorem tab_w {s : St} (h : St.ok s) (g : (tabR s).2.2 = false) : s.1 = wrT (tabR s).1 ++ (tabR s).2.1 ∧ s.2 = false := (tab_all h).2 g
theorem tabR_ok {s : St} (h : St.ok s) : St.ok (tabR s).2 := (tab_all h).1
theorem idx_all {s : St} (h : St.ok s) : St.ok (idxR s).2 ∧ ((idxR s).2.2 = false → s.1 = wrX (idxR s).1 ++ (idxR s).2.1 ∧ s.2 = false) := by
  obtain ⟨a, s1, e1⟩ : ∃ a s1, txR s = (a, s1) := ⟨_, _, rfl⟩
  obtain ⟨tn, s2, e2⟩ : ∃ n s2, cnt s1 = (n, s2) := ⟨_, _, rfl⟩
  obtain ⟨n, s3, e3⟩ : ∃ n s3, cnt s2 = (n, s3) := ⟨_, _, rfl⟩
  obtain ⟨C, s4, e4⟩ : ∃ C s4, idsR n.toNat [] s3 = (C, s4) := ⟨_, _, rfl⟩
  obtain ⟨f, s5, e5⟩ : ∃ f s5, nmR s4 = (f, s5) := ⟨_, _, rfl⟩
  obtain ⟨r, s6, e6⟩ : ∃ r s6, nmR s5 = (r, s6) := ⟨_, _, rfl⟩
  obtain ⟨p, s7, e7⟩ : ∃ p s7, nmR s6 = (p, s7) := ⟨_, _, rfl⟩
  obtain ⟨D, s8, e8⟩ : ∃ D s8, numsR C.length [] s7 = (D, s8) := ⟨_, _, rfl⟩
  have e : idxR s = (⟨a, tn, C, f, r, p, D⟩, s8) := by simp only [idxR, idxG, idxF, idxE, e1, e2, e3, e4, e5, e6, e7, e8]
  have o1 := tx_o h e1
  obtain ⟨o2, _, _⟩ := cnt_o o1 e2
  obtain ⟨o3, hn, _⟩ := cnt_o o2 e3
  have o4 := ids_o o3 e4
  have o5 := nm_o o4 e5
  have o6 := nm_o o5 e6
  have o7 := nm_o o6 e7
  rw [e]
  refine ⟨nums_o o7 e8, fun g => ?_⟩
  obtain ⟨_, h8, f8⟩ := nums_e o7 e8 g
  obtain ⟨h7, f7⟩ := nm_e o6 e7 f8
  obtain ⟨h6, f6⟩ := nm_e o5 e6 f7
  obtain ⟨h5, f5⟩ := nm_e o4 e5 f6
  obtain ⟨hl, h4, f4⟩ := ids_e o3 e4 f5
  obtain ⟨h3, f3⟩ := cnt_e o2 e3 f4
  obtain ⟨h2, f2⟩ := cnt_e o1 e2 f3
  obtain ⟨h1, f1⟩ := tx_e h e1 f2
  refine ⟨?_, f1⟩
  simp only [wrX, List.append_assoc]
  rw [← h8, ← h7, ← h6, ← h5, hl, show ((n.toNat : Nat) : Int) = n by omega, ← h4, ← h3, ← h2]
  exact h1
theorem idx_w {s : St} (h : St.ok s) (g : (idxR s).2.2 = false) : s.1 = wrX (idxR s).1 ++ (idxR s).2.1 ∧ s.2 = false := (idx_all h).2 g
theorem idxR_ok {s : St} (h : St.ok s) : St.ok (idxR s).2 := (idx_all h).1
theorem tabs_w : ∀ (n : Nat) (cs : List S84) {s : St}, St.ok s → (tabsR n cs s).2.2 = false → ∃ L, (tabsR n cs s).1 = cs ++ L ∧ L.length = n ∧ s.1 = L.flatMap wrT ++ (tabsR n cs s).2.1 ∧ s.2 = false
  | 0, cs, s, h, g => ⟨[], (List.append_nil cs).symm, rfl, rfl, g⟩
  | n + 1, cs, s, h, g => by
    obtain ⟨L, e1, e2, e3, e4⟩ := tabs_w n (cs ++ [(tabR s).1]) (tabR_ok h) g
    obtain ⟨e5, e6⟩ := tab_w h e4
    refine ⟨(tabR s).1 :: L, ?_, by rw [List.length_cons, e2], ?_, e6⟩
    · show (tabsR n (cs ++ [(tabR s).1]) (tabR s).2).1 = _
      rw [e1, List.append_assoc]; rfl
    · show s.1 = _ ++ (tabsR n (cs ++ [(tabR s).1]) (tabR s).2).2.1
      rw [List.flatMap_cons, List.append_assoc, ← e3]
      exact e5
theorem idxs_w : ∀ (n : Nat) (cs : List S135) {s : St}, St.ok s → (idxsR n cs s).2.2 = false → ∃ L, (idxsR n cs s).1 = cs ++ L ∧ L.length = n ∧ s.1 = L.flatMap wrX ++ (idxsR n cs s).2.1 ∧ s.2 = false
  | 0, cs, s, h, g => ⟨[], (List.append_nil cs).symm, rfl, rfl, g⟩
  | n + 1, cs, s, h, g => by
    obtain ⟨L, e1, e2, e3, e4⟩ := idxs_w n (cs ++ [(idxR s).1]) (idxR_ok h) g
    obtain ⟨e5, e6⟩ := idx_w h e4
    refine ⟨(idxR s).1 :: L, ?_, by rw [List.length_cons, e2], ?_, e6⟩
    · show (idxsR n (cs ++ [(idxR s).1]) (idxR s).2).1 = _
      rw [e1, List.append_assoc]; rfl
    · show s.1 = _ ++ (idxsR n (cs ++ [(idxR s).1]) (idxR s).2).2.1
      rw [List.flatMap_cons, List.append_assoc, ← e3]
      exact e5
theorem tabsR_ok : ∀ (n : Nat) (cs : List S84) {s : St}, St.ok s → St.ok (tabsR n cs s).2
  | 0, _, _, h => h
  | n + 1, cs, s, h => tabsR_ok n _ (tabR_ok h)
theorem idxsR_ok : ∀ (n : Nat) (cs : List S135) {s : St}, St.ok s → St.ok (idxsR n cs s).2
  | 0, _, _, h => h
  | n + 1, cs, s, h => idxsR_ok n _ (idxR_ok h)
/-- What was read, if nothing was missing, is written again as it stood. -/
theorem get_w {s sf : St} {T : List S84} {X : List S135} (h : St.ok s) (e : getR s = ((T, X), sf)) (g : sf.2 = false) : s.1 = wr T X ++ sf.1 ∧ s.2 = false := by
  obtain ⟨n, s1, e1⟩ : ∃ n s1, cnt s = (n, s1) := ⟨_, _, rfl⟩
  obtain ⟨T', s2, e2⟩ : ∃ T s2, tabsR n.toNat [] s1 = (T, s2) := ⟨_, _, rfl⟩
  obtain ⟨n2, s3, e3⟩ : ∃ n s1, cnt s2 = (n, s1) := ⟨_, _, rfl⟩
  obtain ⟨X', s4, e4⟩ : ∃ T s2, idxsR n2.toNat [] s3 = (T, s2) := ⟨_, _, rfl⟩
  have e' : getR s = ((T', X'), s4) := by simp only [getR, getG, e1, e2, e3, e4]
  rw [e'] at e
  injection e with ea eb
  injection ea with ec ed
  subst eb ec ed
  obtain ⟨o1, hn, _⟩ := cnt_o h e1
  have o2 : St.ok s2 := by have := tabsR_ok n.toNat [] o1; rwa [e2] at this
  obtain ⟨o3, hn2, _⟩ := cnt_o o2 e3
  obtain ⟨X2, x1, x2, x3, f3⟩ := idxs_w n2.toNat [] o3 (by rw [e4]; exact g)
  rw [e4, List.nil_append] at x1
  rw [e4] at x3
  subst x1
  obtain ⟨h3, f2⟩ := cnt_e o2 e3 f3
  obtain ⟨T2, t1, t2, t3, f1⟩ := tabs_w n.toNat [] o1 (by rw [e2]; exact f2)
  rw [e2, List.nil_append] at t1
  rw [e2] at t3
  subst t1
  obtain ⟨h1, f0⟩ := cnt_e h e1 f1
  refine ⟨?_, f0⟩
  simp only [wr, List.append_assoc]
  simp only at x2 t2 x3 t3
  rw [x2, ← x3, t2, show ((n.toNat : Nat) : Int) = n by omega, show ((n2.toNat : Nat) : Int) = n2 by omega, ← h3, ← t3]
  exact h1
end Go.Proofs.Ytpfegfkniilobaa.PureS
namespace Go.Proofs.Ytpfegfkniilobaa.PureS
open Go.RowKit Go.Proofs.YtpfegfkniilobaaW.PrintWords Go.Proofs.Ytpfegfkniilobaa.XSchema
open Go.Proofs.Ytpfegfkniilobaa.Tk (St)
open Go.Proofs.Ytpfegfkniilobaa.Rr (rt rnb rtx rcol rcolE rcols rtab rtabE rns ridx ridxD ridxF ridxG rtabs ridxs rget rgetG rt_len rn1_in rn4_in rtx_ok rnb_ok rcols_ok rtab_ok ridx_ok rns_ok)
set_option linter.unusedVariables false
set_option linter.unusedSimpArgs false
def colB (c : S87) : Prop := (0 ≤ c.f1 ∧ c.f1 ≤ 255) ∧ c.f0.size ≤ 255
def tabB (t : S84) : Prop := (0 ≤ t.f2 ∧ t.f2 < 4294967296) ∧ t.f0.size ≤ 255 ∧ t.f1.length ≤ 255 ∧ ∀ c ∈ t.f1, colB c
def idxB (x : S135) : Prop := (0 ≤ x.f3 ∧ x.f3 < 4294967296) ∧ x.f0.size ≤ 255 ∧ x.f2.length ≤ 255 ∧ x.f6.length ≤ 255
theorem rtx_in {s : St} (h : St.ok s) : (rtx s).1.size ≤ 255 := by
  have h1 := rn1_in h
  unfold rtx
  simp only
  rw [Byt.str_size, rt_len _ _ h1.1]
  omega
theorem rcol_in {s : St} (h : St.ok s) : colB (rcol s).1 := ⟨rn1_in (rtx_ok h), rtx_in h⟩
theorem rcol_ok {s : St} (h : St.ok s) : St.ok (rcol s).2 := rnb_ok (rnb_ok (rnb_ok (rtx_ok h) 1) 4) 4
theorem rcols_in : ∀ (n : Nat) (cs : List S87) {s : St}, St.ok s → (∀ c ∈ cs, colB c) → (rcols n cs s).1.length ≤ cs.length + n ∧ ∀ c ∈ (rcols n cs s).1, colB c
  | 0, cs, s, h, hc => ⟨Nat.le_refl _, hc⟩
  | n + 1, cs, s, h, hc => by
    rw [rcols]
    split
    · exact ⟨by simp only; omega, hc⟩
    · have := rcols_in n (cs ++ [(rcol s).1]) (rcol_ok h) (fun c hm => by
        rcases List.mem_append.1 hm with hm | hm
        · exact hc c hm
        · rw [List.mem_singleton.1 hm]; exact rcol_in h)
      rw [List.length_append, List.length_singleton] at this
      exact ⟨by have := this.1; omega, this.2⟩
theorem rns_in (m : Int) : ∀ (n : Nat) (cs : List Int) (s : St), (rns m n cs s).1.length ≤ cs.length + n
  | 0, cs, s => Nat.le_refl _
  | n + 1, cs, s => by
    rw [rns]
    split
    · simp only; omega
    · have := rns_in m n (cs ++ [(rnb m s).1]) (rnb m s).2
      rw [List.length_append, List.length_singleton] at this
      omega
theorem rtab_in {s : St} (h : St.ok s) : tabB (rtab s).1 := by
  have o1 := rtx_ok h
  have o2 := rnb_ok o1 1
  have hn := rn1_in o1
  have hc := rcols_in (rnb 1 (rtx s).2).1.toNat [] o2 (fun c hm => nomatch hm)
  have o3 := rcols_ok (rnb 1 (rtx s).2).1.toNat [] o2
  refine ⟨rn4_in o3, rtx_in h, ?_, hc.2⟩
  have := hc.1
  simp only [List.length_nil] at this
  show (rcols (rnb 1 (rtx s).2).1.toNat [] (rnb 1 (rtx s).2).2).1.length ≤ 255
  omega
theorem ridx_in {s : St} (h : St.ok s) : idxB (ridx s).1 := by
  have o1 := rtx_ok h
  have o2 := rnb_ok o1 1
  have o3 := rnb_ok o2 1
  have hn := rn1_in o2
  have o4 := rns_ok 1 (rnb 1 (rnb 1 (rtx s).2).2).1.toNat [] o3
  have h1 := rns_in 1 (rnb 1 (rnb 1 (rtx s).2).2).1.toNat [] (rnb 1 (rnb 1 (rtx s).2).2).2
  refine ⟨rn4_in o4, rtx_in h, ?_, ?_⟩
  · show (rns 1 (rnb 1 (rnb 1 (rtx s).2).2).1.toNat [] (rnb 1 (rnb 1 (rtx s).2).2).2).1.length ≤ 255
    simp only [List.length_nil] at h1
    omega
  · have h2 := rns_in 4 (rnb 1 (rnb 1 (rtx s).2).2).1.toNat [] (rnb 4 (rnb 4 (rnb 4 (rns 1 (rnb 1 (rnb 1 (rtx s).2).2).1.toNat [] (rnb 1 (rnb 1 (rtx s).2).2).2).2).2).2).2
    show (rns 4 (rnb 1 (rnb 1 (rtx s).2).2).1.toNat [] (rnb 4 (rnb 4 (rnb 4 (rns 1 (rnb 1 (rnb 1 (rtx s).2).2).1.toNat [] (rnb 1 (rnb 1 (rtx s).2).2).2).2).2).2).2).1.length ≤ 255
    simp only [List.length_nil] at h2
    omega
theorem rtabs_in : ∀ (n : Nat) (cs : List S84) {s : St}, St.ok s → (∀ c ∈ cs, tabB c) → St.ok (rtabs n cs s).2 ∧ (rtabs n cs s).1.length ≤ cs.length + n ∧ ∀ c ∈ (rtabs n cs s).1, tabB c
  | 0, cs, s, h, hc => ⟨h, Nat.le_refl _, hc⟩
  | n + 1, cs, s, h, hc => by
    rw [rtabs]
    split
    · exact ⟨h, by simp only; omega, hc⟩
    · have := rtabs_in n (cs ++ [(rtab s).1]) (rtab_ok h) (fun c hm => by
        rcases List.mem_append.1 hm with hm | hm
        · exact hc c hm
        · rw [List.mem_singleton.1 hm]; exact rtab_in h)
      rw [List.length_append, List.length_singleton] at this
      exact ⟨this.1, by have := this.2.1; omega, this.2.2⟩
theorem ridxs_in : ∀ (n : Nat) (cs : List S135) {s : St}, St.ok s → (∀ c ∈ cs, idxB c) → (ridxs n cs s).1.length ≤ cs.length + n ∧ ∀ c ∈ (ridxs n cs s).1, idxB c
  | 0, cs, s, h, hc => ⟨Nat.le_refl _, hc⟩
  | n + 1, cs, s, h, hc => by
    rw [ridxs]
    split
    · exact ⟨by simp only; omega, hc⟩
    · have := ridxs_in n (cs ++ [(ridx s).1]) (ridx_ok h) (fun c hm => by
        rcases List.mem_append.1 hm with hm | hm
        · exact hc c hm
        · rw [List.mem_singleton.1 hm]; exact ridx_in h)
      rw [List.length_append, List.length_singleton] at this
      exact ⟨by have := this.1; omega, this.2⟩
/-- The bounds of a book that is read. -/
def bookB (T : List S84) (X : List S135) : Prop := (T.length ≤ 255 ∧ ∀ t ∈ T, tabB t) ∧ X.length ≤ 255 ∧ ∀ x ∈ X, idxB x
theorem rget_in {s sf : St} {T : List S84} {X : List S135} (h : St.ok s) (e : rget s = ((T, X), sf)) : bookB T X := by
  obtain ⟨n, s1, e1⟩ : ∃ n s1, rnb 1 s = (n, s1) := ⟨_, _, rfl⟩
  obtain ⟨T', s2, e2⟩ : ∃ T s2, rtabs n.toNat [] s1 = (T, s2) := ⟨_, _, rfl⟩
  obtain ⟨n2, s3, e3⟩ : ∃ n s3, rnb 1 s2 = (n, s3) := ⟨_, _, rfl⟩
  obtain ⟨X', s4, e4⟩ : ∃ T s4, ridxs n2.toNat [] s3 = (T, s4) := ⟨_, _, rfl⟩
  have e' : rget s = ((T', X'), s4) := by simp only [rget, rgetG, e1, e2, e3, e4]
  rw [e'] at e
  injection e with ea eb
  injection ea with ec ed
  subst eb ec ed
  have o1 : St.ok s1 := by have := rnb_ok h 1; rwa [e1] at this
  have hn := rn1_in h
  rw [e1] at hn
  obtain ⟨o2, l1, l2⟩ := rtabs_in n.toNat [] o1 (fun c hm => nomatch hm)
  rw [e2] at o2 l1 l2
  have o3 : St.ok s3 := by have := rnb_ok o2 1; rwa [e3] at this
  have hn2 := rn1_in o2
  rw [e3] at hn2
  obtain ⟨m1, m2⟩ := ridxs_in n2.toNat [] o3 (fun c hm => nomatch hm)
  rw [e4] at m1 m2
  simp only [List.length_nil] at hn hn2 l1 m1
  exact ⟨⟨by omega, l2⟩, by omega, m2⟩
theorem rd_mem {α : Type} (d : α) (l : List α) (i : Nat) (h : i < l.length) : l.getD (i : Int).toNat d ∈ l := by
  rw [Int.toNat_natCast, List.getD_eq_getElem?_getD, List.getElem?_eq_getElem h]
  exact List.getElem_mem h
theorem bookB_W {T : List S84} {X : List S135} (h : bookB T X) : bookW T X :=
  ⟨fun i hi => ⟨(h.1.2 _ (rd_mem z84 T i hi)).1.1, (h.1.2 _ (rd_mem z84 T i hi)).1.2, fun j hj => ((h.1.2 _ (rd_mem z84 T i hi)).2.2.2 _ (rd_mem z87 _ j hj)).1⟩, fun i hi => (h.2.2 _ (rd_mem z135 X i hi)).1⟩
theorem bookB_L {T : List S84} {X : List S135} (h : bookB T X) : bookL T X :=
  ⟨Nat.le_trans h.1.1 (by decide), Nat.le_trans h.2.1 (by decide), fun i hi => Nat.le_trans (h.1.2 _ (rd_mem z84 T i hi)).2.2.1 (by decide), fun i hi => ⟨Nat.le_trans (h.2.2 _ (rd_mem z135 X i hi)).2.2.1 (by decide), Nat.le_trans (h.2.2 _ (rd_mem z135 X i hi)).2.2.2 (by decide)⟩⟩
end Go.Proofs.Ytpfegfkniilobaa.PureS
