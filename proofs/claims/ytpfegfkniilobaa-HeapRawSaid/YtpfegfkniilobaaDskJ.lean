/- The law's 'same' walked: a disk shows the reference's pages. Conditions: the pages are the disk's, what is taken is the same. -/
import Derived.Test.YtpfegfkniilobaaDskF
import Derived.Test.YtpfegfkniilobaaXHeapx2
import Derived.Test.YtpfegfkniilobaaXHeapx9
import Derived.Deep.RegionHeld
namespace Go.Proofs.Ytpfegfkniilobaa.Dsk
open Go.RowKit Go.Proofs.YtpfegfkniilobaaW.PrintWords Go.Proofs.YtpfegfkniilobaaW.PrintLast Go.Proofs.YtpfegfkniilobaaW.PrintMore Go.Proofs.Ytpfegfkniilobaa.Byt Go.Proofs.Ytpfegfkniilobaa.XHeap
set_option linter.unusedVariables false
set_option linter.unusedSimpArgs false
set_option maxRecDepth 100000
/-- A disk's pages as texts. -/
def pgs (d : List Int) (n : Nat) : List ByteArray := (List.range n).map fun i => strOfNums (pg d i)
theorem pgs_len (d : List Int) (n : Nat) : (pgs d n).length = n := by rw [pgs, List.length_map, List.length_range]
theorem pgs_at (d : List Int) (n : Nat) (i : Int) (h0 : 0 ≤ i) (h1 : i < n) : rdOf ByteArray.empty (pgs d n) i = strOfNums (pg d i.toNat) := by
  rw [rdOf, List.getD_eq_getElem?_getD, pgs, List.getElem?_map, List.getElem?_range (by omega)]
  rfl
end Go.Proofs.Ytpfegfkniilobaa.Dsk
namespace Go.Proofs.Ytpfegfkniilobaa.Dsk
open Go.RowKit Go.Proofs.YtpfegfkniilobaaW.PrintWords Go.Proofs.YtpfegfkniilobaaW.PrintLast Go.Proofs.YtpfegfkniilobaaW.PrintMore Go.Proofs.Ytpfegfkniilobaa.Byt Go.Proofs.Ytpfegfkniilobaa.XHeap
set_option linter.unusedVariables false
set_option linter.unusedSimpArgs false
theorem pgs_succ (d : List Int) (n : Nat) : pgs d (n + 1) = pgs d n ++ [strOfNums (pg d n)] := by
  rw [pgs, pgs, List.range_succ, List.map_append, List.map_singleton]
theorem lts_succ (d : List Int) (n : Nat) : (List.range (n + 1)).map (lt d) = (List.range n).map (lt d) ++ [lt d n] := by
  rw [List.range_succ, List.map_append, List.map_singleton]
theorem ext_pg (xs : List Int) (i : Nat) : (strOfNums xs).extract (512 * i) (512 * i + 512) = strOfNums (pg xs i) := by
  rw [str_extract, pg, List.drop_take]
  congr 2
  omega
theorem refload_l (xs : List Int) (hy : By xs) (n : Nat) (hn : xs.length = 512 * n) (h4 : n ≤ 4096) : ∀ (m i : Nat), i + m = n → rowlockref06_Load.l0 (m + 1) (strOfNums xs) (n : Int) (i : Int) (pgs xs i) ((List.range i).map (lt xs)) = some (pgs xs n, (List.range n).map (lt xs), true)
  | 0, i, hi => by
    obtain rfl : i = n := by omega
    rw [rowlockref06_Load.l0, if_neg (by omega)]
  | m + 1, i, hi => by
    have w1 : wrap64 (512 * (i : Int)) = 512 * i := w64_in _ (by omega)
    have w2 : wrap64 (512 * (i : Int) + 512) = 512 * i + 512 := w64_in _ (by omega)
    have w3 : wrap64 ((i : Int) + 1) = ((i + 1 : Nat) : Int) := by rw [w64_in _ (by omega)]; omega
    have e1 : (512 * (i : Int)).toNat = 512 * i := by omega
    have e2 : (512 * (i : Int) + 512).toNat = 512 * i + 512 := by omega
    have hpl : (pg xs i).length = 512 := by rw [pg, List.length_take, List.length_drop]; omega
    have hpy : By (pg xs i) := (hy.drop _).take _
    have ih := refload_l xs hy n hn h4 m (i + 1) (by omega)
    rw [pgs_succ, lts_succ] at ih
    rw [rowlockref06_Load.l0, if_pos (by omega), w1, w2, e1, e2, ext_pg, if_pos (by omega), if_pos (by omega), if_pos (by rw [str_size]; omega), if_pos (by rw [pgs_len]; omega), Option.bind_some, w3]
    by_cases h0 : i = 0
    · rw [if_pos (by omega), if_pos (by rw [List.length_map, List.length_range]; omega)]
      rw [show lt xs i = true by simp [lt, h0]] at ih
      exact ih
    · rw [if_neg (by omega), if_pos (by rw [str_size, hpl]; omega), if_pos (by rw [List.length_map, List.length_range]; omega), str_bt hpy]
      have hr : rd (pg xs i) 0 = rd xs ((i : Int) * 512) := by
        rw [pg, rd, rd, List.getD_eq_getElem?_getD, List.getD_eq_getElem?_getD, List.getElem?_take, List.getElem?_drop]
        simp
        congr 2
        omega
      rw [hr]
      rw [show lt xs i = (rd xs ((i : Int) * 512) != 0) by rw [lt, decide_eq_false h0]; rfl] at ih
      exact ih
theorem refload_ok (xs : List Int) (hy : By xs) (h : 1 ≤ xs.length / 512 ∧ xs.length / 512 ≤ 4096 ∧ xs.length % 512 = 0) : rowlockref06_Load.f 4100 (strOfNums xs) = some (pgs xs (xs.length / 512), ld xs, true) := by
  obtain ⟨n, hn⟩ : ∃ n, n = xs.length / 512 := ⟨_, rfl⟩
  have hl : xs.length = 512 * n := by omega
  have w0 : wrap64 ((xs.length : Int) / 512) = (n : Int) := by rw [w64_in _ (by omega)]; omega
  rw [rowlockref06_Load.f, str_size, if_pos (by omega), w0, if_neg (by omega), show decide ((n : Int) > 4096) = false from decide_eq_false (by omega), rowlockref06_Load.j0, if_neg (by decide), ld, ← hn]
  have h0 := refload_l xs hy n hl (by omega) n 0 (by omega)
  have hm : ∀ m, rowlockref06_Load.l0 (n + 1 + m) (strOfNums xs) (n : Int) 0 [] [] = some (pgs xs n, (List.range n).map (lt xs), true) := by
    intro m
    induction m with
    | zero => exact h0
    | succ m ih => exact (rowlockref06_Load.mono_l _).2 _ _ _ _ _ _ ih
  have e : 4099 = n + 1 + (4098 - n) := by omega
  rw [e]
  exact hm _
end Go.Proofs.Ytpfegfkniilobaa.Dsk
namespace Go.Proofs.Ytpfegfkniilobaa.Dsk
open Go.RowKit Go.Proofs.YtpfegfkniilobaaW.PrintWords Go.Proofs.YtpfegfkniilobaaW.PrintLast Go.Proofs.YtpfegfkniilobaaW.PrintMore Go.Proofs.Ytpfegfkniilobaa.Byt Go.Proofs.Ytpfegfkniilobaa.XHeap
set_option linter.unusedVariables false
set_option linter.unusedSimpArgs false
end Go.Proofs.Ytpfegfkniilobaa.Dsk
namespace Go.Proofs.Ytpfegfkniilobaa.Dsk
open Go.RowKit Go.Proofs.YtpfegfkniilobaaW.PrintWords Go.Proofs.YtpfegfkniilobaaW.PrintLast Go.Proofs.YtpfegfkniilobaaW.PrintMore Go.Proofs.Ytpfegfkniilobaa.Byt Go.Proofs.Ytpfegfkniilobaa.XHeap
set_option linter.unusedVariables false
set_option linter.unusedSimpArgs false
set_option maxRecDepth 100000
/-- What a take gives, and what is taken behind it. -/
def tkF (t : List Bool) : Int × Int × List Bool := if ix t 0 = -1 then (0, 7, t) else (ix t 0, 0, t.set (ix t 0).toNat true)
theorem take_any {w : World} {g : Nat} {d : List Int} {t : List Bool} {ok : Nat → Prop} (H : Dk w ok g d t) : Calls Try.prog 80 #[.pointer (some ⟨g, 0, none⟩)] w fun e w' => e = .returned (.tuple #[.int .u32 (tkF t).1, .int .i64 (tkF t).2.1]) ∧ Dk w' ok g d (tkF t).2.2 ∧ Kept w w' ok ∧ ∀ B, (∀ k, ok k → B ≤ k) → Below B w w' := by
  unfold tkF
  by_cases hx : ix t 0 = -1
  · rw [if_pos hx]
    refine (take_full H hx).mono ?_
    rintro e w' ⟨rfl, rfl⟩
    exact ⟨rfl, H, Kept.refl _ _, fun _ _ => Below.refl _ _⟩
  · rw [if_neg hx]
    exact take_some H hx
/-- What a write leaves, whatever is written. -/
def wrG (d : List Int) (t : List Bool) (p : Int) (bs : List Int) : List Int × List Bool × Int := if p < t.length then (if bs.length = 512 then (splice d (512 * p.toNat) bs, t.set p.toNat true, 0) else (d, t, 1)) else (d, t, 8)
theorem wrG_len (d : List Int) (t : List Bool) (p : Int) (bs : List Int) : (wrG d t p bs).2.1.length = t.length := by
  unfold wrG
  split
  · split
    · exact List.length_set ..
    · rfl
  · rfl
theorem wrG_by {d bs : List Int} (t : List Bool) (p : Int) (h : By d) (k : By bs) : By (wrG d t p bs).1 := by
  unfold wrG
  split
  · split
    · exact By.splice h k _
    · exact h
  · exact h
theorem write_all {w : World} {ok : Nat → Prop} {g : Nat} {d : List Int} {t : List Bool} (h : Dk w ok g d t) (p : Int) (A : Option Addr) (n c : Nat) (bs : List Int) (h0 : 0 ≤ p) (hp : p < 4294967296) (hn : bs.length = n) (hC : Kd.C (Kd.int .u8) w A n bs) : Calls Try.prog 42 #[.pointer (some ⟨g, 0, none⟩), .int .u32 p, .slice A n c] w fun e w' => e = .returned (.int .i64 (wrG d t p bs).2.2) ∧ Dk w' ok g (wrG d t p bs).1 (wrG d t p bs).2.1 ∧ Kept w w' ok ∧ ∀ B, (∀ k, ok k → B ≤ k) → Below B w w' := by
  unfold wrG
  by_cases hx : p < t.length
  · rw [if_pos hx]
    by_cases hb : bs.length = 512
    · rw [if_pos hb]
      obtain rfl : n = 512 := by omega
      exact write_ok h p A c bs h0 hx hb hC
    · rw [if_neg hb]
      refine (write_bad h p A n c h0 hx (by omega)).mono ?_
      rintro e w' ⟨rfl, rfl⟩
      exact ⟨rfl, h, Kept.refl _ _, fun _ _ => Below.refl _ _⟩
  · rw [if_neg hx]
    refine (write_out h p _ h0 (by omega) hp).mono ?_
    rintro e w' ⟨rfl, rfl⟩
    exact ⟨rfl, h, Kept.refl _ _, fun _ _ => Below.refl _ _⟩
/-- A disk, the reference's beside it (its box: gm), all since w. -/
structure Inv (w W : World) (D E : Nat → Prop) (g gm n : Nat) (v0 v1 : Value) (d : List Int) (t : List Bool) : Prop where
  dk : Dk W D g d t
  len : t.length = n
  by_ : By d
  box : W.heap[gm]? = some (.cells #[v0, v1] 32 (0, 0))
  pages : Kd.R Kd.string 9 W w.heap.size E v0 (pgs d n)
  taken : Kd.R Kd.bool 4 W w.heap.size E v1 t
  apart : ∀ k, D k → w.heap.size ≤ k ∧ k < W.heap.size ∧ ¬ E k
  new : ∀ k, E k → k < W.heap.size
  gm : w.heap.size ≤ gm ∧ ¬ D gm ∧ ¬ E gm
  below : Below w.heap.size w W
theorem Inv.on {w W W2 : World} {D E : Nat → Prop} {g gm n : Nat} {v0 v1 : Value} {d : List Int} {t : List Bool} (h : Inv w W D E g gm n v0 v1 d t) (hb : Below W.heap.size W W2) : Inv w W2 D E g gm n v0 v1 d t :=
  ⟨h.dk.below hb, h.len, h.by_, blk_below h.box hb, Kd.R_below h.pages hb, Kd.R_below h.taken hb, fun k hk => ⟨(h.apart k hk).1, Nat.lt_of_lt_of_le (h.apart k hk).2.1 hb.size, (h.apart k hk).2.2⟩, fun k hk => Nat.lt_of_lt_of_le (h.new k hk) hb.size, h.gm, below_then h.below h.below.size hb⟩
/-- The disk alone was written. -/
theorem Inv.disk {w W W2 : World} {D E : Nat → Prop} {g gm n : Nat} {v0 v1 : Value} {d : List Int} {t : List Bool} (h : Inv w W D E g gm n v0 v1 d t) (hk : Kept W W2 D) (hb : ∀ B, (∀ k, D k → B ≤ k) → Below B W W2) : W2.heap[gm]? = some (.cells #[v0, v1] 32 (0, 0)) ∧ Kd.R Kd.string 9 W2 w.heap.size E v0 (pgs d n) ∧ Kd.R Kd.bool 4 W2 w.heap.size E v1 t ∧ Below w.heap.size w W2 :=
  ⟨blk_kept h.box hk h.gm.2.1, Kd.R_kept h.pages hk (fun k hE hD => (h.apart k hD).2.2 hE), Kd.R_kept h.taken hk (fun k hE hD => (h.apart k hD).2.2 hE), h.below.trans (hb _ (fun k hD => (h.apart k hD).1))⟩
/-- A copy goes on: W1 behind the copy, W2 behind the old one's last calls. -/
theorem Inv.copy {w W W1 W2 : World} {D E : Nat → Prop} {g g' gm n : Nat} {v0 v1 : Value} {d : List Int} {t : List Bool} (h : Inv w W D E g gm n v0 v1 d t) (hd : Dk W1 (fun k => W.heap.size ≤ k) g' d t) (hb1 : Below W.heap.size W W1)
    (hk : ∀ k, k < W1.heap.size → ¬ D k → W2.heap[k]? = W1.heap[k]?) (hs : W1.heap.size ≤ W2.heap.size) (hb : Below w.heap.size w W2) : Inv w W2 (fun k => W.heap.size ≤ k ∧ k < W1.heap.size) E g' gm n v0 v1 d t := by
  have hgl := blk_lt h.box
  have h1 := h.on hb1
  refine ⟨hd.bound.step (fun k hD hlt => hk k hlt (fun hD' => ?_)), h.len, h.by_, (hk gm (Nat.lt_of_lt_of_le hgl hb1.size) h.gm.2.1).trans h1.box, Kd.R_step h1.pages (fun k hE hlt => hk k hlt (fun hD' => (h.apart k hD').2.2 hE)), Kd.R_step h1.taken (fun k hE hlt => hk k hlt (fun hD' => (h.apart k hD').2.2 hE)), fun k hD => ⟨Nat.le_trans h.below.size hD.1, Nat.lt_of_lt_of_le hD.2 hs, fun hE => ?_⟩, fun k hE => Nat.lt_of_lt_of_le (h1.new k hE) hs, ⟨h.gm.1, fun hD => ?_, h.gm.2.2⟩, hb⟩
  · have := (h.apart k hD').2.1; have := hD.1; omega
  · have := h.new k hE; have := hD.1; omega
  · have := hD.1; omega
end Go.Proofs.Ytpfegfkniilobaa.Dsk
