/- The law's 'same' walked: a disk shows the reference's pages. Conditions: the pages are the disk's, what is taken is the same. -/
import Derived.Test.YtpfegfkniilobaaDskF
import Derived.Test.YtpfegfkniilobaaXHeapx2
import Derived.Test.YtpfegfkniilobaaXHeapx9
import Derived.Deep.RegionHeld
namespace Go.Proofs.Ytpfegfkniilobaa.Dsk
open Go.RowKit Go.Proofs.YtpfegfkniilobaaW.PrintWords Go.Proofs.YtpfegfkniilobaaW.PrintLast Go.Proofs.YtpfegfkniilobaaW.PrintMore Go.Proofs.Ytpfegfkniilobaa.Byt Go.Proofs.Ytpfegfkniilobaa.XHeap
set_option linter.unusedVariables false
set_option linter.unusedSimpArgs false
set_option maxRecDepth 100000
/-- A disk's pages as texts. -/
def pgs (d : List Int) (n : Nat) : List ByteArray := (List.range n).map fun i => strOfNums (pg d i)
end Go.Proofs.Ytpfegfkniilobaa.Dsk
namespace Go.Proofs.Ytpfegfkniilobaa.Dsk
open Go.RowKit Go.Proofs.YtpfegfkniilobaaW.PrintWords Go.Proofs.YtpfegfkniilobaaW.PrintLast Go.Proofs.YtpfegfkniilobaaW.PrintMore Go.Proofs.Ytpfegfkniilobaa.Byt Go.Proofs.Ytpfegfkniilobaa.XHeap
set_option linter.unusedVariables false
set_option linter.unusedSimpArgs false
end Go.Proofs.Ytpfegfkniilobaa.Dsk
namespace Go.Proofs.Ytpfegfkniilobaa.Dsk
open Go.RowKit Go.Proofs.YtpfegfkniilobaaW.PrintWords Go.Proofs.YtpfegfkniilobaaW.PrintLast Go.Proofs.YtpfegfkniilobaaW.PrintMore Go.Proofs.Ytpfegfkniilobaa.Byt Go.Proofs.Ytpfegfkniilobaa.XHeap
set_option linter.unusedVariables false
set_option linter.unusedSimpArgs false
theorem pg_splice (d bs : List Int) (p i n : Nat) (hd : d.length = 512 * n) (hp : p < n) (hi : i < n) (hb : bs.length = 512) : pg (splice d (512 * p) bs) i = if i = p then bs else pg d i := by
  have hl : (splice d (512 * p) bs).length = d.length := length_splice _ _ _ (by omega)
  refine List.ext_getElem? fun j => ?_
  rw [pg, List.getElem?_take, List.getElem?_drop]
  by_cases e : i = p
  · subst e
    rw [if_pos rfl]
    by_cases hj : j < 512
    · rw [if_pos hj, splice, List.getElem?_append, List.length_take, if_neg (by omega), List.getElem?_append, if_pos (by omega)]
      congr 1
      omega
    · rw [if_neg hj, List.getElem?_eq_none (by omega)]
  · rw [if_neg e, pg, List.getElem?_take, List.getElem?_drop]
    by_cases hj : j < 512
    · rw [if_pos hj, if_pos hj, splice, List.getElem?_append, List.length_take]
      by_cases h1 : 512 * i + j < 512 * p
      · rw [if_pos (by omega), List.getElem?_take, if_pos h1]
      · rw [if_neg (by omega), List.getElem?_append, if_neg (by omega), List.getElem?_drop]
        congr 1
        omega
    · rw [if_neg hj, if_neg hj]
end Go.Proofs.Ytpfegfkniilobaa.Dsk
namespace Go.Proofs.Ytpfegfkniilobaa.Dsk
open Go.RowKit Go.Proofs.YtpfegfkniilobaaW.PrintWords Go.Proofs.YtpfegfkniilobaaW.PrintLast Go.Proofs.YtpfegfkniilobaaW.PrintMore Go.Proofs.Ytpfegfkniilobaa.Byt Go.Proofs.Ytpfegfkniilobaa.XHeap
set_option linter.unusedVariables false
set_option linter.unusedSimpArgs false
set_option maxRecDepth 100000
/-- What a take gives, and what is taken behind it. -/
def tkF (t : List Bool) : Int × Int × List Bool := if ix t 0 = -1 then (0, 7, t) else (ix t 0, 0, t.set (ix t 0).toNat true)
theorem take_any {w : World} {g : Nat} {d : List Int} {t : List Bool} {ok : Nat → Prop} (H : Dk w ok g d t) : Calls Try.prog 80 #[.pointer (some ⟨g, 0, none⟩)] w fun e w' => e = .returned (.tuple #[.int .u32 (tkF t).1, .int .i64 (tkF t).2.1]) ∧ Dk w' ok g d (tkF t).2.2 ∧ Kept w w' ok ∧ ∀ B, (∀ k, ok k → B ≤ k) → Below B w w' := by
  unfold tkF
  by_cases hx : ix t 0 = -1
  · rw [if_pos hx]
    refine (take_full H hx).mono ?_
    rintro e w' ⟨rfl, rfl⟩
    exact ⟨rfl, H, Kept.refl _ _, fun _ _ => Below.refl _ _⟩
  · rw [if_neg hx]
    exact take_some H hx
/-- What a write leaves, whatever is written. -/
def wrG (d : List Int) (t : List Bool) (p : Int) (bs : List Int) : List Int × List Bool × Int := if p < t.length then (if bs.length = 512 then (splice d (512 * p.toNat) bs, t.set p.toNat true, 0) else (d, t, 1)) else (d, t, 8)
theorem wrG_len (d : List Int) (t : List Bool) (p : Int) (bs : List Int) : (wrG d t p bs).2.1.length = t.length := by
  unfold wrG
  split
  · split
    · exact List.length_set ..
    · rfl
  · rfl
theorem wrG_by {d bs : List Int} (t : List Bool) (p : Int) (h : By d) (k : By bs) : By (wrG d t p bs).1 := by
  unfold wrG
  split
  · split
    · exact By.splice h k _
    · exact h
  · exact h
theorem write_all {w : World} {ok : Nat → Prop} {g : Nat} {d : List Int} {t : List Bool} (h : Dk w ok g d t) (p : Int) (A : Option Addr) (n c : Nat) (bs : List Int) (h0 : 0 ≤ p) (hp : p < 4294967296) (hn : bs.length = n) (hC : Kd.C (Kd.int .u8) w A n bs) : Calls Try.prog 42 #[.pointer (some ⟨g, 0, none⟩), .int .u32 p, .slice A n c] w fun e w' => e = .returned (.int .i64 (wrG d t p bs).2.2) ∧ Dk w' ok g (wrG d t p bs).1 (wrG d t p bs).2.1 ∧ Kept w w' ok ∧ ∀ B, (∀ k, ok k → B ≤ k) → Below B w w' := by
  unfold wrG
  by_cases hx : p < t.length
  · rw [if_pos hx]
    by_cases hb : bs.length = 512
    · rw [if_pos hb]
      obtain rfl : n = 512 := by omega
      exact write_ok h p A c bs h0 hx hb hC
    · rw [if_neg hb]
      refine (write_bad h p A n c h0 hx (by omega)).mono ?_
      rintro e w' ⟨rfl, rfl⟩
      exact ⟨rfl, h, Kept.refl _ _, fun _ _ => Below.refl _ _⟩
  · rw [if_neg hx]
    refine (write_out h p _ h0 (by omega) hp).mono ?_
    rintro e w' ⟨rfl, rfl⟩
    exact ⟨rfl, h, Kept.refl _ _, fun _ _ => Below.refl _ _⟩
/-- A disk, the reference's beside it (its box: gm), all since w. -/
structure Inv (w W : World) (D E : Nat → Prop) (g gm n : Nat) (v0 v1 : Value) (d : List Int) (t : List Bool) : Prop where
  dk : Dk W D g d t
  len : t.length = n
  by_ : By d
  box : W.heap[gm]? = some (.cells #[v0, v1] 32 (0, 0))
  pages : Kd.R Kd.string 9 W w.heap.size E v0 (pgs d n)
  taken : Kd.R Kd.bool 4 W w.heap.size E v1 t
  apart : ∀ k, D k → w.heap.size ≤ k ∧ k < W.heap.size ∧ ¬ E k
  new : ∀ k, E k → k < W.heap.size
  gm : w.heap.size ≤ gm ∧ ¬ D gm ∧ ¬ E gm
  below : Below w.heap.size w W
theorem Inv.on {w W W2 : World} {D E : Nat → Prop} {g gm n : Nat} {v0 v1 : Value} {d : List Int} {t : List Bool} (h : Inv w W D E g gm n v0 v1 d t) (hb : Below W.heap.size W W2) : Inv w W2 D E g gm n v0 v1 d t :=
  ⟨h.dk.below hb, h.len, h.by_, blk_below h.box hb, Kd.R_below h.pages hb, Kd.R_below h.taken hb, fun k hk => ⟨(h.apart k hk).1, Nat.lt_of_lt_of_le (h.apart k hk).2.1 hb.size, (h.apart k hk).2.2⟩, fun k hk => Nat.lt_of_lt_of_le (h.new k hk) hb.size, h.gm, below_then h.below h.below.size hb⟩
/-- The disk alone was written. -/
theorem Inv.disk {w W W2 : World} {D E : Nat → Prop} {g gm n : Nat} {v0 v1 : Value} {d : List Int} {t : List Bool} (h : Inv w W D E g gm n v0 v1 d t) (hk : Kept W W2 D) (hb : ∀ B, (∀ k, D k → B ≤ k) → Below B W W2) : W2.heap[gm]? = some (.cells #[v0, v1] 32 (0, 0)) ∧ Kd.R Kd.string 9 W2 w.heap.size E v0 (pgs d n) ∧ Kd.R Kd.bool 4 W2 w.heap.size E v1 t ∧ Below w.heap.size w W2 :=
  ⟨blk_kept h.box hk h.gm.2.1, Kd.R_kept h.pages hk (fun k hE hD => (h.apart k hD).2.2 hE), Kd.R_kept h.taken hk (fun k hE hD => (h.apart k hD).2.2 hE), h.below.trans (hb _ (fun k hD => (h.apart k hD).1))⟩
/-- A copy goes on: W1 behind the copy, W2 behind the old one's last calls. -/
theorem Inv.copy {w W W1 W2 : World} {D E : Nat → Prop} {g g' gm n : Nat} {v0 v1 : Value} {d : List Int} {t : List Bool} (h : Inv w W D E g gm n v0 v1 d t) (hd : Dk W1 (fun k => W.heap.size ≤ k) g' d t) (hb1 : Below W.heap.size W W1)
    (hk : ∀ k, k < W1.heap.size → ¬ D k → W2.heap[k]? = W1.heap[k]?) (hs : W1.heap.size ≤ W2.heap.size) (hb : Below w.heap.size w W2) : Inv w W2 (fun k => W.heap.size ≤ k ∧ k < W1.heap.size) E g' gm n v0 v1 d t := by
  have hgl := blk_lt h.box
  have h1 := h.on hb1
  refine ⟨hd.bound.step (fun k hD hlt => hk k hlt (fun hD' => ?_)), h.len, h.by_, (hk gm (Nat.lt_of_lt_of_le hgl hb1.size) h.gm.2.1).trans h1.box, Kd.R_step h1.pages (fun k hE hlt => hk k hlt (fun hD' => (h.apart k hD').2.2 hE)), Kd.R_step h1.taken (fun k hE hlt => hk k hlt (fun hD' => (h.apart k hD').2.2 hE)), fun k hD => ⟨Nat.le_trans h.below.size hD.1, Nat.lt_of_lt_of_le hD.2 hs, fun hE => ?_⟩, fun k hE => Nat.lt_of_lt_of_le (h1.new k hE) hs, ⟨h.gm.1, fun hD => ?_, h.gm.2.2⟩, hb⟩
  · have := (h.apart k hD').2.1; have := hD.1; omega
  · have := h.new k hE; have := hD.1; omega
  · have := hD.1; omega
end Go.Proofs.Ytpfegfkniilobaa.Dsk
