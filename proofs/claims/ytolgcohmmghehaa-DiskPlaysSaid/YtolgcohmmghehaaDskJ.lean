/- A disk and the reference's, side by side. Conditions: their blocks are known, and apart. -/
import Derived.Test.YtolgcohmmghehaaDskI
namespace Go.Proofs.Ytolgcohmmghehaa.Dsk
open Go.RowKit Go.Proofs.YtolgcohmmghehaaW.PrintWords Go.Proofs.YtolgcohmmghehaaW.PrintLast Go.Proofs.YtolgcohmmghehaaW.PrintMore Go.Proofs.Ytolgcohmmghehaa.Byt Go.Proofs.Ytolgcohmmghehaa.XDiskPlays
set_option linter.unusedVariables false
set_option linter.unusedSimpArgs false
set_option maxRecDepth 100000
/-- What a take gives, and what is taken behind it. -/
def tkF (t : List Bool) : Int × Int × List Bool := if ix t 0 = -1 then (0, 7, t) else (ix t 0, 0, t.set (ix t 0).toNat true)
theorem tkF_len (t : List Bool) : (tkF t).2.2.length = t.length := by
  unfold tkF
  split
  · rfl
  · exact List.length_set ..
theorem take_any {w : World} {g : Nat} {d : List Int} {t : List Bool} {ok : Nat → Prop} (H : Dk w ok g d t) : Calls Try.prog 30 #[.pointer (some ⟨g, 0, none⟩)] w fun e w' => e = .returned (.tuple #[.int .u32 (tkF t).1, .int .i64 (tkF t).2.1]) ∧ Dk w' ok g d (tkF t).2.2 ∧ Kept w w' ok ∧ ∀ B, (∀ k, ok k → B ≤ k) → Below B w w' := by
  unfold tkF
  by_cases hx : ix t 0 = -1
  · rw [if_pos hx]
    refine (take_full H hx).mono ?_
    rintro e w' ⟨rfl, rfl⟩
    exact ⟨rfl, H, Kept.refl _ _, fun _ _ => Below.refl _ _⟩
  · rw [if_neg hx]
    exact take_some H hx
theorem reftake_any (P : List ByteArray) (t : List Bool) (hl : t.length ≤ 4096) : rowlockref06_Disk_Take.f (t.length + 1) P t = some ((tkF t).1, (tkF t).2.1, P, (tkF t).2.2) := by
  rw [reftake_ok P t hl]
  unfold tkF
  split <;> rfl
/-- What a write leaves, whatever is written. -/
def wrG (d : List Int) (t : List Bool) (p : Int) (bs : List Int) : List Int × List Bool × Int := if p < t.length then (if bs.length = 512 then (splice d (512 * p.toNat) bs, t.set p.toNat true, 0) else (d, t, 1)) else (d, t, 8)
theorem wrG_len (d : List Int) (t : List Bool) (p : Int) (bs : List Int) : (wrG d t p bs).2.1.length = t.length := by
  unfold wrG
  split
  · split
    · exact List.length_set ..
    · rfl
  · rfl
theorem wrG_by {d bs : List Int} (t : List Bool) (p : Int) (h : By d) (k : By bs) : By (wrG d t p bs).1 := by
  unfold wrG
  split
  · split
    · exact By.splice h k _
    · exact h
  · exact h
theorem write_all {w : World} {ok : Nat → Prop} {g : Nat} {d : List Int} {t : List Bool} (h : Dk w ok g d t) (p : Int) (A : Option Addr) (n c : Nat) (bs : List Int) (h0 : 0 ≤ p) (hp : p < 4294967296) (hn : bs.length = n) (hC : Kd.C (Kd.int .u8) w A n bs) : Calls Try.prog 21 #[.pointer (some ⟨g, 0, none⟩), .int .u32 p, .slice A n c] w fun e w' => e = .returned (.int .i64 (wrG d t p bs).2.2) ∧ Dk w' ok g (wrG d t p bs).1 (wrG d t p bs).2.1 ∧ Kept w w' ok ∧ ∀ B, (∀ k, ok k → B ≤ k) → Below B w w' := by
  unfold wrG
  by_cases hx : p < t.length
  · rw [if_pos hx]
    by_cases hb : bs.length = 512
    · rw [if_pos hb]
      obtain rfl : n = 512 := by omega
      exact write_ok h p A c bs h0 hx hb hC
    · rw [if_neg hb]
      refine (write_bad h p A n c h0 hx (by omega)).mono ?_
      rintro e w' ⟨rfl, rfl⟩
      exact ⟨rfl, h, Kept.refl _ _, fun _ _ => Below.refl _ _⟩
  · rw [if_neg hx]
    refine (write_out h p _ h0 (by omega) hp).mono ?_
    rintro e w' ⟨rfl, rfl⟩
    exact ⟨rfl, h, Kept.refl _ _, fun _ _ => Below.refl _ _⟩
theorem refwrite_all (d : List Int) (t : List Bool) (p : Int) (bs : List Int) (h0 : 0 ≤ p) (hp : p < 4294967296) (hd : d.length = 512 * t.length) (hl : t.length ≤ 4096) : rowlockref06_Disk_Write.f (pgs d t.length) t p (strOfNums bs) = some ((wrG d t p bs).2.2, pgs (wrG d t p bs).1 t.length, (wrG d t p bs).2.1) := by
  unfold wrG
  by_cases hx : p < t.length
  · rw [if_pos hx]
    by_cases hb : bs.length = 512
    · rw [if_pos hb, refwrite_ok _ _ _ _ h0 hp (by rw [pgs_len]; exact hx) (by rw [str_size]; exact hb) hl (pgs_len _ _), pgs_splice _ _ _ _ hd (by omega) hb]
    · rw [if_neg hb, refwrite_bad _ _ _ _ h0 hp (by rw [pgs_len]; exact hx) (by rw [str_size]; exact hb)]
  · rw [if_neg hx, refwrite_out _ _ _ _ h0 hp (by rw [pgs_len]; omega)]
/-- A disk, the reference's beside it (its box: gm), all since w. -/
structure Inv (w W : World) (D E : Nat → Prop) (g gm n : Nat) (v0 v1 : Value) (d : List Int) (t : List Bool) : Prop where
  dk : Dk W D g d t
  len : t.length = n
  by_ : By d
  box : W.heap[gm]? = some (.cells #[v0, v1] 49 (0, 0))
  pages : Kd.R Kd.string 9 W w.heap.size E v0 (pgs d n)
  taken : Kd.R Kd.bool 4 W w.heap.size E v1 t
  apart : ∀ k, D k → w.heap.size ≤ k ∧ k < W.heap.size ∧ ¬ E k
  new : ∀ k, E k → k < W.heap.size
  gm : w.heap.size ≤ gm ∧ ¬ D gm ∧ ¬ E gm
  below : Below w.heap.size w W
theorem Inv.on {w W W2 : World} {D E : Nat → Prop} {g gm n : Nat} {v0 v1 : Value} {d : List Int} {t : List Bool} (h : Inv w W D E g gm n v0 v1 d t) (hb : Below W.heap.size W W2) : Inv w W2 D E g gm n v0 v1 d t :=
  ⟨h.dk.below hb, h.len, h.by_, blk_below h.box hb, Kd.R_below h.pages hb, Kd.R_below h.taken hb, fun k hk => ⟨(h.apart k hk).1, Nat.lt_of_lt_of_le (h.apart k hk).2.1 hb.size, (h.apart k hk).2.2⟩, fun k hk => Nat.lt_of_lt_of_le (h.new k hk) hb.size, h.gm, below_then h.below h.below.size hb⟩
/-- The disk alone was written. -/
theorem Inv.disk {w W W2 : World} {D E : Nat → Prop} {g gm n : Nat} {v0 v1 : Value} {d : List Int} {t : List Bool} (h : Inv w W D E g gm n v0 v1 d t) (hk : Kept W W2 D) (hb : ∀ B, (∀ k, D k → B ≤ k) → Below B W W2) : W2.heap[gm]? = some (.cells #[v0, v1] 49 (0, 0)) ∧ Kd.R Kd.string 9 W2 w.heap.size E v0 (pgs d n) ∧ Kd.R Kd.bool 4 W2 w.heap.size E v1 t ∧ Below w.heap.size w W2 :=
  ⟨blk_kept h.box hk h.gm.2.1, Kd.R_kept h.pages hk (fun k hE hD => (h.apart k hD).2.2 hE), Kd.R_kept h.taken hk (fun k hE hD => (h.apart k hD).2.2 hE), h.below.trans (hb _ (fun k hD => (h.apart k hD).1))⟩
/-- Both were written: W2 behind the disk's call, W3 behind the reference's. -/
theorem Inv.both {w W W2 W3 W4 : World} {D E : Nat → Prop} {g gm n : Nat} {v0 v1 u0 u1 : Value} {d d' : List Int} {t t' : List Bool} (h : Inv w W D E g gm n v0 v1 d t) (hk : Kept W W2 D) (hd : Dk W2 D g d' t') (hl : t'.length = n) (hy : By d')
    (hk3 : Kept W2 W3 (fun k => E k ∨ E k)) (hp : Kd.R Kd.string 9 W3 w.heap.size (fun k => (E k ∨ E k) ∨ W2.heap.size ≤ k) u0 (pgs d' n)) (ht : Kd.R Kd.bool 4 W3 w.heap.size (fun k => (E k ∨ E k) ∨ W2.heap.size ≤ k) u1 t')
    (hs : W3.heap.size ≤ W4.heap.size) (h4 : ∀ k, k < W3.heap.size → k ≠ gm → (k < W.heap.size ∨ W2.heap.size ≤ k) → W4.heap[k]? = W3.heap[k]?) (hx : W4.heap[gm]? = some (.cells #[u0, u1] 49 (0, 0))) (hb : Below w.heap.size w W4) :
    Inv w W4 D (fun k => ((E k ∨ E k) ∨ W2.heap.size ≤ k) ∧ k < W3.heap.size) g gm n u0 u1 d' t' := by
  have hgl := blk_lt h.box
  refine ⟨hd.step (fun k hD hlt => ?_), hl, hy, hx, ?_, ?_, fun k hD => ?_, fun k hE => Nat.lt_of_lt_of_le hE.2 hs, ?_, hb⟩
  · have ha := h.apart k hD
    exact (h4 k (Nat.lt_of_lt_of_le hlt hk3.1) (fun e => h.gm.2.1 (e ▸ hD)) (.inl ha.2.1)).trans (hk3.2 k hlt (fun hE => ha.2.2 (hE.elim id id)))
  · refine Kd.R_step (Kd.R_mono (Kd.R_bound hp) (fun k hk => ⟨hk.1, hk.2.2.1⟩)) (fun k hE hlt => h4 k hlt ?_ ?_)
    · intro e
      rcases hE.1 with hE | hE
      · exact h.gm.2.2 (e ▸ hE.elim id id)
      · have := hk.1; omega
    · rcases hE.1 with hE | hE
      · exact .inl (h.new k (hE.elim id id))
      · exact .inr hE
  · refine Kd.R_step (Kd.R_mono (Kd.R_bound ht) (fun k hk => ⟨hk.1, hk.2.2.1⟩)) (fun k hE hlt => h4 k hlt ?_ ?_)
    · intro e
      rcases hE.1 with hE | hE
      · exact h.gm.2.2 (e ▸ hE.elim id id)
      · have := hk.1; omega
    · rcases hE.1 with hE | hE
      · exact .inl (h.new k (hE.elim id id))
      · exact .inr hE
  · have ha := h.apart k hD
    refine ⟨ha.1, ?_, fun hE => ?_⟩
    · have := hk.1; have := hk3.1; omega
    · rcases hE.1 with hE | hE
      · exact ha.2.2 (hE.elim id id)
      · have := hk.1; omega
  · refine ⟨h.gm.1, h.gm.2.1, fun hE => ?_⟩
    rcases hE.1 with hE | hE
    · exact h.gm.2.2 (hE.elim id id)
    · have := hk.1; omega
/-- A copy goes on: W1 behind the copy, W2 behind the old one's last calls. -/
theorem Inv.copy {w W W1 W2 : World} {D E : Nat → Prop} {g g' gm n : Nat} {v0 v1 : Value} {d : List Int} {t : List Bool} (h : Inv w W D E g gm n v0 v1 d t) (hd : Dk W1 (fun k => W.heap.size ≤ k) g' d t) (hb1 : Below W.heap.size W W1)
    (hk : ∀ k, k < W1.heap.size → ¬ D k → W2.heap[k]? = W1.heap[k]?) (hs : W1.heap.size ≤ W2.heap.size) (hb : Below w.heap.size w W2) : Inv w W2 (fun k => W.heap.size ≤ k ∧ k < W1.heap.size) E g' gm n v0 v1 d t := by
  have hgl := blk_lt h.box
  have h1 := h.on hb1
  refine ⟨hd.bound.step (fun k hD hlt => hk k hlt (fun hD' => ?_)), h.len, h.by_, (hk gm (Nat.lt_of_lt_of_le hgl hb1.size) h.gm.2.1).trans h1.box, Kd.R_step h1.pages (fun k hE hlt => hk k hlt (fun hD' => (h.apart k hD').2.2 hE)), Kd.R_step h1.taken (fun k hE hlt => hk k hlt (fun hD' => (h.apart k hD').2.2 hE)), fun k hD => ⟨Nat.le_trans h.below.size hD.1, Nat.lt_of_lt_of_le hD.2 hs, fun hE => ?_⟩, fun k hE => Nat.lt_of_lt_of_le (h1.new k hE) hs, ⟨h.gm.1, fun hD => ?_, h.gm.2.2⟩, hb⟩
  · have := (h.apart k hD').2.1; have := hD.1; omega
  · have := h.new k hE; have := hD.1; omega
  · have := hD.1; omega
end Go.Proofs.Ytolgcohmmghehaa.Dsk
