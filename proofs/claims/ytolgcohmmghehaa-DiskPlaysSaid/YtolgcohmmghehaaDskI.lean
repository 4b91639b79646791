/- The reference's New, Write and Take as plain laws; 'clear' of bytes of one's own. Conditions: not too many pages. -/
import Derived.Test.YtolgcohmmghehaaDskH
namespace Go.Proofs.Ytolgcohmmghehaa.Dsk
open Go.RowKit Go.Proofs.YtolgcohmmghehaaW.PrintWords Go.Proofs.YtolgcohmmghehaaW.PrintLast Go.Proofs.YtolgcohmmghehaaW.PrintMore Go.Proofs.Ytolgcohmmghehaa.Byt Go.Proofs.Ytolgcohmmghehaa.XDiskPlays
set_option linter.unusedVariables false
set_option linter.unusedSimpArgs false
theorem refnew_ok (n : Nat) (h : 1 ≤ n ∧ n ≤ 4096) : rowlockref06_New.f 4101 (n : Int) = some (pgs (List.replicate (n * 512) 0) n, ld (List.replicate (n * 512) 0), true) := by
  have hd := zeros_div n h.1 h.2
  have hdl : (List.replicate (n * 512) (0 : Int)).length / 512 = n := by rw [List.length_replicate]; omega
  have w1 : wrap64 (512 * (n : Int)) = ((n * 512 : Nat) : Int) := by rw [w64_in _ (by omega)]; omega
  rw [rowlockref06_New.f, if_neg (by omega), show decide ((n : Int) > 4096) = false from decide_eq_false (by omega), rowlockref06_New.j0, if_neg (by decide), w1, rowlockref06_zeros.f, if_pos (by omega), if_pos (by omega), Option.bind_some, Int.toNat_natCast, refload_ok _ (By.zeros _) hd, hdl]
  rfl
theorem refnew_bad (p : Int) (h : ¬ (1 ≤ p ∧ p ≤ 4096)) : rowlockref06_New.f 4101 p = some ([], [], false) := by
  rw [rowlockref06_New.f]
  by_cases h1 : p < 1
  · rw [if_pos h1, rowlockref06_New.j0, if_pos rfl]
  · rw [if_neg h1, show decide (p > 4096) = true from decide_eq_true (by omega), rowlockref06_New.j0, if_pos rfl]
theorem reftake_f (P : List ByteArray) (t : List Bool) (i : Int) (hl : t.length ≤ 4096) (h0 : 0 ≤ i) (h1 : i < t.length) : rowlockref06_Disk_take.f P t i = some (P, t.set i.toNat true) := by
  rw [rowlockref06_Disk_take.f, Option.bind_some, if_pos (by rw [List.length_nil]; omega), Option.bind_some, List.nil_append, if_pos h0, if_pos h1]
theorem refwrite_out (P : List ByteArray) (t : List Bool) (p : Int) (s : ByteArray) (h0 : 0 ≤ p) (hp : p < 4294967296) (h : (P.length : Int) ≤ p) : rowlockref06_Disk_Write.f P t p s = some (8, P, t) := by
  rw [rowlockref06_Disk_Write.f, w64_in p (by omega), if_pos h]
theorem refwrite_bad (P : List ByteArray) (t : List Bool) (p : Int) (s : ByteArray) (h0 : 0 ≤ p) (hp : p < 4294967296) (h : p < P.length) (hs : s.size ≠ 512) : rowlockref06_Disk_Write.f P t p s = some (1, P, t) := by
  rw [rowlockref06_Disk_Write.f, w64_in p (by omega), if_neg (by omega), if_neg (by omega)]
theorem refwrite_ok (P : List ByteArray) (t : List Bool) (p : Int) (s : ByteArray) (h0 : 0 ≤ p) (hp : p < 4294967296) (h : p < P.length) (hs : s.size = 512) (hl : t.length ≤ 4096) (ht : P.length = t.length) : rowlockref06_Disk_Write.f P t p s = some (0, P.set p.toNat s, t.set p.toNat true) := by
  rw [rowlockref06_Disk_Write.f, w64_in p (by omega), if_neg (by omega), if_pos (by omega), Option.bind_some, if_pos (by rw [List.length_nil]; omega), Option.bind_some, List.nil_append, if_pos h0, if_pos h, reftake_f _ _ _ hl h0 (by omega)]
  rfl
theorem reftk (P : List ByteArray) (t : List Bool) (hl : t.length ≤ 4096) : ∀ (n : Nat) (i : Nat), i + n = t.length → rowlockref06_Disk_Take.l0 (n + 1) (t.length : Int) (i : Int) P t = some (if ix (t.drop i) i = -1 then (0, 7, P, t) else (ix (t.drop i) i, 0, P, t.set (ix (t.drop i) i).toNat true))
  | 0, i, hi => by
    rw [rowlockref06_Disk_Take.l0, if_neg (by omega), List.drop_of_length_le (by omega), ix, if_pos rfl]
  | n + 1, i, hi => by
    have hlt : i < t.length := by omega
    have hd := drop_b t (i : Int) (by omega) (by omega)
    rw [show ((i : Int) + 1).toNat = i + 1 by omega, Int.toNat_natCast] at hd
    rw [rowlockref06_Disk_Take.l0, if_pos (by omega), if_pos (by omega), if_pos (by omega), hd]
    have e : wrap64 ((i : Int) + 1) = ((i + 1 : Nat) : Int) := by rw [w64_in _ (by omega)]; omega
    cases rdOf false t i
    · rw [if_neg (by decide), reftake_f _ _ _ hl (by omega) (by omega), Option.bind_some]
      have hx : ix (false :: t.drop (i + 1)) (i : Int) = i := by simp [ix]
      rw [hx, if_neg (by omega), show (i : Int) % 4294967296 = i by omega]
    · rw [if_pos rfl, e, reftk P t hl n (i + 1) (by omega), ix, if_pos rfl]
      rfl
theorem reftake_ok (P : List ByteArray) (t : List Bool) (hl : t.length ≤ 4096) : rowlockref06_Disk_Take.f (t.length + 1) P t = some (if ix t 0 = -1 then (0, 7, P, t) else (ix t 0, 0, P, t.set (ix t 0).toNat true)) := by
  rw [rowlockref06_Disk_Take.f]
  exact reftk P t hl t.length 0 (by omega)
theorem pg_splice (d bs : List Int) (p i n : Nat) (hd : d.length = 512 * n) (hp : p < n) (hi : i < n) (hb : bs.length = 512) : pg (splice d (512 * p) bs) i = if i = p then bs else pg d i := by
  have hl : (splice d (512 * p) bs).length = d.length := length_splice _ _ _ (by omega)
  refine List.ext_getElem? fun j => ?_
  rw [pg, List.getElem?_take, List.getElem?_drop]
  by_cases e : i = p
  · subst e
    rw [if_pos rfl]
    by_cases hj : j < 512
    · rw [if_pos hj, splice, List.getElem?_append, List.length_take, if_neg (by omega), List.getElem?_append, if_pos (by omega)]
      congr 1
      omega
    · rw [if_neg hj, List.getElem?_eq_none (by omega)]
  · rw [if_neg e, pg, List.getElem?_take, List.getElem?_drop]
    by_cases hj : j < 512
    · rw [if_pos hj, if_pos hj, splice, List.getElem?_append, List.length_take]
      by_cases h1 : 512 * i + j < 512 * p
      · rw [if_pos (by omega), List.getElem?_take, if_pos h1]
      · rw [if_neg (by omega), List.getElem?_append, if_neg (by omega), List.getElem?_drop]
        congr 1
        omega
    · rw [if_neg hj, if_neg hj]
theorem pgs_splice (d bs : List Int) (p n : Nat) (hd : d.length = 512 * n) (hp : p < n) (hb : bs.length = 512) : pgs (splice d (512 * p) bs) n = (pgs d n).set p (strOfNums bs) := by
  refine List.ext_getElem? fun j => ?_
  rw [List.getElem?_set, pgs_len]
  by_cases hj : j < n
  · rw [pgs, List.getElem?_map, List.getElem?_range hj]
    show some (strOfNums (pg (splice d (512 * p) bs) j)) = _
    rw [pg_splice d bs p j n hd hp hj hb]
    by_cases e : j = p
    · rw [if_pos e, if_pos e.symm, if_pos (by omega)]
    · rw [if_neg e, if_neg (fun h => e h.symm), pgs, List.getElem?_map, List.getElem?_range hj]
      rfl
  · rw [List.getElem?_eq_none (by rw [pgs_len]; omega), if_neg (by omega), List.getElem?_eq_none (by rw [pgs_len]; omega)]
/-- 'clear' of a cut of a row of one's own. -/
theorem clear_cut {W : World} {g o n c : Nat} {xs : List Int} {cells : Array Value} (hb : W.heap[g]? = some (.cells cells 5 (0, 0))) (hC : Kd.C (Kd.int .u8) W (some ⟨g, o, none⟩) n xs) (ty : TypeId) :
    ∃ w1, (Builtin.clear_ #[26] ty #[.slice (some ⟨g, o, none⟩) n c]).run Try.prog W = .ok (.tuple #[]) w1 ∧ W.grownBy w1 (some g) := by
  by_cases hp : 0 < n
  · refine ⟨_, Go.Lib.run_clear_slice W 26 5 ty (.int .u8 0) Try.underlying26 (fun w => by obtain ⟨i0, hi0, hz, _⟩ := info_parts info5; simp [zeroValue, typeInfo, hi0, hz]) rfl rfl g o n c hp ?_ (fun j _ => blk_frozen hb _), ?_⟩
    · intro j hj
      obtain ⟨ad, he, hx⟩ := Kd.at_int hC (j : Int) (by omega) (by omega)
      injection he with he
      subst he
      have e : (Addr.add ⟨g, o, none⟩ ((j : Nat) : Int).toNat) = ⟨g, o + j, none⟩ := by
        simp only [Int.toNat_natCast, Addr.add]
        split <;> simp_all
      rw [e] at hx
      rw [hx]
      rfl
    · have hs := setCells_same g (List.replicate n (.int .u8 0)) o W
      exact ⟨hs.1, hs.2.1, hs.2.2.1, Nat.le_of_eq hs.2.2.2.symm, fun k _ hk => setCells_far _ _ k (fun e => hk (by rw [e]))⟩
  · have h0 : n = 0 := by omega
    rw [h0]
    exact ⟨W, by simp [Builtin.clear_, run_underlying Try.underlying26], World.grownBy.refl W _⟩
end Go.Proofs.Ytolgcohmmghehaa.Dsk
