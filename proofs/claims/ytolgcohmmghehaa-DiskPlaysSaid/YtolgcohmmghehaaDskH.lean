/- The reference's Load and New as plain laws. Conditions: bytes, not too many. -/
import Derived.Test.YtolgcohmmghehaaDskG
namespace Go.Proofs.Ytolgcohmmghehaa.Dsk
open Go.RowKit Go.Proofs.YtolgcohmmghehaaW.PrintWords Go.Proofs.YtolgcohmmghehaaW.PrintLast Go.Proofs.YtolgcohmmghehaaW.PrintMore Go.Proofs.Ytolgcohmmghehaa.Byt Go.Proofs.Ytolgcohmmghehaa.XDiskPlays
set_option linter.unusedVariables false
set_option linter.unusedSimpArgs false
theorem bytes_str {l : List Int} (h : By l) : bytesOf (strOfNums l) = l := by
  refine List.ext_getElem? fun j => ?_
  by_cases hj : j < l.length
  · have hb : j < (bytesOf (strOfNums l)).length := by rw [bytesOf_length, str_size]; exact hj
    have e := rd_bytesOf (strOfNums l) (j : Int)
    rw [str_bt h] at e
    rw [rd, rd, List.getD_eq_getElem?_getD, List.getD_eq_getElem?_getD, Int.toNat_natCast, List.getElem?_eq_getElem hj, List.getElem?_eq_getElem hb] at e
    rw [List.getElem?_eq_getElem hj, List.getElem?_eq_getElem hb]
    exact congrArg some e
  · rw [List.getElem?_eq_none (by rw [bytesOf_length, str_size]; omega), List.getElem?_eq_none (by omega)]
theorem one_C (W : World) (x : Int) : Kd.C (Kd.int .u8) (W.alloc (.cells #[.int .u8 x] 5)) (some ⟨W.heap.size, 0, none⟩) 1 [x] := by
  have ho := World.ownsRow_lit (base := 0) (e := 5) (size := 1) W #[.int .u8 x] 1 (by omega) (by unfold maxLen; omega) rfl
  exact (Kd.R_reads' (Kd.R_of_own (enc := Value.int .u8) (h1 := fun _ => rfl) (xs := [x]) (ok := fun _ => True) ho (fun _ _ => trivial))).2.2
/-- 'clear' of what '[]byte(s)' made. -/
theorem clear_conv (W0 W : World) (s : ByteArray) (ty : TypeId) (hk : W.heap[W0.heap.size]? = (Lib.bytesWorld W0 5 s).heap[W0.heap.size]?) (n c : Nat) (hn : s.size = n) :
    ∃ w1, (Builtin.clear_ #[26] ty #[.slice (some ⟨W0.heap.size, 0, none⟩) n c]).run Try.prog W = .ok (.tuple #[]) w1 ∧ W.grownBy w1 (some W0.heap.size) := by
  subst hn
  by_cases hp : 0 < s.size
  · refine ⟨_, Go.Lib.run_clear_slice W 26 5 ty (.int .u8 0) Try.underlying26 (fun w => by obtain ⟨i0, hi0, hz, _⟩ := info_parts info5; simp [zeroValue, typeInfo, hi0, hz]) rfl rfl W0.heap.size 0 s.size c hp ?_ ?_, ?_⟩
    · intro j hj
      have h := Lib.bytesWorld_cell W0 5 s j hj
      rw [Nat.zero_add, World.cell?_of_block (w := Lib.bytesWorld W0 5 s) hk, h]
      rfl
    · intro j hj
      rw [Nat.zero_add, World.frozen?_of_block (w := Lib.bytesWorld W0 5 s) hk]
      simp [World.frozen?, Lib.bytesWorld_at_new, Lib.bytesCells]
      omega
    · have hs := setCells_same W0.heap.size (List.replicate s.size (.int .u8 0)) 0 W
      exact ⟨hs.1, hs.2.1, hs.2.2.1, Nat.le_of_eq hs.2.2.2.symm, fun k _ hk => setCells_far _ _ k (fun e => hk (by rw [e]))⟩
  · have h0 : s.size = 0 := by omega
    rw [h0]
    exact ⟨W, by simp [Builtin.clear_, run_underlying Try.underlying26], World.grownBy.refl W _⟩
theorem pgs_succ (d : List Int) (n : Nat) : pgs d (n + 1) = pgs d n ++ [strOfNums (pg d n)] := by
  rw [pgs, pgs, List.range_succ, List.map_append, List.map_singleton]
theorem lts_succ (d : List Int) (n : Nat) : (List.range (n + 1)).map (lt d) = (List.range n).map (lt d) ++ [lt d n] := by
  rw [List.range_succ, List.map_append, List.map_singleton]
theorem ext_pg (xs : List Int) (i : Nat) : (strOfNums xs).extract (512 * i) (512 * i + 512) = strOfNums (pg xs i) := by
  rw [str_extract, pg, List.drop_take]
  congr 2
  omega
theorem refload_l (xs : List Int) (hy : By xs) (n : Nat) (hn : xs.length = 512 * n) (h4 : n ≤ 4096) : ∀ (m i : Nat), i + m = n → rowlockref06_Load.l0 (m + 1) (strOfNums xs) (n : Int) (i : Int) (pgs xs i) ((List.range i).map (lt xs)) = some (pgs xs n, (List.range n).map (lt xs), true)
  | 0, i, hi => by
    obtain rfl : i = n := by omega
    rw [rowlockref06_Load.l0, if_neg (by omega)]
  | m + 1, i, hi => by
    have w1 : wrap64 (512 * (i : Int)) = 512 * i := w64_in _ (by omega)
    have w2 : wrap64 (512 * (i : Int) + 512) = 512 * i + 512 := w64_in _ (by omega)
    have w3 : wrap64 ((i : Int) + 1) = ((i + 1 : Nat) : Int) := by rw [w64_in _ (by omega)]; omega
    have e1 : (512 * (i : Int)).toNat = 512 * i := by omega
    have e2 : (512 * (i : Int) + 512).toNat = 512 * i + 512 := by omega
    have hpl : (pg xs i).length = 512 := by rw [pg, List.length_take, List.length_drop]; omega
    have hpy : By (pg xs i) := (hy.drop _).take _
    have ih := refload_l xs hy n hn h4 m (i + 1) (by omega)
    rw [pgs_succ, lts_succ] at ih
    rw [rowlockref06_Load.l0, if_pos (by omega), w1, w2, e1, e2, ext_pg, if_pos (by omega), if_pos (by omega), if_pos (by rw [str_size]; omega), if_pos (by rw [pgs_len]; omega), Option.bind_some, w3]
    by_cases h0 : i = 0
    · rw [if_pos (by omega), if_pos (by rw [List.length_map, List.length_range]; omega)]
      rw [show lt xs i = true by simp [lt, h0]] at ih
      exact ih
    · rw [if_neg (by omega), if_pos (by rw [str_size, hpl]; omega), if_pos (by rw [List.length_map, List.length_range]; omega), str_bt hpy]
      have hr : rd (pg xs i) 0 = rd xs ((i : Int) * 512) := by
        rw [pg, rd, rd, List.getD_eq_getElem?_getD, List.getD_eq_getElem?_getD, List.getElem?_take, List.getElem?_drop]
        simp
        congr 2
        omega
      rw [hr]
      rw [show lt xs i = (rd xs ((i : Int) * 512) != 0) by rw [lt, decide_eq_false h0]; rfl] at ih
      exact ih
theorem refload_ok (xs : List Int) (hy : By xs) (h : 1 ≤ xs.length / 512 ∧ xs.length / 512 ≤ 4096 ∧ xs.length % 512 = 0) : rowlockref06_Load.f 4100 (strOfNums xs) = some (pgs xs (xs.length / 512), ld xs, true) := by
  obtain ⟨n, hn⟩ : ∃ n, n = xs.length / 512 := ⟨_, rfl⟩
  have hl : xs.length = 512 * n := by omega
  have w0 : wrap64 ((xs.length : Int) / 512) = (n : Int) := by rw [w64_in _ (by omega)]; omega
  rw [rowlockref06_Load.f, str_size, if_pos (by omega), w0, if_neg (by omega), show decide ((n : Int) > 4096) = false from decide_eq_false (by omega), rowlockref06_Load.j0, if_neg (by decide), ld, ← hn]
  have h0 := refload_l xs hy n hl (by omega) n 0 (by omega)
  have hm : ∀ m, rowlockref06_Load.l0 (n + 1 + m) (strOfNums xs) (n : Int) 0 [] [] = some (pgs xs n, (List.range n).map (lt xs), true) := by
    intro m
    induction m with
    | zero => exact h0
    | succ m ih => exact (rowlockref06_Load.mono_l _).2 _ _ _ _ _ _ ih
  have e : 4099 = n + 1 + (4098 - n) := by omega
  rw [e]
  exact hm _
theorem refload_bad (xs : List Int) (hl : xs.length ≤ 1000000) (h : ¬ (1 ≤ xs.length / 512 ∧ xs.length / 512 ≤ 4096 ∧ xs.length % 512 = 0)) : rowlockref06_Load.f 4100 (strOfNums xs) = some ([], [], false) := by
  have w0 : wrap64 ((xs.length : Int) / 512) = (xs.length : Int) / 512 := w64_in _ (by omega)
  rw [rowlockref06_Load.f, str_size, w0]
  by_cases h1 : (xs.length : Int) % 512 = 0
  · rw [if_pos h1]
    by_cases h2 : (xs.length : Int) / 512 = 0
    · rw [if_pos h2, rowlockref06_Load.j0, if_pos rfl]
    · rw [if_neg h2, show decide ((xs.length : Int) / 512 > 4096) = true from decide_eq_true (by omega), rowlockref06_Load.j0, if_pos rfl]
  · rw [if_neg h1, rowlockref06_Load.j0, if_pos rfl]
end Go.Proofs.Ytolgcohmmghehaa.Dsk
