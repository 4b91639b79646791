/- A row of bytes that came of a text: it is written, goes on and is read again. Conditions: it is not endless. -/
import Derived.Test.YthkanebmkeamlaaDoorKyB
import Derived.ArgAppend
import Derived.Lib.ConvBytes
namespace Go.Proofs.YthkanebmkeamlaaDoor.Ky
open Go.RowKit Go.Proofs.YthkanebmkeamlaaDoorW.PrintWords Go.Proofs.YthkanebmkeamlaaDoorW.PrintLast Go.Proofs.YthkanebmkeamlaaDoorW.PrintMore Go.Proofs.YthkanebmkeamlaaDoor.XKey Go.Proofs.YthkanebmkeamlaaDoor.Byt
set_option linter.unusedVariables false
set_option linter.unusedSimpArgs false
set_option maxRecDepth 100000
/-- A row of bytes in a block of the call's own, whose mark, if there is one, lies behind it. -/
structure RM (w : World) (B g cap : Nat) (xs : List Int) : Prop where
  hB : B ≤ g
  len : xs.length ≤ cap
  max : cap ≤ maxLen
  blk : ∃ cur fr, w.heap[g]? = some (.cells cur 5 fr) ∧ (∀ j, j < cap → ¬ (fr.1 ≤ j ∧ j < fr.2)) ∧ cur.size = cap ∧ cur.toList.take xs.length = nums .u8 xs
def RV (w : World) (B : Nat) (v : Value) (xs : List Int) : Prop := ∃ g cap, v = .slice (some ⟨g, 0, none⟩) xs.length cap ∧ RM w B g cap xs
theorem RM.cell {w : World} {B g cap : Nat} {xs : List Int} (h : RM w B g cap xs) {j : Nat} (hj : j < xs.length) : w.cell? ⟨g, j, none⟩ = some (.int .u8 (xs.getD j 0)) := by
  obtain ⟨cur, fr, h1, h2, h3, h4⟩ := h.blk
  have h5 := congrArg (fun l => l[j]?) h4
  simp only [List.getElem?_take, hj, if_true, nums, List.getElem?_map, List.getElem?_eq_getElem hj, Option.map_some] at h5
  rw [show w.cell? ⟨g, j, none⟩ = cur[j]? by simp [World.cell?, h1], List.getD_eq_getElem?_getD, List.getElem?_eq_getElem hj]
  simpa using h5
theorem RM.isSome {w : World} {B g cap : Nat} {xs : List Int} (h : RM w B g cap xs) {j : Nat} (hj : j < cap) : (w.cell? ⟨g, j, none⟩).isSome = true := by
  obtain ⟨cur, fr, h1, h2, h3, h4⟩ := h.blk
  rw [show w.cell? ⟨g, j, none⟩ = cur[j]? by simp [World.cell?, h1], Array.getElem?_eq_getElem (by omega)]
  rfl
theorem RM.free {w : World} {B g cap : Nat} {xs : List Int} (h : RM w B g cap xs) {j : Nat} (hj : j < cap) : w.frozen? ⟨g, j, none⟩ = false := by
  obtain ⟨cur, fr, h1, h2, h3, h4⟩ := h.blk
  obtain ⟨lo, hi⟩ := fr
  have h5 := h2 j hj
  simp only [World.frozen?, h1]
  simp only [Bool.and_eq_false_iff, decide_eq_false_iff_not]
  omega
theorem RM.lt {w : World} {B g cap : Nat} {xs : List Int} (h : RM w B g cap xs) : g < w.heap.size := by
  obtain ⟨cur, fr, h1, _⟩ := h.blk
  exact (Array.getElem?_eq_some_iff.1 h1).1
theorem RM.keep {w w' : World} {B g cap : Nat} {xs : List Int} (h : RM w B g cap xs) (hb : w'.heap[g]? = w.heap[g]?) : RM w' B g cap xs := by
  obtain ⟨cur, fr, h1, h2, h3, h4⟩ := h.blk
  exact ⟨h.hB, h.len, h.max, cur, fr, hb.trans h1, h2, h3, h4⟩
theorem RM.put {w : World} {B g cap : Nat} {xs ys : List Int} (h : RM w B g cap xs) (j : Nat) (c : Int) (hl : ys.length ≤ cap) (he : ((w.heap[g]?.map fun o => match o with | .cells cur _ _ => (cur.toList.set j (.int .u8 c)).take ys.length | _ => []) = some (nums .u8 ys))) : RM (w.setCell ⟨g, j, none⟩ (.int .u8 c)) B g cap ys := by
  obtain ⟨cur, fr, h1, h2, h3, h4⟩ := h.blk
  refine ⟨h.hB, hl, h.max, cur.setIfInBounds j (.int .u8 c), fr, ?_, h2, by simpa using h3, ?_⟩
  · simp [World.setCell, Array.getElem?_modify, h1]
  · rw [h1] at he
    simpa using he
theorem nums_len (xs : List Int) : (nums .u8 xs).length = xs.length := by simp [nums]
theorem RM.push {w : World} {B g cap : Nat} {xs : List Int} (h : RM w B g cap xs) (c : Int) (hr : xs.length + 1 ≤ cap) : RM (w.setCell ⟨g, xs.length, none⟩ (.int .u8 c)) B g cap (xs ++ [c]) := by
  refine h.put xs.length c (by simp; omega) ?_
  obtain ⟨cur, fr, h1, h2, h3, h4⟩ := h.blk
  rw [h1]
  simp only [Option.map_some]
  congr 1
  have hc : xs.length < cur.toList.length := by simp; omega
  rw [List.length_append, List.length_singleton, List.take_succ_eq_append_getElem (by rw [List.length_set]; exact hc), List.take_set_of_le (by omega), h4, List.getElem_set_self]
  simp [nums]
theorem RM.store {w : World} {B g cap : Nat} {xs : List Int} (h : RM w B g cap xs) (j : Nat) (c : Int) (hj : j < xs.length) : RM (w.setCell ⟨g, j, none⟩ (.int .u8 c)) B g cap (xs.set j c) := by
  refine h.put j c (by simp; exact h.len) ?_
  obtain ⟨cur, fr, h1, h2, h3, h4⟩ := h.blk
  rw [h1]
  simp only [Option.map_some, List.length_set]
  congr 1
  rw [List.take_set, h4]
  simp [nums, List.map_set]
theorem RV.C {w : World} {B : Nat} {A : Option Addr} {n c : Nat} {xs : List Int} (h : RV w B (.slice A n c) xs) : Kd.C (Kd.int .u8) w A xs.length xs ∧ n = xs.length := by
  obtain ⟨g, cap, e, hr⟩ := h
  injection e with e1 e2 e3
  subst e1 e2
  refine ⟨Kd.C_of_reads (enc := Value.int .u8) (d := (0 : Int)) (h1 := fun _ => rfl) ⟨rfl, ?_, fun hn => ⟨_, rfl, fun j hj => ?_⟩⟩, rfl⟩
  · have h1 := hr.len
    have h2 := hr.max
    unfold maxLen at h2
    omega
  · rw [show (⟨g, 0, none⟩ : Addr).add j = ⟨g, j, none⟩ by unfold Addr.add; split <;> simp_all]
    exact hr.cell hj
theorem RV.of_own {w : World} {B : Nat} {v : Value} {xs : List Int} (h : w.ownsRow B 5 1 v xs.length (nums .u8 xs)) (h0 : xs.length ≠ 0) : RV w B v xs := by
  rcases h.2 with ⟨_, hn⟩ | ⟨g, cap, cur, hv, hb, hg, hn, hm, hs, ht⟩
  · exact absurd hn h0
  · exact ⟨g, cap, hv, hb, hn, hm, cur, (0, 0), hg, fun j _ h => by have := h.2; simp at this, by simpa using hs, by simpa using ht⟩
theorem alloc_same (w : World) (o : Obj) (k : Nat) (h : k < w.heap.size) : (w.alloc o).heap[k]? = w.heap[k]? := Below.heap_alloc w o k h
/-- append of one byte, where it lies in a new cell. -/
theorem RV.append {w : World} {B : Nat} {v : Value} {xs : List Int} (h : RV w B v xs) (c : Int) (hBw : B ≤ w.heap.size) (hl : xs.length ≤ 1000) (ty : TypeId) :
    ∃ v' w', (Builtin.append_ #[31, 31] ty #[v, .slice (some ⟨w.heap.size, 0, none⟩) 1 1]).run Tryd.prog (w.alloc (.cells #[.int .u8 c] 5)) = .ok v' w' ∧ RV w' B v' (xs ++ [c]) ∧ Below B w w' := by
  obtain ⟨i0, hi, hz0, hz1, hz2⟩ := info_parts info5
  obtain ⟨g, cap, rfl, hr⟩ := h
  have hlt := hr.lt
  have hr0 : RM (w.alloc (.cells #[.int .u8 c] 5)) B g cap xs := hr.keep (alloc_same _ _ _ hlt)
  have hnew : ∀ j u, [Value.int .u8 c][j]? = some u → (w.alloc (.cells #[.int .u8 c] 5)).cell? ((⟨w.heap.size, 0, none⟩ : Addr).add j) = some u := fun j u hj => by
    match j, hj with
    | 0, hj =>
      simp at hj
      subst hj
      exact blk_cell (blk_new w (.cells #[.int .u8 c] 5)) 0
  have hone : ∀ u ∈ [Value.int .u8 c], u.oneCell' = true := fun u hu => by rw [List.mem_singleton.1 hu]; rfl
  by_cases hroom : xs.length + 1 ≤ cap
  · have hrun := run_append_room_cells (P := Tryd.prog) (w.alloc (.cells #[.int .u8 c] 5)) 31 ty 5 i0 Tryd.underlying31 hi g 0 xs.length cap ⟨w.heap.size, 0, none⟩ 1 1 [.int .u8 c] (by rw [hz1]; rfl) hnew hone hroom
      (fun j hj => by rw [hz1, show j = 0 from (by simpa using hj)]; exact hr0.isSome (by omega)) (fun j hj => by rw [hz1, show j = 0 from (by simpa using hj)]; exact hr0.free (by omega))
    rw [hz1] at hrun
    simp only [Nat.zero_add, Nat.mul_one, World.setCells] at hrun
    refine ⟨_, _, hrun, ⟨g, cap, by simp, hr0.push c hroom⟩, ?_⟩
    exact ((Below.refl B w).alloc hBw _).setCell (p := ⟨g, xs.length, none⟩) hr.hB _
  · have hm := hr.max
    obtain ⟨v', w', hrun, hown, hg⟩ := run_append_arg_grows (P := Tryd.prog) (w.alloc (.cells #[.int .u8 c] 5)) 31 ty 5 i0 (.int .u8 0) 1 1 Tryd.underlying31 hi hz0 hz1 hz2 rfl (by decide) ⟨g, 0, none⟩ xs.length cap (nums .u8 xs) (by rw [nums_len]; omega)
      (fun j u hj => by
        have hj2 : j < xs.length := by
          rcases Nat.lt_or_ge j xs.length with h | h
          · exact h
          · rw [List.getElem?_eq_none (by rw [nums_len]; exact h)] at hj; cases hj
        rw [show (⟨g, 0, none⟩ : Addr).add j = ⟨g, j, none⟩ by unfold Addr.add; split <;> simp_all, hr0.cell hj2]
        simpa [nums, List.getElem?_map, List.getElem?_eq_getElem hj2, List.getD_eq_getElem?_getD] using hj) ⟨w.heap.size, 0, none⟩ 1 1 [.int .u8 c] rfl hnew (by omega) (by unfold maxLen; omega) (by omega)
    have hb2 : Below B w w' := ((Below.refl B w).alloc hBw _).grown hg (by simp; omega) (fun k hk => by cases hk)
    refine ⟨v', w', hrun, ?_, hb2⟩
    have ho : w'.ownsRow B 5 1 v' (xs ++ [c]).length (nums .u8 (xs ++ [c])) := by
      have this : w'.ownsRow B 5 1 v' (xs.length + 1) (nums .u8 xs ++ [.int .u8 c]) := by
        refine ⟨hown.1, hown.2.imp id ?_⟩
        rintro ⟨g', cap', cur', a1, a2, a3⟩
        exact ⟨g', cap', cur', a1, by simp at a2; omega, a3⟩
      have e : nums .u8 (xs ++ [c]) = nums .u8 xs ++ [.int .u8 c] := by simp [nums]
      rw [e, List.length_append]
      exact this
    exact RV.of_own ho (by simp)
/-- What a text is turned into. -/
theorem RV.bytes (W : World) (xs : List Int) (hy : By xs) (hl : xs.length ≤ 1000000) : RV (Lib.bytesWorld W 5 (strOfNums xs)) W.heap.size (.slice (some ⟨W.heap.size, 0, none⟩) xs.length (grownCap W xs.length 0 5)) xs := by
  have hs : (strOfNums xs).size = xs.length := str_size xs
  have hge := grownCap_ge W xs.length 0 5
  have hmx := grownCap_le_maxLen W xs.length 0 5 (by unfold maxLen; omega)
  have hsz : (Lib.bytesCells W 5 (strOfNums xs)).size = grownCap W xs.length 0 5 := by
    simp only [Lib.bytesCells, Array.size_append, Array.size_map, Array.size_replicate, hs]
    have : (strOfNums xs).data.size = xs.length := hs
    omega
  refine ⟨W.heap.size, _, rfl, Nat.le_refl _, hge, hmx, Lib.bytesCells W 5 (strOfNums xs), _, Lib.bytesWorld_at_new W 5 (strOfNums xs), fun j hj h => ?_, hsz, ?_⟩
  · have := h.1
    simp only at this
    omega
  · have hd : (strOfNums xs).data.toList.length = xs.length := hs
    rw [Lib.bytesCells, Array.toList_append, List.take_append_of_le_length (by simp; omega), List.take_of_length_le (by simp; omega)]
    simp only [Array.toList_map, strOfNums, nums, List.map_map]
    apply List.map_congr_left
    intro x hx
    have := hy x hx
    simp
    omega
end Go.Proofs.YthkanebmkeamlaaDoor.Ky
