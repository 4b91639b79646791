-- Written by this session's own program (wip/own_print.py) over the kit's print, with this session's hand-proved contracts in their places; Lean checks it.
import Derived.Test.YtegegpdaalfbdaaXRowcodePutsx0
import Derived.Test.YtegegpdaalfbdaaXRowcodePutsx2
import Derived.Test.YtegegpdaalfbdaaXRowcodePutsx3
namespace Go.Proofs.Ytegegpdaalfbdaa.XRowcodePuts
open Go.RowKit Go.Proofs.YtegegpdaalfbdaaW.PrintWords Go.Proofs.YtegegpdaalfbdaaW.PrintLast Go.Proofs.YtegegpdaalfbdaaW.PrintMore
attribute [local go_sem] max2_int min2_int max_two min_two max_three min_three max_four min_four   -- for this text's walks alone
set_option linter.unusedVariables false
set_option linter.unusedSimpArgs false

/-! ### rowlockref04_Put: function 33 -/
mutual
def rowlockref04_Put.l0 : Nat → List (S36) → Int → Int → Option (List Int × Int)
  | 0, _, _, _ => none
  | k + 1, x0, x9, x10 => if x10 < x9 then (if 0 ≤ x10 then (if x10 < (x0.length : Int) then ((rowlockref01_May.f ((rd_T36 x0 x10).f0) ((rd_T36 x0 x10).f1) ((rd_T36 x0 x10).f2)).bind fun t149 => (if t149 = true then (rowlockref04_Put.l0 k x0 x9 (wrap64 (x10 + 1))) else (some ((([] : List Int)), 1)))) else (none)) else (none)) else (if (x0.length : Int) > 255 then (some ((([] : List Int)), 15)) else (rowlockref04_Put.l1 k x0 (([((x0.length : Int)) % 256] : List Int)) (x0.length : Int) 0))
def rowlockref04_Put.l1 : Nat → List (S36) → List Int → Int → Int → Option (List Int × Int)
  | 0, _, _, _, _ => none
  | k + 1, x0, x5, x30, x31 => if x31 < x30 then (if 0 ≤ x31 then (if x31 < (x0.length : Int) then (if x5.length < 140737488355328 then ((some (x5 ++ [(rd_T36 x0 x31).f0] : List Int)).bind fun y161 => (if ((rd_T36 x0 x31).f0) = 1 then ((rowlockref04_Number.f k ((rd_T36 x0 x31).f1)).bind fun t164 => (if y161.length + t164.length < 140737488355328 then (rowlockref04_Put.j2 k x0 (y161 ++ t164) x30 x31 ((rd_T36 x0 x31).f0) ((rd_T36 x0 x31).f1) ((rd_T36 x0 x31).f2)) else (none))) else (rowlockref04_Put.j2 k x0 y161 x30 x31 ((rd_T36 x0 x31).f0) ((rd_T36 x0 x31).f1) ((rd_T36 x0 x31).f2)))) else (none)) else (none)) else (none)) else (some (x5, 0))
def rowlockref04_Put.j2 : Nat → List (S36) → List Int → Int → Int → Int → Int → ByteArray → Option (List Int × Int)
  | 0, _, _, _, _, _, _, _ => none
  | k + 1, x0, x5, x30, x31, x161000, x161001, x161002 => if x161000 = 2 then (if x5.length < 140737488355328 then ((some (x5 ++ [(x161001) % 256] : List Int)).bind fun y170 => (if x161000 = 3 then (if y170.length < 140737488355328 then ((some (y170 ++ [((x161002.size : Int)) % 256] : List Int)).bind fun y173 => (if y173.length + x161002.size < 140737488355328 then (rowlockref04_Put.l1 k x0 (y173 ++ bytesOf x161002) x30 (wrap64 (x31 + 1))) else (none))) else (none)) else (rowlockref04_Put.l1 k x0 y170 x30 (wrap64 (x31 + 1))))) else (none)) else (if x161000 = 3 then (if x5.length < 140737488355328 then ((some (x5 ++ [((x161002.size : Int)) % 256] : List Int)).bind fun y179 => (if y179.length + x161002.size < 140737488355328 then (rowlockref04_Put.l1 k x0 (y179 ++ bytesOf x161002) x30 (wrap64 (x31 + 1))) else (none))) else (none)) else (rowlockref04_Put.l1 k x0 x5 x30 (wrap64 (x31 + 1))))
end
def rowlockref04_Put.f (k : Nat) (l0 : List (S36)) : Option (List Int × Int) := rowlockref04_Put.l0 k l0 (l0.length : Int) 0
theorem rowlockref04_Put.mono_l : ∀ k, (∀ y0 y1 y2, LeO (rowlockref04_Put.l0 k y0 y1 y2) (rowlockref04_Put.l0 (k + 1) y0 y1 y2)) ∧ (∀ y0 y1 y2 y3, LeO (rowlockref04_Put.l1 k y0 y1 y2 y3) (rowlockref04_Put.l1 (k + 1) y0 y1 y2 y3)) ∧ (∀ y0 y1 y2 y3 y4 y5 y6, LeO (rowlockref04_Put.j2 k y0 y1 y2 y3 y4 y5 y6) (rowlockref04_Put.j2 (k + 1) y0 y1 y2 y3 y4 y5 y6))
  | 0 => ⟨fun _ _ _ r h => by simp [rowlockref04_Put.l0] at h, fun _ _ _ _ r h => by simp [rowlockref04_Put.l1] at h, fun _ _ _ _ _ _ _ r h => by simp [rowlockref04_Put.j2] at h⟩
  | k + 1 => by
    obtain ⟨ih0, ih1, ih2⟩ := rowlockref04_Put.mono_l k
    refine ⟨?_, ?_, ?_⟩
    · intro y0 y1 y2
      unfold rowlockref04_Put.l0
      repeat' first
      | (with_reducible exact ih0 _ _ _)
      | (with_reducible exact ih1 _ _ _ _)
      | (with_reducible exact ih2 _ _ _ _ _ _ _)
      | (with_reducible exact rowlockref04_Number.mono _ _)
      | (with_reducible exact LeO.refl _)
      | (with_reducible exact LeO.none _)
      | (with_reducible refine LeO.ite ?_ ?_)
      | (with_reducible refine LeO.bind ?_ (fun _ => ?_))
      | exact ih0 _ _ _
      | exact ih1 _ _ _ _
      | exact ih2 _ _ _ _ _ _ _
      | exact rowlockref04_Number.mono _ _
      | exact LeO.none _
      | refine LeO.ite ?_ ?_
      | refine LeO.bind ?_ (fun _ => ?_)
    · intro y0 y1 y2 y3
      unfold rowlockref04_Put.l1
      repeat' first
      | (with_reducible exact ih0 _ _ _)
      | (with_reducible exact ih1 _ _ _ _)
      | (with_reducible exact ih2 _ _ _ _ _ _ _)
      | (with_reducible exact rowlockref04_Number.mono _ _)
      | (with_reducible exact LeO.refl _)
      | (with_reducible exact LeO.none _)
      | (with_reducible refine LeO.ite ?_ ?_)
      | (with_reducible refine LeO.bind ?_ (fun _ => ?_))
      | exact ih0 _ _ _
      | exact ih1 _ _ _ _
      | exact ih2 _ _ _ _ _ _ _
      | exact rowlockref04_Number.mono _ _
      | exact LeO.none _
      | refine LeO.ite ?_ ?_
      | refine LeO.bind ?_ (fun _ => ?_)
    · intro y0 y1 y2 y3 y4 y5 y6
      unfold rowlockref04_Put.j2
      repeat' first
      | (with_reducible exact ih0 _ _ _)
      | (with_reducible exact ih1 _ _ _ _)
      | (with_reducible exact ih2 _ _ _ _ _ _ _)
      | (with_reducible exact rowlockref04_Number.mono _ _)
      | (with_reducible exact LeO.refl _)
      | (with_reducible exact LeO.none _)
      | (with_reducible refine LeO.ite ?_ ?_)
      | (with_reducible refine LeO.bind ?_ (fun _ => ?_))
      | exact ih0 _ _ _
      | exact ih1 _ _ _ _
      | exact ih2 _ _ _ _ _ _ _
      | exact rowlockref04_Number.mono _ _
      | exact LeO.none _
      | refine LeO.ite ?_ ?_
      | refine LeO.bind ?_ (fun _ => ?_)
theorem rowlockref04_Put.mono : ∀ a0 k, LeO (rowlockref04_Put.f k a0) (rowlockref04_Put.f (k + 1) a0) := by
  intro a0 k
  obtain ⟨ih0, ih1, ih2⟩ := rowlockref04_Put.mono_l k
  unfold rowlockref04_Put.f
  repeat' first
      | (with_reducible exact ih0 _ _ _)
      | (with_reducible exact ih1 _ _ _ _)
      | (with_reducible exact ih2 _ _ _ _ _ _ _)
      | (with_reducible exact rowlockref04_Number.mono _ _)
      | (with_reducible exact LeO.refl _)
      | (with_reducible exact LeO.none _)
      | (with_reducible refine LeO.ite ?_ ?_)
      | (with_reducible refine LeO.bind ?_ (fun _ => ?_))
      | exact ih0 _ _ _
      | exact ih1 _ _ _ _
      | exact ih2 _ _ _ _ _ _ _
      | exact rowlockref04_Number.mono _ _
      | exact LeO.none _
      | refine LeO.ite ?_ ?_
      | refine LeO.bind ?_ (fun _ => ?_)
set_option maxHeartbeats 8000000 in
set_option maxRecDepth 100000 in
theorem rowlockref04_Put.calls (k : Nat) (A0 : Option Addr) (c0 : Nat) (l0 : List (S36)) (r1 : List Int) (r2 : Int) (w : World) (hr0 : Kd.C k36 w A0 l0.length l0) (hc0 : l0.length ≤ c0) (h : rowlockref04_Put.f k l0 = some (r1, r2)) :
    Calls Try.prog 33 #[.slice A0 l0.length c0] w fun e w' => ∃ v0_ : Value, e = .returned (.tuple #[v0_, .int .i64 r2]) ∧ Kd.R (Kd.int .u8) 5 w' w.heap.size (fun _ => True) v0_ r1 ∧ Below w.heap.size w w' := by
  have hu36 := Try.underlying36
  have HR0 := Aside0.mk hr0
  have HC0 := Aside0.mk hc0
  clear hr0 hc0
  have HB := Aside0.mk (Below.refl w.heap.size w)
  have H : (rowlockref04_Put.l0 k l0 (l0.length : Int) 0) = some (r1, r2) := h
  clear h
  have H' := Aside0.mk H
  clear H
  go_enter Try.func33, Try.ntmps33
  go_wp2
  go_loopg [10] k (fun kq v10 w' => ∃ (x10_1 : Int), v10 = .int .i64 x10_1 ∧ Aside0 (rowlockref04_Put.l0 kq l0 (l0.length : Int) x10_1 = some (r1, r2)) ∧ Aside0 (kq ≤ k) ∧ Aside0 (Below w.heap.size w w'))
  case atStart => exact ⟨(0), (by first | rfl | (simp; done) | (simp [*]; done)), H', ⟨Nat.le_refl _⟩, ⟨by repeat (first | (with_reducible first | exact HB.out | apply below_alloc | apply pw_below_drewN | apply below_drew1) | exact HB.out)⟩⟩
  case round =>
    clear H'
    obtain ⟨x10_1, rfl, HA, HK1, HB⟩ := hrel
    cases gk with
    | zero => exact absurd HA.out (by simp [rowlockref04_Put.l0])
    | succ k1 =>
      have H := HA.out
      clear HA
      simp only [rowlockref04_Put.l0] at H
      by_cases c2 : x10_1 < (l0.length : Int)
      · rw [if_pos c2] at H
        have c2b0 : decide (x10_1 < (l0.length : Int)) = true := decide_eq_true c2
        clear c2
        by_cases c3 : 0 ≤ x10_1
        · rw [if_pos c3] at H
          have c3b0 : decide (0 ≤ x10_1) = true := decide_eq_true c3
          clear c3
          by_cases c4 : x10_1 < (l0.length : Int)
          · rw [if_pos c4] at H
            have c4b0 : decide (x10_1 < (l0.length : Int)) = true := decide_eq_true c4
            clear c4
            replace H := Option.bind_eq_some_iff.mp H
            obtain ⟨t149, A50, H⟩ := H
            replace H : (if t149 = true then (rowlockref04_Put.l0 k1 l0 (l0.length : Int) (wrap64 (x10_1 + 1))) else (some ((([] : List Int)), 1))) = some (r1, r2) := H
            have A5 := Aside0.mk A50
            clear A50
            by_cases c6 : t149 = true
            · subst c6
              have H1 : (rowlockref04_Put.l0 k1 l0 (l0.length : Int) (wrap64 (x10_1 + 1))) = some (r1, r2) := by rw [if_pos rfl] at H; exact H
              clear H
              have H := H1
              clear H1
              have H' := Aside0.mk H
              clear H
              have p148 : 0 ≤ (x10_1 : Int) := of_decide_eq_true (by first | (with_reducible assumption) | assumption)
              have q148 : x10_1 < (l0.length : Int) := of_decide_eq_true (by first | (with_reducible assumption) | assumption)
              obtain ⟨ad148, e148, hx148_0, hx148_1, hx148_2⟩ := at_T36 HR0.out x10_1 p148 q148
              cases e148
              replace hx148_0 := (HB.out.cell (World.block_lt_of_cell? w _ hx148_0)).trans hx148_0
              replace hx148_1 := (HB.out.cell (World.block_lt_of_cell? w _ hx148_1)).trans hx148_1
              replace hx148_2 := (HB.out.cell (World.block_lt_of_cell? w _ hx148_2)).trans hx148_2
              replace p148 := eq_true p148
              replace q148 := eq_true q148
              go_wp2_with (first | ((with_reducible refine gate_callee (f := 41) rfl ?_); refine goesL_ (some 17) rfl rfl Try.func41 (by kernel_rfl) rfl #[.agg #[.int .u8 ((rd_T36 l0 x10_1).f0), .int .i64 ((rd_T36 l0 x10_1).f1), .string ((rd_T36 l0 x10_1).f2)]] rfl (by (try simp only [List.map_toArray, List.map_cons, List.map_nil]); first | done | rfl | (simp only [List.length_drop, List.length_take]; rfl)) ?_; (with_reducible refine (rowlockref01_May.calls ((rd_T36 l0 x10_1).f0) ((rd_T36 l0 x10_1).f1) ((rd_T36 l0 x10_1).f2) true _ A5.out).mono ?_); rintro e w7 ⟨rfl, hb⟩; refine ⟨_, rfl, ?_⟩; have n0_ := Aside0.mk (below_step (by repeat (first | (with_reducible first | exact HB.out | apply below_alloc | apply pw_below_drewN | apply below_drew1) | exact HB.out)) hb); clear HB; have HB := n0_; clear n0_; (try clear hb); (try clear hb2); (try clear hk); (try clear hi)))
              go_roundg k1
              case measure => have := HK1.out; omega
              case rel => exact ⟨(wrap64 (x10_1 + 1)), (by first | rfl | (simp; done) | (simp [*]; done)), H', ⟨by have := HK1.out; omega⟩, ⟨by repeat (first | (with_reducible first | exact HB.out | apply below_alloc | apply pw_below_drewN | apply below_drew1) | exact HB.out)⟩⟩
            · replace c6 := Bool.eq_false_iff.mpr c6
              subst c6
              have H1 : (some ((([] : List Int)), 1)) = some (r1, r2) := by rw [if_neg (show ¬ (false = true) by decide)] at H; exact H
              clear H
              have H := H1
              clear H1
              obtain ⟨y150, hy150⟩ : ∃ y_ : List Int, y_ = (([] : List Int)) := ⟨_, rfl⟩
              replace H : (some (y150, 1)) = some (r1, r2) := by first | (rw [hy150]; with_reducible exact H) | (have H2_ := (Option.bind_some _ _).symm.trans H; rw [hy150]; with_reducible exact H2_) | (have H2_ := (Option.bind_some _ _).symm.trans H; with_reducible exact H2_) | with_reducible exact H | (rw [hy150]; exact H) | exact H
              have Ny150 := Aside0.mk hy150
              clear hy150
              simp only [Option.some.injEq, Prod.mk.injEq] at H
              obtain ⟨rfl, rfl⟩ := H
              have p148 : 0 ≤ (x10_1 : Int) := of_decide_eq_true (by first | (with_reducible assumption) | assumption)
              have q148 : x10_1 < (l0.length : Int) := of_decide_eq_true (by first | (with_reducible assumption) | assumption)
              obtain ⟨ad148, e148, hx148_0, hx148_1, hx148_2⟩ := at_T36 HR0.out x10_1 p148 q148
              cases e148
              replace hx148_0 := (HB.out.cell (World.block_lt_of_cell? w _ hx148_0)).trans hx148_0
              replace hx148_1 := (HB.out.cell (World.block_lt_of_cell? w _ hx148_1)).trans hx148_1
              replace hx148_2 := (HB.out.cell (World.block_lt_of_cell? w _ hx148_2)).trans hx148_2
              replace p148 := eq_true p148
              replace q148 := eq_true q148
              go_wp2_with (first | ((with_reducible refine gate_callee (f := 41) rfl ?_); refine goesL_ (some 17) rfl rfl Try.func41 (by kernel_rfl) rfl #[.agg #[.int .u8 ((rd_T36 l0 x10_1).f0), .int .i64 ((rd_T36 l0 x10_1).f1), .string ((rd_T36 l0 x10_1).f2)]] rfl (by (try simp only [List.map_toArray, List.map_cons, List.map_nil]); first | done | rfl | (simp only [List.length_drop, List.length_take]; rfl)) ?_; (with_reducible refine (rowlockref01_May.calls ((rd_T36 l0 x10_1).f0) ((rd_T36 l0 x10_1).f1) ((rd_T36 l0 x10_1).f2) false _ A5.out).mono ?_); rintro e w8 ⟨rfl, hb⟩; refine ⟨_, rfl, ?_⟩; have n0_ := Aside0.mk (below_step (by repeat (first | (with_reducible first | exact HB.out | apply below_alloc | apply pw_below_drewN | apply below_drew1) | exact HB.out)) hb); clear HB; have HB := n0_; clear n0_; (try clear hb); (try clear hb2); (try clear hk); (try clear hi)) | ((with_reducible refine gate_dst (N := 19) rfl ?_); refine Kd.R_lit (Kd.int .u8) _ 5 ?hg (N := 19) ?hd (xs := ([] : List Int)) (inner := []) (ok := fun _ => True) (okp := fun _ => True) ?hr ?hp (fun _ hk => hk) trivial (Below.refl _ _) (Nat.le_refl _) (by simp) ?_; (case hd => rfl); (case hg => rfl); (case hr => first | (go_simp; done) | (go_simp; rfl)); (case hp => exact (Reps.none _ _)); intro v151 w9 ho10 hb hg_ hnew_; clear hg_ hnew_; (first | rw [← Ny150.out] at ho10 | (simp only [Int.reduceToNat] at ho10; rw [← Ny150.out] at ho10)); have n0_ := Aside0.mk (Kd.R_lower ho10 (below_size (by repeat (first | (with_reducible first | exact HB.out | apply below_alloc | apply pw_below_drewN | apply below_drew1) | exact HB.out)))); have n1_ := Aside0.mk (below_step (by repeat (first | (with_reducible first | exact HB.out | apply below_alloc | apply pw_below_drewN | apply below_drew1) | exact HB.out)) hb); clear HB; have HO152 := n0_; have HB := n1_; clear n0_ n1_; clear hb ho10))
              go_ret2
              exact ⟨_, by first | rfl | (simp [errW_none, errW_some] <;> rfl) | (simp [*, errW_none, errW_some] <;> rfl), by (with_reducible repeat (first | apply Kd.R_alloc | apply Kd.R_drewN | apply Kd.R_drew)); exact HO152.out, by repeat (first | (with_reducible first | exact HB.out | apply below_alloc | apply pw_below_drewN | apply below_drew1) | exact HB.out)⟩
          · rw [if_neg c4] at H
            exact absurd H (by simp)
        · rw [if_neg c3] at H
          exact absurd H (by simp)
      · rw [if_neg c2] at H
        have c2b0 : decide (x10_1 < (l0.length : Int)) = false := decide_eq_false c2
        clear c2
        by_cases c11 : (l0.length : Int) > 255
        · rw [if_pos c11] at H
          have c11b0 : decide (255 < (l0.length : Int)) = true := decide_eq_true c11
          have c11b1 : decide (255 < l0.length) = true := decide_eq_true (by omega)
          clear c11
          obtain ⟨y153, hy153⟩ : ∃ y_ : List Int, y_ = (([] : List Int)) := ⟨_, rfl⟩
          replace H : (some (y153, 15)) = some (r1, r2) := by first | (rw [hy153]; with_reducible exact H) | (have H2_ := (Option.bind_some _ _).symm.trans H; rw [hy153]; with_reducible exact H2_) | (have H2_ := (Option.bind_some _ _).symm.trans H; with_reducible exact H2_) | with_reducible exact H | (rw [hy153]; exact H) | exact H
          have Ny153 := Aside0.mk hy153
          clear hy153
          simp only [Option.some.injEq, Prod.mk.injEq] at H
          obtain ⟨rfl, rfl⟩ := H
          go_wp2_with (first | ((with_reducible refine gate_dst (N := 24) rfl ?_); refine Kd.R_lit (Kd.int .u8) _ 5 ?hg (N := 24) ?hd (xs := ([] : List Int)) (inner := []) (ok := fun _ => True) (okp := fun _ => True) ?hr ?hp (fun _ hk => hk) trivial (Below.refl _ _) (Nat.le_refl _) (by simp) ?_; (case hd => rfl); (case hg => rfl); (case hr => first | (go_simp; done) | (go_simp; rfl)); (case hp => exact (Reps.none _ _)); intro v154 w12 ho13 hb hg_ hnew_; clear hg_ hnew_; (first | rw [← Ny153.out] at ho13 | (simp only [Int.reduceToNat] at ho13; rw [← Ny153.out] at ho13)); have n0_ := Aside0.mk (Kd.R_lower ho13 (below_size (by repeat (first | (with_reducible first | exact HB.out | apply below_alloc | apply pw_below_drewN | apply below_drew1) | exact HB.out)))); have n1_ := Aside0.mk (below_step (by repeat (first | (with_reducible first | exact HB.out | apply below_alloc | apply pw_below_drewN | apply below_drew1) | exact HB.out)) hb); clear HB; have HO155 := n0_; have HB := n1_; clear n0_ n1_; clear hb ho13))
          go_ret2
          exact ⟨_, by first | rfl | (simp [errW_none, errW_some] <;> rfl) | (simp [*, errW_none, errW_some] <;> rfl), by (with_reducible repeat (first | apply Kd.R_alloc | apply Kd.R_drewN | apply Kd.R_drew)); exact HO155.out, by repeat (first | (with_reducible first | exact HB.out | apply below_alloc | apply pw_below_drewN | apply below_drew1) | exact HB.out)⟩
        · rw [if_neg c11] at H
          have c11b0 : decide (255 < (l0.length : Int)) = false := decide_eq_false c11
          have c11b1 : decide (255 < l0.length) = false := decide_eq_false (by omega)
          clear c11
          obtain ⟨y156, hy156⟩ : ∃ y_ : List Int, y_ = (([((l0.length : Int)) % 256] : List Int)) := ⟨_, rfl⟩
          replace H : (rowlockref04_Put.l1 k1 l0 y156 (l0.length : Int) 0) = some (r1, r2) := by first | (rw [hy156]; with_reducible exact H) | (have H2_ := (Option.bind_some _ _).symm.trans H; rw [hy156]; with_reducible exact H2_) | (have H2_ := (Option.bind_some _ _).symm.trans H; with_reducible exact H2_) | with_reducible exact H | (rw [hy156]; exact H) | exact H
          have Ny156 := Aside0.mk hy156
          clear hy156
          have H' := Aside0.mk H
          clear H
          go_wp2_with (first | ((with_reducible refine gate_dst (N := 28) rfl ?_); refine Kd.R_lit (Kd.int .u8) _ 5 ?hg (N := 28) ?hd (xs := ([((l0.length : Int)) % 256] : List Int)) (inner := [.int .u8 (((l0.length : Int)) % 256)]) (ok := fun _ => True) (okp := fun _ => True) ?hr ?hp (fun _ hk => hk) trivial (Below.refl _ _) (Nat.le_refl _) (by simp) ?_; (case hd => rfl); (case hg => rfl); (case hr => first | (go_simp; done) | (go_simp; rfl)); (case hp => exact (Reps.one (show Kd.M (Kd.int .u8) _ _ _ (((l0.length : Int)) % 256) [.int .u8 (((l0.length : Int)) % 256)] from rfl) (Reps.none _ _))); intro v157 w14 ho15 hb hg_ hnew_; clear hg_ hnew_; (first | rw [← Ny156.out] at ho15 | (simp only [Int.reduceToNat] at ho15; rw [← Ny156.out] at ho15)); have n0_ := Aside0.mk (Kd.R_lower ho15 (below_size (by repeat (first | (with_reducible first | exact HB.out | apply below_alloc | apply pw_below_drewN | apply below_drew1) | exact HB.out)))); have n1_ := Aside0.mk (below_step (by repeat (first | (with_reducible first | exact HB.out | apply below_alloc | apply pw_below_drewN | apply below_drew1) | exact HB.out)) hb); clear HB; have HO158 := n0_; have HB := n1_; clear n0_ n1_; clear hb ho15))
          go_loopg [5, 31] k1 (fun kq v5 v31 w' => ∃ (x5_2 : List Int) (x31_2 : Int), v31 = .int .i64 x31_2 ∧ Aside0 (rowlockref04_Put.l1 kq l0 x5_2 (l0.length : Int) x31_2 = some (r1, r2)) ∧ Aside0 (kq ≤ k1) ∧ Aside0 (Kd.R (Kd.int .u8) 5 w' w.heap.size (fun _ => True) v5 x5_2) ∧ Aside0 (Below w.heap.size w w'))
          case atStart => exact ⟨(y156), (0), (by first | rfl | (simp; done) | (simp [*]; done)), H', ⟨Nat.le_refl _⟩, ⟨by (with_reducible repeat (first | apply Kd.R_alloc | apply Kd.R_drewN | apply Kd.R_drew)); exact HO158.out⟩, ⟨by repeat (first | (with_reducible first | exact HB.out | apply below_alloc | apply pw_below_drewN | apply below_drew1) | exact HB.out)⟩⟩
          case round =>
            clear H'
            try clear c1
            try clear p1
            try clear q1
            try clear hx1
            try clear c2
            try clear c2b0
            try clear p2
            try clear c3
            try clear c3b0
            try clear c4
            try clear c4b0
            try clear c6
            try clear p6
            try clear c11
            try clear c11b0
            try clear c11b1
            try clear p14
            try clear q14
            try clear hx14
            try clear hx148_0
            try clear hx148_1
            try clear hx148_2
            try clear p148
            try clear q148
            obtain ⟨x5_2, x31_2, rfl, HA, HK2, HO_5, HB⟩ := hrel
            cases gk with
            | zero => exact absurd HA.out (by simp [rowlockref04_Put.l1])
            | succ k2 =>
              have H := HA.out
              clear HA
              simp only [rowlockref04_Put.l1] at H
              by_cases c16 : x31_2 < (l0.length : Int)
              · rw [if_pos c16] at H
                have c16b0 : decide (x31_2 < (l0.length : Int)) = true := decide_eq_true c16
                clear c16
                by_cases c17 : 0 ≤ x31_2
                · rw [if_pos c17] at H
                  have c17b0 : decide (0 ≤ x31_2) = true := decide_eq_true c17
                  clear c17
                  by_cases c18 : x31_2 < (l0.length : Int)
                  · rw [if_pos c18] at H
                    have c18b0 : decide (x31_2 < (l0.length : Int)) = true := decide_eq_true c18
                    clear c18
                    by_cases c19 : x5_2.length < 140737488355328
                    · rw [if_pos c19] at H
                      have LMc19 := Aside0.mk c19
                      clear c19
                      obtain ⟨y161, hy161⟩ : ∃ y_ : List Int, y_ = (x5_2 ++ [(rd_T36 l0 x31_2).f0]) := ⟨_, rfl⟩
                      replace H : (if ((rd_T36 l0 x31_2).f0) = 1 then ((rowlockref04_Number.f k2 ((rd_T36 l0 x31_2).f1)).bind fun t164 => (if y161.length + t164.length < 140737488355328 then (rowlockref04_Put.j2 k2 l0 (y161 ++ t164) (l0.length : Int) x31_2 ((rd_T36 l0 x31_2).f0) ((rd_T36 l0 x31_2).f1) ((rd_T36 l0 x31_2).f2)) else (none))) else (rowlockref04_Put.j2 k2 l0 y161 (l0.length : Int) x31_2 ((rd_T36 l0 x31_2).f0) ((rd_T36 l0 x31_2).f1) ((rd_T36 l0 x31_2).f2))) = some (r1, r2) := by first | (rw [hy161]; with_reducible exact H) | (have H2_ := (Option.bind_some _ _).symm.trans H; rw [hy161]; with_reducible exact H2_) | (have H2_ := (Option.bind_some _ _).symm.trans H; with_reducible exact H2_) | with_reducible exact H | (rw [hy161]; exact H) | exact H
                      have Ny161 := Aside0.mk hy161
                      clear hy161
                      have HC20 := Aside0.mk H
                      clear H
                      have p159 : 0 ≤ (x31_2 : Int) := of_decide_eq_true (by first | (with_reducible assumption) | assumption)
                      have q159 : x31_2 < (l0.length : Int) := of_decide_eq_true (by first | (with_reducible assumption) | assumption)
                      obtain ⟨ad159, e159, hx159_0, hx159_1, hx159_2⟩ := at_T36 HR0.out x31_2 p159 q159
                      cases e159
                      replace hx159_0 := (HB.out.cell (World.block_lt_of_cell? w _ hx159_0)).trans hx159_0
                      replace hx159_1 := (HB.out.cell (World.block_lt_of_cell? w _ hx159_1)).trans hx159_1
                      replace hx159_2 := (HB.out.cell (World.block_lt_of_cell? w _ hx159_2)).trans hx159_2
                      replace p159 := eq_true p159
                      replace q159 := eq_true q159
                      go_upto_if 45 with (first | ((with_reducible refine gate_dst (N := 7) rfl ?_); refine box_event ?hg (N := 7) ?hd (cs := #[.int .u8 0, .int .i64 0, .string (⟨#[]⟩ : ByteArray)]) (t := 36) ?hr ?_; (case hd => rfl); (case hg => rfl); (case hr => first | (go_simp; done) | (go_simp; rfl)); intro gb160 hg w21 hbox hb; have n0_ := Aside0.mk (Kd.R_below (by (with_reducible repeat (first | apply Kd.R_alloc | apply Kd.R_drewN | apply Kd.R_drew)); exact HO_5.out) hb); have n1_ := Aside0.mk (below_step (by repeat (first | (with_reducible first | exact HB.out | apply below_alloc | apply pw_below_drewN | apply below_drew1) | exact HB.out)) hb); have n2_ := Aside0.mk (hbox); have n3_ := Aside0.mk ((by rw [hg]; exact (below_size (by repeat (first | (with_reducible first | exact HB.out | apply below_alloc | apply pw_below_drewN | apply below_drew1) | exact HB.out))) : w.heap.size ≤ gb160)); have n4_ := Aside0.mk ((by rw [hg]; exact (below_size (by repeat (first | (with_reducible first | exact HB.out | apply below_alloc | apply pw_below_drewN | apply below_drew1) | exact HB.out))) : w.heap.size ≤ gb160)); clear HO_5; clear HB; have HO_5 := n0_; have HB := n1_; have BK160 := n2_; have GW160 := n3_; have GE160 := n4_; clear n0_ n1_ n2_ n3_ n4_; clear hb hbox hg; have hcz22_0 : w21.cell? ⟨gb160, 0, none⟩ = some (.int .u8 0) := (blk_cell BK160.out 0).trans rfl; have hcz22_1 : w21.cell? ⟨gb160, 1, none⟩ = some (.int .i64 0) := (blk_cell BK160.out 1).trans rfl; have hcz22_2 : w21.cell? ⟨gb160, 2, none⟩ = some (.string (⟨#[]⟩ : ByteArray)) := (blk_cell BK160.out 2).trans rfl; have hfz22_0 := blk_frozen BK160.out 0; have hfz22_1 := blk_frozen BK160.out 1; have hfz22_2 := blk_frozen BK160.out 2) | ((with_reducible refine gate_builtin (b := .append) (xs := #[.tmp 38, .tmp 41]) rfl ?_); at_builtin; refine Kd.R_append (Kd.int .u8) (w0 := w) w.heap.size rfl (.tmp 38) (.tmp 41) 49 5 (.int .u8 0) 1 rfl Try.underlying49 info5 rfl (by decide) (by omega) u5 x5_2 ((rd_T36 l0 x31_2).f0) [.int .u8 ((rd_T36 l0 x31_2).f0)] (fun _ => True) (fun _ => False) rfl (by first | (go_simp; done) | (go_simp; rfl)) ?aP (fun _ hk => hk.elim) ?aF ?aO ?aB ?aS ?aL ?_; (case aP => exact rfl); (case aB => exact (by repeat (first | (with_reducible first | exact HB.out | apply below_alloc | apply pw_below_drewN | apply below_drew1 | refine below_set ?_ GE160.out) | exact HB.out))); (case aF => exact (fun _ _ => trivial)); (case aO => exact (by (with_reducible repeat (first | apply Kd.R_alloc | apply Kd.R_drewN | apply Kd.R_drew)); exact Kd.R_mono (Kd.R_far (p := ⟨gb160, 2, none⟩) (Kd.R_far (p := ⟨gb160, 1, none⟩) (Kd.R_far (p := ⟨gb160, 0, none⟩) (Kd.R_types HO_5.out BK160.out (by decide)) (fun _ hk => hk.2) (.int .u8 ((rd_T36 l0 x31_2).f0))) (fun _ hk => hk.2) (.int .i64 ((rd_T36 l0 x31_2).f1))) (fun _ hk => hk.2) (.string ((rd_T36 l0 x31_2).f2))) (fun _ hk => trivial))); (case aS => exact (below_size (by repeat (first | (with_reducible first | exact HB.out | apply below_alloc | apply pw_below_drewN | apply below_drew1 | refine below_set ?_ GE160.out) | exact HB.out)))); (case aL => have := LMc19.out; omega); intro v162 w23 ho hb hg hat; rw [← Ny161.out] at ho; have n0_ := Aside0.mk (blk_grown (g := gb160) (o := .cells #[.int .u8 ((rd_T36 l0 x31_2).f0), .int .i64 ((rd_T36 l0 x31_2).f1), .string ((rd_T36 l0 x31_2).f2)] 36 (0, 0)) (by (with_reducible repeat (first | refine blk_drewN ?_ _ | refine blk_drew ?_ | refine blk_alloc ?_ _)); refine blk_put (cs := #[.int .u8 ((rd_T36 l0 x31_2).f0), .int .i64 ((rd_T36 l0 x31_2).f1), .string (⟨#[]⟩ : ByteArray)]) ?_ 2 _ rfl; (with_reducible repeat (first | refine blk_drewN ?_ _ | refine blk_drew ?_ | refine blk_alloc ?_ _)); refine blk_put (cs := #[.int .u8 ((rd_T36 l0 x31_2).f0), .int .i64 0, .string (⟨#[]⟩ : ByteArray)]) ?_ 1 _ rfl; (with_reducible repeat (first | refine blk_drewN ?_ _ | refine blk_drew ?_ | refine blk_alloc ?_ _)); refine blk_put (cs := #[.int .u8 0, .int .i64 0, .string (⟨#[]⟩ : ByteArray)]) ?_ 0 _ rfl; (with_reducible repeat (first | refine blk_drewN ?_ _ | refine blk_drew ?_ | refine blk_alloc ?_ _)); exact BK160.out) hg (Kd.R_ne HO_5.out BK160.out (by decide))); have n1_ := Aside0.mk (hb); have n2_ := Aside0.mk (ho); clear BK160; clear HB; clear HO_5; have BK160 := n0_; have HB := n1_; have HO163 := n2_; clear n0_ n1_ n2_; clear ho hb hg hat; have hcz24_0 : w23.cell? ⟨gb160, 0, none⟩ = some (.int .u8 ((rd_T36 l0 x31_2).f0)) := (blk_cell BK160.out 0).trans rfl; have hcz24_1 : w23.cell? ⟨gb160, 1, none⟩ = some (.int .i64 ((rd_T36 l0 x31_2).f1)) := (blk_cell BK160.out 1).trans rfl; have hcz24_2 : w23.cell? ⟨gb160, 2, none⟩ = some (.string ((rd_T36 l0 x31_2).f2)) := (blk_cell BK160.out 2).trans rfl; have hfz24_0 := blk_frozen BK160.out 0; have hfz24_1 := blk_frozen BK160.out 1; have hfz24_2 := blk_frozen BK160.out 2))
                      (try simp only [Act.put, List.setIfInBounds_toArray, List.set_cons_zero, List.set_cons_succ])
                      go_cut [5] (fun v5 wc => ∃ (kq : Nat) (x5_19 : List Int), Aside0 (rowlockref04_Put.j2 kq l0 x5_19 (l0.length : Int) x31_2 ((rd_T36 l0 x31_2).f0) ((rd_T36 l0 x31_2).f1) ((rd_T36 l0 x31_2).f2) = some (r1, r2)) ∧ Aside0 (kq ≤ k2) ∧ Aside0 (Kd.R (Kd.int .u8) 5 wc w.heap.size (fun _ => True) v5 x5_19) ∧ Aside0 (wc.heap[gb160]? = some (.cells #[.int .u8 ((rd_T36 l0 x31_2).f0), .int .i64 ((rd_T36 l0 x31_2).f1), .string ((rd_T36 l0 x31_2).f2)] 36 (0, 0))) ∧ Aside0 (Below w.heap.size w wc))
                      case first =>
                        have H := HC20.out
                        clear HC20
                        by_cases c25 : ((rd_T36 l0 x31_2).f0) = 1
                        · rw [if_pos c25] at H
                          have c25b0 : (((rd_T36 l0 x31_2).f0) == 1) = true := beq_iff_eq.mpr c25
                          have c25b1 : (((rd_T36 l0 x31_2).f0) != 1) = false := bne_eq_false_iff_eq.mpr c25
                          clear c25
                          (first | rw [c25b0] | (simp only [i64_w, i32_w]; rw [c25b0]) | skip)
                          replace H := Option.bind_eq_some_iff.mp H
                          obtain ⟨t164, A260, H⟩ := H
                          replace H : (if y161.length + t164.length < 140737488355328 then (rowlockref04_Put.j2 k2 l0 (y161 ++ t164) (l0.length : Int) x31_2 ((rd_T36 l0 x31_2).f0) ((rd_T36 l0 x31_2).f1) ((rd_T36 l0 x31_2).f2)) else (none)) = some (r1, r2) := H
                          have A26 := Aside0.mk A260
                          clear A260
                          by_cases c27 : y161.length + t164.length < 140737488355328
                          · rw [if_pos c27] at H
                            have LMc27 := Aside0.mk c27
                            clear c27
                            obtain ⟨y167, hy167⟩ : ∃ y_ : List Int, y_ = (y161 ++ t164) := ⟨_, rfl⟩
                            replace H : (rowlockref04_Put.j2 k2 l0 y167 (l0.length : Int) x31_2 ((rd_T36 l0 x31_2).f0) ((rd_T36 l0 x31_2).f1) ((rd_T36 l0 x31_2).f2)) = some (r1, r2) := by first | (rw [hy167]; with_reducible exact H) | (have H2_ := (Option.bind_some _ _).symm.trans H; rw [hy167]; with_reducible exact H2_) | (have H2_ := (Option.bind_some _ _).symm.trans H; with_reducible exact H2_) | with_reducible exact H | (rw [hy167]; exact H) | exact H
                            have Ny167 := Aside0.mk hy167
                            clear hy167
                            have H' := Aside0.mk H
                            clear H
                            have hcz28_0 : w23.cell? ⟨gb160, 0, none⟩ = some (.int .u8 ((rd_T36 l0 x31_2).f0)) := (blk_cell BK160.out 0).trans rfl
                            have hcz28_1 : w23.cell? ⟨gb160, 1, none⟩ = some (.int .i64 ((rd_T36 l0 x31_2).f1)) := (blk_cell BK160.out 1).trans rfl
                            have hcz28_2 : w23.cell? ⟨gb160, 2, none⟩ = some (.string ((rd_T36 l0 x31_2).f2)) := (blk_cell BK160.out 2).trans rfl
                            have hfz28_0 := blk_frozen BK160.out 0
                            have hfz28_1 := blk_frozen BK160.out 1
                            have hfz28_2 := blk_frozen BK160.out 2
                            go_wp2_with (first | ((with_reducible refine gate_callee (f := 48) rfl ?_); refine goesL_ (some 49) rfl rfl Try.func48 (by kernel_rfl) rfl #[.int .i64 ((rd_T36 l0 x31_2).f1)] rfl (by (try simp only [List.map_toArray, List.map_cons, List.map_nil]); first | done | rfl | (simp only [List.length_drop, List.length_take]; rfl)) ?_; (with_reducible refine (rowlockref04_Number.calls k2 ((rd_T36 l0 x31_2).f1) t164 _ A26.out).mono ?_); rintro e w29 ⟨v165, rfl, ho0, hb⟩; refine ⟨_, rfl, ?_⟩; have n0_ := Aside0.mk (Kd.R_elder' (by (with_reducible repeat (first | apply Kd.R_alloc | apply Kd.R_drewN | apply Kd.R_drew)); exact HO163.out) (Kd.R_base ho0) hb); have n1_ := Aside0.mk (Kd.R_lower (Kd.R_new' ho0 (Kd.R_lt (by (with_reducible repeat (first | apply Kd.R_alloc | apply Kd.R_drewN | apply Kd.R_drew)); exact HO163.out))) (below_size (by repeat (first | (with_reducible first | exact HB.out | apply below_alloc | apply pw_below_drewN | apply below_drew1 | refine below_set ?_ GE160.out) | exact HB.out)))); have n2_ := Aside0.mk (blk_below (g := gb160) (o := .cells #[.int .u8 ((rd_T36 l0 x31_2).f0), .int .i64 ((rd_T36 l0 x31_2).f1), .string ((rd_T36 l0 x31_2).f2)] 36 (0, 0)) (by (with_reducible repeat (first | refine blk_drewN ?_ _ | refine blk_drew ?_ | refine blk_alloc ?_ _)); exact BK160.out) hb); have n3_ := Aside0.mk (below_step (by repeat (first | (with_reducible first | exact HB.out | apply below_alloc | apply pw_below_drewN | apply below_drew1 | refine below_set ?_ GE160.out) | exact HB.out)) hb); clear HO163; clear BK160; clear HB; have HO163 := n0_; have HO166 := n1_; have BK160 := n2_; have HB := n3_; clear n0_ n1_ n2_ n3_; (try clear hb); (try clear hb2); (try clear hk); (try clear hi); (try clear ho0); obtain ⟨Ao31, co31, eo31⟩ := Kd.R_slice HO166.out; subst eo31) | ((with_reducible refine gate_builtin (b := .append) (xs := #[.tmp 46, .tmp 49]) rfl ?_); at_builtin; refine Kd.R_append_rows (Kd.int .u8) (w0 := w) w.heap.size rfl (.tmp 46) (.tmp 49) 49 5 (.int .u8 0) 1 rfl Try.underlying49 info5 rfl (by decide) (by omega) v162 y161 t164 _ _ _ (fun k_ => some k_ ≠ (.slice Ao31 t164.length co31 : Value).ownBlock) (fun _ => False) rfl rfl ?aO ?aR (fun _ _ h => h) (fun _ h => h.elim) ?aF ?aB ?aS ?aL ?_; (case aR => repeat (first | exact (Kd.R_reads' HO166.out).2.2 | (with_reducible refine Kd.C_alloc ?_ _) | (with_reducible refine Kd.C_drewN ?_ _) | (with_reducible refine Kd.C_drew ?_))); (case aB => exact (by repeat (first | (with_reducible first | exact HB.out | apply below_alloc | apply pw_below_drewN | apply below_drew1 | refine below_set ?_ GE160.out) | exact HB.out))); (case aF => exact (fun k_ hk => Kd.fresh' (Kd.R_lt (by (with_reducible repeat (first | apply Kd.R_alloc | apply Kd.R_drewN | apply Kd.R_drew)); exact HO166.out)) k_ hk)); (case aO => exact (by (with_reducible repeat (first | apply Kd.R_alloc | apply Kd.R_drewN | apply Kd.R_drew)); exact Kd.R_mono HO163.out (fun _ hk => hk.2))); (case aS => exact (below_size (by repeat (first | (with_reducible first | exact HB.out | apply below_alloc | apply pw_below_drewN | apply below_drew1 | refine below_set ?_ GE160.out) | exact HB.out)))); (case aL => have := LMc27.out; omega); intro v168 w30 ho hb hg hat; rw [← Ny167.out] at ho; have n0_ := Aside0.mk (blk_grown (g := gb160) (o := .cells #[.int .u8 ((rd_T36 l0 x31_2).f0), .int .i64 ((rd_T36 l0 x31_2).f1), .string ((rd_T36 l0 x31_2).f2)] 36 (0, 0)) (by (with_reducible repeat (first | refine blk_drewN ?_ _ | refine blk_drew ?_ | refine blk_alloc ?_ _)); exact BK160.out) hg (Kd.R_ne HO163.out BK160.out (by decide))); have n1_ := Aside0.mk (Kd.R_after (ok := (fun _ => True)) (by (with_reducible repeat (first | apply Kd.R_alloc | apply Kd.R_drewN | apply Kd.R_drew)); exact HO166.out) hg hat); have n2_ := Aside0.mk (hb); have n3_ := Aside0.mk (ho); clear BK160; clear HO166; clear HB; clear HO163; have BK160 := n0_; have HO166 := n1_; have HB := n2_; have HO169 := n3_; clear n0_ n1_ n2_ n3_; clear ho hb hg hat))
                            go_meet
                            case rel => exact ⟨_, (y167), H', ⟨by have := HK1.out; have := HK2.out; first | omega | exact Nat.le_refl _⟩, ⟨by (with_reducible repeat (first | apply Kd.R_alloc | apply Kd.R_drewN | apply Kd.R_drew)); exact Kd.R_mono HO169.out (fun _ hk => trivial)⟩, ⟨by (with_reducible repeat (first | refine blk_drewN ?_ _ | refine blk_drew ?_ | refine blk_alloc ?_ _)); exact BK160.out⟩, ⟨by repeat (first | (with_reducible first | exact HB.out | apply below_alloc | apply pw_below_drewN | apply below_drew1 | refine below_set ?_ GE160.out) | exact HB.out)⟩⟩
                          · rw [if_neg c27] at H
                            exact absurd H (by simp)
                        · rw [if_neg c25] at H
                          have c25b0 : (((rd_T36 l0 x31_2).f0) == 1) = false := beq_eq_false_iff_ne.mpr c25
                          have c25b1 : (((rd_T36 l0 x31_2).f0) != 1) = true := bne_iff_ne.mpr c25
                          (first | rw [c25b0] | (simp only [i64_w, i32_w]; rw [c25b0]) | skip)
                          have H' := Aside0.mk H
                          clear H
                          go_wp2
                          go_meet
                          case rel => exact ⟨_, (y161), H', ⟨by have := HK1.out; have := HK2.out; first | omega | exact Nat.le_refl _⟩, ⟨by (with_reducible repeat (first | apply Kd.R_alloc | apply Kd.R_drewN | apply Kd.R_drew)); exact HO163.out⟩, ⟨by (with_reducible repeat (first | refine blk_drewN ?_ _ | refine blk_drew ?_ | refine blk_alloc ?_ _)); exact BK160.out⟩, ⟨by repeat (first | (with_reducible first | exact HB.out | apply below_alloc | apply pw_below_drewN | apply below_drew1 | refine below_set ?_ GE160.out) | exact HB.out)⟩⟩
                      case rest =>
                        clear HC20
                        try clear c1
                        try clear p1
                        try clear q1
                        try clear hx1
                        try clear c2
                        try clear c2b0
                        try clear p2
                        try clear c3
                        try clear c3b0
                        try clear c4
                        try clear c4b0
                        try clear c6
                        try clear p6
                        try clear c11
                        try clear c11b0
                        try clear c11b1
                        try clear p14
                        try clear q14
                        try clear hx14
                        try clear p15
                        try clear q15
                        try clear hx15
                        try clear c16
                        try clear c16b0
                        try clear c17
                        try clear c17b0
                        try clear c18
                        try clear c18b0
                        try clear c19
                        try clear c25
                        try clear c25b0
                        try clear c25b1
                        try clear c27
                        try clear hcz22_0
                        try clear hcz22_1
                        try clear hcz22_2
                        try clear hcz24_0
                        try clear hcz24_1
                        try clear hcz24_2
                        try clear hcz28_0
                        try clear hcz28_1
                        try clear hcz28_2
                        try clear hfz22_0
                        try clear hfz22_1
                        try clear hfz22_2
                        try clear hfz24_0
                        try clear hfz24_1
                        try clear hfz24_2
                        try clear hfz28_0
                        try clear hfz28_1
                        try clear hfz28_2
                        try clear hx148_0
                        try clear hx148_1
                        try clear hx148_2
                        try clear hx159_0
                        try clear hx159_1
                        try clear hx159_2
                        try clear p1
                        try clear p14
                        try clear p148
                        try clear p159
                        try clear p2
                        try clear p6
                        try clear q1
                        try clear q14
                        try clear q148
                        try clear q159
                        obtain ⟨kq, x5_19, HA, HJ19, HO_5, BK160, HB⟩ := hcut
                        cases kq with
                        | zero => exact absurd HA.out (by simp [rowlockref04_Put.j2])
                        | succ kj19 =>
                          have H := HA.out
                          clear HA
                          simp only [rowlockref04_Put.j2] at H
                          by_cases c32 : ((rd_T36 l0 x31_2).f0) = 2
                          · rw [if_pos c32] at H
                            have c32b0 : (((rd_T36 l0 x31_2).f0) == 2) = true := beq_iff_eq.mpr c32
                            have c32b1 : (((rd_T36 l0 x31_2).f0) != 2) = false := bne_eq_false_iff_eq.mpr c32
                            clear c32
                            by_cases c33 : x5_19.length < 140737488355328
                            · rw [if_pos c33] at H
                              have LMc33 := Aside0.mk c33
                              clear c33
                              obtain ⟨y170, hy170⟩ : ∃ y_ : List Int, y_ = (x5_19 ++ [(((rd_T36 l0 x31_2).f1)) % 256]) := ⟨_, rfl⟩
                              replace H : (if ((rd_T36 l0 x31_2).f0) = 3 then (if y170.length < 140737488355328 then ((some (y170 ++ [((((rd_T36 l0 x31_2).f2).size : Int)) % 256] : List Int)).bind fun y173 => (if y173.length + ((rd_T36 l0 x31_2).f2).size < 140737488355328 then (rowlockref04_Put.l1 kj19 l0 (y173 ++ bytesOf ((rd_T36 l0 x31_2).f2)) (l0.length : Int) (wrap64 (x31_2 + 1))) else (none))) else (none)) else (rowlockref04_Put.l1 kj19 l0 y170 (l0.length : Int) (wrap64 (x31_2 + 1)))) = some (r1, r2) := by first | (rw [hy170]; with_reducible exact H) | (have H2_ := (Option.bind_some _ _).symm.trans H; rw [hy170]; with_reducible exact H2_) | (have H2_ := (Option.bind_some _ _).symm.trans H; with_reducible exact H2_) | with_reducible exact H | (rw [hy170]; exact H) | exact H
                              have Ny170 := Aside0.mk hy170
                              clear hy170
                              by_cases c34 : ((rd_T36 l0 x31_2).f0) = 3
                              · rw [if_pos c34] at H
                                have c34b0 : (((rd_T36 l0 x31_2).f0) == 3) = true := beq_iff_eq.mpr c34
                                have c34b1 : (((rd_T36 l0 x31_2).f0) != 3) = false := bne_eq_false_iff_eq.mpr c34
                                clear c34
                                by_cases c35 : y170.length < 140737488355328
                                · rw [if_pos c35] at H
                                  have LMc35 := Aside0.mk c35
                                  clear c35
                                  obtain ⟨y173, hy173⟩ : ∃ y_ : List Int, y_ = (y170 ++ [((((rd_T36 l0 x31_2).f2).size : Int)) % 256]) := ⟨_, rfl⟩
                                  replace H : (if y173.length + ((rd_T36 l0 x31_2).f2).size < 140737488355328 then (rowlockref04_Put.l1 kj19 l0 (y173 ++ bytesOf ((rd_T36 l0 x31_2).f2)) (l0.length : Int) (wrap64 (x31_2 + 1))) else (none)) = some (r1, r2) := by first | (rw [hy173]; with_reducible exact H) | (have H2_ := (Option.bind_some _ _).symm.trans H; rw [hy173]; with_reducible exact H2_) | (have H2_ := (Option.bind_some _ _).symm.trans H; with_reducible exact H2_) | with_reducible exact H | (rw [hy173]; exact H) | exact H
                                  have Ny173 := Aside0.mk hy173
                                  clear hy173
                                  by_cases c36 : y173.length + ((rd_T36 l0 x31_2).f2).size < 140737488355328
                                  · rw [if_pos c36] at H
                                    have LMc36 := Aside0.mk c36
                                    clear c36
                                    obtain ⟨y176, hy176⟩ : ∃ y_ : List Int, y_ = (y173 ++ bytesOf ((rd_T36 l0 x31_2).f2)) := ⟨_, rfl⟩
                                    replace H : (rowlockref04_Put.l1 kj19 l0 y176 (l0.length : Int) (wrap64 (x31_2 + 1))) = some (r1, r2) := by first | (rw [hy176]; with_reducible exact H) | (have H2_ := (Option.bind_some _ _).symm.trans H; rw [hy176]; with_reducible exact H2_) | (have H2_ := (Option.bind_some _ _).symm.trans H; with_reducible exact H2_) | with_reducible exact H | (rw [hy176]; exact H) | exact H
                                    have Ny176 := Aside0.mk hy176
                                    clear hy176
                                    have H' := Aside0.mk H
                                    clear H
                                    have hcz37_0 : wc.cell? ⟨gb160, 0, none⟩ = some (.int .u8 ((rd_T36 l0 x31_2).f0)) := (blk_cell BK160.out 0).trans rfl
                                    have hcz37_1 : wc.cell? ⟨gb160, 1, none⟩ = some (.int .i64 ((rd_T36 l0 x31_2).f1)) := (blk_cell BK160.out 1).trans rfl
                                    have hcz37_2 : wc.cell? ⟨gb160, 2, none⟩ = some (.string ((rd_T36 l0 x31_2).f2)) := (blk_cell BK160.out 2).trans rfl
                                    have hfz37_0 := blk_frozen BK160.out 0
                                    have hfz37_1 := blk_frozen BK160.out 1
                                    have hfz37_2 := blk_frozen BK160.out 2
                                    go_wp2_with (first | ((with_reducible refine gate_builtin (b := .append) (xs := #[.tmp 54, .tmp 58]) rfl ?_); at_builtin; refine Kd.R_append (Kd.int .u8) (w0 := w) w.heap.size rfl (.tmp 54) (.tmp 58) 49 5 (.int .u8 0) 1 rfl Try.underlying49 info5 rfl (by decide) (by omega) u5 x5_19 ((((rd_T36 l0 x31_2).f1)) % 256) [.int .u8 ((((rd_T36 l0 x31_2).f1)) % 256)] (fun _ => True) (fun _ => False) rfl rfl ?aP (fun _ hk => hk.elim) ?aF ?aO ?aB ?aS ?aL ?_; (case aP => exact rfl); (case aB => exact (by repeat (first | (with_reducible first | exact HB.out | apply below_alloc | apply pw_below_drewN | apply below_drew1 | refine below_set ?_ GE160.out) | exact HB.out))); (case aF => exact (fun _ _ => trivial)); (case aO => exact (by (with_reducible repeat (first | apply Kd.R_alloc | apply Kd.R_drewN | apply Kd.R_drew)); exact HO_5.out)); (case aS => exact (below_size (by repeat (first | (with_reducible first | exact HB.out | apply below_alloc | apply pw_below_drewN | apply below_drew1 | refine below_set ?_ GE160.out) | exact HB.out)))); (case aL => have := LMc33.out; omega); intro v171 w38 ho hb hg hat; rw [← Ny170.out] at ho; have n0_ := Aside0.mk (blk_grown (g := gb160) (o := .cells #[.int .u8 ((rd_T36 l0 x31_2).f0), .int .i64 ((rd_T36 l0 x31_2).f1), .string ((rd_T36 l0 x31_2).f2)] 36 (0, 0)) (by (with_reducible repeat (first | refine blk_drewN ?_ _ | refine blk_drew ?_ | refine blk_alloc ?_ _)); exact BK160.out) hg (Kd.R_ne HO_5.out BK160.out (by decide))); have n1_ := Aside0.mk (hb); have n2_ := Aside0.mk (ho); clear BK160; clear HB; clear HO_5; have BK160 := n0_; have HB := n1_; have HO172 := n2_; clear n0_ n1_ n2_; clear ho hb hg hat; have hcz39_0 : w38.cell? ⟨gb160, 0, none⟩ = some (.int .u8 ((rd_T36 l0 x31_2).f0)) := (blk_cell BK160.out 0).trans rfl; have hcz39_1 : w38.cell? ⟨gb160, 1, none⟩ = some (.int .i64 ((rd_T36 l0 x31_2).f1)) := (blk_cell BK160.out 1).trans rfl; have hcz39_2 : w38.cell? ⟨gb160, 2, none⟩ = some (.string ((rd_T36 l0 x31_2).f2)) := (blk_cell BK160.out 2).trans rfl; have hfz39_0 := blk_frozen BK160.out 0; have hfz39_1 := blk_frozen BK160.out 1; have hfz39_2 := blk_frozen BK160.out 2) | ((with_reducible refine gate_builtin (b := .append) (xs := #[.tmp 63, .tmp 68]) rfl ?_); at_builtin; refine Kd.R_append (Kd.int .u8) (w0 := w) w.heap.size rfl (.tmp 63) (.tmp 68) 49 5 (.int .u8 0) 1 rfl Try.underlying49 info5 rfl (by decide) (by omega) v171 y170 (((((rd_T36 l0 x31_2).f2).size : Int)) % 256) [.int .u8 (((((rd_T36 l0 x31_2).f2).size : Int)) % 256)] (fun _ => True) (fun _ => False) rfl rfl ?aP (fun _ hk => hk.elim) ?aF ?aO ?aB ?aS ?aL ?_; (case aP => exact rfl); (case aB => exact (by repeat (first | (with_reducible first | exact HB.out | apply below_alloc | apply pw_below_drewN | apply below_drew1 | refine below_set ?_ GE160.out) | exact HB.out))); (case aF => exact (fun _ _ => trivial)); (case aO => exact (by (with_reducible repeat (first | apply Kd.R_alloc | apply Kd.R_drewN | apply Kd.R_drew)); exact HO172.out)); (case aS => exact (below_size (by repeat (first | (with_reducible first | exact HB.out | apply below_alloc | apply pw_below_drewN | apply below_drew1 | refine below_set ?_ GE160.out) | exact HB.out)))); (case aL => have := LMc35.out; omega); intro v174 w40 ho hb hg hat; rw [← Ny173.out] at ho; have n0_ := Aside0.mk (blk_grown (g := gb160) (o := .cells #[.int .u8 ((rd_T36 l0 x31_2).f0), .int .i64 ((rd_T36 l0 x31_2).f1), .string ((rd_T36 l0 x31_2).f2)] 36 (0, 0)) (by (with_reducible repeat (first | refine blk_drewN ?_ _ | refine blk_drew ?_ | refine blk_alloc ?_ _)); exact BK160.out) hg (Kd.R_ne HO172.out BK160.out (by decide))); have n1_ := Aside0.mk (hb); have n2_ := Aside0.mk (ho); clear BK160; clear HB; clear HO172; have BK160 := n0_; have HB := n1_; have HO175 := n2_; clear n0_ n1_ n2_; clear ho hb hg hat; have hcz41_0 : w40.cell? ⟨gb160, 0, none⟩ = some (.int .u8 ((rd_T36 l0 x31_2).f0)) := (blk_cell BK160.out 0).trans rfl; have hcz41_1 : w40.cell? ⟨gb160, 1, none⟩ = some (.int .i64 ((rd_T36 l0 x31_2).f1)) := (blk_cell BK160.out 1).trans rfl; have hcz41_2 : w40.cell? ⟨gb160, 2, none⟩ = some (.string ((rd_T36 l0 x31_2).f2)) := (blk_cell BK160.out 2).trans rfl; have hfz41_0 := blk_frozen BK160.out 0; have hfz41_1 := blk_frozen BK160.out 1; have hfz41_2 := blk_frozen BK160.out 2) | (at_builtin; refine R_append_strP (w0 := w) w.heap.size rfl (.tmp 70) _ 49 9 5 rfl Try.underlying49 Try.underlying9 info5 v174 y173 ((rd_T36 l0 x31_2).f2) (fun _ => True) rfl rfl ?aF ?aO ?aB ?aS ?aL ?_; (case aB => exact (by repeat (first | (with_reducible first | exact HB.out | apply below_alloc | apply pw_below_drewN | apply below_drew1 | refine below_set ?_ GE160.out) | exact HB.out))); (case aF => exact (fun _ _ => trivial)); (case aO => exact (by (with_reducible repeat (first | apply Kd.R_alloc | apply Kd.R_drewN | apply Kd.R_drew)); exact HO175.out)); (case aS => exact (below_size (by repeat (first | (with_reducible first | exact HB.out | apply below_alloc | apply pw_below_drewN | apply below_drew1 | refine below_set ?_ GE160.out) | exact HB.out)))); (case aL => have := LMc36.out; omega); intro v177 w42 ho hb hg hat; rw [← Ny176.out] at ho; have n0_ := Aside0.mk (blk_grown (g := gb160) (o := .cells #[.int .u8 ((rd_T36 l0 x31_2).f0), .int .i64 ((rd_T36 l0 x31_2).f1), .string ((rd_T36 l0 x31_2).f2)] 36 (0, 0)) (by (with_reducible repeat (first | refine blk_drewN ?_ _ | refine blk_drew ?_ | refine blk_alloc ?_ _)); exact BK160.out) hg (Kd.R_ne HO175.out BK160.out (by decide))); have n1_ := Aside0.mk (hb); have n2_ := Aside0.mk (ho); clear BK160; clear HB; clear HO175; have BK160 := n0_; have HB := n1_; have HO178 := n2_; clear n0_ n1_ n2_; clear ho hb hg hat))
                                    go_roundg kj19
                                    case measure => have := HK1.out; have := HK2.out; have := HJ19.out; omega
                                    case rel => exact ⟨(y176), (wrap64 (x31_2 + 1)), (by first | rfl | (simp; done) | (simp [*]; done)), H', ⟨by have := HK1.out; have := HK2.out; have := HJ19.out; omega⟩, ⟨by (with_reducible repeat (first | apply Kd.R_alloc | apply Kd.R_drewN | apply Kd.R_drew)); exact HO178.out⟩, ⟨by repeat (first | (with_reducible first | exact HB.out | apply below_alloc | apply pw_below_drewN | apply below_drew1 | refine below_set ?_ GE160.out) | exact HB.out)⟩⟩
                                  · rw [if_neg c36] at H
                                    exact absurd H (by simp)
                                · rw [if_neg c35] at H
                                  exact absurd H (by simp)
                              · rw [if_neg c34] at H
                                have c34b0 : (((rd_T36 l0 x31_2).f0) == 3) = false := beq_eq_false_iff_ne.mpr c34
                                have c34b1 : (((rd_T36 l0 x31_2).f0) != 3) = true := bne_iff_ne.mpr c34
                                have H' := Aside0.mk H
                                clear H
                                have hcz43_0 : wc.cell? ⟨gb160, 0, none⟩ = some (.int .u8 ((rd_T36 l0 x31_2).f0)) := (blk_cell BK160.out 0).trans rfl
                                have hcz43_1 : wc.cell? ⟨gb160, 1, none⟩ = some (.int .i64 ((rd_T36 l0 x31_2).f1)) := (blk_cell BK160.out 1).trans rfl
                                have hcz43_2 : wc.cell? ⟨gb160, 2, none⟩ = some (.string ((rd_T36 l0 x31_2).f2)) := (blk_cell BK160.out 2).trans rfl
                                have hfz43_0 := blk_frozen BK160.out 0
                                have hfz43_1 := blk_frozen BK160.out 1
                                have hfz43_2 := blk_frozen BK160.out 2
                                go_wp2_with (first | ((with_reducible refine gate_builtin (b := .append) (xs := #[.tmp 54, .tmp 58]) rfl ?_); at_builtin; refine Kd.R_append (Kd.int .u8) (w0 := w) w.heap.size rfl (.tmp 54) (.tmp 58) 49 5 (.int .u8 0) 1 rfl Try.underlying49 info5 rfl (by decide) (by omega) u5 x5_19 ((((rd_T36 l0 x31_2).f1)) % 256) [.int .u8 ((((rd_T36 l0 x31_2).f1)) % 256)] (fun _ => True) (fun _ => False) rfl rfl ?aP (fun _ hk => hk.elim) ?aF ?aO ?aB ?aS ?aL ?_; (case aP => exact rfl); (case aB => exact (by repeat (first | (with_reducible first | exact HB.out | apply below_alloc | apply pw_below_drewN | apply below_drew1 | refine below_set ?_ GE160.out) | exact HB.out))); (case aF => exact (fun _ _ => trivial)); (case aO => exact (by (with_reducible repeat (first | apply Kd.R_alloc | apply Kd.R_drewN | apply Kd.R_drew)); exact HO_5.out)); (case aS => exact (below_size (by repeat (first | (with_reducible first | exact HB.out | apply below_alloc | apply pw_below_drewN | apply below_drew1 | refine below_set ?_ GE160.out) | exact HB.out)))); (case aL => have := LMc33.out; omega); intro v171 w44 ho hb hg hat; rw [← Ny170.out] at ho; have n0_ := Aside0.mk (blk_grown (g := gb160) (o := .cells #[.int .u8 ((rd_T36 l0 x31_2).f0), .int .i64 ((rd_T36 l0 x31_2).f1), .string ((rd_T36 l0 x31_2).f2)] 36 (0, 0)) (by (with_reducible repeat (first | refine blk_drewN ?_ _ | refine blk_drew ?_ | refine blk_alloc ?_ _)); exact BK160.out) hg (Kd.R_ne HO_5.out BK160.out (by decide))); have n1_ := Aside0.mk (hb); have n2_ := Aside0.mk (ho); clear BK160; clear HB; clear HO_5; have BK160 := n0_; have HB := n1_; have HO172 := n2_; clear n0_ n1_ n2_; clear ho hb hg hat; have hcz45_0 : w44.cell? ⟨gb160, 0, none⟩ = some (.int .u8 ((rd_T36 l0 x31_2).f0)) := (blk_cell BK160.out 0).trans rfl; have hcz45_1 : w44.cell? ⟨gb160, 1, none⟩ = some (.int .i64 ((rd_T36 l0 x31_2).f1)) := (blk_cell BK160.out 1).trans rfl; have hcz45_2 : w44.cell? ⟨gb160, 2, none⟩ = some (.string ((rd_T36 l0 x31_2).f2)) := (blk_cell BK160.out 2).trans rfl; have hfz45_0 := blk_frozen BK160.out 0; have hfz45_1 := blk_frozen BK160.out 1; have hfz45_2 := blk_frozen BK160.out 2))
                                go_roundg kj19
                                case measure => have := HK1.out; have := HK2.out; have := HJ19.out; omega
                                case rel => exact ⟨(y170), (wrap64 (x31_2 + 1)), (by first | rfl | (simp; done) | (simp [*]; done)), H', ⟨by have := HK1.out; have := HK2.out; have := HJ19.out; omega⟩, ⟨by (with_reducible repeat (first | apply Kd.R_alloc | apply Kd.R_drewN | apply Kd.R_drew)); exact HO172.out⟩, ⟨by repeat (first | (with_reducible first | exact HB.out | apply below_alloc | apply pw_below_drewN | apply below_drew1 | refine below_set ?_ GE160.out) | exact HB.out)⟩⟩
                            · rw [if_neg c33] at H
                              exact absurd H (by simp)
                          · rw [if_neg c32] at H
                            have c32b0 : (((rd_T36 l0 x31_2).f0) == 2) = false := beq_eq_false_iff_ne.mpr c32
                            have c32b1 : (((rd_T36 l0 x31_2).f0) != 2) = true := bne_iff_ne.mpr c32
                            by_cases c46 : ((rd_T36 l0 x31_2).f0) = 3
                            · rw [if_pos c46] at H
                              have c46b0 : (((rd_T36 l0 x31_2).f0) == 3) = true := beq_iff_eq.mpr c46
                              have c46b1 : (((rd_T36 l0 x31_2).f0) != 3) = false := bne_eq_false_iff_eq.mpr c46
                              clear c46
                              by_cases c47 : x5_19.length < 140737488355328
                              · rw [if_pos c47] at H
                                have LMc47 := Aside0.mk c47
                                clear c47
                                obtain ⟨y179, hy179⟩ : ∃ y_ : List Int, y_ = (x5_19 ++ [((((rd_T36 l0 x31_2).f2).size : Int)) % 256]) := ⟨_, rfl⟩
                                replace H : (if y179.length + ((rd_T36 l0 x31_2).f2).size < 140737488355328 then (rowlockref04_Put.l1 kj19 l0 (y179 ++ bytesOf ((rd_T36 l0 x31_2).f2)) (l0.length : Int) (wrap64 (x31_2 + 1))) else (none)) = some (r1, r2) := by first | (rw [hy179]; with_reducible exact H) | (have H2_ := (Option.bind_some _ _).symm.trans H; rw [hy179]; with_reducible exact H2_) | (have H2_ := (Option.bind_some _ _).symm.trans H; with_reducible exact H2_) | with_reducible exact H | (rw [hy179]; exact H) | exact H
                                have Ny179 := Aside0.mk hy179
                                clear hy179
                                by_cases c48 : y179.length + ((rd_T36 l0 x31_2).f2).size < 140737488355328
                                · rw [if_pos c48] at H
                                  have LMc48 := Aside0.mk c48
                                  clear c48
                                  obtain ⟨y182, hy182⟩ : ∃ y_ : List Int, y_ = (y179 ++ bytesOf ((rd_T36 l0 x31_2).f2)) := ⟨_, rfl⟩
                                  replace H : (rowlockref04_Put.l1 kj19 l0 y182 (l0.length : Int) (wrap64 (x31_2 + 1))) = some (r1, r2) := by first | (rw [hy182]; with_reducible exact H) | (have H2_ := (Option.bind_some _ _).symm.trans H; rw [hy182]; with_reducible exact H2_) | (have H2_ := (Option.bind_some _ _).symm.trans H; with_reducible exact H2_) | with_reducible exact H | (rw [hy182]; exact H) | exact H
                                  have Ny182 := Aside0.mk hy182
                                  clear hy182
                                  have H' := Aside0.mk H
                                  clear H
                                  have hcz49_0 : wc.cell? ⟨gb160, 0, none⟩ = some (.int .u8 ((rd_T36 l0 x31_2).f0)) := (blk_cell BK160.out 0).trans rfl
                                  have hcz49_1 : wc.cell? ⟨gb160, 1, none⟩ = some (.int .i64 ((rd_T36 l0 x31_2).f1)) := (blk_cell BK160.out 1).trans rfl
                                  have hcz49_2 : wc.cell? ⟨gb160, 2, none⟩ = some (.string ((rd_T36 l0 x31_2).f2)) := (blk_cell BK160.out 2).trans rfl
                                  have hfz49_0 := blk_frozen BK160.out 0
                                  have hfz49_1 := blk_frozen BK160.out 1
                                  have hfz49_2 := blk_frozen BK160.out 2
                                  go_wp2_with (first | ((with_reducible refine gate_builtin (b := .append) (xs := #[.tmp 63, .tmp 68]) rfl ?_); at_builtin; refine Kd.R_append (Kd.int .u8) (w0 := w) w.heap.size rfl (.tmp 63) (.tmp 68) 49 5 (.int .u8 0) 1 rfl Try.underlying49 info5 rfl (by decide) (by omega) u5 x5_19 (((((rd_T36 l0 x31_2).f2).size : Int)) % 256) [.int .u8 (((((rd_T36 l0 x31_2).f2).size : Int)) % 256)] (fun _ => True) (fun _ => False) rfl rfl ?aP (fun _ hk => hk.elim) ?aF ?aO ?aB ?aS ?aL ?_; (case aP => exact rfl); (case aB => exact (by repeat (first | (with_reducible first | exact HB.out | apply below_alloc | apply pw_below_drewN | apply below_drew1 | refine below_set ?_ GE160.out) | exact HB.out))); (case aF => exact (fun _ _ => trivial)); (case aO => exact (by (with_reducible repeat (first | apply Kd.R_alloc | apply Kd.R_drewN | apply Kd.R_drew)); exact HO_5.out)); (case aS => exact (below_size (by repeat (first | (with_reducible first | exact HB.out | apply below_alloc | apply pw_below_drewN | apply below_drew1 | refine below_set ?_ GE160.out) | exact HB.out)))); (case aL => have := LMc47.out; omega); intro v180 w50 ho hb hg hat; rw [← Ny179.out] at ho; have n0_ := Aside0.mk (blk_grown (g := gb160) (o := .cells #[.int .u8 ((rd_T36 l0 x31_2).f0), .int .i64 ((rd_T36 l0 x31_2).f1), .string ((rd_T36 l0 x31_2).f2)] 36 (0, 0)) (by (with_reducible repeat (first | refine blk_drewN ?_ _ | refine blk_drew ?_ | refine blk_alloc ?_ _)); exact BK160.out) hg (Kd.R_ne HO_5.out BK160.out (by decide))); have n1_ := Aside0.mk (hb); have n2_ := Aside0.mk (ho); clear BK160; clear HB; clear HO_5; have BK160 := n0_; have HB := n1_; have HO181 := n2_; clear n0_ n1_ n2_; clear ho hb hg hat; have hcz51_0 : w50.cell? ⟨gb160, 0, none⟩ = some (.int .u8 ((rd_T36 l0 x31_2).f0)) := (blk_cell BK160.out 0).trans rfl; have hcz51_1 : w50.cell? ⟨gb160, 1, none⟩ = some (.int .i64 ((rd_T36 l0 x31_2).f1)) := (blk_cell BK160.out 1).trans rfl; have hcz51_2 : w50.cell? ⟨gb160, 2, none⟩ = some (.string ((rd_T36 l0 x31_2).f2)) := (blk_cell BK160.out 2).trans rfl; have hfz51_0 := blk_frozen BK160.out 0; have hfz51_1 := blk_frozen BK160.out 1; have hfz51_2 := blk_frozen BK160.out 2) | (at_builtin; refine R_append_strP (w0 := w) w.heap.size rfl (.tmp 70) _ 49 9 5 rfl Try.underlying49 Try.underlying9 info5 v180 y179 ((rd_T36 l0 x31_2).f2) (fun _ => True) rfl rfl ?aF ?aO ?aB ?aS ?aL ?_; (case aB => exact (by repeat (first | (with_reducible first | exact HB.out | apply below_alloc | apply pw_below_drewN | apply below_drew1 | refine below_set ?_ GE160.out) | exact HB.out))); (case aF => exact (fun _ _ => trivial)); (case aO => exact (by (with_reducible repeat (first | apply Kd.R_alloc | apply Kd.R_drewN | apply Kd.R_drew)); exact HO181.out)); (case aS => exact (below_size (by repeat (first | (with_reducible first | exact HB.out | apply below_alloc | apply pw_below_drewN | apply below_drew1 | refine below_set ?_ GE160.out) | exact HB.out)))); (case aL => have := LMc48.out; omega); intro v183 w52 ho hb hg hat; rw [← Ny182.out] at ho; have n0_ := Aside0.mk (blk_grown (g := gb160) (o := .cells #[.int .u8 ((rd_T36 l0 x31_2).f0), .int .i64 ((rd_T36 l0 x31_2).f1), .string ((rd_T36 l0 x31_2).f2)] 36 (0, 0)) (by (with_reducible repeat (first | refine blk_drewN ?_ _ | refine blk_drew ?_ | refine blk_alloc ?_ _)); exact BK160.out) hg (Kd.R_ne HO181.out BK160.out (by decide))); have n1_ := Aside0.mk (hb); have n2_ := Aside0.mk (ho); clear BK160; clear HB; clear HO181; have BK160 := n0_; have HB := n1_; have HO184 := n2_; clear n0_ n1_ n2_; clear ho hb hg hat))
                                  go_roundg kj19
                                  case measure => have := HK1.out; have := HK2.out; have := HJ19.out; omega
                                  case rel => exact ⟨(y182), (wrap64 (x31_2 + 1)), (by first | rfl | (simp; done) | (simp [*]; done)), H', ⟨by have := HK1.out; have := HK2.out; have := HJ19.out; omega⟩, ⟨by (with_reducible repeat (first | apply Kd.R_alloc | apply Kd.R_drewN | apply Kd.R_drew)); exact HO184.out⟩, ⟨by repeat (first | (with_reducible first | exact HB.out | apply below_alloc | apply pw_below_drewN | apply below_drew1 | refine below_set ?_ GE160.out) | exact HB.out)⟩⟩
                                · rw [if_neg c48] at H
                                  exact absurd H (by simp)
                              · rw [if_neg c47] at H
                                exact absurd H (by simp)
                            · rw [if_neg c46] at H
                              have c46b0 : (((rd_T36 l0 x31_2).f0) == 3) = false := beq_eq_false_iff_ne.mpr c46
                              have c46b1 : (((rd_T36 l0 x31_2).f0) != 3) = true := bne_iff_ne.mpr c46
                              have H' := Aside0.mk H
                              clear H
                              have hcz53_0 : wc.cell? ⟨gb160, 0, none⟩ = some (.int .u8 ((rd_T36 l0 x31_2).f0)) := (blk_cell BK160.out 0).trans rfl
                              have hcz53_1 : wc.cell? ⟨gb160, 1, none⟩ = some (.int .i64 ((rd_T36 l0 x31_2).f1)) := (blk_cell BK160.out 1).trans rfl
                              have hcz53_2 : wc.cell? ⟨gb160, 2, none⟩ = some (.string ((rd_T36 l0 x31_2).f2)) := (blk_cell BK160.out 2).trans rfl
                              have hfz53_0 := blk_frozen BK160.out 0
                              have hfz53_1 := blk_frozen BK160.out 1
                              have hfz53_2 := blk_frozen BK160.out 2
                              go_wp2
                              go_roundg kj19
                              case measure => have := HK1.out; have := HK2.out; have := HJ19.out; omega
                              case rel => exact ⟨(x5_19), (wrap64 (x31_2 + 1)), (by first | rfl | (simp; done) | (simp [*]; done)), H', ⟨by have := HK1.out; have := HK2.out; have := HJ19.out; omega⟩, ⟨by (with_reducible repeat (first | apply Kd.R_alloc | apply Kd.R_drewN | apply Kd.R_drew)); exact HO_5.out⟩, ⟨by repeat (first | (with_reducible first | exact HB.out | apply below_alloc | apply pw_below_drewN | apply below_drew1 | refine below_set ?_ GE160.out) | exact HB.out)⟩⟩
                    · rw [if_neg c19] at H
                      exact absurd H (by simp)
                  · rw [if_neg c18] at H
                    exact absurd H (by simp)
                · rw [if_neg c17] at H
                  exact absurd H (by simp)
              · rw [if_neg c16] at H
                have c16b0 : decide (x31_2 < (l0.length : Int)) = false := decide_eq_false c16
                clear c16
                simp only [Option.some.injEq, Prod.mk.injEq] at H
                obtain ⟨rfl, rfl⟩ := H
                go_wp2
                go_ret2
                exact ⟨_, by first | rfl | (simp [errW_none, errW_some] <;> rfl) | (simp [*, errW_none, errW_some] <;> rfl), by (with_reducible repeat (first | apply Kd.R_alloc | apply Kd.R_drewN | apply Kd.R_drew)); exact HO_5.out, by repeat (first | (with_reducible first | exact HB.out | apply below_alloc | apply pw_below_drewN | apply below_drew1) | exact HB.out)⟩

/-! ### rowcode_Size: function 34 -/
theorem info3 : ∃ i, Try.prog.info? 3 = some i ∧ i.size = 1 := by
  refine ⟨_, rfl, ?_⟩
  kernel_rfl
theorem idx4_0 (W : World) (x0 x1 x2 x3 : Int) : (Instr.index 79 (.agg #[.int .i64 x0, .int .i64 x1, .int .i64 x2, .int .i64 x3]) (.int .u8 0)).run Try.prog W = .ok (.int .i64 x0) W := by
  obtain ⟨i, hi, hs⟩ := info3
  simp [Instr.index, run_underlying Try.underlying79, run_underlying Try.underlying3, asIntOf, go_sem, part, sizeOf, typeInfo, hi, hs, isAgg]
theorem idx4_1 (W : World) (x0 x1 x2 x3 : Int) : (Instr.index 79 (.agg #[.int .i64 x0, .int .i64 x1, .int .i64 x2, .int .i64 x3]) (.int .u8 1)).run Try.prog W = .ok (.int .i64 x1) W := by
  obtain ⟨i, hi, hs⟩ := info3
  simp [Instr.index, run_underlying Try.underlying79, run_underlying Try.underlying3, asIntOf, go_sem, part, sizeOf, typeInfo, hi, hs, isAgg]
theorem idx4_2 (W : World) (x0 x1 x2 x3 : Int) : (Instr.index 79 (.agg #[.int .i64 x0, .int .i64 x1, .int .i64 x2, .int .i64 x3]) (.int .u8 2)).run Try.prog W = .ok (.int .i64 x2) W := by
  obtain ⟨i, hi, hs⟩ := info3
  simp [Instr.index, run_underlying Try.underlying79, run_underlying Try.underlying3, asIntOf, go_sem, part, sizeOf, typeInfo, hi, hs, isAgg]
theorem idx4_3 (W : World) (x0 x1 x2 x3 : Int) : (Instr.index 79 (.agg #[.int .i64 x0, .int .i64 x1, .int .i64 x2, .int .i64 x3]) (.int .u8 3)).run Try.prog W = .ok (.int .i64 x3) W := by
  obtain ⟨i, hi, hs⟩ := info3
  simp [Instr.index, run_underlying Try.underlying79, run_underlying Try.underlying3, asIntOf, go_sem, part, sizeOf, typeInfo, hi, hs, isAgg]
/-- How many bytes a value's writing has. -/
def szv (k : Int) (s : ByteArray) : Int := if k = 0 then 1 else if k = 1 then 9 else if k = 2 then 2 else wrap64 (2 + (s.size : Int))
def rowcode_Size.szl : List S36 → Int → Option Int
  | [], n => some n
  | v :: r, n => if 0 ≤ v.f0 ∧ v.f0 ≤ 3 then rowcode_Size.szl r (wrap64 (n + szv v.f0 v.f2)) else none
def rowcode_Size.f (k : Nat) (a0 : List (S36)) : Option Int := if a0.length ≤ 1000000 then (rowcode_may.f k a0).bind fun e => (if e = 0 then rowcode_Size.szl a0 1 else some 0) else none
theorem rowcode_Size.mono : ∀ a0 k, LeO (rowcode_Size.f k a0) (rowcode_Size.f (k + 1) a0) := fun a0 k => by
  unfold rowcode_Size.f
  refine LeO.ite ?_ (LeO.refl _)
  exact LeO.bind (rowcode_may.mono _ _) (fun _ => LeO.refl _)
theorem drop_T36 (l : List S36) (i : Int) (h0 : 0 ≤ i) (h1 : i < (l.length : Int)) : l.drop i.toNat = rd_T36 l i :: l.drop (i + 1).toNat := by
  have h : i.toNat < l.length := by omega
  rw [List.drop_eq_getElem_cons h, show (i + 1).toNat = i.toNat + 1 by omega]
  simp [rd_T36, h]
set_option maxHeartbeats 8000000 in
set_option maxRecDepth 100000 in
theorem rowcode_Size.calls (k : Nat) (A0 : Option Addr) (c0 : Nat) (l0 : List (S36)) (r : Int) (w : World) (hr0 : Kd.C k36 w A0 l0.length l0) (hc0 : l0.length ≤ c0) (h : rowcode_Size.f k l0 = some r) :
    Calls Try.prog 34 #[.slice A0 l0.length c0] w fun e w' => e = .returned (.int .i64 r) ∧ Below w.heap.size w w' := by
  unfold rowcode_Size.f at h
  split at h
  case isFalse => exact absurd h (by simp)
  case isTrue hl =>
  obtain ⟨e0, he0, h⟩ := Option.bind_eq_some_iff.mp h
  have HM := Aside0.mk he0
  have HC := Aside0.mk (And.intro hr0 hc0)
  have HL := Aside0.mk hl
  have HB := Aside0.mk (Below.refl w.heap.size w)
  clear he0 hr0 hc0 hl
  by_cases h0 : e0 = 0
  · subst h0
    rw [if_pos rfl] at h
    have HS := Aside0.mk h
    clear h
    go_enter Try.func34, Try.ntmps34
    go_wp2_with (go_at_call 46; (with_reducible refine (rowcode_may.calls k _ _ l0 0 _ HC.out.1 HC.out.2 HM.out).mono ?_); rintro e w1 ⟨rfl, hb⟩; have HB1 := Aside0.mk hb; clear hb)
    go_loopg [3, 11] l0.length (fun kq v3 v11 w' => ∃ (n : Int) (i : Int), v3 = .int .i64 n ∧ v11 = .int .i64 i ∧ Aside0 (0 ≤ i ∧ (kq : Int) + i = (l0.length : Int)) ∧ Aside0 (rowcode_Size.szl (l0.drop i.toNat) n = some r) ∧ Aside0 (Below w.heap.size w w'))
    case atStart => exact ⟨1, 0, rfl, rfl, ⟨by omega⟩, HS, HB1⟩
    case round =>
      clear HS HB
      obtain ⟨n, i, rfl, rfl, HI, HS, HB⟩ := hrel
      by_cases c2 : i < (l0.length : Int)
      · have c2b0 : decide (i < (l0.length : Int)) = true := decide_eq_true c2
        obtain ⟨ad, e1, hx0, hx1, hx2⟩ := at_T36 HC.out.1 i HI.out.1 c2
        subst e1
        have hlt := HB.out.size
        replace hx0 := (HB.out.cell (World.block_lt_of_cell? w _ hx0)).trans hx0
        replace hx1 := (HB.out.cell (World.block_lt_of_cell? w _ hx1)).trans hx1
        replace hx2 := (HB.out.cell (World.block_lt_of_cell? w _ hx2)).trans hx2
        have p9 : (0 ≤ i) = True := eq_true HI.out.1
        have q9 : (i < (l0.length : Int)) = True := eq_true c2
        have HS1 := HS.out
        rw [drop_T36 l0 i HI.out.1 c2, rowcode_Size.szl] at HS1
        split at HS1
        case isFalse => exact absurd HS1 (by simp)
        case isTrue hk =>
        have HC2 := Aside0.mk c2
        have HS2 := Aside0.mk HS1
        clear c2 HS1
        have hkk : (rd_T36 l0 i).f0 = 0 ∨ (rd_T36 l0 i).f0 = 1 ∨ (rd_T36 l0 i).f0 = 2 ∨ (rd_T36 l0 i).f0 = 3 := by omega
        clear hk
        have ix0 := fun W => idx4_0 W 1 9 2 (wrap64 (2 + ((rd_T36 l0 i).f2.size : Int)))
        have ix1 := fun W => idx4_1 W 1 9 2 (wrap64 (2 + ((rd_T36 l0 i).f2.size : Int)))
        have ix2 := fun W => idx4_2 W 1 9 2 (wrap64 (2 + ((rd_T36 l0 i).f2.size : Int)))
        have ix3 := fun W => idx4_3 W 1 9 2 (wrap64 (2 + ((rd_T36 l0 i).f2.size : Int)))
        rcases hkk with hk | hk | hk | hk
        all_goals
          rw [hk] at hx0
          have HS3 := HS2.out
          simp only [szv, hk, if_true, if_neg (show ¬ (1 : Int) = 0 by decide), if_neg (show ¬ (2 : Int) = 0 by decide), if_neg (show ¬ (2 : Int) = 1 by decide), if_neg (show ¬ (3 : Int) = 0 by decide), if_neg (show ¬ (3 : Int) = 1 by decide), if_neg (show ¬ (3 : Int) = 2 by decide)] at HS3
          have HS4 := Aside0.mk HS3
          clear HS3 hk
          go_wp2
          go_roundg (gk - 1)
          case measure => have h1 := HI.out; have h2 := HC2.out; omega
          case rel =>
            have h1 := HI.out
            have h2 := HC2.out
            have h3 := HL.out
            exact ⟨_, i + 1, rfl, by rw [Rd.wr_in (i + 1) (by omega)], ⟨by omega⟩, HS4, ⟨by repeat (first | (with_reducible first | exact HB.out | apply below_alloc | apply pw_below_drewN | apply below_drew1 | (refine below_set ?_ (by simp; omega))) | exact HB.out)⟩⟩
      · have c2b0 : decide (i < (l0.length : Int)) = false := decide_eq_false c2
        have HS1 := HS.out
        rw [List.drop_of_length_le (by have := HI.out; omega), rowcode_Size.szl] at HS1
        obtain rfl := Option.some.inj HS1
        clear c2 HS1
        go_wp2
        go_ret
        exact ⟨rfl, HB.out⟩
  · have hb0 : (e0 != 0) = true := bne_iff_ne.mpr h0
    rw [if_neg h0] at h
    obtain rfl := Option.some.inj h
    clear h h0
    go_enter Try.func34, Try.ntmps34
    go_wp2_with (go_at_call 46; (with_reducible refine (rowcode_may.calls k _ _ l0 e0 _ HC.out.1 HC.out.2 HM.out).mono ?_); rintro e w1 ⟨rfl, hb⟩; have HB1 := Aside0.mk hb; clear hb)
    go_ret
    exact ⟨rfl, HB1.out⟩

end Go.Proofs.Ytegegpdaalfbdaa.XRowcodePuts
