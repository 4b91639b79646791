-- Written by this session's own program (wip/own_print.py) over the kit's print, with this session's hand-proved contracts in their places; Lean checks it.
import Derived.Test.YthkanebmkeamlaaDoorXKeyx0
import Derived.Test.YthkanebmkeamlaaDoorXKeyx1
import Derived.Test.YthkanebmkeamlaaDoorXKeyx2
import Derived.Test.YthkanebmkeamlaaDoorXKeyx6
namespace Go.Proofs.YthkanebmkeamlaaDoor.XKey
open Go.RowKit Go.Proofs.YthkanebmkeamlaaDoorW.PrintWords Go.Proofs.YthkanebmkeamlaaDoorW.PrintLast Go.Proofs.YthkanebmkeamlaaDoorW.PrintMore
attribute [local go_sem] max2_int min2_int max_two min_two max_three min_three max_four min_four   -- for this text's walks alone
set_option linter.unusedVariables false
set_option linter.unusedSimpArgs false

attribute [local go_sem high] eqA34
/-! ### rowlockref05_Put: function 18 -/
mutual
def rowlockref05_Put.l0 : Nat → List (S34) → List Int → Int → Int → Option (ByteArray × Int)
  | 0, _, _, _, _ => none
  | k + 1, x0, x4, x10, x11 => if x11 < x10 then (if 0 ≤ x11 then (if x11 < (x0.length : Int) then ((rowlockref01_May.f ((rd_T34 x0 x11).f0) ((rd_T34 x0 x11).f1) ((rd_T34 x0 x11).f2)).bind fun t160 => (if t160 = true then (if x4.length < 140737488355328 then ((some (x4 ++ [(((rd_T34 x0 x11).f0) + 1) % 256] : List Int)).bind fun y161 => (if ((rd_T34 x0 x11).f0) = 1 then ((rowlockref05_number.f k ((rd_T34 x0 x11).f1)).bind fun t164 => (if y161.length + t164.length < 140737488355328 then (rowlockref05_Put.j1 k x0 (y161 ++ t164) x10 x11 ((rd_T34 x0 x11).f0) ((rd_T34 x0 x11).f1) ((rd_T34 x0 x11).f2)) else (none))) else (rowlockref05_Put.j1 k x0 y161 x10 x11 ((rd_T34 x0 x11).f0) ((rd_T34 x0 x11).f1) ((rd_T34 x0 x11).f2)))) else (none)) else (some ((⟨#[]⟩ : ByteArray), 1)))) else (none)) else (none)) else (some (strOfNums x4, 0))
def rowlockref05_Put.j1 : Nat → List (S34) → List Int → Int → Int → Int → Int → ByteArray → Option (ByteArray × Int)
  | 0, _, _, _, _, _, _, _ => none
  | k + 1, x0, x4, x10, x11, x160000, x160001, x160002 => if x160000 = 2 then (if x4.length < 140737488355328 then (rowlockref05_Put.j2 k x0 (x4 ++ [(x160001) % 256]) x10 x11 x160000 x160001 x160002) else (none)) else (rowlockref05_Put.j2 k x0 x4 x10 x11 x160000 x160001 x160002)
def rowlockref05_Put.j2 : Nat → List (S34) → List Int → Int → Int → Int → Int → ByteArray → Option (ByteArray × Int)
  | 0, _, _, _, _, _, _, _ => none
  | k + 1, x0, x4, x10, x11, x160000, x160001, x160002 => if x160000 = 3 then (rowlockref05_Put.l1 k x0 x4 0 x10 x11 x160000 x160001 x160002) else (rowlockref05_Put.l0 k x0 x4 x10 (wrap64 (x11 + 1)))
def rowlockref05_Put.l1 : Nat → List (S34) → List Int → Int → Int → Int → Int → Int → ByteArray → Option (ByteArray × Int)
  | 0, _, _, _, _, _, _, _, _ => none
  | k + 1, x0, x4, x7, x10, x11, x160000, x160001, x160002 => if x7 < (x160002.size : Int) then (if 0 ≤ x7 then (if x4.length < 140737488355328 then ((some (x4 ++ [bt x160002 x7] : List Int)).bind fun y173 => (if (bt x160002 x7) = 0 then (if y173.length < 140737488355328 then (rowlockref05_Put.l1 k x0 (y173 ++ [255]) (wrap64 (x7 + 1)) x10 x11 x160000 x160001 x160002) else (none)) else (rowlockref05_Put.l1 k x0 y173 (wrap64 (x7 + 1)) x10 x11 x160000 x160001 x160002))) else (none)) else (none)) else ((some (([0, 1] : List Int) : List Int)).bind fun y179 => (if x4.length + y179.length < 140737488355328 then (rowlockref05_Put.l0 k x0 (x4 ++ y179) x10 (wrap64 (x11 + 1))) else (none)))
end
def rowlockref05_Put.f (k : Nat) (l0 : List (S34)) : Option (ByteArray × Int) := rowlockref05_Put.l0 k l0 (([] : List Int)) (l0.length : Int) 0
theorem rowlockref05_Put.mono_l : ∀ k, (∀ y0 y1 y2 y3, LeO (rowlockref05_Put.l0 k y0 y1 y2 y3) (rowlockref05_Put.l0 (k + 1) y0 y1 y2 y3)) ∧ (∀ y0 y1 y2 y3 y4 y5 y6, LeO (rowlockref05_Put.j1 k y0 y1 y2 y3 y4 y5 y6) (rowlockref05_Put.j1 (k + 1) y0 y1 y2 y3 y4 y5 y6)) ∧ (∀ y0 y1 y2 y3 y4 y5 y6, LeO (rowlockref05_Put.j2 k y0 y1 y2 y3 y4 y5 y6) (rowlockref05_Put.j2 (k + 1) y0 y1 y2 y3 y4 y5 y6)) ∧ (∀ y0 y1 y2 y3 y4 y5 y6 y7, LeO (rowlockref05_Put.l1 k y0 y1 y2 y3 y4 y5 y6 y7) (rowlockref05_Put.l1 (k + 1) y0 y1 y2 y3 y4 y5 y6 y7))
  | 0 => ⟨fun _ _ _ _ r h => by simp [rowlockref05_Put.l0] at h, fun _ _ _ _ _ _ _ r h => by simp [rowlockref05_Put.j1] at h, fun _ _ _ _ _ _ _ r h => by simp [rowlockref05_Put.j2] at h, fun _ _ _ _ _ _ _ _ r h => by simp [rowlockref05_Put.l1] at h⟩
  | k + 1 => by
    obtain ⟨ih0, ih1, ih2, ih3⟩ := rowlockref05_Put.mono_l k
    refine ⟨?_, ?_, ?_, ?_⟩
    · intro y0 y1 y2 y3
      unfold rowlockref05_Put.l0
      repeat' first
      | (with_reducible exact ih0 _ _ _ _)
      | (with_reducible exact ih1 _ _ _ _ _ _ _)
      | (with_reducible exact ih2 _ _ _ _ _ _ _)
      | (with_reducible exact ih3 _ _ _ _ _ _ _ _)
      | (with_reducible exact rowlockref05_number.mono _ _)
      | (with_reducible exact LeO.refl _)
      | (with_reducible exact LeO.none _)
      | (with_reducible refine LeO.ite ?_ ?_)
      | (with_reducible refine LeO.bind ?_ (fun _ => ?_))
      | exact ih0 _ _ _ _
      | exact ih1 _ _ _ _ _ _ _
      | exact ih2 _ _ _ _ _ _ _
      | exact ih3 _ _ _ _ _ _ _ _
      | exact rowlockref05_number.mono _ _
      | exact LeO.none _
      | refine LeO.ite ?_ ?_
      | refine LeO.bind ?_ (fun _ => ?_)
    · intro y0 y1 y2 y3 y4 y5 y6
      unfold rowlockref05_Put.j1
      repeat' first
      | (with_reducible exact ih0 _ _ _ _)
      | (with_reducible exact ih1 _ _ _ _ _ _ _)
      | (with_reducible exact ih2 _ _ _ _ _ _ _)
      | (with_reducible exact ih3 _ _ _ _ _ _ _ _)
      | (with_reducible exact rowlockref05_number.mono _ _)
      | (with_reducible exact LeO.refl _)
      | (with_reducible exact LeO.none _)
      | (with_reducible refine LeO.ite ?_ ?_)
      | (with_reducible refine LeO.bind ?_ (fun _ => ?_))
      | exact ih0 _ _ _ _
      | exact ih1 _ _ _ _ _ _ _
      | exact ih2 _ _ _ _ _ _ _
      | exact ih3 _ _ _ _ _ _ _ _
      | exact rowlockref05_number.mono _ _
      | exact LeO.none _
      | refine LeO.ite ?_ ?_
      | refine LeO.bind ?_ (fun _ => ?_)
    · intro y0 y1 y2 y3 y4 y5 y6
      unfold rowlockref05_Put.j2
      repeat' first
      | (with_reducible exact ih0 _ _ _ _)
      | (with_reducible exact ih1 _ _ _ _ _ _ _)
      | (with_reducible exact ih2 _ _ _ _ _ _ _)
      | (with_reducible exact ih3 _ _ _ _ _ _ _ _)
      | (with_reducible exact rowlockref05_number.mono _ _)
      | (with_reducible exact LeO.refl _)
      | (with_reducible exact LeO.none _)
      | (with_reducible refine LeO.ite ?_ ?_)
      | (with_reducible refine LeO.bind ?_ (fun _ => ?_))
      | exact ih0 _ _ _ _
      | exact ih1 _ _ _ _ _ _ _
      | exact ih2 _ _ _ _ _ _ _
      | exact ih3 _ _ _ _ _ _ _ _
      | exact rowlockref05_number.mono _ _
      | exact LeO.none _
      | refine LeO.ite ?_ ?_
      | refine LeO.bind ?_ (fun _ => ?_)
    · intro y0 y1 y2 y3 y4 y5 y6 y7
      unfold rowlockref05_Put.l1
      repeat' first
      | (with_reducible exact ih0 _ _ _ _)
      | (with_reducible exact ih1 _ _ _ _ _ _ _)
      | (with_reducible exact ih2 _ _ _ _ _ _ _)
      | (with_reducible exact ih3 _ _ _ _ _ _ _ _)
      | (with_reducible exact rowlockref05_number.mono _ _)
      | (with_reducible exact LeO.refl _)
      | (with_reducible exact LeO.none _)
      | (with_reducible refine LeO.ite ?_ ?_)
      | (with_reducible refine LeO.bind ?_ (fun _ => ?_))
      | exact ih0 _ _ _ _
      | exact ih1 _ _ _ _ _ _ _
      | exact ih2 _ _ _ _ _ _ _
      | exact ih3 _ _ _ _ _ _ _ _
      | exact rowlockref05_number.mono _ _
      | exact LeO.none _
      | refine LeO.ite ?_ ?_
      | refine LeO.bind ?_ (fun _ => ?_)
theorem rowlockref05_Put.mono : ∀ a0 k, LeO (rowlockref05_Put.f k a0) (rowlockref05_Put.f (k + 1) a0) := by
  intro a0 k
  obtain ⟨ih0, ih1, ih2, ih3⟩ := rowlockref05_Put.mono_l k
  unfold rowlockref05_Put.f
  repeat' first
      | (with_reducible exact ih0 _ _ _ _)
      | (with_reducible exact ih1 _ _ _ _ _ _ _)
      | (with_reducible exact ih2 _ _ _ _ _ _ _)
      | (with_reducible exact ih3 _ _ _ _ _ _ _ _)
      | (with_reducible exact rowlockref05_number.mono _ _)
      | (with_reducible exact LeO.refl _)
      | (with_reducible exact LeO.none _)
      | (with_reducible refine LeO.ite ?_ ?_)
      | (with_reducible refine LeO.bind ?_ (fun _ => ?_))
      | exact ih0 _ _ _ _
      | exact ih1 _ _ _ _ _ _ _
      | exact ih2 _ _ _ _ _ _ _
      | exact ih3 _ _ _ _ _ _ _ _
      | exact rowlockref05_number.mono _ _
      | exact LeO.none _
      | refine LeO.ite ?_ ?_
      | refine LeO.bind ?_ (fun _ => ?_)
set_option maxHeartbeats 8000000 in
set_option maxRecDepth 100000 in
theorem rowlockref05_Put.calls (k : Nat) (A0 : Option Addr) (c0 : Nat) (l0 : List (S34)) (r1 : ByteArray) (r2 : Int) (w : World) (hr0 : Kd.C k34 w A0 l0.length l0) (hc0 : l0.length ≤ c0) (h : rowlockref05_Put.f k l0 = some (r1, r2)) :
    Calls Tryd.prog 18 #[.slice A0 l0.length c0] w fun e w' => e = .returned (.tuple #[.string r1, .int .i64 r2]) ∧ Below w.heap.size w w' := by
  have hu34 := Tryd.underlying34
  have HR0 := Aside0.mk hr0
  have HC0 := Aside0.mk hc0
  clear hr0 hc0
  have HB := Aside0.mk (Below.refl w.heap.size w)
  have H : (rowlockref05_Put.l0 k l0 (([] : List Int)) (l0.length : Int) 0) = some (r1, r2) := h
  clear h
  obtain ⟨y155, hy155⟩ : ∃ y_ : List Int, y_ = (([] : List Int)) := ⟨_, rfl⟩
  replace H : (rowlockref05_Put.l0 k l0 y155 (l0.length : Int) 0) = some (r1, r2) := by first | (rw [hy155]; with_reducible exact H) | (have H2_ := (Option.bind_some _ _).symm.trans H; rw [hy155]; with_reducible exact H2_) | (have H2_ := (Option.bind_some _ _).symm.trans H; with_reducible exact H2_) | with_reducible exact H | (rw [hy155]; exact H) | exact H
  have Ny155 := Aside0.mk hy155
  clear hy155
  have H' := Aside0.mk H
  clear H
  go_enter Tryd.func18, Tryd.ntmps18
  go_wp2_with (first | ((with_reducible refine gate_dst (N := 8) rfl ?_); refine Kd.R_lit (Kd.int .u8) _ 5 ?hg (N := 8) ?hd (xs := ([] : List Int)) (inner := []) (ok := fun _ => True) (okp := fun _ => True) ?hr ?hp (fun _ hk => hk) trivial (Below.refl _ _) (Nat.le_refl _) (by simp) ?_; (case hd => rfl); (case hg => rfl); (case hr => first | (go_simp; done) | (go_simp; rfl)); (case hp => exact (Reps.none _ _)); intro v156 w2 ho3 hb hg_ hnew_; clear hg_ hnew_; (first | rw [← Ny155.out] at ho3 | (simp only [Int.reduceToNat] at ho3; rw [← Ny155.out] at ho3)); have n0_ := Aside0.mk (Kd.R_lower ho3 (below_size (by repeat (first | (with_reducible first | exact HB.out | apply below_alloc | apply pw_below_drewN | apply below_drew1) | exact HB.out)))); have n1_ := Aside0.mk (below_step (by repeat (first | (with_reducible first | exact HB.out | apply below_alloc | apply pw_below_drewN | apply below_drew1) | exact HB.out)) hb); clear HB; have HO157 := n0_; have HB := n1_; clear n0_ n1_; clear hb ho3))
  go_loopg [4, 11] k (fun kq v4 v11 w' => ∃ (x4_1 : List Int) (x11_1 : Int), v11 = .int .i64 x11_1 ∧ Aside0 (rowlockref05_Put.l0 kq l0 x4_1 (l0.length : Int) x11_1 = some (r1, r2)) ∧ Aside0 (kq ≤ k) ∧ Aside0 (Kd.R (Kd.int .u8) 5 w' w.heap.size (fun _ => True) v4 x4_1) ∧ Aside0 (Below w.heap.size w w'))
  case atStart => exact ⟨(y155), (0), (by first | rfl | (simp; done) | (simp [*]; done)), H', ⟨Nat.le_refl _⟩, ⟨by (with_reducible repeat (first | apply Kd.R_alloc | apply Kd.R_drewN | apply Kd.R_drew)); exact HO157.out⟩, ⟨by repeat (first | (with_reducible first | exact HB.out | apply below_alloc | apply pw_below_drewN | apply below_drew1) | exact HB.out)⟩⟩
  case round =>
    clear H'
    try clear c1
    try clear p2
    obtain ⟨x4_1, x11_1, rfl, HA, HK1, HO_4, HB⟩ := hrel
    cases gk with
    | zero => exact absurd HA.out (by simp [rowlockref05_Put.l0])
    | succ k1 =>
      have H := HA.out
      clear HA
      simp only [rowlockref05_Put.l0] at H
      by_cases c4 : x11_1 < (l0.length : Int)
      · rw [if_pos c4] at H
        have c4b0 : decide (x11_1 < (l0.length : Int)) = true := decide_eq_true c4
        clear c4
        by_cases c5 : 0 ≤ x11_1
        · rw [if_pos c5] at H
          have c5b0 : decide (0 ≤ x11_1) = true := decide_eq_true c5
          clear c5
          by_cases c6 : x11_1 < (l0.length : Int)
          · rw [if_pos c6] at H
            have c6b0 : decide (x11_1 < (l0.length : Int)) = true := decide_eq_true c6
            clear c6
            replace H := Option.bind_eq_some_iff.mp H
            obtain ⟨t160, A70, H⟩ := H
            replace H : (if t160 = true then (if x4_1.length < 140737488355328 then ((some (x4_1 ++ [(((rd_T34 l0 x11_1).f0) + 1) % 256] : List Int)).bind fun y161 => (if ((rd_T34 l0 x11_1).f0) = 1 then ((rowlockref05_number.f k1 ((rd_T34 l0 x11_1).f1)).bind fun t164 => (if y161.length + t164.length < 140737488355328 then (rowlockref05_Put.j1 k1 l0 (y161 ++ t164) (l0.length : Int) x11_1 ((rd_T34 l0 x11_1).f0) ((rd_T34 l0 x11_1).f1) ((rd_T34 l0 x11_1).f2)) else (none))) else (rowlockref05_Put.j1 k1 l0 y161 (l0.length : Int) x11_1 ((rd_T34 l0 x11_1).f0) ((rd_T34 l0 x11_1).f1) ((rd_T34 l0 x11_1).f2)))) else (none)) else (some ((⟨#[]⟩ : ByteArray), 1))) = some (r1, r2) := H
            have A7 := Aside0.mk A70
            clear A70
            by_cases c8 : t160 = true
            · subst c8
              have H1 : (if x4_1.length < 140737488355328 then ((some (x4_1 ++ [(((rd_T34 l0 x11_1).f0) + 1) % 256] : List Int)).bind fun y161 => (if ((rd_T34 l0 x11_1).f0) = 1 then ((rowlockref05_number.f k1 ((rd_T34 l0 x11_1).f1)).bind fun t164 => (if y161.length + t164.length < 140737488355328 then (rowlockref05_Put.j1 k1 l0 (y161 ++ t164) (l0.length : Int) x11_1 ((rd_T34 l0 x11_1).f0) ((rd_T34 l0 x11_1).f1) ((rd_T34 l0 x11_1).f2)) else (none))) else (rowlockref05_Put.j1 k1 l0 y161 (l0.length : Int) x11_1 ((rd_T34 l0 x11_1).f0) ((rd_T34 l0 x11_1).f1) ((rd_T34 l0 x11_1).f2)))) else (none)) = some (r1, r2) := by rw [if_pos rfl] at H; exact H
              clear H
              have H := H1
              clear H1
              by_cases c9 : x4_1.length < 140737488355328
              · rw [if_pos c9] at H
                have LMc9 := Aside0.mk c9
                clear c9
                obtain ⟨y161, hy161⟩ : ∃ y_ : List Int, y_ = (x4_1 ++ [(((rd_T34 l0 x11_1).f0) + 1) % 256]) := ⟨_, rfl⟩
                replace H : (if ((rd_T34 l0 x11_1).f0) = 1 then ((rowlockref05_number.f k1 ((rd_T34 l0 x11_1).f1)).bind fun t164 => (if y161.length + t164.length < 140737488355328 then (rowlockref05_Put.j1 k1 l0 (y161 ++ t164) (l0.length : Int) x11_1 ((rd_T34 l0 x11_1).f0) ((rd_T34 l0 x11_1).f1) ((rd_T34 l0 x11_1).f2)) else (none))) else (rowlockref05_Put.j1 k1 l0 y161 (l0.length : Int) x11_1 ((rd_T34 l0 x11_1).f0) ((rd_T34 l0 x11_1).f1) ((rd_T34 l0 x11_1).f2))) = some (r1, r2) := by first | (rw [hy161]; with_reducible exact H) | (have H2_ := (Option.bind_some _ _).symm.trans H; rw [hy161]; with_reducible exact H2_) | (have H2_ := (Option.bind_some _ _).symm.trans H; with_reducible exact H2_) | with_reducible exact H | (rw [hy161]; exact H) | exact H
                have Ny161 := Aside0.mk hy161
                clear hy161
                have HC10 := Aside0.mk H
                clear H
                have p158 : 0 ≤ (x11_1 : Int) := of_decide_eq_true (by first | (with_reducible assumption) | assumption)
                have q158 : x11_1 < (l0.length : Int) := of_decide_eq_true (by first | (with_reducible assumption) | assumption)
                obtain ⟨ad158, e158, hx158_0, hx158_1, hx158_2⟩ := at_T34 HR0.out x11_1 p158 q158
                cases e158
                replace hx158_0 := (HB.out.cell (World.block_lt_of_cell? w _ hx158_0)).trans hx158_0
                replace hx158_1 := (HB.out.cell (World.block_lt_of_cell? w _ hx158_1)).trans hx158_1
                replace hx158_2 := (HB.out.cell (World.block_lt_of_cell? w _ hx158_2)).trans hx158_2
                replace p158 := eq_true p158
                replace q158 := eq_true q158
                go_upto_if 29 with (first | ((with_reducible refine gate_dst (N := 6) rfl ?_); refine box_event ?hg (N := 6) ?hd (cs := #[.int .u8 0, .int .i64 0, .string (⟨#[]⟩ : ByteArray)]) (t := 34) ?hr ?_; (case hd => rfl); (case hg => rfl); (case hr => first | (go_simp; done) | (go_simp; rfl)); intro gb159 hg w11 hbox hb; have n0_ := Aside0.mk (Kd.R_below (by (with_reducible repeat (first | apply Kd.R_alloc | apply Kd.R_drewN | apply Kd.R_drew)); exact HO_4.out) hb); have n1_ := Aside0.mk (below_step (by repeat (first | (with_reducible first | exact HB.out | apply below_alloc | apply pw_below_drewN | apply below_drew1) | exact HB.out)) hb); have n2_ := Aside0.mk (hbox); have n3_ := Aside0.mk ((by rw [hg]; exact (below_size (by repeat (first | (with_reducible first | exact HB.out | apply below_alloc | apply pw_below_drewN | apply below_drew1) | exact HB.out))) : w.heap.size ≤ gb159)); have n4_ := Aside0.mk ((by rw [hg]; exact (below_size (by repeat (first | (with_reducible first | exact HB.out | apply below_alloc | apply pw_below_drewN | apply below_drew1) | exact HB.out))) : w.heap.size ≤ gb159)); clear HO_4; clear HB; have HO_4 := n0_; have HB := n1_; have BK159 := n2_; have GW159 := n3_; have GE159 := n4_; clear n0_ n1_ n2_ n3_ n4_; clear hb hbox hg; have hcz12_0 : w11.cell? ⟨gb159, 0, none⟩ = some (.int .u8 0) := (blk_cell BK159.out 0).trans rfl; have hcz12_1 : w11.cell? ⟨gb159, 1, none⟩ = some (.int .i64 0) := (blk_cell BK159.out 1).trans rfl; have hcz12_2 : w11.cell? ⟨gb159, 2, none⟩ = some (.string (⟨#[]⟩ : ByteArray)) := (blk_cell BK159.out 2).trans rfl; have hfz12_0 := blk_frozen BK159.out 0; have hfz12_1 := blk_frozen BK159.out 1; have hfz12_2 := blk_frozen BK159.out 2) | ((with_reducible refine gate_callee (f := 22) rfl ?_); refine goesL_ (some 19) rfl rfl Tryd.func22 (by kernel_rfl) rfl #[.agg #[.int .u8 ((rd_T34 l0 x11_1).f0), .int .i64 ((rd_T34 l0 x11_1).f1), .string ((rd_T34 l0 x11_1).f2)]] rfl (by (try simp only [List.map_toArray, List.map_cons, List.map_nil]); first | done | rfl | (simp only [List.length_drop, List.length_take]; rfl)) ?_; (with_reducible refine (rowlockref01_May.calls ((rd_T34 l0 x11_1).f0) ((rd_T34 l0 x11_1).f1) ((rd_T34 l0 x11_1).f2) true _ A7.out).mono ?_); rintro e w13 ⟨rfl, hb⟩; refine ⟨_, rfl, ?_⟩; have n0_ := Aside0.mk (Kd.R_below (by (with_reducible repeat (first | apply Kd.R_alloc | apply Kd.R_drewN | apply Kd.R_drew)); exact (Kd.R_mono (Kd.R_far (p := ⟨gb159, 2, none⟩) (Kd.R_far (p := ⟨gb159, 1, none⟩) (Kd.R_far (p := ⟨gb159, 0, none⟩) (Kd.R_types HO_4.out BK159.out (by decide)) (fun _ hk => hk.2) (.int .u8 ((rd_T34 l0 x11_1).f0))) (fun _ hk => hk.2) (.int .i64 ((rd_T34 l0 x11_1).f1))) (fun _ hk => hk.2) (.string ((rd_T34 l0 x11_1).f2))) (fun _ h_ => h_.1))) hb); have n1_ := Aside0.mk (blk_below (g := gb159) (o := .cells #[.int .u8 ((rd_T34 l0 x11_1).f0), .int .i64 ((rd_T34 l0 x11_1).f1), .string ((rd_T34 l0 x11_1).f2)] 34 (0, 0)) (by (with_reducible repeat (first | refine blk_drewN ?_ _ | refine blk_drew ?_ | refine blk_alloc ?_ _)); refine blk_put (cs := #[.int .u8 ((rd_T34 l0 x11_1).f0), .int .i64 ((rd_T34 l0 x11_1).f1), .string (⟨#[]⟩ : ByteArray)]) ?_ 2 _ rfl; (with_reducible repeat (first | refine blk_drewN ?_ _ | refine blk_drew ?_ | refine blk_alloc ?_ _)); refine blk_put (cs := #[.int .u8 ((rd_T34 l0 x11_1).f0), .int .i64 0, .string (⟨#[]⟩ : ByteArray)]) ?_ 1 _ rfl; (with_reducible repeat (first | refine blk_drewN ?_ _ | refine blk_drew ?_ | refine blk_alloc ?_ _)); refine blk_put (cs := #[.int .u8 0, .int .i64 0, .string (⟨#[]⟩ : ByteArray)]) ?_ 0 _ rfl; (with_reducible repeat (first | refine blk_drewN ?_ _ | refine blk_drew ?_ | refine blk_alloc ?_ _)); exact BK159.out) hb); have n2_ := Aside0.mk (below_step (by repeat (first | (with_reducible first | exact HB.out | apply below_alloc | apply pw_below_drewN | apply below_drew1 | refine below_set ?_ GE159.out) | exact HB.out)) hb); clear HO_4; clear BK159; clear HB; have HO_4 := n0_; have BK159 := n1_; have HB := n2_; clear n0_ n1_ n2_; (try clear hb); (try clear hb2); (try clear hk); (try clear hi); have hcz14_0 : w13.cell? ⟨gb159, 0, none⟩ = some (.int .u8 ((rd_T34 l0 x11_1).f0)) := (blk_cell BK159.out 0).trans rfl; have hcz14_1 : w13.cell? ⟨gb159, 1, none⟩ = some (.int .i64 ((rd_T34 l0 x11_1).f1)) := (blk_cell BK159.out 1).trans rfl; have hcz14_2 : w13.cell? ⟨gb159, 2, none⟩ = some (.string ((rd_T34 l0 x11_1).f2)) := (blk_cell BK159.out 2).trans rfl; have hfz14_0 := blk_frozen BK159.out 0; have hfz14_1 := blk_frozen BK159.out 1; have hfz14_2 := blk_frozen BK159.out 2) | ((with_reducible refine gate_builtin (b := .append) (xs := #[.tmp 21, .tmp 25]) rfl ?_); at_builtin; refine Kd.R_append (Kd.int .u8) (w0 := w) w.heap.size rfl (.tmp 21) (.tmp 25) 31 5 (.int .u8 0) 1 rfl Tryd.underlying31 info5 rfl (by decide) (by omega) u4 x4_1 ((((rd_T34 l0 x11_1).f0) + 1) % 256) [.int .u8 ((((rd_T34 l0 x11_1).f0) + 1) % 256)] (fun _ => True) (fun _ => False) rfl rfl ?aP (fun _ hk => hk.elim) ?aF ?aO ?aB ?aS ?aL ?_; (case aP => exact rfl); (case aB => exact (by repeat (first | (with_reducible first | exact HB.out | apply below_alloc | apply pw_below_drewN | apply below_drew1 | refine below_set ?_ GE159.out) | exact HB.out))); (case aF => exact (fun _ _ => trivial)); (case aO => exact (by (with_reducible repeat (first | apply Kd.R_alloc | apply Kd.R_drewN | apply Kd.R_drew)); exact HO_4.out)); (case aS => exact (below_size (by repeat (first | (with_reducible first | exact HB.out | apply below_alloc | apply pw_below_drewN | apply below_drew1 | refine below_set ?_ GE159.out) | exact HB.out)))); (case aL => have := LMc9.out; omega); intro v162 w15 ho hb hg hat; rw [← Ny161.out] at ho; have n0_ := Aside0.mk (blk_grown (g := gb159) (o := .cells #[.int .u8 ((rd_T34 l0 x11_1).f0), .int .i64 ((rd_T34 l0 x11_1).f1), .string ((rd_T34 l0 x11_1).f2)] 34 (0, 0)) (by (with_reducible repeat (first | refine blk_drewN ?_ _ | refine blk_drew ?_ | refine blk_alloc ?_ _)); exact BK159.out) hg (Kd.R_ne HO_4.out BK159.out (by decide))); have n1_ := Aside0.mk (hb); have n2_ := Aside0.mk (ho); clear BK159; clear HB; clear HO_4; have BK159 := n0_; have HB := n1_; have HO163 := n2_; clear n0_ n1_ n2_; clear ho hb hg hat; have hcz16_0 : w15.cell? ⟨gb159, 0, none⟩ = some (.int .u8 ((rd_T34 l0 x11_1).f0)) := (blk_cell BK159.out 0).trans rfl; have hcz16_1 : w15.cell? ⟨gb159, 1, none⟩ = some (.int .i64 ((rd_T34 l0 x11_1).f1)) := (blk_cell BK159.out 1).trans rfl; have hcz16_2 : w15.cell? ⟨gb159, 2, none⟩ = some (.string ((rd_T34 l0 x11_1).f2)) := (blk_cell BK159.out 2).trans rfl; have hfz16_0 := blk_frozen BK159.out 0; have hfz16_1 := blk_frozen BK159.out 1; have hfz16_2 := blk_frozen BK159.out 2))
                (try simp only [Act.put, List.setIfInBounds_toArray, List.set_cons_zero, List.set_cons_succ])
                go_cut [4] (fun v4 wc => ∃ (kq : Nat) (x4_9 : List Int), Aside0 (rowlockref05_Put.j1 kq l0 x4_9 (l0.length : Int) x11_1 ((rd_T34 l0 x11_1).f0) ((rd_T34 l0 x11_1).f1) ((rd_T34 l0 x11_1).f2) = some (r1, r2)) ∧ Aside0 (kq ≤ k1) ∧ Aside0 (Kd.R (Kd.int .u8) 5 wc w.heap.size (fun _ => True) v4 x4_9) ∧ Aside0 (wc.heap[gb159]? = some (.cells #[.int .u8 ((rd_T34 l0 x11_1).f0), .int .i64 ((rd_T34 l0 x11_1).f1), .string ((rd_T34 l0 x11_1).f2)] 34 (0, 0))) ∧ Aside0 (Below w.heap.size w wc))
                case first =>
                  have H := HC10.out
                  clear HC10
                  by_cases c17 : ((rd_T34 l0 x11_1).f0) = 1
                  · rw [if_pos c17] at H
                    have c17b0 : (((rd_T34 l0 x11_1).f0) == 1) = true := beq_iff_eq.mpr c17
                    have c17b1 : (((rd_T34 l0 x11_1).f0) != 1) = false := bne_eq_false_iff_eq.mpr c17
                    clear c17
                    (first | rw [c17b0] | (simp only [i64_w, i32_w]; rw [c17b0]) | skip)
                    replace H := Option.bind_eq_some_iff.mp H
                    obtain ⟨t164, A180, H⟩ := H
                    replace H : (if y161.length + t164.length < 140737488355328 then (rowlockref05_Put.j1 k1 l0 (y161 ++ t164) (l0.length : Int) x11_1 ((rd_T34 l0 x11_1).f0) ((rd_T34 l0 x11_1).f1) ((rd_T34 l0 x11_1).f2)) else (none)) = some (r1, r2) := H
                    have A18 := Aside0.mk A180
                    clear A180
                    by_cases c19 : y161.length + t164.length < 140737488355328
                    · rw [if_pos c19] at H
                      have LMc19 := Aside0.mk c19
                      clear c19
                      obtain ⟨y167, hy167⟩ : ∃ y_ : List Int, y_ = (y161 ++ t164) := ⟨_, rfl⟩
                      replace H : (rowlockref05_Put.j1 k1 l0 y167 (l0.length : Int) x11_1 ((rd_T34 l0 x11_1).f0) ((rd_T34 l0 x11_1).f1) ((rd_T34 l0 x11_1).f2)) = some (r1, r2) := by first | (rw [hy167]; with_reducible exact H) | (have H2_ := (Option.bind_some _ _).symm.trans H; rw [hy167]; with_reducible exact H2_) | (have H2_ := (Option.bind_some _ _).symm.trans H; with_reducible exact H2_) | with_reducible exact H | (rw [hy167]; exact H) | exact H
                      have Ny167 := Aside0.mk hy167
                      clear hy167
                      have H' := Aside0.mk H
                      clear H
                      have hcz20_0 : w15.cell? ⟨gb159, 0, none⟩ = some (.int .u8 ((rd_T34 l0 x11_1).f0)) := (blk_cell BK159.out 0).trans rfl
                      have hcz20_1 : w15.cell? ⟨gb159, 1, none⟩ = some (.int .i64 ((rd_T34 l0 x11_1).f1)) := (blk_cell BK159.out 1).trans rfl
                      have hcz20_2 : w15.cell? ⟨gb159, 2, none⟩ = some (.string ((rd_T34 l0 x11_1).f2)) := (blk_cell BK159.out 2).trans rfl
                      have hfz20_0 := blk_frozen BK159.out 0
                      have hfz20_1 := blk_frozen BK159.out 1
                      have hfz20_2 := blk_frozen BK159.out 2
                      go_wp2_with (first | ((with_reducible refine gate_callee (f := 28) rfl ?_); refine goesL_ (some 33) rfl rfl Tryd.func28 (by kernel_rfl) rfl #[.int .i64 ((rd_T34 l0 x11_1).f1)] rfl (by (try simp only [List.map_toArray, List.map_cons, List.map_nil]); first | done | rfl | (simp only [List.length_drop, List.length_take]; rfl)) ?_; (with_reducible refine (rowlockref05_number.calls k1 ((rd_T34 l0 x11_1).f1) t164 _ A18.out).mono ?_); rintro e w21 ⟨v165, rfl, ho0, hb⟩; refine ⟨_, rfl, ?_⟩; have n0_ := Aside0.mk (Kd.R_elder' (by (with_reducible repeat (first | apply Kd.R_alloc | apply Kd.R_drewN | apply Kd.R_drew)); exact HO163.out) (Kd.R_base ho0) hb); have n1_ := Aside0.mk (Kd.R_lower (Kd.R_new' ho0 (Kd.R_lt (by (with_reducible repeat (first | apply Kd.R_alloc | apply Kd.R_drewN | apply Kd.R_drew)); exact HO163.out))) (below_size (by repeat (first | (with_reducible first | exact HB.out | apply below_alloc | apply pw_below_drewN | apply below_drew1 | refine below_set ?_ GE159.out) | exact HB.out)))); have n2_ := Aside0.mk (blk_below (g := gb159) (o := .cells #[.int .u8 ((rd_T34 l0 x11_1).f0), .int .i64 ((rd_T34 l0 x11_1).f1), .string ((rd_T34 l0 x11_1).f2)] 34 (0, 0)) (by (with_reducible repeat (first | refine blk_drewN ?_ _ | refine blk_drew ?_ | refine blk_alloc ?_ _)); exact BK159.out) hb); have n3_ := Aside0.mk (below_step (by repeat (first | (with_reducible first | exact HB.out | apply below_alloc | apply pw_below_drewN | apply below_drew1 | refine below_set ?_ GE159.out) | exact HB.out)) hb); clear HO163; clear BK159; clear HB; have HO163 := n0_; have HO166 := n1_; have BK159 := n2_; have HB := n3_; clear n0_ n1_ n2_ n3_; (try clear hb); (try clear hb2); (try clear hk); (try clear hi); (try clear ho0); obtain ⟨Ao23, co23, eo23⟩ := Kd.R_slice HO166.out; subst eo23) | ((with_reducible refine gate_builtin (b := .append) (xs := #[.tmp 30, .tmp 33]) rfl ?_); at_builtin; refine Kd.R_append_rows (Kd.int .u8) (w0 := w) w.heap.size rfl (.tmp 30) (.tmp 33) 31 5 (.int .u8 0) 1 rfl Tryd.underlying31 info5 rfl (by decide) (by omega) v162 y161 t164 _ _ _ (fun k_ => some k_ ≠ (.slice Ao23 t164.length co23 : Value).ownBlock) (fun _ => False) rfl rfl ?aO ?aR (fun _ _ h => h) (fun _ h => h.elim) ?aF ?aB ?aS ?aL ?_; (case aR => repeat (first | exact (Kd.R_reads' HO166.out).2.2 | (with_reducible refine Kd.C_alloc ?_ _) | (with_reducible refine Kd.C_drewN ?_ _) | (with_reducible refine Kd.C_drew ?_))); (case aB => exact (by repeat (first | (with_reducible first | exact HB.out | apply below_alloc | apply pw_below_drewN | apply below_drew1 | refine below_set ?_ GE159.out) | exact HB.out))); (case aF => exact (fun k_ hk => Kd.fresh' (Kd.R_lt (by (with_reducible repeat (first | apply Kd.R_alloc | apply Kd.R_drewN | apply Kd.R_drew)); exact HO166.out)) k_ hk)); (case aO => exact (by (with_reducible repeat (first | apply Kd.R_alloc | apply Kd.R_drewN | apply Kd.R_drew)); exact Kd.R_mono HO163.out (fun _ hk => hk.2))); (case aS => exact (below_size (by repeat (first | (with_reducible first | exact HB.out | apply below_alloc | apply pw_below_drewN | apply below_drew1 | refine below_set ?_ GE159.out) | exact HB.out)))); (case aL => have := LMc19.out; omega); intro v168 w22 ho hb hg hat; rw [← Ny167.out] at ho; have n0_ := Aside0.mk (blk_grown (g := gb159) (o := .cells #[.int .u8 ((rd_T34 l0 x11_1).f0), .int .i64 ((rd_T34 l0 x11_1).f1), .string ((rd_T34 l0 x11_1).f2)] 34 (0, 0)) (by (with_reducible repeat (first | refine blk_drewN ?_ _ | refine blk_drew ?_ | refine blk_alloc ?_ _)); exact BK159.out) hg (Kd.R_ne HO163.out BK159.out (by decide))); have n1_ := Aside0.mk (Kd.R_after (ok := (fun _ => True)) (by (with_reducible repeat (first | apply Kd.R_alloc | apply Kd.R_drewN | apply Kd.R_drew)); exact HO166.out) hg hat); have n2_ := Aside0.mk (hb); have n3_ := Aside0.mk (ho); clear BK159; clear HO166; clear HB; clear HO163; have BK159 := n0_; have HO166 := n1_; have HB := n2_; have HO169 := n3_; clear n0_ n1_ n2_ n3_; clear ho hb hg hat))
                      go_meet
                      case rel => exact ⟨_, (y167), H', ⟨by have := HK1.out; first | omega | exact Nat.le_refl _⟩, ⟨by (with_reducible repeat (first | apply Kd.R_alloc | apply Kd.R_drewN | apply Kd.R_drew)); exact Kd.R_mono HO169.out (fun _ hk => trivial)⟩, ⟨by (with_reducible repeat (first | refine blk_drewN ?_ _ | refine blk_drew ?_ | refine blk_alloc ?_ _)); exact BK159.out⟩, ⟨by repeat (first | (with_reducible first | exact HB.out | apply below_alloc | apply pw_below_drewN | apply below_drew1 | refine below_set ?_ GE159.out) | exact HB.out)⟩⟩
                    · rw [if_neg c19] at H
                      exact absurd H (by simp)
                  · rw [if_neg c17] at H
                    have c17b0 : (((rd_T34 l0 x11_1).f0) == 1) = false := beq_eq_false_iff_ne.mpr c17
                    have c17b1 : (((rd_T34 l0 x11_1).f0) != 1) = true := bne_iff_ne.mpr c17
                    (first | rw [c17b0] | (simp only [i64_w, i32_w]; rw [c17b0]) | skip)
                    have H' := Aside0.mk H
                    clear H
                    go_wp2
                    go_meet
                    case rel => exact ⟨_, (y161), H', ⟨by have := HK1.out; first | omega | exact Nat.le_refl _⟩, ⟨by (with_reducible repeat (first | apply Kd.R_alloc | apply Kd.R_drewN | apply Kd.R_drew)); exact HO163.out⟩, ⟨by (with_reducible repeat (first | refine blk_drewN ?_ _ | refine blk_drew ?_ | refine blk_alloc ?_ _)); exact BK159.out⟩, ⟨by repeat (first | (with_reducible first | exact HB.out | apply below_alloc | apply pw_below_drewN | apply below_drew1 | refine below_set ?_ GE159.out) | exact HB.out)⟩⟩
                case rest =>
                  clear HC10
                  try clear c1
                  try clear p1
                  try clear q1
                  try clear hx1
                  try clear c2
                  try clear p2
                  try clear c4
                  try clear c4b0
                  try clear c5
                  try clear c5b0
                  try clear c6
                  try clear c6b0
                  try clear c8
                  try clear c9
                  try clear p15
                  try clear q15
                  try clear hx15
                  try clear c17
                  try clear c17b0
                  try clear c17b1
                  try clear c18
                  try clear c19
                  try clear c22
                  try clear hcz12_0
                  try clear hcz12_1
                  try clear hcz12_2
                  try clear hcz14_0
                  try clear hcz14_1
                  try clear hcz14_2
                  try clear hcz16_0
                  try clear hcz16_1
                  try clear hcz16_2
                  try clear hcz20_0
                  try clear hcz20_1
                  try clear hcz20_2
                  try clear hfz12_0
                  try clear hfz12_1
                  try clear hfz12_2
                  try clear hfz14_0
                  try clear hfz14_1
                  try clear hfz14_2
                  try clear hfz16_0
                  try clear hfz16_1
                  try clear hfz16_2
                  try clear hfz20_0
                  try clear hfz20_1
                  try clear hfz20_2
                  try clear hx158_0
                  try clear hx158_1
                  try clear hx158_2
                  try clear p158
                  try clear p2
                  try clear q158
                  obtain ⟨kq, x4_9, HA, HJ9, HO_4, BK159, HB⟩ := hcut
                  cases kq with
                  | zero => exact absurd HA.out (by simp [rowlockref05_Put.j1])
                  | succ kj9 =>
                    have H := HA.out
                    clear HA
                    simp only [rowlockref05_Put.j1] at H
                    have HC24 := Aside0.mk H
                    clear H
                    have hcz25_0 : wc.cell? ⟨gb159, 0, none⟩ = some (.int .u8 ((rd_T34 l0 x11_1).f0)) := (blk_cell BK159.out 0).trans rfl
                    have hcz25_1 : wc.cell? ⟨gb159, 1, none⟩ = some (.int .i64 ((rd_T34 l0 x11_1).f1)) := (blk_cell BK159.out 1).trans rfl
                    have hcz25_2 : wc.cell? ⟨gb159, 2, none⟩ = some (.string ((rd_T34 l0 x11_1).f2)) := (blk_cell BK159.out 2).trans rfl
                    have hfz25_0 := blk_frozen BK159.out 0
                    have hfz25_1 := blk_frozen BK159.out 1
                    have hfz25_2 := blk_frozen BK159.out 2
                    go_upto_if 37 with (fail)
                    go_cut [4] (fun v4 wc => ∃ (kq : Nat) (x4_23 : List Int), Aside0 (rowlockref05_Put.j2 kq l0 x4_23 (l0.length : Int) x11_1 ((rd_T34 l0 x11_1).f0) ((rd_T34 l0 x11_1).f1) ((rd_T34 l0 x11_1).f2) = some (r1, r2)) ∧ Aside0 (kq ≤ kj9) ∧ Aside0 (Kd.R (Kd.int .u8) 5 wc w.heap.size (fun _ => True) v4 x4_23) ∧ Aside0 (wc.heap[gb159]? = some (.cells #[.int .u8 ((rd_T34 l0 x11_1).f0), .int .i64 ((rd_T34 l0 x11_1).f1), .string ((rd_T34 l0 x11_1).f2)] 34 (0, 0))) ∧ Aside0 (Below w.heap.size w wc))
                    case first =>
                      have H := HC24.out
                      clear HC24
                      by_cases c26 : ((rd_T34 l0 x11_1).f0) = 2
                      · rw [if_pos c26] at H
                        have c26b0 : (((rd_T34 l0 x11_1).f0) == 2) = true := beq_iff_eq.mpr c26
                        have c26b1 : (((rd_T34 l0 x11_1).f0) != 2) = false := bne_eq_false_iff_eq.mpr c26
                        clear c26
                        (first | rw [c26b0] | (simp only [i64_w, i32_w]; rw [c26b0]) | skip)
                        by_cases c27 : x4_9.length < 140737488355328
                        · rw [if_pos c27] at H
                          have LMc27 := Aside0.mk c27
                          clear c27
                          obtain ⟨y170, hy170⟩ : ∃ y_ : List Int, y_ = (x4_9 ++ [(((rd_T34 l0 x11_1).f1)) % 256]) := ⟨_, rfl⟩
                          replace H : (rowlockref05_Put.j2 kj9 l0 y170 (l0.length : Int) x11_1 ((rd_T34 l0 x11_1).f0) ((rd_T34 l0 x11_1).f1) ((rd_T34 l0 x11_1).f2)) = some (r1, r2) := by first | (rw [hy170]; with_reducible exact H) | (have H2_ := (Option.bind_some _ _).symm.trans H; rw [hy170]; with_reducible exact H2_) | (have H2_ := (Option.bind_some _ _).symm.trans H; with_reducible exact H2_) | with_reducible exact H | (rw [hy170]; exact H) | exact H
                          have Ny170 := Aside0.mk hy170
                          clear hy170
                          have H' := Aside0.mk H
                          clear H
                          have hcz28_0 : wc.cell? ⟨gb159, 0, none⟩ = some (.int .u8 ((rd_T34 l0 x11_1).f0)) := (blk_cell BK159.out 0).trans rfl
                          have hcz28_1 : wc.cell? ⟨gb159, 1, none⟩ = some (.int .i64 ((rd_T34 l0 x11_1).f1)) := (blk_cell BK159.out 1).trans rfl
                          have hcz28_2 : wc.cell? ⟨gb159, 2, none⟩ = some (.string ((rd_T34 l0 x11_1).f2)) := (blk_cell BK159.out 2).trans rfl
                          have hfz28_0 := blk_frozen BK159.out 0
                          have hfz28_1 := blk_frozen BK159.out 1
                          have hfz28_2 := blk_frozen BK159.out 2
                          go_wp2_with (first | ((with_reducible refine gate_builtin (b := .append) (xs := #[.tmp 38, .tmp 42]) rfl ?_); at_builtin; refine Kd.R_append (Kd.int .u8) (w0 := w) w.heap.size rfl (.tmp 38) (.tmp 42) 31 5 (.int .u8 0) 1 rfl Tryd.underlying31 info5 rfl (by decide) (by omega) u4 x4_9 ((((rd_T34 l0 x11_1).f1)) % 256) [.int .u8 ((((rd_T34 l0 x11_1).f1)) % 256)] (fun _ => True) (fun _ => False) rfl rfl ?aP (fun _ hk => hk.elim) ?aF ?aO ?aB ?aS ?aL ?_; (case aP => exact rfl); (case aB => exact (by repeat (first | (with_reducible first | exact HB.out | apply below_alloc | apply pw_below_drewN | apply below_drew1 | refine below_set ?_ GE159.out) | exact HB.out))); (case aF => exact (fun _ _ => trivial)); (case aO => exact (by (with_reducible repeat (first | apply Kd.R_alloc | apply Kd.R_drewN | apply Kd.R_drew)); exact HO_4.out)); (case aS => exact (below_size (by repeat (first | (with_reducible first | exact HB.out | apply below_alloc | apply pw_below_drewN | apply below_drew1 | refine below_set ?_ GE159.out) | exact HB.out)))); (case aL => have := LMc27.out; omega); intro v171 w29 ho hb hg hat; rw [← Ny170.out] at ho; have n0_ := Aside0.mk (blk_grown (g := gb159) (o := .cells #[.int .u8 ((rd_T34 l0 x11_1).f0), .int .i64 ((rd_T34 l0 x11_1).f1), .string ((rd_T34 l0 x11_1).f2)] 34 (0, 0)) (by (with_reducible repeat (first | refine blk_drewN ?_ _ | refine blk_drew ?_ | refine blk_alloc ?_ _)); exact BK159.out) hg (Kd.R_ne HO_4.out BK159.out (by decide))); have n1_ := Aside0.mk (hb); have n2_ := Aside0.mk (ho); clear BK159; clear HB; clear HO_4; have BK159 := n0_; have HB := n1_; have HO172 := n2_; clear n0_ n1_ n2_; clear ho hb hg hat))
                          go_meet
                          case rel => exact ⟨_, (y170), H', ⟨by have := HK1.out; have := HJ9.out; first | omega | exact Nat.le_refl _⟩, ⟨by (with_reducible repeat (first | apply Kd.R_alloc | apply Kd.R_drewN | apply Kd.R_drew)); exact HO172.out⟩, ⟨by (with_reducible repeat (first | refine blk_drewN ?_ _ | refine blk_drew ?_ | refine blk_alloc ?_ _)); exact BK159.out⟩, ⟨by repeat (first | (with_reducible first | exact HB.out | apply below_alloc | apply pw_below_drewN | apply below_drew1 | refine below_set ?_ GE159.out) | exact HB.out)⟩⟩
                        · rw [if_neg c27] at H
                          exact absurd H (by simp)
                      · rw [if_neg c26] at H
                        have c26b0 : (((rd_T34 l0 x11_1).f0) == 2) = false := beq_eq_false_iff_ne.mpr c26
                        have c26b1 : (((rd_T34 l0 x11_1).f0) != 2) = true := bne_iff_ne.mpr c26
                        (first | rw [c26b0] | (simp only [i64_w, i32_w]; rw [c26b0]) | skip)
                        have H' := Aside0.mk H
                        clear H
                        go_wp2
                        go_meet
                        case rel => exact ⟨_, (x4_9), H', ⟨by have := HK1.out; have := HJ9.out; first | omega | exact Nat.le_refl _⟩, ⟨by (with_reducible repeat (first | apply Kd.R_alloc | apply Kd.R_drewN | apply Kd.R_drew)); exact HO_4.out⟩, ⟨by (with_reducible repeat (first | refine blk_drewN ?_ _ | refine blk_drew ?_ | refine blk_alloc ?_ _)); exact BK159.out⟩, ⟨by repeat (first | (with_reducible first | exact HB.out | apply below_alloc | apply pw_below_drewN | apply below_drew1 | refine below_set ?_ GE159.out) | exact HB.out)⟩⟩
                    case rest =>
                      clear HC24
                      try clear c1
                      try clear p1
                      try clear q1
                      try clear hx1
                      try clear c2
                      try clear p2
                      try clear c4
                      try clear c4b0
                      try clear c5
                      try clear c5b0
                      try clear c6
                      try clear c6b0
                      try clear c8
                      try clear c9
                      try clear p15
                      try clear q15
                      try clear hx15
                      try clear c17
                      try clear c17b0
                      try clear c17b1
                      try clear c18
                      try clear c19
                      try clear c22
                      try clear c26
                      try clear c26b0
                      try clear c26b1
                      try clear c27
                      try clear c28
                      try clear hcz12_0
                      try clear hcz12_1
                      try clear hcz12_2
                      try clear hcz14_0
                      try clear hcz14_1
                      try clear hcz14_2
                      try clear hcz16_0
                      try clear hcz16_1
                      try clear hcz16_2
                      try clear hcz20_0
                      try clear hcz20_1
                      try clear hcz20_2
                      try clear hcz25_0
                      try clear hcz25_1
                      try clear hcz25_2
                      try clear hcz28_0
                      try clear hcz28_1
                      try clear hcz28_2
                      try clear hfz12_0
                      try clear hfz12_1
                      try clear hfz12_2
                      try clear hfz14_0
                      try clear hfz14_1
                      try clear hfz14_2
                      try clear hfz16_0
                      try clear hfz16_1
                      try clear hfz16_2
                      try clear hfz20_0
                      try clear hfz20_1
                      try clear hfz20_2
                      try clear hfz25_0
                      try clear hfz25_1
                      try clear hfz25_2
                      try clear hfz28_0
                      try clear hfz28_1
                      try clear hfz28_2
                      try clear hx158_0
                      try clear hx158_1
                      try clear hx158_2
                      try clear p1
                      try clear p15
                      try clear p158
                      try clear p2
                      try clear q1
                      try clear q15
                      try clear q158
                      obtain ⟨kq, x4_23, HA, HJ23, HO_4, BK159, HB⟩ := hcut
                      cases kq with
                      | zero => exact absurd HA.out (by simp [rowlockref05_Put.j2])
                      | succ kj23 =>
                        have H := HA.out
                        clear HA
                        simp only [rowlockref05_Put.j2] at H
                        by_cases c30 : ((rd_T34 l0 x11_1).f0) = 3
                        · rw [if_pos c30] at H
                          have c30b0 : (((rd_T34 l0 x11_1).f0) == 3) = true := beq_iff_eq.mpr c30
                          have c30b1 : (((rd_T34 l0 x11_1).f0) != 3) = false := bne_eq_false_iff_eq.mpr c30
                          clear c30
                          have H' := Aside0.mk H
                          clear H
                          have hcz31_0 : wc.cell? ⟨gb159, 0, none⟩ = some (.int .u8 ((rd_T34 l0 x11_1).f0)) := (blk_cell BK159.out 0).trans rfl
                          have hcz31_1 : wc.cell? ⟨gb159, 1, none⟩ = some (.int .i64 ((rd_T34 l0 x11_1).f1)) := (blk_cell BK159.out 1).trans rfl
                          have hcz31_2 : wc.cell? ⟨gb159, 2, none⟩ = some (.string ((rd_T34 l0 x11_1).f2)) := (blk_cell BK159.out 2).trans rfl
                          have hfz31_0 := blk_frozen BK159.out 0
                          have hfz31_1 := blk_frozen BK159.out 1
                          have hfz31_2 := blk_frozen BK159.out 2
                          go_wp2
                          go_loopg [4, 7] kj23 (fun kq v4 v7 w' => ∃ (x4_4 : List Int) (x7_4 : Int), v7 = .int .i64 x7_4 ∧ Aside0 (rowlockref05_Put.l1 kq l0 x4_4 x7_4 (l0.length : Int) x11_1 ((rd_T34 l0 x11_1).f0) ((rd_T34 l0 x11_1).f1) ((rd_T34 l0 x11_1).f2) = some (r1, r2)) ∧ Aside0 (kq ≤ kj23) ∧ Aside0 (Kd.R (Kd.int .u8) 5 w' w.heap.size (fun _ => True) v4 x4_4) ∧ Aside0 (w'.heap[gb159]? = some (.cells #[.int .u8 ((rd_T34 l0 x11_1).f0), .int .i64 ((rd_T34 l0 x11_1).f1), .string ((rd_T34 l0 x11_1).f2)] 34 (0, 0))) ∧ Aside0 (Below w.heap.size w w'))
                          case atStart => exact ⟨(x4_23), (0), (by first | rfl | (simp; done) | (simp [*]; done)), H', ⟨Nat.le_refl _⟩, ⟨by (with_reducible repeat (first | apply Kd.R_alloc | apply Kd.R_drewN | apply Kd.R_drew)); exact HO_4.out⟩, ⟨by (with_reducible repeat (first | refine blk_drewN ?_ _ | refine blk_drew ?_ | refine blk_alloc ?_ _)); exact BK159.out⟩, ⟨by repeat (first | (with_reducible first | exact HB.out | apply below_alloc | apply pw_below_drewN | apply below_drew1 | refine below_set ?_ GE159.out) | exact HB.out)⟩⟩
                          case round =>
                            clear H'
                            try clear c1
                            try clear p1
                            try clear q1
                            try clear hx1
                            try clear c2
                            try clear p2
                            try clear c3
                            try clear c4
                            try clear c4b0
                            try clear c5
                            try clear c5b0
                            try clear c6
                            try clear c6b0
                            try clear c8
                            try clear c9
                            try clear p15
                            try clear q15
                            try clear hx15
                            try clear c17
                            try clear c17b0
                            try clear c17b1
                            try clear c18
                            try clear c19
                            try clear c22
                            try clear c26
                            try clear c26b0
                            try clear c26b1
                            try clear c27
                            try clear c28
                            try clear c30
                            try clear c30b0
                            try clear c30b1
                            try clear hcz12_0
                            try clear hcz12_1
                            try clear hcz12_2
                            try clear hcz14_0
                            try clear hcz14_1
                            try clear hcz14_2
                            try clear hcz16_0
                            try clear hcz16_1
                            try clear hcz16_2
                            try clear hcz20_0
                            try clear hcz20_1
                            try clear hcz20_2
                            try clear hcz25_0
                            try clear hcz25_1
                            try clear hcz25_2
                            try clear hcz28_0
                            try clear hcz28_1
                            try clear hcz28_2
                            try clear hcz31_0
                            try clear hcz31_1
                            try clear hcz31_2
                            try clear hfz12_0
                            try clear hfz12_1
                            try clear hfz12_2
                            try clear hfz14_0
                            try clear hfz14_1
                            try clear hfz14_2
                            try clear hfz16_0
                            try clear hfz16_1
                            try clear hfz16_2
                            try clear hfz20_0
                            try clear hfz20_1
                            try clear hfz20_2
                            try clear hfz25_0
                            try clear hfz25_1
                            try clear hfz25_2
                            try clear hfz28_0
                            try clear hfz28_1
                            try clear hfz28_2
                            try clear hfz31_0
                            try clear hfz31_1
                            try clear hfz31_2
                            try clear hx158_0
                            try clear hx158_1
                            try clear hx158_2
                            try clear p1
                            try clear p15
                            try clear p158
                            try clear p2
                            try clear q1
                            try clear q15
                            try clear q158
                            obtain ⟨x4_4, x7_4, rfl, HA, HK4, HO_4, BK159, HB⟩ := hrel
                            cases gk with
                            | zero => exact absurd HA.out (by simp [rowlockref05_Put.l1])
                            | succ k4 =>
                              have H := HA.out
                              clear HA
                              simp only [rowlockref05_Put.l1] at H
                              by_cases c32 : x7_4 < (((rd_T34 l0 x11_1).f2).size : Int)
                              · rw [if_pos c32] at H
                                have c32b0 : decide (x7_4 < (((rd_T34 l0 x11_1).f2).size : Int)) = true := decide_eq_true c32
                                clear c32
                                by_cases c33 : 0 ≤ x7_4
                                · rw [if_pos c33] at H
                                  have c33b0 : decide (0 ≤ x7_4) = true := decide_eq_true c33
                                  clear c33
                                  by_cases c35 : x4_4.length < 140737488355328
                                  · rw [if_pos c35] at H
                                    have LMc35 := Aside0.mk c35
                                    clear c35
                                    obtain ⟨y173, hy173⟩ : ∃ y_ : List Int, y_ = (x4_4 ++ [bt ((rd_T34 l0 x11_1).f2) x7_4]) := ⟨_, rfl⟩
                                    replace H : (if (bt ((rd_T34 l0 x11_1).f2) x7_4) = 0 then (if y173.length < 140737488355328 then (rowlockref05_Put.l1 k4 l0 (y173 ++ [255]) (wrap64 (x7_4 + 1)) (l0.length : Int) x11_1 ((rd_T34 l0 x11_1).f0) ((rd_T34 l0 x11_1).f1) ((rd_T34 l0 x11_1).f2)) else (none)) else (rowlockref05_Put.l1 k4 l0 y173 (wrap64 (x7_4 + 1)) (l0.length : Int) x11_1 ((rd_T34 l0 x11_1).f0) ((rd_T34 l0 x11_1).f1) ((rd_T34 l0 x11_1).f2))) = some (r1, r2) := by first | (rw [hy173]; with_reducible exact H) | (have H2_ := (Option.bind_some _ _).symm.trans H; rw [hy173]; with_reducible exact H2_) | (have H2_ := (Option.bind_some _ _).symm.trans H; with_reducible exact H2_) | with_reducible exact H | (rw [hy173]; exact H) | exact H
                                    have Ny173 := Aside0.mk hy173
                                    clear hy173
                                    by_cases c37 : (bt ((rd_T34 l0 x11_1).f2) x7_4) = 0
                                    · rw [if_pos c37] at H
                                      have c37b0 : ((bt ((rd_T34 l0 x11_1).f2) x7_4) == 0) = true := beq_iff_eq.mpr c37
                                      have c37b1 : ((bt ((rd_T34 l0 x11_1).f2) x7_4) != 0) = false := bne_eq_false_iff_eq.mpr c37
                                      clear c37
                                      by_cases c38 : y173.length < 140737488355328
                                      · rw [if_pos c38] at H
                                        have LMc38 := Aside0.mk c38
                                        clear c38
                                        obtain ⟨y176, hy176⟩ : ∃ y_ : List Int, y_ = (y173 ++ [255]) := ⟨_, rfl⟩
                                        replace H : (rowlockref05_Put.l1 k4 l0 y176 (wrap64 (x7_4 + 1)) (l0.length : Int) x11_1 ((rd_T34 l0 x11_1).f0) ((rd_T34 l0 x11_1).f1) ((rd_T34 l0 x11_1).f2)) = some (r1, r2) := by first | (rw [hy176]; with_reducible exact H) | (have H2_ := (Option.bind_some _ _).symm.trans H; rw [hy176]; with_reducible exact H2_) | (have H2_ := (Option.bind_some _ _).symm.trans H; with_reducible exact H2_) | with_reducible exact H | (rw [hy176]; exact H) | exact H
                                        have Ny176 := Aside0.mk hy176
                                        clear hy176
                                        have H' := Aside0.mk H
                                        clear H
                                        have hcz39_0 : wr.cell? ⟨gb159, 0, none⟩ = some (.int .u8 ((rd_T34 l0 x11_1).f0)) := (blk_cell BK159.out 0).trans rfl
                                        have hcz39_1 : wr.cell? ⟨gb159, 1, none⟩ = some (.int .i64 ((rd_T34 l0 x11_1).f1)) := (blk_cell BK159.out 1).trans rfl
                                        have hcz39_2 : wr.cell? ⟨gb159, 2, none⟩ = some (.string ((rd_T34 l0 x11_1).f2)) := (blk_cell BK159.out 2).trans rfl
                                        have hfz39_0 := blk_frozen BK159.out 0
                                        have hfz39_1 := blk_frozen BK159.out 1
                                        have hfz39_2 := blk_frozen BK159.out 2
                                        have p34 : 0 ≤ (x7_4 : Int) := of_decide_eq_true (by first | (with_reducible assumption) | assumption)
                                        have q34 : x7_4 < (((rd_T34 l0 x11_1).f2).size : Int) := of_decide_eq_true (by first | (with_reducible assumption) | assumption)
                                        have hx34 := bt_at ((rd_T34 l0 x11_1).f2) x7_4
                                        replace p34 := eq_true p34
                                        replace q34 := eq_true q34
                                        go_wp2_with (first | ((with_reducible refine gate_builtin (b := .append) (xs := #[.tmp 54, .tmp 59]) rfl ?_); at_builtin; refine Kd.R_append (Kd.int .u8) (w0 := w) w.heap.size rfl (.tmp 54) (.tmp 59) 31 5 (.int .u8 0) 1 rfl Tryd.underlying31 info5 rfl (by decide) (by omega) u4 x4_4 (bt ((rd_T34 l0 x11_1).f2) x7_4) [.int .u8 (bt ((rd_T34 l0 x11_1).f2) x7_4)] (fun _ => True) (fun _ => False) rfl rfl ?aP (fun _ hk => hk.elim) ?aF ?aO ?aB ?aS ?aL ?_; (case aP => exact rfl); (case aB => exact (by repeat (first | (with_reducible first | exact HB.out | apply below_alloc | apply pw_below_drewN | apply below_drew1 | refine below_set ?_ GE159.out) | exact HB.out))); (case aF => exact (fun _ _ => trivial)); (case aO => exact (by (with_reducible repeat (first | apply Kd.R_alloc | apply Kd.R_drewN | apply Kd.R_drew)); exact HO_4.out)); (case aS => exact (below_size (by repeat (first | (with_reducible first | exact HB.out | apply below_alloc | apply pw_below_drewN | apply below_drew1 | refine below_set ?_ GE159.out) | exact HB.out)))); (case aL => have := LMc35.out; omega); intro v174 w40 ho hb hg hat; rw [← Ny173.out] at ho; have n0_ := Aside0.mk (blk_grown (g := gb159) (o := .cells #[.int .u8 ((rd_T34 l0 x11_1).f0), .int .i64 ((rd_T34 l0 x11_1).f1), .string ((rd_T34 l0 x11_1).f2)] 34 (0, 0)) (by (with_reducible repeat (first | refine blk_drewN ?_ _ | refine blk_drew ?_ | refine blk_alloc ?_ _)); exact BK159.out) hg (Kd.R_ne HO_4.out BK159.out (by decide))); have n1_ := Aside0.mk (hb); have n2_ := Aside0.mk (ho); clear BK159; clear HB; clear HO_4; have BK159 := n0_; have HB := n1_; have HO175 := n2_; clear n0_ n1_ n2_; clear ho hb hg hat; have hcz41_0 : w40.cell? ⟨gb159, 0, none⟩ = some (.int .u8 ((rd_T34 l0 x11_1).f0)) := (blk_cell BK159.out 0).trans rfl; have hcz41_1 : w40.cell? ⟨gb159, 1, none⟩ = some (.int .i64 ((rd_T34 l0 x11_1).f1)) := (blk_cell BK159.out 1).trans rfl; have hcz41_2 : w40.cell? ⟨gb159, 2, none⟩ = some (.string ((rd_T34 l0 x11_1).f2)) := (blk_cell BK159.out 2).trans rfl; have hfz41_0 := blk_frozen BK159.out 0; have hfz41_1 := blk_frozen BK159.out 1; have hfz41_2 := blk_frozen BK159.out 2; have p36 : 0 ≤ (x7_4 : Int) := of_decide_eq_true (by first | (with_reducible assumption) | assumption); have q36 : x7_4 < (((rd_T34 l0 x11_1).f2).size : Int) := of_decide_eq_true (by first | (with_reducible assumption) | assumption); have hx36 := bt_at ((rd_T34 l0 x11_1).f2) x7_4; replace p36 := eq_true p36; replace q36 := eq_true q36) | ((with_reducible refine gate_builtin (b := .append) (xs := #[.tmp 66, .tmp 67]) rfl ?_); at_builtin; refine Kd.R_append (Kd.int .u8) (w0 := w) w.heap.size rfl (.tmp 66) (.tmp 67) 31 5 (.int .u8 0) 1 rfl Tryd.underlying31 info5 rfl (by decide) (by omega) v174 y173 255 [.int .u8 255] (fun _ => True) (fun _ => False) rfl rfl ?aP (fun _ hk => hk.elim) ?aF ?aO ?aB ?aS ?aL ?_; (case aP => exact rfl); (case aB => exact (by repeat (first | (with_reducible first | exact HB.out | apply below_alloc | apply pw_below_drewN | apply below_drew1 | refine below_set ?_ GE159.out) | exact HB.out))); (case aF => exact (fun _ _ => trivial)); (case aO => exact (by (with_reducible repeat (first | apply Kd.R_alloc | apply Kd.R_drewN | apply Kd.R_drew)); exact HO175.out)); (case aS => exact (below_size (by repeat (first | (with_reducible first | exact HB.out | apply below_alloc | apply pw_below_drewN | apply below_drew1 | refine below_set ?_ GE159.out) | exact HB.out)))); (case aL => have := LMc38.out; omega); intro v177 w42 ho hb hg hat; rw [← Ny176.out] at ho; have n0_ := Aside0.mk (blk_grown (g := gb159) (o := .cells #[.int .u8 ((rd_T34 l0 x11_1).f0), .int .i64 ((rd_T34 l0 x11_1).f1), .string ((rd_T34 l0 x11_1).f2)] 34 (0, 0)) (by (with_reducible repeat (first | refine blk_drewN ?_ _ | refine blk_drew ?_ | refine blk_alloc ?_ _)); exact BK159.out) hg (Kd.R_ne HO175.out BK159.out (by decide))); have n1_ := Aside0.mk (hb); have n2_ := Aside0.mk (ho); clear BK159; clear HB; clear HO175; have BK159 := n0_; have HB := n1_; have HO178 := n2_; clear n0_ n1_ n2_; clear ho hb hg hat))
                                        go_roundg k4
                                        case measure => have := HK1.out; have := HJ9.out; have := HJ23.out; have := HK4.out; omega
                                        case rel => exact ⟨(y176), (wrap64 (x7_4 + 1)), (by first | rfl | (simp; done) | (simp [*]; done)), H', ⟨by have := HK1.out; have := HJ9.out; have := HJ23.out; have := HK4.out; omega⟩, ⟨by (with_reducible repeat (first | apply Kd.R_alloc | apply Kd.R_drewN | apply Kd.R_drew)); exact HO178.out⟩, ⟨by (with_reducible repeat (first | refine blk_drewN ?_ _ | refine blk_drew ?_ | refine blk_alloc ?_ _)); exact BK159.out⟩, ⟨by repeat (first | (with_reducible first | exact HB.out | apply below_alloc | apply pw_below_drewN | apply below_drew1 | refine below_set ?_ GE159.out) | exact HB.out)⟩⟩
                                      · rw [if_neg c38] at H
                                        exact absurd H (by simp)
                                    · rw [if_neg c37] at H
                                      have c37b0 : ((bt ((rd_T34 l0 x11_1).f2) x7_4) == 0) = false := beq_eq_false_iff_ne.mpr c37
                                      have c37b1 : ((bt ((rd_T34 l0 x11_1).f2) x7_4) != 0) = true := bne_iff_ne.mpr c37
                                      have H' := Aside0.mk H
                                      clear H
                                      have hcz43_0 : wr.cell? ⟨gb159, 0, none⟩ = some (.int .u8 ((rd_T34 l0 x11_1).f0)) := (blk_cell BK159.out 0).trans rfl
                                      have hcz43_1 : wr.cell? ⟨gb159, 1, none⟩ = some (.int .i64 ((rd_T34 l0 x11_1).f1)) := (blk_cell BK159.out 1).trans rfl
                                      have hcz43_2 : wr.cell? ⟨gb159, 2, none⟩ = some (.string ((rd_T34 l0 x11_1).f2)) := (blk_cell BK159.out 2).trans rfl
                                      have hfz43_0 := blk_frozen BK159.out 0
                                      have hfz43_1 := blk_frozen BK159.out 1
                                      have hfz43_2 := blk_frozen BK159.out 2
                                      have p34 : 0 ≤ (x7_4 : Int) := of_decide_eq_true (by first | (with_reducible assumption) | assumption)
                                      have q34 : x7_4 < (((rd_T34 l0 x11_1).f2).size : Int) := of_decide_eq_true (by first | (with_reducible assumption) | assumption)
                                      have hx34 := bt_at ((rd_T34 l0 x11_1).f2) x7_4
                                      replace p34 := eq_true p34
                                      replace q34 := eq_true q34
                                      go_wp2_with (first | ((with_reducible refine gate_builtin (b := .append) (xs := #[.tmp 54, .tmp 59]) rfl ?_); at_builtin; refine Kd.R_append (Kd.int .u8) (w0 := w) w.heap.size rfl (.tmp 54) (.tmp 59) 31 5 (.int .u8 0) 1 rfl Tryd.underlying31 info5 rfl (by decide) (by omega) u4 x4_4 (bt ((rd_T34 l0 x11_1).f2) x7_4) [.int .u8 (bt ((rd_T34 l0 x11_1).f2) x7_4)] (fun _ => True) (fun _ => False) rfl rfl ?aP (fun _ hk => hk.elim) ?aF ?aO ?aB ?aS ?aL ?_; (case aP => exact rfl); (case aB => exact (by repeat (first | (with_reducible first | exact HB.out | apply below_alloc | apply pw_below_drewN | apply below_drew1 | refine below_set ?_ GE159.out) | exact HB.out))); (case aF => exact (fun _ _ => trivial)); (case aO => exact (by (with_reducible repeat (first | apply Kd.R_alloc | apply Kd.R_drewN | apply Kd.R_drew)); exact HO_4.out)); (case aS => exact (below_size (by repeat (first | (with_reducible first | exact HB.out | apply below_alloc | apply pw_below_drewN | apply below_drew1 | refine below_set ?_ GE159.out) | exact HB.out)))); (case aL => have := LMc35.out; omega); intro v174 w44 ho hb hg hat; rw [← Ny173.out] at ho; have n0_ := Aside0.mk (blk_grown (g := gb159) (o := .cells #[.int .u8 ((rd_T34 l0 x11_1).f0), .int .i64 ((rd_T34 l0 x11_1).f1), .string ((rd_T34 l0 x11_1).f2)] 34 (0, 0)) (by (with_reducible repeat (first | refine blk_drewN ?_ _ | refine blk_drew ?_ | refine blk_alloc ?_ _)); exact BK159.out) hg (Kd.R_ne HO_4.out BK159.out (by decide))); have n1_ := Aside0.mk (hb); have n2_ := Aside0.mk (ho); clear BK159; clear HB; clear HO_4; have BK159 := n0_; have HB := n1_; have HO175 := n2_; clear n0_ n1_ n2_; clear ho hb hg hat; have hcz45_0 : w44.cell? ⟨gb159, 0, none⟩ = some (.int .u8 ((rd_T34 l0 x11_1).f0)) := (blk_cell BK159.out 0).trans rfl; have hcz45_1 : w44.cell? ⟨gb159, 1, none⟩ = some (.int .i64 ((rd_T34 l0 x11_1).f1)) := (blk_cell BK159.out 1).trans rfl; have hcz45_2 : w44.cell? ⟨gb159, 2, none⟩ = some (.string ((rd_T34 l0 x11_1).f2)) := (blk_cell BK159.out 2).trans rfl; have hfz45_0 := blk_frozen BK159.out 0; have hfz45_1 := blk_frozen BK159.out 1; have hfz45_2 := blk_frozen BK159.out 2; have p36 : 0 ≤ (x7_4 : Int) := of_decide_eq_true (by first | (with_reducible assumption) | assumption); have q36 : x7_4 < (((rd_T34 l0 x11_1).f2).size : Int) := of_decide_eq_true (by first | (with_reducible assumption) | assumption); have hx36 := bt_at ((rd_T34 l0 x11_1).f2) x7_4; replace p36 := eq_true p36; replace q36 := eq_true q36))
                                      go_roundg k4
                                      case measure => have := HK1.out; have := HJ9.out; have := HJ23.out; have := HK4.out; omega
                                      case rel => exact ⟨(y173), (wrap64 (x7_4 + 1)), (by first | rfl | (simp; done) | (simp [*]; done)), H', ⟨by have := HK1.out; have := HJ9.out; have := HJ23.out; have := HK4.out; omega⟩, ⟨by (with_reducible repeat (first | apply Kd.R_alloc | apply Kd.R_drewN | apply Kd.R_drew)); exact HO175.out⟩, ⟨by (with_reducible repeat (first | refine blk_drewN ?_ _ | refine blk_drew ?_ | refine blk_alloc ?_ _)); exact BK159.out⟩, ⟨by repeat (first | (with_reducible first | exact HB.out | apply below_alloc | apply pw_below_drewN | apply below_drew1 | refine below_set ?_ GE159.out) | exact HB.out)⟩⟩
                                  · rw [if_neg c35] at H
                                    exact absurd H (by simp)
                                · rw [if_neg c33] at H
                                  exact absurd H (by simp)
                              · rw [if_neg c32] at H
                                have c32b0 : decide (x7_4 < (((rd_T34 l0 x11_1).f2).size : Int)) = false := decide_eq_false c32
                                clear c32
                                obtain ⟨y179, hy179⟩ : ∃ y_ : List Int, y_ = (([0, 1] : List Int)) := ⟨_, rfl⟩
                                replace H : (if x4_4.length + y179.length < 140737488355328 then (rowlockref05_Put.l0 k4 l0 (x4_4 ++ y179) (l0.length : Int) (wrap64 (x11_1 + 1))) else (none)) = some (r1, r2) := by first | (rw [hy179]; with_reducible exact H) | (have H2_ := (Option.bind_some _ _).symm.trans H; rw [hy179]; with_reducible exact H2_) | (have H2_ := (Option.bind_some _ _).symm.trans H; with_reducible exact H2_) | with_reducible exact H | (rw [hy179]; exact H) | exact H
                                have Ny179 := Aside0.mk hy179
                                clear hy179
                                by_cases c46 : x4_4.length + y179.length < 140737488355328
                                · rw [if_pos c46] at H
                                  have LMc46 := Aside0.mk c46
                                  clear c46
                                  obtain ⟨y182, hy182⟩ : ∃ y_ : List Int, y_ = (x4_4 ++ y179) := ⟨_, rfl⟩
                                  replace H : (rowlockref05_Put.l0 k4 l0 y182 (l0.length : Int) (wrap64 (x11_1 + 1))) = some (r1, r2) := by first | (rw [hy182]; with_reducible exact H) | (have H2_ := (Option.bind_some _ _).symm.trans H; rw [hy182]; with_reducible exact H2_) | (have H2_ := (Option.bind_some _ _).symm.trans H; with_reducible exact H2_) | with_reducible exact H | (rw [hy182]; exact H) | exact H
                                  have Ny182 := Aside0.mk hy182
                                  clear hy182
                                  have H' := Aside0.mk H
                                  clear H
                                  have hcz47_0 : wr.cell? ⟨gb159, 0, none⟩ = some (.int .u8 ((rd_T34 l0 x11_1).f0)) := (blk_cell BK159.out 0).trans rfl
                                  have hcz47_1 : wr.cell? ⟨gb159, 1, none⟩ = some (.int .i64 ((rd_T34 l0 x11_1).f1)) := (blk_cell BK159.out 1).trans rfl
                                  have hcz47_2 : wr.cell? ⟨gb159, 2, none⟩ = some (.string ((rd_T34 l0 x11_1).f2)) := (blk_cell BK159.out 2).trans rfl
                                  have hfz47_0 := blk_frozen BK159.out 0
                                  have hfz47_1 := blk_frozen BK159.out 1
                                  have hfz47_2 := blk_frozen BK159.out 2
                                  go_wp2_with (first | ((with_reducible refine gate_dst (N := 70) rfl ?_); refine Kd.R_lit (Kd.int .u8) _ 5 ?hg (N := 70) ?hd (xs := ([0, 1] : List Int)) (inner := [.int .u8 0, .int .u8 1]) (ok := fun _ => True) (okp := fun _ => True) ?hr ?hp (fun _ hk => hk) trivial (Below.refl _ _) (Nat.le_refl _) (by simp) ?_; (case hd => rfl); (case hg => rfl); (case hr => first | (go_simp; done) | (go_simp; rfl)); (case hp => exact (Reps.one (show Kd.M (Kd.int .u8) _ _ _ 0 [.int .u8 0] from rfl) (Reps.one (show Kd.M (Kd.int .u8) _ _ _ 1 [.int .u8 1] from rfl) (Reps.none _ _)))); intro v180 w48 ho49 hb hg_ hnew_; clear hg_ hnew_; (first | rw [← Ny179.out] at ho49 | (simp only [Int.reduceToNat] at ho49; rw [← Ny179.out] at ho49)); have n0_ := Aside0.mk (Kd.R_elder' (by (with_reducible repeat (first | apply Kd.R_alloc | apply Kd.R_drewN | apply Kd.R_drew)); exact HO_4.out) (Kd.R_base ho49) hb); have n1_ := Aside0.mk (Kd.R_lower (Kd.R_new' ho49 (Kd.R_lt (by (with_reducible repeat (first | apply Kd.R_alloc | apply Kd.R_drewN | apply Kd.R_drew)); exact HO_4.out))) (below_size (by repeat (first | (with_reducible first | exact HB.out | apply below_alloc | apply pw_below_drewN | apply below_drew1 | refine below_set ?_ GE159.out) | exact HB.out)))); have n2_ := Aside0.mk (blk_below (g := gb159) (o := .cells #[.int .u8 ((rd_T34 l0 x11_1).f0), .int .i64 ((rd_T34 l0 x11_1).f1), .string ((rd_T34 l0 x11_1).f2)] 34 (0, 0)) (by (with_reducible repeat (first | refine blk_drewN ?_ _ | refine blk_drew ?_ | refine blk_alloc ?_ _)); exact BK159.out) hb); have n3_ := Aside0.mk (below_step (by repeat (first | (with_reducible first | exact HB.out | apply below_alloc | apply pw_below_drewN | apply below_drew1 | refine below_set ?_ GE159.out) | exact HB.out)) hb); clear HO_4; clear BK159; clear HB; have HO_4 := n0_; have HO181 := n1_; have BK159 := n2_; have HB := n3_; clear n0_ n1_ n2_ n3_; clear hb ho49; obtain ⟨Ao51, co51, eo51⟩ := Kd.R_slice HO181.out; subst eo51) | ((with_reducible refine gate_builtin (b := .append) (xs := #[.tmp 69, .tmp 70]) rfl ?_); at_builtin; refine Kd.R_append_rows (Kd.int .u8) (w0 := w) w.heap.size rfl (.tmp 69) (.tmp 70) 31 5 (.int .u8 0) 1 rfl Tryd.underlying31 info5 rfl (by decide) (by omega) u4 x4_4 y179 _ _ _ (fun k_ => some k_ ≠ (.slice Ao51 y179.length co51 : Value).ownBlock) (fun _ => False) rfl rfl ?aO ?aR (fun _ _ h => h) (fun _ h => h.elim) ?aF ?aB ?aS ?aL ?_; (case aR => repeat (first | exact (Kd.R_reads' HO181.out).2.2 | (with_reducible refine Kd.C_alloc ?_ _) | (with_reducible refine Kd.C_drewN ?_ _) | (with_reducible refine Kd.C_drew ?_))); (case aB => exact (by repeat (first | (with_reducible first | exact HB.out | apply below_alloc | apply pw_below_drewN | apply below_drew1 | refine below_set ?_ GE159.out) | exact HB.out))); (case aF => exact (fun k_ hk => Kd.fresh' (Kd.R_lt (by (with_reducible repeat (first | apply Kd.R_alloc | apply Kd.R_drewN | apply Kd.R_drew)); exact HO181.out)) k_ hk)); (case aO => exact (by (with_reducible repeat (first | apply Kd.R_alloc | apply Kd.R_drewN | apply Kd.R_drew)); exact Kd.R_mono HO_4.out (fun _ hk => hk.2))); (case aS => exact (below_size (by repeat (first | (with_reducible first | exact HB.out | apply below_alloc | apply pw_below_drewN | apply below_drew1 | refine below_set ?_ GE159.out) | exact HB.out)))); (case aL => have := LMc46.out; omega); intro v183 w50 ho hb hg hat; rw [← Ny182.out] at ho; have n0_ := Aside0.mk (blk_grown (g := gb159) (o := .cells #[.int .u8 ((rd_T34 l0 x11_1).f0), .int .i64 ((rd_T34 l0 x11_1).f1), .string ((rd_T34 l0 x11_1).f2)] 34 (0, 0)) (by (with_reducible repeat (first | refine blk_drewN ?_ _ | refine blk_drew ?_ | refine blk_alloc ?_ _)); exact BK159.out) hg (Kd.R_ne HO_4.out BK159.out (by decide))); have n1_ := Aside0.mk (Kd.R_after (ok := (fun _ => True)) (by (with_reducible repeat (first | apply Kd.R_alloc | apply Kd.R_drewN | apply Kd.R_drew)); exact HO181.out) hg hat); have n2_ := Aside0.mk (hb); have n3_ := Aside0.mk (ho); clear BK159; clear HO181; clear HB; clear HO_4; have BK159 := n0_; have HO181 := n1_; have HB := n2_; have HO184 := n3_; clear n0_ n1_ n2_ n3_; clear ho hb hg hat))
                                  go_roundg k4
                                  case measure => have := HK1.out; have := HJ9.out; have := HJ23.out; have := HK4.out; omega
                                  case rel => exact ⟨(y182), (wrap64 (x11_1 + 1)), (by first | rfl | (simp; done) | (simp [*]; done)), H', ⟨by have := HK1.out; have := HJ9.out; have := HJ23.out; have := HK4.out; omega⟩, ⟨by (with_reducible repeat (first | apply Kd.R_alloc | apply Kd.R_drewN | apply Kd.R_drew)); exact Kd.R_mono HO184.out (fun _ hk => trivial)⟩, ⟨by repeat (first | (with_reducible first | exact HB.out | apply below_alloc | apply pw_below_drewN | apply below_drew1 | refine below_set ?_ GE159.out) | exact HB.out)⟩⟩
                                · rw [if_neg c46] at H
                                  exact absurd H (by simp)
                        · rw [if_neg c30] at H
                          have c30b0 : (((rd_T34 l0 x11_1).f0) == 3) = false := beq_eq_false_iff_ne.mpr c30
                          have c30b1 : (((rd_T34 l0 x11_1).f0) != 3) = true := bne_iff_ne.mpr c30
                          have H' := Aside0.mk H
                          clear H
                          have hcz52_0 : wc.cell? ⟨gb159, 0, none⟩ = some (.int .u8 ((rd_T34 l0 x11_1).f0)) := (blk_cell BK159.out 0).trans rfl
                          have hcz52_1 : wc.cell? ⟨gb159, 1, none⟩ = some (.int .i64 ((rd_T34 l0 x11_1).f1)) := (blk_cell BK159.out 1).trans rfl
                          have hcz52_2 : wc.cell? ⟨gb159, 2, none⟩ = some (.string ((rd_T34 l0 x11_1).f2)) := (blk_cell BK159.out 2).trans rfl
                          have hfz52_0 := blk_frozen BK159.out 0
                          have hfz52_1 := blk_frozen BK159.out 1
                          have hfz52_2 := blk_frozen BK159.out 2
                          go_wp2
                          go_roundg kj23
                          case measure => have := HK1.out; have := HJ9.out; have := HJ23.out; omega
                          case rel => exact ⟨(x4_23), (wrap64 (x11_1 + 1)), (by first | rfl | (simp; done) | (simp [*]; done)), H', ⟨by have := HK1.out; have := HJ9.out; have := HJ23.out; omega⟩, ⟨by (with_reducible repeat (first | apply Kd.R_alloc | apply Kd.R_drewN | apply Kd.R_drew)); exact HO_4.out⟩, ⟨by repeat (first | (with_reducible first | exact HB.out | apply below_alloc | apply pw_below_drewN | apply below_drew1 | refine below_set ?_ GE159.out) | exact HB.out)⟩⟩
              · rw [if_neg c9] at H
                exact absurd H (by simp)
            · replace c8 := Bool.eq_false_iff.mpr c8
              subst c8
              have H1 : (some ((⟨#[]⟩ : ByteArray), 1)) = some (r1, r2) := by rw [if_neg (show ¬ (false = true) by decide)] at H; exact H
              clear H
              have H := H1
              clear H1
              simp only [Option.some.injEq, Prod.mk.injEq] at H
              obtain ⟨rfl, rfl⟩ := H
              have p158 : 0 ≤ (x11_1 : Int) := of_decide_eq_true (by first | (with_reducible assumption) | assumption)
              have q158 : x11_1 < (l0.length : Int) := of_decide_eq_true (by first | (with_reducible assumption) | assumption)
              obtain ⟨ad158, e158, hx158_0, hx158_1, hx158_2⟩ := at_T34 HR0.out x11_1 p158 q158
              cases e158
              replace hx158_0 := (HB.out.cell (World.block_lt_of_cell? w _ hx158_0)).trans hx158_0
              replace hx158_1 := (HB.out.cell (World.block_lt_of_cell? w _ hx158_1)).trans hx158_1
              replace hx158_2 := (HB.out.cell (World.block_lt_of_cell? w _ hx158_2)).trans hx158_2
              replace p158 := eq_true p158
              replace q158 := eq_true q158
              go_wp2_with (first | ((with_reducible refine gate_dst (N := 6) rfl ?_); refine box_event ?hg (N := 6) ?hd (cs := #[.int .u8 0, .int .i64 0, .string (⟨#[]⟩ : ByteArray)]) (t := 34) ?hr ?_; (case hd => rfl); (case hg => rfl); (case hr => first | (go_simp; done) | (go_simp; rfl)); intro gb159 hg w53 hbox hb; have n0_ := Aside0.mk (Kd.R_below (by (with_reducible repeat (first | apply Kd.R_alloc | apply Kd.R_drewN | apply Kd.R_drew)); exact HO_4.out) hb); have n1_ := Aside0.mk (below_step (by repeat (first | (with_reducible first | exact HB.out | apply below_alloc | apply pw_below_drewN | apply below_drew1) | exact HB.out)) hb); have n2_ := Aside0.mk (hbox); have n3_ := Aside0.mk ((by rw [hg]; exact (below_size (by repeat (first | (with_reducible first | exact HB.out | apply below_alloc | apply pw_below_drewN | apply below_drew1) | exact HB.out))) : w.heap.size ≤ gb159)); have n4_ := Aside0.mk ((by rw [hg]; exact (below_size (by repeat (first | (with_reducible first | exact HB.out | apply below_alloc | apply pw_below_drewN | apply below_drew1) | exact HB.out))) : w.heap.size ≤ gb159)); clear HO_4; clear HB; have HO_4 := n0_; have HB := n1_; have BK159 := n2_; have GW159 := n3_; have GE159 := n4_; clear n0_ n1_ n2_ n3_ n4_; clear hb hbox hg; have hcz54_0 : w53.cell? ⟨gb159, 0, none⟩ = some (.int .u8 0) := (blk_cell BK159.out 0).trans rfl; have hcz54_1 : w53.cell? ⟨gb159, 1, none⟩ = some (.int .i64 0) := (blk_cell BK159.out 1).trans rfl; have hcz54_2 : w53.cell? ⟨gb159, 2, none⟩ = some (.string (⟨#[]⟩ : ByteArray)) := (blk_cell BK159.out 2).trans rfl; have hfz54_0 := blk_frozen BK159.out 0; have hfz54_1 := blk_frozen BK159.out 1; have hfz54_2 := blk_frozen BK159.out 2) | ((with_reducible refine gate_callee (f := 22) rfl ?_); refine goesL_ (some 19) rfl rfl Tryd.func22 (by kernel_rfl) rfl #[.agg #[.int .u8 ((rd_T34 l0 x11_1).f0), .int .i64 ((rd_T34 l0 x11_1).f1), .string ((rd_T34 l0 x11_1).f2)]] rfl (by (try simp only [List.map_toArray, List.map_cons, List.map_nil]); first | done | rfl | (simp only [List.length_drop, List.length_take]; rfl)) ?_; (with_reducible refine (rowlockref01_May.calls ((rd_T34 l0 x11_1).f0) ((rd_T34 l0 x11_1).f1) ((rd_T34 l0 x11_1).f2) false _ A7.out).mono ?_); rintro e w55 ⟨rfl, hb⟩; refine ⟨_, rfl, ?_⟩; have n0_ := Aside0.mk (Kd.R_below (by (with_reducible repeat (first | apply Kd.R_alloc | apply Kd.R_drewN | apply Kd.R_drew)); exact (Kd.R_mono (Kd.R_far (p := ⟨gb159, 2, none⟩) (Kd.R_far (p := ⟨gb159, 1, none⟩) (Kd.R_far (p := ⟨gb159, 0, none⟩) (Kd.R_types HO_4.out BK159.out (by decide)) (fun _ hk => hk.2) (.int .u8 ((rd_T34 l0 x11_1).f0))) (fun _ hk => hk.2) (.int .i64 ((rd_T34 l0 x11_1).f1))) (fun _ hk => hk.2) (.string ((rd_T34 l0 x11_1).f2))) (fun _ h_ => h_.1))) hb); have n1_ := Aside0.mk (blk_below (g := gb159) (o := .cells #[.int .u8 ((rd_T34 l0 x11_1).f0), .int .i64 ((rd_T34 l0 x11_1).f1), .string ((rd_T34 l0 x11_1).f2)] 34 (0, 0)) (by (with_reducible repeat (first | refine blk_drewN ?_ _ | refine blk_drew ?_ | refine blk_alloc ?_ _)); refine blk_put (cs := #[.int .u8 ((rd_T34 l0 x11_1).f0), .int .i64 ((rd_T34 l0 x11_1).f1), .string (⟨#[]⟩ : ByteArray)]) ?_ 2 _ rfl; (with_reducible repeat (first | refine blk_drewN ?_ _ | refine blk_drew ?_ | refine blk_alloc ?_ _)); refine blk_put (cs := #[.int .u8 ((rd_T34 l0 x11_1).f0), .int .i64 0, .string (⟨#[]⟩ : ByteArray)]) ?_ 1 _ rfl; (with_reducible repeat (first | refine blk_drewN ?_ _ | refine blk_drew ?_ | refine blk_alloc ?_ _)); refine blk_put (cs := #[.int .u8 0, .int .i64 0, .string (⟨#[]⟩ : ByteArray)]) ?_ 0 _ rfl; (with_reducible repeat (first | refine blk_drewN ?_ _ | refine blk_drew ?_ | refine blk_alloc ?_ _)); exact BK159.out) hb); have n2_ := Aside0.mk (below_step (by repeat (first | (with_reducible first | exact HB.out | apply below_alloc | apply pw_below_drewN | apply below_drew1 | refine below_set ?_ GE159.out) | exact HB.out)) hb); clear HO_4; clear BK159; clear HB; have HO_4 := n0_; have BK159 := n1_; have HB := n2_; clear n0_ n1_ n2_; (try clear hb); (try clear hb2); (try clear hk); (try clear hi)))
              go_ret2
              exact ⟨by first | rfl | (simp [errW_none, errW_some] <;> rfl) | (simp [*, errW_none, errW_some] <;> rfl), by repeat (first | (with_reducible first | exact HB.out | apply below_alloc | apply pw_below_drewN | apply below_drew1 | refine below_set ?_ GE159.out) | exact HB.out)⟩
          · rw [if_neg c6] at H
            exact absurd H (by simp)
        · rw [if_neg c5] at H
          exact absurd H (by simp)
      · rw [if_neg c4] at H
        have c4b0 : decide (x11_1 < (l0.length : Int)) = false := decide_eq_false c4
        clear c4
        simp only [Option.some.injEq, Prod.mk.injEq] at H
        obtain ⟨rfl, rfl⟩ := H
        have hcv56 := own_string (P := Tryd.prog) Tryd.underlying31 Tryd.underlying5 Tryd.underlying9 (Kd.own_of_R HO_4.out)
        go_wp2
        go_ret2
        exact ⟨by first | rfl | (simp [errW_none, errW_some] <;> rfl) | (simp [*, errW_none, errW_some] <;> rfl), by repeat (first | (with_reducible first | exact HB.out | apply below_alloc | apply pw_below_drewN | apply below_drew1) | exact HB.out)⟩

-- NOT PRINTED: function 38 (strings_IndexByte)

-- NOT PRINTED: function 39 (strings_Builder_Len)

-- NOT PRINTED: function 40 (strings_Builder_WriteByte)

-- NOT PRINTED: function 34 (keycode_text)

-- NOT PRINTED: function 29 (keycode_value)

-- NOT PRINTED: function 19 (keycode_Get)

/-! ### rowlockref04_Same: function 20 -/
def rowlockref04_Same.l0 : Nat → List (S34) → List (S34) → Int → Int → Option (Bool)
  | 0, _, _, _, _ => none
  | k + 1, x0, x1, x12, x13 => if x13 < x12 then (if 0 ≤ x13 then (if x13 < (x0.length : Int) then (if x13 < (x1.length : Int) then (if (!(((rd_T34 x0 x13).f0) == ((rd_T34 x1 x13).f0)) || (!(((rd_T34 x0 x13).f1) == ((rd_T34 x1 x13).f1)) || (!((((rd_T34 x0 x13).f2).toList) == (((rd_T34 x1 x13).f2).toList))))) = true then (some false) else (rowlockref04_Same.l0 k x0 x1 x12 (wrap64 (x13 + 1)))) else (none)) else (none)) else (none)) else (some true)
def rowlockref04_Same.f (k : Nat) (l0 : List (S34)) (l1 : List (S34)) : Option (Bool) := if (l0.length : Int) = (l1.length : Int) then (rowlockref04_Same.l0 k l0 l1 (l0.length : Int) 0) else (some false)
theorem rowlockref04_Same.mono_l : ∀ k, (∀ y0 y1 y2 y3, LeO (rowlockref04_Same.l0 k y0 y1 y2 y3) (rowlockref04_Same.l0 (k + 1) y0 y1 y2 y3))
  | 0 => fun _ _ _ _ r h => by simp [rowlockref04_Same.l0] at h
  | k + 1 => by
    have ih0 := rowlockref04_Same.mono_l k
    · intro y0 y1 y2 y3
      unfold rowlockref04_Same.l0
      repeat' first
      | (with_reducible exact ih0 _ _ _ _)
      | (with_reducible exact LeO.refl _)
      | (with_reducible exact LeO.none _)
      | (with_reducible refine LeO.ite ?_ ?_)
      | (with_reducible refine LeO.bind ?_ (fun _ => ?_))
      | exact ih0 _ _ _ _
      | exact LeO.none _
      | refine LeO.ite ?_ ?_
      | refine LeO.bind ?_ (fun _ => ?_)
theorem rowlockref04_Same.mono : ∀ a0 a1 k, LeO (rowlockref04_Same.f k a0 a1) (rowlockref04_Same.f (k + 1) a0 a1) := by
  intro a0 a1 k
  have ih0 := rowlockref04_Same.mono_l k
  unfold rowlockref04_Same.f
  repeat' first
      | (with_reducible exact ih0 _ _ _ _)
      | (with_reducible exact LeO.refl _)
      | (with_reducible exact LeO.none _)
      | (with_reducible refine LeO.ite ?_ ?_)
      | (with_reducible refine LeO.bind ?_ (fun _ => ?_))
      | exact ih0 _ _ _ _
      | exact LeO.none _
      | refine LeO.ite ?_ ?_
      | refine LeO.bind ?_ (fun _ => ?_)
set_option maxHeartbeats 8000000 in
set_option maxRecDepth 100000 in
theorem rowlockref04_Same.calls (k : Nat) (A0 : Option Addr) (c0 : Nat) (l0 : List (S34)) (A1 : Option Addr) (c1 : Nat) (l1 : List (S34)) (r : Bool) (w : World) (hr0 : Kd.C k34 w A0 l0.length l0) (hc0 : l0.length ≤ c0) (hr1 : Kd.C k34 w A1 l1.length l1) (hc1 : l1.length ≤ c1) (h : rowlockref04_Same.f k l0 l1 = some r) :
    Calls Tryd.prog 20 #[.slice A0 l0.length c0, .slice A1 l1.length c1] w fun e w' => e = .returned (.bool r) ∧ Drawn0 w w' := by
  have hu34 := Tryd.underlying34
  have HR0 := Aside0.mk hr0
  have HC0 := Aside0.mk hc0
  clear hr0 hc0
  have HR1 := Aside0.mk hr1
  have HC1 := Aside0.mk hc1
  clear hr1 hc1
  have H : (if (l0.length : Int) = (l1.length : Int) then (rowlockref04_Same.l0 k l0 l1 (l0.length : Int) 0) else (some false)) = some r := h
  clear h
  by_cases c3 : (l0.length : Int) = (l1.length : Int)
  · rw [if_pos c3] at H
    have c3b0 : ((l0.length : Int) == (l1.length : Int)) = true := beq_iff_eq.mpr c3
    have c3b1 : ((l0.length : Int) != (l1.length : Int)) = false := bne_eq_false_iff_eq.mpr c3
    have c3b2 : (l0.length == l1.length) = true := by first | simpa using c3 | (simp at c3 ⊢; omega)
    clear c3
    have H' := Aside0.mk H
    clear H
    go_enter Tryd.func20, Tryd.ntmps20
    go_wp2
    repeat (go_quiet (fail); try go_wp2)
    go_loopg [13] k (fun kq v13 w' => ∃ (x13_1 : Int), v13 = .int .i64 x13_1 ∧ Aside0 (rowlockref04_Same.l0 kq l0 l1 (l0.length : Int) x13_1 = some r) ∧ Aside0 (kq ≤ k) ∧ Drawn0 w w')
    case atStart => exact ⟨(0), (by first | rfl | (simp; done) | (simp [*]; done)), H', ⟨Nat.le_refl _⟩, by repeat (first | exact Drawn0.refl _ | apply Drawn0.step)⟩
    case round =>
      clear H'
      try clear c1
      try clear c2
      try clear p2
      try clear c3
      try clear c3b0
      try clear c3b1
      try clear c3b2
      obtain ⟨x13_1, rfl, HA, HK1, ⟨m1, rfl⟩⟩ := hrel
      cases gk with
      | zero => exact absurd HA.out (by simp [rowlockref04_Same.l0])
      | succ k1 =>
        have H := HA.out
        clear HA
        simp only [rowlockref04_Same.l0] at H
        by_cases c4 : x13_1 < (l0.length : Int)
        · rw [if_pos c4] at H
          have c4b0 : decide (x13_1 < (l0.length : Int)) = true := decide_eq_true c4
          clear c4
          by_cases c5 : 0 ≤ x13_1
          · rw [if_pos c5] at H
            have c5b0 : decide (0 ≤ x13_1) = true := decide_eq_true c5
            clear c5
            by_cases c6 : x13_1 < (l0.length : Int)
            · rw [if_pos c6] at H
              have c6b0 : decide (x13_1 < (l0.length : Int)) = true := decide_eq_true c6
              clear c6
              by_cases c7 : x13_1 < (l1.length : Int)
              · rw [if_pos c7] at H
                have c7b0 : decide (x13_1 < (l1.length : Int)) = true := decide_eq_true c7
                clear c7
                by_cases c8 : (!(((rd_T34 l0 x13_1).f0) == ((rd_T34 l1 x13_1).f0)) || (!(((rd_T34 l0 x13_1).f1) == ((rd_T34 l1 x13_1).f1)) || (!((((rd_T34 l0 x13_1).f2).toList) == (((rd_T34 l1 x13_1).f2).toList))))) = true
                · rw [if_pos c8] at H
                  have c8b0 : (!(((rd_T34 l0 x13_1).f0) == ((rd_T34 l1 x13_1).f0)) || (!(((rd_T34 l0 x13_1).f1) == ((rd_T34 l1 x13_1).f1)) || (!((((rd_T34 l0 x13_1).f2).toList) == (((rd_T34 l1 x13_1).f2).toList))))) = true := c8
                  clear c8
                  obtain rfl := Option.some.inj H
                  have p187 : 0 ≤ (x13_1 : Int) := of_decide_eq_true (by first | (with_reducible assumption) | assumption)
                  have q187 : x13_1 < (l0.length : Int) := of_decide_eq_true (by first | (with_reducible assumption) | assumption)
                  obtain ⟨ad187, e187, hx187_0, hx187_1, hx187_2⟩ := at_T34 HR0.out x13_1 p187 q187
                  cases e187
                  replace p187 := eq_true p187
                  replace q187 := eq_true q187
                  have p188 : 0 ≤ (x13_1 : Int) := of_decide_eq_true (by first | (with_reducible assumption) | assumption)
                  have q188 : x13_1 < (l1.length : Int) := of_decide_eq_true (by first | (with_reducible assumption) | assumption)
                  obtain ⟨ad188, e188, hx188_0, hx188_1, hx188_2⟩ := at_T34 HR1.out x13_1 p188 q188
                  cases e188
                  replace p188 := eq_true p188
                  replace q188 := eq_true q188
                  go_wp2
                  repeat (go_quiet (fail); try go_wp2)
                  go_ret
                  exact ⟨by first | rfl | (simp; done) | (simp [*]; done), by repeat (first | exact Drawn0.refl _ | apply Drawn0.step)⟩
                · rw [if_neg c8] at H
                  have c8b0 : (!(((rd_T34 l0 x13_1).f0) == ((rd_T34 l1 x13_1).f0)) || (!(((rd_T34 l0 x13_1).f1) == ((rd_T34 l1 x13_1).f1)) || (!((((rd_T34 l0 x13_1).f2).toList) == (((rd_T34 l1 x13_1).f2).toList))))) = false := by simpa using c8
                  clear c8
                  have H' := Aside0.mk H
                  clear H
                  have p187 : 0 ≤ (x13_1 : Int) := of_decide_eq_true (by first | (with_reducible assumption) | assumption)
                  have q187 : x13_1 < (l0.length : Int) := of_decide_eq_true (by first | (with_reducible assumption) | assumption)
                  obtain ⟨ad187, e187, hx187_0, hx187_1, hx187_2⟩ := at_T34 HR0.out x13_1 p187 q187
                  cases e187
                  replace p187 := eq_true p187
                  replace q187 := eq_true q187
                  have p188 : 0 ≤ (x13_1 : Int) := of_decide_eq_true (by first | (with_reducible assumption) | assumption)
                  have q188 : x13_1 < (l1.length : Int) := of_decide_eq_true (by first | (with_reducible assumption) | assumption)
                  obtain ⟨ad188, e188, hx188_0, hx188_1, hx188_2⟩ := at_T34 HR1.out x13_1 p188 q188
                  cases e188
                  replace p188 := eq_true p188
                  replace q188 := eq_true q188
                  go_wp2
                  repeat (go_quiet (fail); try go_wp2)
                  go_roundg k1
                  case measure => have := HK1.out; omega
                  case rel => exact ⟨(wrap64 (x13_1 + 1)), (by first | rfl | (simp; done) | (simp [*]; done)), H', ⟨by have := HK1.out; omega⟩, by repeat (first | exact Drawn0.refl _ | apply Drawn0.step)⟩
              · rw [if_neg c7] at H
                exact absurd H (by simp)
            · rw [if_neg c6] at H
              exact absurd H (by simp)
          · rw [if_neg c5] at H
            exact absurd H (by simp)
        · rw [if_neg c4] at H
          have c4b0 : decide (x13_1 < (l0.length : Int)) = false := decide_eq_false c4
          clear c4
          obtain rfl := Option.some.inj H
          go_wp2
          repeat (go_quiet (fail); try go_wp2)
          go_ret
          exact ⟨by first | rfl | (simp; done) | (simp [*]; done), by repeat (first | exact Drawn0.refl _ | apply Drawn0.step)⟩
  · rw [if_neg c3] at H
    have c3b0 : ((l0.length : Int) == (l1.length : Int)) = false := beq_eq_false_iff_ne.mpr c3
    have c3b1 : ((l0.length : Int) != (l1.length : Int)) = true := bne_iff_ne.mpr c3
    have c3b2 : (l0.length == l1.length) = false := by first | simpa using c3 | (simp at c3 ⊢; omega)
    obtain rfl := Option.some.inj H
    go_enter Tryd.func20, Tryd.ntmps20
    go_wp2
    repeat (go_quiet (fail); try go_wp2)
    go_ret
    exact ⟨by first | rfl | (simp; done) | (simp [*]; done), by repeat (first | exact Drawn0.refl _ | apply Drawn0.step)⟩

-- NOT PRINTED: function 7 (rowlocklaw05_KeycodePuts)

end Go.Proofs.YthkanebmkeamlaaDoor.XKey
