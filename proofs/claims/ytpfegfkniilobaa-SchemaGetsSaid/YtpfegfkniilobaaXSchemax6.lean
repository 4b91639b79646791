-- Written by this session's own program (wip/own_print.py) over the kit's print, with this session's hand-proved contracts in their places; Lean checks it.
import Derived.Test.YtpfegfkniilobaaXSchemax0
import Derived.Test.YtpfegfkniilobaaXSchemax3
import Derived.Test.YtpfegfkniilobaaXSchemax4
import Derived.Test.YtpfegfkniilobaaXSchemax5
namespace Go.Proofs.Ytpfegfkniilobaa.XSchema
open Go.RowKit Go.Proofs.YtpfegfkniilobaaW.PrintWords Go.Proofs.YtpfegfkniilobaaW.PrintLast Go.Proofs.YtpfegfkniilobaaW.PrintMore
attribute [local go_sem] max2_int min2_int max_two min_two max_three min_three max_four min_four   -- for this text's walks alone
set_option linter.unusedVariables false
set_option linter.unusedSimpArgs false

/-! ### schema_May: function 36 -/
mutual
def schema_May.j0 : Nat → Bool → List (S84) → List (S135) → Option (Bool)
 | 0, _, _, _ => none
 | k + 1, x18, x148000, x148001 => if x18 = true then (some false) else (schema_May.l0 k ([] : List ByteArray) x148000 (x148000.length : Int) 0 x148000 x148001)
def schema_May.l0 : Nat → List ByteArray → List (S84) → Int → Int → List (S84) → List (S135) → Option (Bool)
 | 0, _, _, _, _, _, _ => none
 | k + 1, x3, x20, x21, x22, x148000, x148001 => if x22 < x21 then (if 0 ≤ x22 then (if x22 < (x20.length : Int) then (if x3.length < 8796093022208 then ((schema_table.f k ((rd_T84 x20 x22).f0) ((rd_T84 x20 x22).f1) ((rd_T84 x20 x22).f2) ((rd_T84 x20 x22).f3) ((rd_T84 x20 x22).f4)).bind fun t153 => (if t153 = true then (schema_May.l0 k (x3 ++ [(rd_T84 x20 x22).f0]) x20 x21 (wrap64 (x22 + 1)) x148000 x148001) else (some false))) else (none)) else (none)) else (none)) else (schema_May.l1 k x3 ([] : List ByteArray) x148001 (x148001.length : Int) 0 x148000 x148001)
def schema_May.l1 : Nat → List ByteArray → List ByteArray → List (S135) → Int → Int → List (S84) → List (S135) → Option (Bool)
 | 0, _, _, _, _, _, _, _ => none
 | k + 1, x3, x4, x36, x37, x38, x148000, x148001 => if x38 < x37 then (if 0 ≤ x38 then (if x38 < (x36.length : Int) then (if x4.length < 8796093022208 then ((schema_index.f k x148000 x148001 ((rd_T135 x36 x38).f0) ((rd_T135 x36 x38).f1) ((rd_T135 x36 x38).f2) ((rd_T135 x36 x38).f3) ((rd_T135 x36 x38).f4) ((rd_T135 x36 x38).f5) ((rd_T135 x36 x38).f6)).bind fun t159 => (if t159 = true then (schema_May.l1 k x3 (x4 ++ [(rd_T135 x36 x38).f0]) x36 x37 (wrap64 (x38 + 1)) x148000 x148001) else (some false))) else (none)) else (none)) else (none)) else ((schema_names.f k x3).bind fun t160 => (if t160 = true then ((schema_names.f k x4).bind fun t161 => (some t161)) else (some false)))
end
def schema_May.f (k : Nat) (l0_0 : List (S84)) (l0_1 : List (S135)) : Option (Bool) := if (l0_0.length : Int) > 16 then (schema_May.j0 k true l0_0 l0_1) else (schema_May.j0 k (decide ((l0_1.length : Int) > 16)) l0_0 l0_1)
theorem schema_May.mono_l : ∀ k, (∀ y0 y1 y2, LeO (schema_May.j0 k y0 y1 y2) (schema_May.j0 (k + 1) y0 y1 y2)) ∧ (∀ y0 y1 y2 y3 y4 y5, LeO (schema_May.l0 k y0 y1 y2 y3 y4 y5) (schema_May.l0 (k + 1) y0 y1 y2 y3 y4 y5)) ∧ (∀ y0 y1 y2 y3 y4 y5 y6, LeO (schema_May.l1 k y0 y1 y2 y3 y4 y5 y6) (schema_May.l1 (k + 1) y0 y1 y2 y3 y4 y5 y6))
 | 0 => ⟨fun _ _ _ r h => by simp [schema_May.j0] at h, fun _ _ _ _ _ _ r h => by simp [schema_May.l0] at h, fun _ _ _ _ _ _ _ r h => by simp [schema_May.l1] at h⟩
 | k + 1 => by
  obtain ⟨ih0, ih1, ih2⟩ := schema_May.mono_l k
  refine ⟨?_, ?_, ?_⟩
  ·intro y0 y1 y2
   unfold schema_May.j0
   repeat' first
   | (with_reducible exact ih0 _ _ _)
   | (with_reducible exact ih1 _ _ _ _ _ _)
   | (with_reducible exact ih2 _ _ _ _ _ _ _)
   | (with_reducible exact schema_index.mono _ _ _ _ _ _ _ _ _ _)
   | (with_reducible exact schema_names.mono _ _)
   | (with_reducible exact schema_table.mono _ _ _ _ _ _)
   | (with_reducible exact LeO.refl _)
   | (with_reducible exact LeO.none _)
   | (with_reducible refine LeO.ite ?_ ?_)
   | (with_reducible refine LeO.bind ?_ (fun _ => ?_))
   | exact ih0 _ _ _
   | exact ih1 _ _ _ _ _ _
   | exact ih2 _ _ _ _ _ _ _
   | exact schema_index.mono _ _ _ _ _ _ _ _ _ _
   | exact schema_names.mono _ _
   | exact schema_table.mono _ _ _ _ _ _
   | exact LeO.none _
   | refine LeO.ite ?_ ?_
   | refine LeO.bind ?_ (fun _ => ?_)
  ·intro y0 y1 y2 y3 y4 y5
   unfold schema_May.l0
   repeat' first
   | (with_reducible exact ih0 _ _ _)
   | (with_reducible exact ih1 _ _ _ _ _ _)
   | (with_reducible exact ih2 _ _ _ _ _ _ _)
   | (with_reducible exact schema_index.mono _ _ _ _ _ _ _ _ _ _)
   | (with_reducible exact schema_names.mono _ _)
   | (with_reducible exact schema_table.mono _ _ _ _ _ _)
   | (with_reducible exact LeO.refl _)
   | (with_reducible exact LeO.none _)
   | (with_reducible refine LeO.ite ?_ ?_)
   | (with_reducible refine LeO.bind ?_ (fun _ => ?_))
   | exact ih0 _ _ _
   | exact ih1 _ _ _ _ _ _
   | exact ih2 _ _ _ _ _ _ _
   | exact schema_index.mono _ _ _ _ _ _ _ _ _ _
   | exact schema_names.mono _ _
   | exact schema_table.mono _ _ _ _ _ _
   | exact LeO.none _
   | refine LeO.ite ?_ ?_
   | refine LeO.bind ?_ (fun _ => ?_)
  ·intro y0 y1 y2 y3 y4 y5 y6
   unfold schema_May.l1
   repeat' first
   | (with_reducible exact ih0 _ _ _)
   | (with_reducible exact ih1 _ _ _ _ _ _)
   | (with_reducible exact ih2 _ _ _ _ _ _ _)
   | (with_reducible exact schema_index.mono _ _ _ _ _ _ _ _ _ _)
   | (with_reducible exact schema_names.mono _ _)
   | (with_reducible exact schema_table.mono _ _ _ _ _ _)
   | (with_reducible exact LeO.refl _)
   | (with_reducible exact LeO.none _)
   | (with_reducible refine LeO.ite ?_ ?_)
   | (with_reducible refine LeO.bind ?_ (fun _ => ?_))
   | exact ih0 _ _ _
   | exact ih1 _ _ _ _ _ _
   | exact ih2 _ _ _ _ _ _ _
   | exact schema_index.mono _ _ _ _ _ _ _ _ _ _
   | exact schema_names.mono _ _
   | exact schema_table.mono _ _ _ _ _ _
   | exact LeO.none _
   | refine LeO.ite ?_ ?_
   | refine LeO.bind ?_ (fun _ => ?_)
theorem schema_May.mono : ∀ a0 a1 k, LeO (schema_May.f k a0 a1) (schema_May.f (k + 1) a0 a1) := by
 intro a0 a1 k
 obtain ⟨ih0, ih1, ih2⟩ := schema_May.mono_l k
 unfold schema_May.f
 repeat' first
   | (with_reducible exact ih0 _ _ _)
   | (with_reducible exact ih1 _ _ _ _ _ _)
   | (with_reducible exact ih2 _ _ _ _ _ _ _)
   | (with_reducible exact schema_index.mono _ _ _ _ _ _ _ _ _ _)
   | (with_reducible exact schema_names.mono _ _)
   | (with_reducible exact schema_table.mono _ _ _ _ _ _)
   | (with_reducible exact LeO.refl _)
   | (with_reducible exact LeO.none _)
   | (with_reducible refine LeO.ite ?_ ?_)
   | (with_reducible refine LeO.bind ?_ (fun _ => ?_))
   | exact ih0 _ _ _
   | exact ih1 _ _ _ _ _ _
   | exact ih2 _ _ _ _ _ _ _
   | exact schema_index.mono _ _ _ _ _ _ _ _ _ _
   | exact schema_names.mono _ _
   | exact schema_table.mono _ _ _ _ _ _
   | exact LeO.none _
   | refine LeO.ite ?_ ?_
   | refine LeO.bind ?_ (fun _ => ?_)
set_option maxHeartbeats 8000000 in
set_option maxRecDepth 100000 in
theorem schema_May.calls (k : Nat) (A0_0 : Option Addr) (c0_0 : Nat) (l0_0 : List (S84)) (A0_1 : Option Addr) (c0_1 : Nat) (l0_1 : List (S135)) (r : Bool) (w : World) (hr0_0 : Kd.C k84 w A0_0 l0_0.length l0_0) (hc0_0 : l0_0.length ≤ c0_0) (hr0_1 : Kd.C k135 w A0_1 l0_1.length l0_1) (hc0_1 : l0_1.length ≤ c0_1) (h : schema_May.f k l0_0 l0_1 = some r) :
  Calls Try.prog 36 #[.agg #[.slice A0_0 l0_0.length c0_0, .slice A0_1 l0_1.length c0_1]] w fun e w' => e = .returned (.bool r) ∧ Below w.heap.size w w' := by
 have hu80 := Try.underlying80
 have hu84 := Try.underlying84
 have hu135 := Try.underlying135
 have HR0_0 := Aside0.mk hr0_0
 have HC0_0 := Aside0.mk hc0_0
 clear hr0_0 hc0_0
 have HR0_1 := Aside0.mk hr0_1
 have HC0_1 := Aside0.mk hc0_1
 clear hr0_1 hc0_1
 have HB := Aside0.mk (Below.refl w.heap.size w)
 have H : (if (l0_0.length : Int) > 16 then (schema_May.j0 k true l0_0 l0_1) else (schema_May.j0 k (decide ((l0_1.length : Int) > 16)) l0_0 l0_1)) = some r := h
 clear h
 have HC2 := Aside0.mk H
 clear H
 go_enter Try.func36, Try.ntmps36
 go_upto_region 1 with (first | ((with_reducible refine gate_dst (N := 1) rfl ?_); (try (refine gate_guard (by rfl) ?_; dsimp only)); refine box_event ?hg (N := 1) ?hd (cs := #[.slice A0_0 l0_0.length c0_0, .slice A0_1 l0_1.length c0_1]) (t := 80) ?hr ?_; (case hd => rfl); (case hg => rfl); (case hr => first | (go_simp; done) | (go_simp; rfl)); intro gb147 hg w3 hbox hb; have n0_ := Aside0.mk (below_step (by repeat (first | (with_reducible first | exact HB.out | apply below_alloc | apply pw_below_drewN | apply below_drew1) | exact HB.out)) hb); have n1_ := Aside0.mk (hbox); have n2_ := Aside0.mk ((by rw [hg]; exact (below_size (by repeat (first | (with_reducible first | exact HB.out | apply below_alloc | apply pw_below_drewN | apply below_drew1) | exact HB.out))) : w.heap.size ≤ gb147)); have n3_ := Aside0.mk ((by rw [hg]; exact (below_size (by repeat (first | (with_reducible first | exact HB.out | apply below_alloc | apply pw_below_drewN | apply below_drew1) | exact HB.out))) : w.heap.size ≤ gb147)); clear HB; have HB := n0_; have BK147 := n1_; have GW147 := n2_; have GE147 := n3_; clear n0_ n1_ n2_ n3_; clear hb hbox hg))
 (try simp only [Act.put, List.setIfInBounds_toArray, List.set_cons_zero, List.set_cons_succ])
 go_cut [18] (fun v18 wc => ∃ (kq : Nat) (x18_1 : Bool), v18 = .bool x18_1 ∧ Aside0 (schema_May.j0 kq x18_1 l0_0 l0_1 = some r) ∧ Aside0 (kq ≤ k) ∧ Aside0 (wc.heap[gb147]? = some (.cells #[(.slice A0_0 l0_0.length c0_0), (.slice A0_1 l0_1.length c0_1)] 80 (0, 0))) ∧ Aside0 (Below w.heap.size w wc))
 case first =>
  have H := HC2.out
  clear HC2
  by_cases c4 : (l0_0.length : Int) > 16
  ·rw [if_pos c4] at H
   have c4b0 : decide (16 < (l0_0.length : Int)) = true := decide_eq_true c4
   have c4b1 : decide (16 < l0_0.length) = true := decide_eq_true (by omega)
   clear c4
   (first | rw [c4b0] | (simp only [i64_w, i32_w]; rw [c4b0]) | skip)
   have H' := Aside0.mk H
   clear H
   have hcz5_0 : w3.cell? ⟨gb147, 0, none⟩ = some (.slice A0_0 l0_0.length c0_0) := (blk_cell BK147.out 0).trans rfl
   have hcz5_1 : w3.cell? ⟨gb147, 1, none⟩ = some (.slice A0_1 l0_1.length c0_1) := (blk_cell BK147.out 1).trans rfl
   have hfz5_0 := blk_frozen BK147.out 0
   have hfz5_1 := blk_frozen BK147.out 1
   go_wp2
   go_meet
   case rel => exact ⟨_, (true), (by first | rfl | (simp; done) | (simp [*]; done)), H', ⟨by first | omega | exact Nat.le_refl _⟩, ⟨by (with_reducible repeat (first | refine blk_drewN ?_ _ | refine blk_drew ?_ | refine blk_alloc ?_ _)); exact BK147.out⟩, ⟨by repeat (first | (with_reducible first | exact HB.out | apply below_alloc | apply pw_below_drewN | apply below_drew1 | refine below_set ?_ GE147.out) | exact HB.out)⟩⟩
  ·rw [if_neg c4] at H
   have c4b0 : decide (16 < (l0_0.length : Int)) = false := decide_eq_false c4
   have c4b1 : decide (16 < l0_0.length) = false := decide_eq_false (by omega)
   clear c4
   (first | rw [c4b0] | (simp only [i64_w, i32_w]; rw [c4b0]) | skip)
   have H' := Aside0.mk H
   clear H
   have hcz6_0 : w3.cell? ⟨gb147, 0, none⟩ = some (.slice A0_0 l0_0.length c0_0) := (blk_cell BK147.out 0).trans rfl
   have hcz6_1 : w3.cell? ⟨gb147, 1, none⟩ = some (.slice A0_1 l0_1.length c0_1) := (blk_cell BK147.out 1).trans rfl
   have hfz6_0 := blk_frozen BK147.out 0
   have hfz6_1 := blk_frozen BK147.out 1
   go_wp2
   go_meet
   case rel => exact ⟨_, (decide ((l0_1.length : Int) > 16)), (by first | rfl | (simp; done) | (simp [*]; done)), H', ⟨by first | omega | exact Nat.le_refl _⟩, ⟨by (with_reducible repeat (first | refine blk_drewN ?_ _ | refine blk_drew ?_ | refine blk_alloc ?_ _)); exact BK147.out⟩, ⟨by repeat (first | (with_reducible first | exact HB.out | apply below_alloc | apply pw_below_drewN | apply below_drew1 | refine below_set ?_ GE147.out) | exact HB.out)⟩⟩
 case rest =>
  clear HC2
  try clear p2
  try clear c3
  try clear c4
  try clear c4b0
  try clear c4b1
  try clear hcz5_0
  try clear hcz5_1
  try clear hcz6_0
  try clear hcz6_1
  try clear hfz5_0
  try clear hfz5_1
  try clear hfz6_0
  try clear hfz6_1
  obtain ⟨kq, x18_1, rfl, HA, HJ1, BK147, HB⟩ := hcut
  cases kq with
  | zero => exact absurd HA.out (by simp [schema_May.j0])
  | succ kj1 =>
   have H := HA.out
   clear HA
   simp only [schema_May.j0] at H
   by_cases c7 : x18_1 = true
   ·subst c7
    have H1 : (some false) = some r := by rw [if_pos rfl] at H; exact H
    clear H
    have H := H1
    clear H1
    obtain rfl := Option.some.inj H
    go_wp2
    go_ret
    exact ⟨by first | rfl | (simp [errW_none, errW_some] <;> rfl) | (simp [*, errW_none, errW_some] <;> rfl), by repeat (first | (with_reducible first | exact HB.out | apply below_alloc | apply pw_below_drewN | apply below_drew1 | refine below_set ?_ GE147.out) | exact HB.out)⟩
   ·replace c7 := Bool.eq_false_iff.mpr c7
    subst c7
    have H1 : (schema_May.l0 kj1 ([] : List ByteArray) l0_0 (l0_0.length : Int) 0 l0_0 l0_1) = some r := by rw [if_neg (show ¬ (false = true) by decide)] at H; exact H
    clear H
    have H := H1
    clear H1
    have H' := Aside0.mk H
    clear H
    have hcz8_0 : wc.cell? ⟨gb147, 0, none⟩ = some (.slice A0_0 l0_0.length c0_0) := (blk_cell BK147.out 0).trans rfl
    have hcz8_1 : wc.cell? ⟨gb147, 1, none⟩ = some (.slice A0_1 l0_1.length c0_1) := (blk_cell BK147.out 1).trans rfl
    have hfz8_0 := blk_frozen BK147.out 0
    have hfz8_1 := blk_frozen BK147.out 1
    go_wp2
    go_loopg [3, 22] kj1 (fun kq v3 v22 w' => ∃ (x3_2 : List ByteArray) (x22_2 : Int), v22 = .int .i64 x22_2 ∧ Aside0 (schema_May.l0 kq x3_2 l0_0 (l0_0.length : Int) x22_2 l0_0 l0_1 = some r) ∧ Aside0 (kq ≤ kj1) ∧ Aside0 (Kd.R Kd.string 9 w' w.heap.size (fun _ => True) v3 x3_2) ∧ Aside0 (w'.heap[gb147]? = some (.cells #[(.slice A0_0 l0_0.length c0_0), (.slice A0_1 l0_1.length c0_1)] 80 (0, 0))) ∧ Aside0 (Below w.heap.size w w'))
    case atStart => exact ⟨(([] : List ByteArray)), (0), (by first | rfl | (simp; done) | (simp [*]; done)), H', ⟨Nat.le_refl _⟩, ⟨by first | exact Kd.R_nil _ _ _ _ _ | exact Kd.N_nil _ _ _ _ _ | exact Kd.V_nil _ _ _ _ _ | exact Kd.Q_nil _ _ _ _ _ | exact Kd.S_nil _ _ _ _ _⟩, ⟨by (with_reducible repeat (first | refine blk_drewN ?_ _ | refine blk_drew ?_ | refine blk_alloc ?_ _)); exact BK147.out⟩, ⟨by repeat (first | (with_reducible first | exact HB.out | apply below_alloc | apply pw_below_drewN | apply below_drew1 | refine below_set ?_ GE147.out) | exact HB.out)⟩⟩
    case round =>
     clear H'
     try clear p2
     try clear c3
     try clear c4
     try clear c4b0
     try clear c4b1
     try clear c7
     try clear hcz5_0
     try clear hcz5_1
     try clear hcz6_0
     try clear hcz6_1
     try clear hcz8_0
     try clear hcz8_1
     try clear hfz5_0
     try clear hfz5_1
     try clear hfz6_0
     try clear hfz6_1
     try clear hfz8_0
     try clear hfz8_1
     try clear p2
     obtain ⟨x3_2, x22_2, rfl, HA, HK2, HO_3, BK147, HB⟩ := hrel
     cases gk with
     | zero => exact absurd HA.out (by simp [schema_May.l0])
     | succ k2 =>
      have H := HA.out
      clear HA
      simp only [schema_May.l0] at H
      by_cases c9 : x22_2 < (l0_0.length : Int)
      ·rw [if_pos c9] at H
       have c9b0 : decide (x22_2 < (l0_0.length : Int)) = true := decide_eq_true c9
       clear c9
       by_cases c10 : 0 ≤ x22_2
       ·rw [if_pos c10] at H
        have c10b0 : decide (0 ≤ x22_2) = true := decide_eq_true c10
        clear c10
        by_cases c11 : x22_2 < (l0_0.length : Int)
        ·rw [if_pos c11] at H
         have c11b0 : decide (x22_2 < (l0_0.length : Int)) = true := decide_eq_true c11
         clear c11
         by_cases c12 : x3_2.length < 8796093022208
         ·rw [if_pos c12] at H
          have LMc12 := Aside0.mk c12
          clear c12
          obtain ⟨y150, hy150⟩ : ∃ y_ : List ByteArray, y_ = (x3_2 ++ [(rd_T84 l0_0 x22_2).f0]) := ⟨_, rfl⟩
          replace H : ((schema_table.f k2 ((rd_T84 l0_0 x22_2).f0) ((rd_T84 l0_0 x22_2).f1) ((rd_T84 l0_0 x22_2).f2) ((rd_T84 l0_0 x22_2).f3) ((rd_T84 l0_0 x22_2).f4)).bind fun t153 => (if t153 = true then (schema_May.l0 k2 y150 l0_0 (l0_0.length : Int) (wrap64 (x22_2 + 1)) l0_0 l0_1) else (some false))) = some r := by first | (rw [hy150]; with_reducible exact H) | (have H2_ := (Option.bind_some _ _).symm.trans H; rw [hy150]; with_reducible exact H2_) | (have H2_ := (Option.bind_some _ _).symm.trans H; with_reducible exact H2_) | with_reducible exact H | (rw [hy150]; exact H) | exact H
          have Ny150 := Aside0.mk hy150
          clear hy150
          replace H := Option.bind_eq_some_iff.mp H
          obtain ⟨t153, A130, H⟩ := H
          replace H : (if t153 = true then (schema_May.l0 k2 y150 l0_0 (l0_0.length : Int) (wrap64 (x22_2 + 1)) l0_0 l0_1) else (some false)) = some r := H
          have A13 := Aside0.mk A130
          clear A130
          by_cases c14 : t153 = true
          ·subst c14
           have H1 : (schema_May.l0 k2 y150 l0_0 (l0_0.length : Int) (wrap64 (x22_2 + 1)) l0_0 l0_1) = some r := by rw [if_pos rfl] at H; exact H
           clear H
           have H := H1
           clear H1
           have H' := Aside0.mk H
           clear H
           have p148 : 0 ≤ (x22_2 : Int) := of_decide_eq_true (by first | (with_reducible assumption) | assumption)
           have q148 : x22_2 < (l0_0.length : Int) := of_decide_eq_true (by first | (with_reducible assumption) | assumption)
           obtain ⟨ad148, A148_1, c148_1, e148, hx148_0, hx148_1, hx148_2, hx148_3, hx148_4, hl148_1, hi148_1⟩ := at_T84 HR0_0.out x22_2 p148 q148
           cases e148
           replace hx148_0 := (HB.out.cell (World.block_lt_of_cell? w _ hx148_0)).trans hx148_0
           replace hx148_1 := (HB.out.cell (World.block_lt_of_cell? w _ hx148_1)).trans hx148_1
           replace hx148_2 := (HB.out.cell (World.block_lt_of_cell? w _ hx148_2)).trans hx148_2
           replace hx148_3 := (HB.out.cell (World.block_lt_of_cell? w _ hx148_3)).trans hx148_3
           replace hx148_4 := (HB.out.cell (World.block_lt_of_cell? w _ hx148_4)).trans hx148_4
           have HR148_1 := Aside0.mk hi148_1
           have HC148_1 := Aside0.mk hl148_1
           clear hi148_1 hl148_1
           replace p148 := eq_true p148
           have p148D := p148; try simp only [List.length_drop, List.length_take] at p148D
           replace q148 := eq_true q148
           have q148D := q148; try simp only [List.length_drop, List.length_take] at q148D
           go_wp2_with (first | ((with_reducible refine gate_dst (N := 6) rfl ?_); (try (refine gate_guard (by rfl) ?_; dsimp only)); refine box_event ?hg (N := 6) ?hd (cs := #[.string (⟨#[]⟩ : ByteArray), .slice none 0 0, .int .u32 0, .int .i64 0, .int .i64 0]) (t := 84) ?hr ?_; (case hd => rfl); (case hg => rfl); (case hr => first | (go_simp; done) | (go_simp; rfl)); intro gb149 hg w15 hbox hb; have n0_ := Aside0.mk (Kd.R_below (by (with_reducible repeat (first | apply Kd.R_alloc | apply Kd.R_drewN | apply Kd.R_drew)); exact HO_3.out) hb); have n1_ := Aside0.mk (blk_below (g := gb147) (o := .cells #[.slice (some ad148) l0_0.length c0_0, .slice A0_1 l0_1.length c0_1] 80 (0, 0)) (by (with_reducible repeat (first | refine blk_drewN ?_ _ | refine blk_drew ?_ | refine blk_alloc ?_ _)); exact BK147.out) hb); have n2_ := Aside0.mk (below_step (by repeat (first | (with_reducible first | exact HB.out | apply below_alloc | apply pw_below_drewN | apply below_drew1 | refine below_set ?_ GE147.out) | exact HB.out)) hb); have n3_ := Aside0.mk (hbox); have n4_ := Aside0.mk ((by rw [hg]; exact (below_size (by repeat (first | (with_reducible first | exact HB.out | apply below_alloc | apply pw_below_drewN | apply below_drew1 | refine below_set ?_ GE147.out) | exact HB.out))) : w.heap.size ≤ gb149)); have n5_ := Aside0.mk ((by rw [hg]; exact (below_size (by repeat (first | (with_reducible first | exact HB.out | apply below_alloc | apply pw_below_drewN | apply below_drew1 | refine below_set ?_ GE147.out) | exact HB.out))) : w.heap.size ≤ gb149)); have n6_ := Aside0.mk ((by rw [hg]; exact Nat.ne_of_lt (blk_lt (g := gb147) (o := .cells #[.slice (some ad148) l0_0.length c0_0, .slice A0_1 l0_1.length c0_1] 80 (0, 0)) (by (with_reducible repeat (first | refine blk_drewN ?_ _ | refine blk_drew ?_ | refine blk_alloc ?_ _)); exact BK147.out)) : gb147 ≠ gb149)); have n7_ := Aside0.mk ((by rw [hg]; exact Nat.ne_of_gt (blk_lt (g := gb147) (o := .cells #[.slice (some ad148) l0_0.length c0_0, .slice A0_1 l0_1.length c0_1] 80 (0, 0)) (by (with_reducible repeat (first | refine blk_drewN ?_ _ | refine blk_drew ?_ | refine blk_alloc ?_ _)); exact BK147.out)) : gb149 ≠ gb147)); clear HO_3; clear BK147; clear HB; have HO_3 := n0_; have BK147 := n1_; have HB := n2_; have BK149 := n3_; have GW149 := n4_; have GE149 := n5_; have NB147_149 := n6_; have NB149_147 := n7_; clear n0_ n1_ n2_ n3_ n4_ n5_ n6_ n7_; clear hb hbox hg; have hnb16 := NB149_147.out; have hnc16 := NB147_149.out; have hcz17_0 : w15.cell? ⟨gb149, 0, none⟩ = some (.string (⟨#[]⟩ : ByteArray)) := (blk_cell BK149.out 0).trans rfl; have hcz17_1 : w15.cell? ⟨gb149, 1, none⟩ = some (.slice none 0 0) := (blk_cell BK149.out 1).trans rfl; have hcz17_2 : w15.cell? ⟨gb149, 2, none⟩ = some (.int .u32 0) := (blk_cell BK149.out 2).trans rfl; have hcz17_3 : w15.cell? ⟨gb149, 3, none⟩ = some (.int .i64 0) := (blk_cell BK149.out 3).trans rfl; have hcz17_4 : w15.cell? ⟨gb149, 4, none⟩ = some (.int .i64 0) := (blk_cell BK149.out 4).trans rfl; have hfz17_0 := blk_frozen BK149.out 0; have hfz17_1 := blk_frozen BK149.out 1; have hfz17_2 := blk_frozen BK149.out 2; have hfz17_3 := blk_frozen BK149.out 3; have hfz17_4 := blk_frozen BK149.out 4) | ((with_reducible refine gate_builtin (b := .append) (xs := #[.tmp 26, .tmp 29]) rfl ?_); (try (refine gate_guard (by rfl) ?_; dsimp only)); at_builtin; refine Kd.R_append Kd.string (w0 := w) w.heap.size rfl (.tmp 26) (.tmp 29) 29 9 (.string ⟨#[]⟩) 16 rfl Try.underlying29 info9 rfl (by decide) (by omega) u3 x3_2 ((rd_T84 l0_0 x22_2).f0) [.string ((rd_T84 l0_0 x22_2).f0)] (fun _ => True) (fun _ => False) rfl (by first | (go_simp; done) | (go_simp; rfl)) ?aP (fun _ hk => hk.elim) ?aF ?aO ?aB ?aS ?aL ?_; (case aP => exact rfl); (case aB => exact (by repeat (first | (with_reducible first | exact HB.out | apply below_alloc | apply pw_below_drewN | apply below_drew1 | refine below_set ?_ GE147.out | refine below_set ?_ GE149.out) | exact HB.out))); (case aF => exact (fun _ _ => trivial)); (case aO => exact (by (with_reducible repeat (first | apply Kd.R_alloc | apply Kd.R_drewN | apply Kd.R_drew)); exact Kd.R_mono (Kd.R_far (p := ⟨gb149, 4, none⟩) (Kd.R_far (p := ⟨gb149, 3, none⟩) (Kd.R_far (p := ⟨gb149, 2, none⟩) (Kd.R_far (p := ⟨gb149, 1, none⟩) (Kd.R_far (p := ⟨gb149, 0, none⟩) (Kd.R_types HO_3.out BK149.out (by decide)) (fun _ hk => hk.2) (.string ((rd_T84 l0_0 x22_2).f0))) (fun _ hk => hk.2) (.slice A148_1 ((rd_T84 l0_0 x22_2).f1).length c148_1)) (fun _ hk => hk.2) (.int .u32 ((rd_T84 l0_0 x22_2).f2))) (fun _ hk => hk.2) (.int .i64 ((rd_T84 l0_0 x22_2).f3))) (fun _ hk => hk.2) (.int .i64 ((rd_T84 l0_0 x22_2).f4))) (fun _ hk => trivial))); (case aS => exact (below_size (by repeat (first | (with_reducible first | exact HB.out | apply below_alloc | apply pw_below_drewN | apply below_drew1 | refine below_set ?_ GE147.out | refine below_set ?_ GE149.out) | exact HB.out)))); (case aL => have := LMc12.out; omega); intro v151 w18 ho hb hg hat; rw [← Ny150.out] at ho; have n0_ := Aside0.mk (blk_grown (g := gb147) (o := .cells #[.slice (some ad148) l0_0.length c0_0, .slice A0_1 l0_1.length c0_1] 80 (0, 0)) (by (with_reducible repeat (first | refine blk_drewN ?_ _ | refine blk_drew ?_ | refine blk_alloc ?_ _)); refine blk_far ?_ NB147_149.out _; (with_reducible repeat (first | refine blk_drewN ?_ _ | refine blk_drew ?_ | refine blk_alloc ?_ _)); refine blk_far ?_ NB147_149.out _; (with_reducible repeat (first | refine blk_drewN ?_ _ | refine blk_drew ?_ | refine blk_alloc ?_ _)); refine blk_far ?_ NB147_149.out _; (with_reducible repeat (first | refine blk_drewN ?_ _ | refine blk_drew ?_ | refine blk_alloc ?_ _)); refine blk_far ?_ NB147_149.out _; (with_reducible repeat (first | refine blk_drewN ?_ _ | refine blk_drew ?_ | refine blk_alloc ?_ _)); refine blk_far ?_ NB147_149.out _; (with_reducible repeat (first | refine blk_drewN ?_ _ | refine blk_drew ?_ | refine blk_alloc ?_ _)); exact BK147.out) hg (Kd.R_ne HO_3.out BK147.out (by decide))); have n1_ := Aside0.mk (blk_grown (g := gb149) (o := .cells #[.string ((rd_T84 l0_0 x22_2).f0), .slice A148_1 ((rd_T84 l0_0 x22_2).f1).length c148_1, .int .u32 ((rd_T84 l0_0 x22_2).f2), .int .i64 ((rd_T84 l0_0 x22_2).f3), .int .i64 ((rd_T84 l0_0 x22_2).f4)] 84 (0, 0)) (by (with_reducible repeat (first | refine blk_drewN ?_ _ | refine blk_drew ?_ | refine blk_alloc ?_ _)); refine blk_put (cs := #[.string ((rd_T84 l0_0 x22_2).f0), .slice A148_1 ((rd_T84 l0_0 x22_2).f1).length c148_1, .int .u32 ((rd_T84 l0_0 x22_2).f2), .int .i64 ((rd_T84 l0_0 x22_2).f3), .int .i64 0]) ?_ 4 _ rfl; (with_reducible repeat (first | refine blk_drewN ?_ _ | refine blk_drew ?_ | refine blk_alloc ?_ _)); refine blk_put (cs := #[.string ((rd_T84 l0_0 x22_2).f0), .slice A148_1 ((rd_T84 l0_0 x22_2).f1).length c148_1, .int .u32 ((rd_T84 l0_0 x22_2).f2), .int .i64 0, .int .i64 0]) ?_ 3 _ rfl; (with_reducible repeat (first | refine blk_drewN ?_ _ | refine blk_drew ?_ | refine blk_alloc ?_ _)); refine blk_put (cs := #[.string ((rd_T84 l0_0 x22_2).f0), .slice A148_1 ((rd_T84 l0_0 x22_2).f1).length c148_1, .int .u32 0, .int .i64 0, .int .i64 0]) ?_ 2 _ rfl; (with_reducible repeat (first | refine blk_drewN ?_ _ | refine blk_drew ?_ | refine blk_alloc ?_ _)); refine blk_put (cs := #[.string ((rd_T84 l0_0 x22_2).f0), .slice none 0 0, .int .u32 0, .int .i64 0, .int .i64 0]) ?_ 1 _ rfl; (with_reducible repeat (first | refine blk_drewN ?_ _ | refine blk_drew ?_ | refine blk_alloc ?_ _)); refine blk_put (cs := #[.string (⟨#[]⟩ : ByteArray), .slice none 0 0, .int .u32 0, .int .i64 0, .int .i64 0]) ?_ 0 _ rfl; (with_reducible repeat (first | refine blk_drewN ?_ _ | refine blk_drew ?_ | refine blk_alloc ?_ _)); exact BK149.out) hg (Kd.R_ne HO_3.out BK149.out (by decide))); have n2_ := Aside0.mk (hb); have n3_ := Aside0.mk (ho); clear BK147; clear BK149; clear HB; clear HO_3; have BK147 := n0_; have BK149 := n1_; have HB := n2_; have HO152 := n3_; clear n0_ n1_ n2_ n3_; clear ho hb hg hat; have hcz19_0 : w18.cell? ⟨gb149, 0, none⟩ = some (.string ((rd_T84 l0_0 x22_2).f0)) := (blk_cell BK149.out 0).trans rfl; have hcz19_1 : w18.cell? ⟨gb149, 1, none⟩ = some (.slice A148_1 ((rd_T84 l0_0 x22_2).f1).length c148_1) := (blk_cell BK149.out 1).trans rfl; have hcz19_2 : w18.cell? ⟨gb149, 2, none⟩ = some (.int .u32 ((rd_T84 l0_0 x22_2).f2)) := (blk_cell BK149.out 2).trans rfl; have hcz19_3 : w18.cell? ⟨gb149, 3, none⟩ = some (.int .i64 ((rd_T84 l0_0 x22_2).f3)) := (blk_cell BK149.out 3).trans rfl; have hcz19_4 : w18.cell? ⟨gb149, 4, none⟩ = some (.int .i64 ((rd_T84 l0_0 x22_2).f4)) := (blk_cell BK149.out 4).trans rfl; have hfz19_0 := blk_frozen BK149.out 0; have hfz19_1 := blk_frozen BK149.out 1; have hfz19_2 := blk_frozen BK149.out 2; have hfz19_3 := blk_frozen BK149.out 3; have hfz19_4 := blk_frozen BK149.out 4) | ((with_reducible refine gate_callee (f := 71) rfl ?_); refine goesL_ (some 32) rfl rfl Try.func71 (by kernel_rfl) rfl #[.agg #[.string ((rd_T84 l0_0 x22_2).f0), .slice A148_1 ((rd_T84 l0_0 x22_2).f1).length c148_1, .int .u32 ((rd_T84 l0_0 x22_2).f2), .int .i64 ((rd_T84 l0_0 x22_2).f3), .int .i64 ((rd_T84 l0_0 x22_2).f4)]] rfl (by (try simp only [List.map_toArray, List.map_cons, List.map_nil]); first | done | rfl | (simp only [List.length_drop, List.length_take]; rfl)) ?_; (with_reducible refine (schema_table.calls k2 ((rd_T84 l0_0 x22_2).f0) _ _ ((rd_T84 l0_0 x22_2).f1) ((rd_T84 l0_0 x22_2).f2) ((rd_T84 l0_0 x22_2).f3) ((rd_T84 l0_0 x22_2).f4) true _ ?side1 ?side2 A13.out).mono ?_); (case side1 => repeat (first | exact (Kd.C_below HR148_1.out HB.out) | (with_reducible refine Kd.C_alloc ?_ _) | (with_reducible refine Kd.C_drewN ?_ _) | (with_reducible refine Kd.C_drew ?_))); (case side2 => exact HC148_1.out); rintro e w20 ⟨rfl, hb⟩; refine ⟨_, rfl, ?_⟩; have n0_ := Aside0.mk (Kd.R_below (by (with_reducible repeat (first | apply Kd.R_alloc | apply Kd.R_drewN | apply Kd.R_drew)); exact HO152.out) hb); have n1_ := Aside0.mk (blk_below (g := gb147) (o := .cells #[.slice (some ad148) l0_0.length c0_0, .slice A0_1 l0_1.length c0_1] 80 (0, 0)) (by (with_reducible repeat (first | refine blk_drewN ?_ _ | refine blk_drew ?_ | refine blk_alloc ?_ _)); exact BK147.out) hb); have n2_ := Aside0.mk (blk_below (g := gb149) (o := .cells #[.string ((rd_T84 l0_0 x22_2).f0), .slice A148_1 ((rd_T84 l0_0 x22_2).f1).length c148_1, .int .u32 ((rd_T84 l0_0 x22_2).f2), .int .i64 ((rd_T84 l0_0 x22_2).f3), .int .i64 ((rd_T84 l0_0 x22_2).f4)] 84 (0, 0)) (by (with_reducible repeat (first | refine blk_drewN ?_ _ | refine blk_drew ?_ | refine blk_alloc ?_ _)); exact BK149.out) hb); have n3_ := Aside0.mk (below_step (by repeat (first | (with_reducible first | exact HB.out | apply below_alloc | apply pw_below_drewN | apply below_drew1 | refine below_set ?_ GE147.out | refine below_set ?_ GE149.out) | exact HB.out)) hb); clear HO152; clear BK147; clear BK149; clear HB; have HO152 := n0_; have BK147 := n1_; have BK149 := n2_; have HB := n3_; clear n0_ n1_ n2_ n3_; (try clear hb); (try clear hb2); (try clear hk); (try clear hi)))
           go_roundg k2
           case measure => have := HJ1.out; have := HK2.out; omega
           case rel => exact ⟨(y150), (wrap64 (x22_2 + 1)), (by first | rfl | (simp; done) | (simp [*]; done)), H', ⟨by have := HJ1.out; have := HK2.out; omega⟩, ⟨by (with_reducible repeat (first | apply Kd.R_alloc | apply Kd.R_drewN | apply Kd.R_drew)); exact HO152.out⟩, ⟨by (with_reducible repeat (first | refine blk_drewN ?_ _ | refine blk_drew ?_ | refine blk_alloc ?_ _)); exact BK147.out⟩, ⟨by repeat (first | (with_reducible first | exact HB.out | apply below_alloc | apply pw_below_drewN | apply below_drew1 | refine below_set ?_ GE147.out | refine below_set ?_ GE149.out) | exact HB.out)⟩⟩
          ·replace c14 := Bool.eq_false_iff.mpr c14
           subst c14
           have H1 : (some false) = some r := by rw [if_neg (show ¬ (false = true) by decide)] at H; exact H
           clear H
           have H := H1
           clear H1
           obtain rfl := Option.some.inj H
           have p148 : 0 ≤ (x22_2 : Int) := of_decide_eq_true (by first | (with_reducible assumption) | assumption)
           have q148 : x22_2 < (l0_0.length : Int) := of_decide_eq_true (by first | (with_reducible assumption) | assumption)
           obtain ⟨ad148, A148_1, c148_1, e148, hx148_0, hx148_1, hx148_2, hx148_3, hx148_4, hl148_1, hi148_1⟩ := at_T84 HR0_0.out x22_2 p148 q148
           cases e148
           replace hx148_0 := (HB.out.cell (World.block_lt_of_cell? w _ hx148_0)).trans hx148_0
           replace hx148_1 := (HB.out.cell (World.block_lt_of_cell? w _ hx148_1)).trans hx148_1
           replace hx148_2 := (HB.out.cell (World.block_lt_of_cell? w _ hx148_2)).trans hx148_2
           replace hx148_3 := (HB.out.cell (World.block_lt_of_cell? w _ hx148_3)).trans hx148_3
           replace hx148_4 := (HB.out.cell (World.block_lt_of_cell? w _ hx148_4)).trans hx148_4
           have HR148_1 := Aside0.mk hi148_1
           have HC148_1 := Aside0.mk hl148_1
           clear hi148_1 hl148_1
           replace p148 := eq_true p148
           have p148D := p148; try simp only [List.length_drop, List.length_take] at p148D
           replace q148 := eq_true q148
           have q148D := q148; try simp only [List.length_drop, List.length_take] at q148D
           go_wp2_with (first | ((with_reducible refine gate_dst (N := 6) rfl ?_); (try (refine gate_guard (by rfl) ?_; dsimp only)); refine box_event ?hg (N := 6) ?hd (cs := #[.string (⟨#[]⟩ : ByteArray), .slice none 0 0, .int .u32 0, .int .i64 0, .int .i64 0]) (t := 84) ?hr ?_; (case hd => rfl); (case hg => rfl); (case hr => first | (go_simp; done) | (go_simp; rfl)); intro gb149 hg w21 hbox hb; have n0_ := Aside0.mk (Kd.R_below (by (with_reducible repeat (first | apply Kd.R_alloc | apply Kd.R_drewN | apply Kd.R_drew)); exact HO_3.out) hb); have n1_ := Aside0.mk (blk_below (g := gb147) (o := .cells #[.slice (some ad148) l0_0.length c0_0, .slice A0_1 l0_1.length c0_1] 80 (0, 0)) (by (with_reducible repeat (first | refine blk_drewN ?_ _ | refine blk_drew ?_ | refine blk_alloc ?_ _)); exact BK147.out) hb); have n2_ := Aside0.mk (below_step (by repeat (first | (with_reducible first | exact HB.out | apply below_alloc | apply pw_below_drewN | apply below_drew1 | refine below_set ?_ GE147.out) | exact HB.out)) hb); have n3_ := Aside0.mk (hbox); have n4_ := Aside0.mk ((by rw [hg]; exact (below_size (by repeat (first | (with_reducible first | exact HB.out | apply below_alloc | apply pw_below_drewN | apply below_drew1 | refine below_set ?_ GE147.out) | exact HB.out))) : w.heap.size ≤ gb149)); have n5_ := Aside0.mk ((by rw [hg]; exact (below_size (by repeat (first | (with_reducible first | exact HB.out | apply below_alloc | apply pw_below_drewN | apply below_drew1 | refine below_set ?_ GE147.out) | exact HB.out))) : w.heap.size ≤ gb149)); have n6_ := Aside0.mk ((by rw [hg]; exact Nat.ne_of_lt (blk_lt (g := gb147) (o := .cells #[.slice (some ad148) l0_0.length c0_0, .slice A0_1 l0_1.length c0_1] 80 (0, 0)) (by (with_reducible repeat (first | refine blk_drewN ?_ _ | refine blk_drew ?_ | refine blk_alloc ?_ _)); exact BK147.out)) : gb147 ≠ gb149)); have n7_ := Aside0.mk ((by rw [hg]; exact Nat.ne_of_gt (blk_lt (g := gb147) (o := .cells #[.slice (some ad148) l0_0.length c0_0, .slice A0_1 l0_1.length c0_1] 80 (0, 0)) (by (with_reducible repeat (first | refine blk_drewN ?_ _ | refine blk_drew ?_ | refine blk_alloc ?_ _)); exact BK147.out)) : gb149 ≠ gb147)); clear HO_3; clear BK147; clear HB; have HO_3 := n0_; have BK147 := n1_; have HB := n2_; have BK149 := n3_; have GW149 := n4_; have GE149 := n5_; have NB147_149 := n6_; have NB149_147 := n7_; clear n0_ n1_ n2_ n3_ n4_ n5_ n6_ n7_; clear hb hbox hg; have hnb22 := NB149_147.out; have hnc22 := NB147_149.out; have hcz23_0 : w21.cell? ⟨gb149, 0, none⟩ = some (.string (⟨#[]⟩ : ByteArray)) := (blk_cell BK149.out 0).trans rfl; have hcz23_1 : w21.cell? ⟨gb149, 1, none⟩ = some (.slice none 0 0) := (blk_cell BK149.out 1).trans rfl; have hcz23_2 : w21.cell? ⟨gb149, 2, none⟩ = some (.int .u32 0) := (blk_cell BK149.out 2).trans rfl; have hcz23_3 : w21.cell? ⟨gb149, 3, none⟩ = some (.int .i64 0) := (blk_cell BK149.out 3).trans rfl; have hcz23_4 : w21.cell? ⟨gb149, 4, none⟩ = some (.int .i64 0) := (blk_cell BK149.out 4).trans rfl; have hfz23_0 := blk_frozen BK149.out 0; have hfz23_1 := blk_frozen BK149.out 1; have hfz23_2 := blk_frozen BK149.out 2; have hfz23_3 := blk_frozen BK149.out 3; have hfz23_4 := blk_frozen BK149.out 4) | ((with_reducible refine gate_builtin (b := .append) (xs := #[.tmp 26, .tmp 29]) rfl ?_); (try (refine gate_guard (by rfl) ?_; dsimp only)); at_builtin; refine Kd.R_append Kd.string (w0 := w) w.heap.size rfl (.tmp 26) (.tmp 29) 29 9 (.string ⟨#[]⟩) 16 rfl Try.underlying29 info9 rfl (by decide) (by omega) u3 x3_2 ((rd_T84 l0_0 x22_2).f0) [.string ((rd_T84 l0_0 x22_2).f0)] (fun _ => True) (fun _ => False) rfl (by first | (go_simp; done) | (go_simp; rfl)) ?aP (fun _ hk => hk.elim) ?aF ?aO ?aB ?aS ?aL ?_; (case aP => exact rfl); (case aB => exact (by repeat (first | (with_reducible first | exact HB.out | apply below_alloc | apply pw_below_drewN | apply below_drew1 | refine below_set ?_ GE147.out | refine below_set ?_ GE149.out) | exact HB.out))); (case aF => exact (fun _ _ => trivial)); (case aO => exact (by (with_reducible repeat (first | apply Kd.R_alloc | apply Kd.R_drewN | apply Kd.R_drew)); exact Kd.R_mono (Kd.R_far (p := ⟨gb149, 4, none⟩) (Kd.R_far (p := ⟨gb149, 3, none⟩) (Kd.R_far (p := ⟨gb149, 2, none⟩) (Kd.R_far (p := ⟨gb149, 1, none⟩) (Kd.R_far (p := ⟨gb149, 0, none⟩) (Kd.R_types HO_3.out BK149.out (by decide)) (fun _ hk => hk.2) (.string ((rd_T84 l0_0 x22_2).f0))) (fun _ hk => hk.2) (.slice A148_1 ((rd_T84 l0_0 x22_2).f1).length c148_1)) (fun _ hk => hk.2) (.int .u32 ((rd_T84 l0_0 x22_2).f2))) (fun _ hk => hk.2) (.int .i64 ((rd_T84 l0_0 x22_2).f3))) (fun _ hk => hk.2) (.int .i64 ((rd_T84 l0_0 x22_2).f4))) (fun _ hk => trivial))); (case aS => exact (below_size (by repeat (first | (with_reducible first | exact HB.out | apply below_alloc | apply pw_below_drewN | apply below_drew1 | refine below_set ?_ GE147.out | refine below_set ?_ GE149.out) | exact HB.out)))); (case aL => have := LMc12.out; omega); intro v151 w24 ho hb hg hat; rw [← Ny150.out] at ho; have n0_ := Aside0.mk (blk_grown (g := gb147) (o := .cells #[.slice (some ad148) l0_0.length c0_0, .slice A0_1 l0_1.length c0_1] 80 (0, 0)) (by (with_reducible repeat (first | refine blk_drewN ?_ _ | refine blk_drew ?_ | refine blk_alloc ?_ _)); refine blk_far ?_ NB147_149.out _; (with_reducible repeat (first | refine blk_drewN ?_ _ | refine blk_drew ?_ | refine blk_alloc ?_ _)); refine blk_far ?_ NB147_149.out _; (with_reducible repeat (first | refine blk_drewN ?_ _ | refine blk_drew ?_ | refine blk_alloc ?_ _)); refine blk_far ?_ NB147_149.out _; (with_reducible repeat (first | refine blk_drewN ?_ _ | refine blk_drew ?_ | refine blk_alloc ?_ _)); refine blk_far ?_ NB147_149.out _; (with_reducible repeat (first | refine blk_drewN ?_ _ | refine blk_drew ?_ | refine blk_alloc ?_ _)); refine blk_far ?_ NB147_149.out _; (with_reducible repeat (first | refine blk_drewN ?_ _ | refine blk_drew ?_ | refine blk_alloc ?_ _)); exact BK147.out) hg (Kd.R_ne HO_3.out BK147.out (by decide))); have n1_ := Aside0.mk (blk_grown (g := gb149) (o := .cells #[.string ((rd_T84 l0_0 x22_2).f0), .slice A148_1 ((rd_T84 l0_0 x22_2).f1).length c148_1, .int .u32 ((rd_T84 l0_0 x22_2).f2), .int .i64 ((rd_T84 l0_0 x22_2).f3), .int .i64 ((rd_T84 l0_0 x22_2).f4)] 84 (0, 0)) (by (with_reducible repeat (first | refine blk_drewN ?_ _ | refine blk_drew ?_ | refine blk_alloc ?_ _)); refine blk_put (cs := #[.string ((rd_T84 l0_0 x22_2).f0), .slice A148_1 ((rd_T84 l0_0 x22_2).f1).length c148_1, .int .u32 ((rd_T84 l0_0 x22_2).f2), .int .i64 ((rd_T84 l0_0 x22_2).f3), .int .i64 0]) ?_ 4 _ rfl; (with_reducible repeat (first | refine blk_drewN ?_ _ | refine blk_drew ?_ | refine blk_alloc ?_ _)); refine blk_put (cs := #[.string ((rd_T84 l0_0 x22_2).f0), .slice A148_1 ((rd_T84 l0_0 x22_2).f1).length c148_1, .int .u32 ((rd_T84 l0_0 x22_2).f2), .int .i64 0, .int .i64 0]) ?_ 3 _ rfl; (with_reducible repeat (first | refine blk_drewN ?_ _ | refine blk_drew ?_ | refine blk_alloc ?_ _)); refine blk_put (cs := #[.string ((rd_T84 l0_0 x22_2).f0), .slice A148_1 ((rd_T84 l0_0 x22_2).f1).length c148_1, .int .u32 0, .int .i64 0, .int .i64 0]) ?_ 2 _ rfl; (with_reducible repeat (first | refine blk_drewN ?_ _ | refine blk_drew ?_ | refine blk_alloc ?_ _)); refine blk_put (cs := #[.string ((rd_T84 l0_0 x22_2).f0), .slice none 0 0, .int .u32 0, .int .i64 0, .int .i64 0]) ?_ 1 _ rfl; (with_reducible repeat (first | refine blk_drewN ?_ _ | refine blk_drew ?_ | refine blk_alloc ?_ _)); refine blk_put (cs := #[.string (⟨#[]⟩ : ByteArray), .slice none 0 0, .int .u32 0, .int .i64 0, .int .i64 0]) ?_ 0 _ rfl; (with_reducible repeat (first | refine blk_drewN ?_ _ | refine blk_drew ?_ | refine blk_alloc ?_ _)); exact BK149.out) hg (Kd.R_ne HO_3.out BK149.out (by decide))); have n2_ := Aside0.mk (hb); have n3_ := Aside0.mk (ho); clear BK147; clear BK149; clear HB; clear HO_3; have BK147 := n0_; have BK149 := n1_; have HB := n2_; have HO152 := n3_; clear n0_ n1_ n2_ n3_; clear ho hb hg hat; have hcz25_0 : w24.cell? ⟨gb149, 0, none⟩ = some (.string ((rd_T84 l0_0 x22_2).f0)) := (blk_cell BK149.out 0).trans rfl; have hcz25_1 : w24.cell? ⟨gb149, 1, none⟩ = some (.slice A148_1 ((rd_T84 l0_0 x22_2).f1).length c148_1) := (blk_cell BK149.out 1).trans rfl; have hcz25_2 : w24.cell? ⟨gb149, 2, none⟩ = some (.int .u32 ((rd_T84 l0_0 x22_2).f2)) := (blk_cell BK149.out 2).trans rfl; have hcz25_3 : w24.cell? ⟨gb149, 3, none⟩ = some (.int .i64 ((rd_T84 l0_0 x22_2).f3)) := (blk_cell BK149.out 3).trans rfl; have hcz25_4 : w24.cell? ⟨gb149, 4, none⟩ = some (.int .i64 ((rd_T84 l0_0 x22_2).f4)) := (blk_cell BK149.out 4).trans rfl; have hfz25_0 := blk_frozen BK149.out 0; have hfz25_1 := blk_frozen BK149.out 1; have hfz25_2 := blk_frozen BK149.out 2; have hfz25_3 := blk_frozen BK149.out 3; have hfz25_4 := blk_frozen BK149.out 4) | ((with_reducible refine gate_callee (f := 71) rfl ?_); refine goesL_ (some 32) rfl rfl Try.func71 (by kernel_rfl) rfl #[.agg #[.string ((rd_T84 l0_0 x22_2).f0), .slice A148_1 ((rd_T84 l0_0 x22_2).f1).length c148_1, .int .u32 ((rd_T84 l0_0 x22_2).f2), .int .i64 ((rd_T84 l0_0 x22_2).f3), .int .i64 ((rd_T84 l0_0 x22_2).f4)]] rfl (by (try simp only [List.map_toArray, List.map_cons, List.map_nil]); first | done | rfl | (simp only [List.length_drop, List.length_take]; rfl)) ?_; (with_reducible refine (schema_table.calls k2 ((rd_T84 l0_0 x22_2).f0) _ _ ((rd_T84 l0_0 x22_2).f1) ((rd_T84 l0_0 x22_2).f2) ((rd_T84 l0_0 x22_2).f3) ((rd_T84 l0_0 x22_2).f4) false _ ?side1 ?side2 A13.out).mono ?_); (case side1 => repeat (first | exact (Kd.C_below HR148_1.out HB.out) | (with_reducible refine Kd.C_alloc ?_ _) | (with_reducible refine Kd.C_drewN ?_ _) | (with_reducible refine Kd.C_drew ?_))); (case side2 => exact HC148_1.out); rintro e w26 ⟨rfl, hb⟩; refine ⟨_, rfl, ?_⟩; have n0_ := Aside0.mk (Kd.R_below (by (with_reducible repeat (first | apply Kd.R_alloc | apply Kd.R_drewN | apply Kd.R_drew)); exact HO152.out) hb); have n1_ := Aside0.mk (blk_below (g := gb147) (o := .cells #[.slice (some ad148) l0_0.length c0_0, .slice A0_1 l0_1.length c0_1] 80 (0, 0)) (by (with_reducible repeat (first | refine blk_drewN ?_ _ | refine blk_drew ?_ | refine blk_alloc ?_ _)); exact BK147.out) hb); have n2_ := Aside0.mk (blk_below (g := gb149) (o := .cells #[.string ((rd_T84 l0_0 x22_2).f0), .slice A148_1 ((rd_T84 l0_0 x22_2).f1).length c148_1, .int .u32 ((rd_T84 l0_0 x22_2).f2), .int .i64 ((rd_T84 l0_0 x22_2).f3), .int .i64 ((rd_T84 l0_0 x22_2).f4)] 84 (0, 0)) (by (with_reducible repeat (first | refine blk_drewN ?_ _ | refine blk_drew ?_ | refine blk_alloc ?_ _)); exact BK149.out) hb); have n3_ := Aside0.mk (below_step (by repeat (first | (with_reducible first | exact HB.out | apply below_alloc | apply pw_below_drewN | apply below_drew1 | refine below_set ?_ GE147.out | refine below_set ?_ GE149.out) | exact HB.out)) hb); clear HO152; clear BK147; clear BK149; clear HB; have HO152 := n0_; have BK147 := n1_; have BK149 := n2_; have HB := n3_; clear n0_ n1_ n2_ n3_; (try clear hb); (try clear hb2); (try clear hk); (try clear hi)))
           go_ret
           exact ⟨by first | rfl | (simp [errW_none, errW_some] <;> rfl) | (simp [*, errW_none, errW_some] <;> rfl), by repeat (first | (with_reducible first | exact HB.out | apply below_alloc | apply pw_below_drewN | apply below_drew1 | refine below_set ?_ GE147.out | refine below_set ?_ GE149.out) | exact HB.out)⟩
         ·rw [if_neg c12] at H
          exact absurd H (by simp)
        ·rw [if_neg c11] at H
         exact absurd H (by simp)
       ·rw [if_neg c10] at H
        exact absurd H (by simp)
      ·rw [if_neg c9] at H
       have c9b0 : decide (x22_2 < (l0_0.length : Int)) = false := decide_eq_false c9
       clear c9
       have H' := Aside0.mk H
       clear H
       have hcz27_0 : wr.cell? ⟨gb147, 0, none⟩ = some (.slice A0_0 l0_0.length c0_0) := (blk_cell BK147.out 0).trans rfl
       have hcz27_1 : wr.cell? ⟨gb147, 1, none⟩ = some (.slice A0_1 l0_1.length c0_1) := (blk_cell BK147.out 1).trans rfl
       have hfz27_0 := blk_frozen BK147.out 0
       have hfz27_1 := blk_frozen BK147.out 1
       go_wp2
       go_loopg [4, 38] k2 (fun kq v4 v38 w' => ∃ (x4_3 : List ByteArray) (x38_3 : Int), v38 = .int .i64 x38_3 ∧ Aside0 (schema_May.l1 kq x3_2 x4_3 l0_1 (l0_1.length : Int) x38_3 l0_0 l0_1 = some r) ∧ Aside0 (kq ≤ k2) ∧ Aside0 (Kd.R Kd.string 9 w' w.heap.size (fun k_ => some k_ ≠ (v4 : Value).ownBlock) u3 x3_2) ∧ Aside0 (Kd.R Kd.string 9 w' w.heap.size (fun k_ => some k_ ≠ (u3 : Value).ownBlock) v4 x4_3) ∧ Aside0 (w'.heap[gb147]? = some (.cells #[(.slice A0_0 l0_0.length c0_0), (.slice A0_1 l0_1.length c0_1)] 80 (0, 0))) ∧ Aside0 (Below w.heap.size w w'))
       case atStart => exact ⟨(([] : List ByteArray)), (0), (by first | rfl | (simp; done) | (simp [*]; done)), H', ⟨Nat.le_refl _⟩, ⟨by (with_reducible repeat (first | apply Kd.R_alloc | apply Kd.R_drewN | apply Kd.R_drew)); exact Kd.R_mono HO_3.out (fun _ hk => (by simp [Value.ownBlock]))⟩, ⟨by first | exact Kd.R_nil _ _ _ _ _ | exact Kd.N_nil _ _ _ _ _ | exact Kd.V_nil _ _ _ _ _ | exact Kd.Q_nil _ _ _ _ _ | exact Kd.S_nil _ _ _ _ _⟩, ⟨by (with_reducible repeat (first | refine blk_drewN ?_ _ | refine blk_drew ?_ | refine blk_alloc ?_ _)); exact BK147.out⟩, ⟨by repeat (first | (with_reducible first | exact HB.out | apply below_alloc | apply pw_below_drewN | apply below_drew1 | refine below_set ?_ GE147.out) | exact HB.out)⟩⟩
       case round =>
        clear H'
        try clear c1
        try clear p1
        try clear q1
        try clear hx1
        try clear c2
        try clear p2
        try clear c3
        try clear c4
        try clear c4b0
        try clear c4b1
        try clear p6
        try clear c7
        try clear c9
        try clear c9b0
        try clear c10
        try clear c10b0
        try clear c11
        try clear c11b0
        try clear c12
        try clear c14
        try clear p14
        try clear q14
        try clear hx14
        try clear c16
        try clear c22
        try clear hcz17_0
        try clear hcz17_1
        try clear hcz17_2
        try clear hcz17_3
        try clear hcz17_4
        try clear hcz19_0
        try clear hcz19_1
        try clear hcz19_2
        try clear hcz19_3
        try clear hcz19_4
        try clear hcz23_0
        try clear hcz23_1
        try clear hcz23_2
        try clear hcz23_3
        try clear hcz23_4
        try clear hcz25_0
        try clear hcz25_1
        try clear hcz25_2
        try clear hcz25_3
        try clear hcz25_4
        try clear hcz27_0
        try clear hcz27_1
        try clear hcz5_0
        try clear hcz5_1
        try clear hcz6_0
        try clear hcz6_1
        try clear hcz8_0
        try clear hcz8_1
        try clear hfz17_0
        try clear hfz17_1
        try clear hfz17_2
        try clear hfz17_3
        try clear hfz17_4
        try clear hfz19_0
        try clear hfz19_1
        try clear hfz19_2
        try clear hfz19_3
        try clear hfz19_4
        try clear hfz23_0
        try clear hfz23_1
        try clear hfz23_2
        try clear hfz23_3
        try clear hfz23_4
        try clear hfz25_0
        try clear hfz25_1
        try clear hfz25_2
        try clear hfz25_3
        try clear hfz25_4
        try clear hfz27_0
        try clear hfz27_1
        try clear hfz5_0
        try clear hfz5_1
        try clear hfz6_0
        try clear hfz6_1
        try clear hfz8_0
        try clear hfz8_1
        try clear hx148_0
        try clear hx148_1
        try clear hx148_2
        try clear hx148_3
        try clear hx148_4
        try clear p148
        try clear p2
        try clear q148
        obtain ⟨x4_3, x38_3, rfl, HA, HK3, HO_3, HO_4, BK147, HB⟩ := hrel
        cases gk with
        | zero => exact absurd HA.out (by simp [schema_May.l1])
        | succ k3 =>
         have H := HA.out
         clear HA
         simp only [schema_May.l1] at H
         by_cases c28 : x38_3 < (l0_1.length : Int)
         ·rw [if_pos c28] at H
          have c28b0 : decide (x38_3 < (l0_1.length : Int)) = true := decide_eq_true c28
          clear c28
          by_cases c29 : 0 ≤ x38_3
          ·rw [if_pos c29] at H
           have c29b0 : decide (0 ≤ x38_3) = true := decide_eq_true c29
           clear c29
           by_cases c30 : x38_3 < (l0_1.length : Int)
           ·rw [if_pos c30] at H
            have c30b0 : decide (x38_3 < (l0_1.length : Int)) = true := decide_eq_true c30
            clear c30
            by_cases c31 : x4_3.length < 8796093022208
            ·rw [if_pos c31] at H
             have LMc31 := Aside0.mk c31
             clear c31
             obtain ⟨y156, hy156⟩ : ∃ y_ : List ByteArray, y_ = (x4_3 ++ [(rd_T135 l0_1 x38_3).f0]) := ⟨_, rfl⟩
             replace H : ((schema_index.f k3 l0_0 l0_1 ((rd_T135 l0_1 x38_3).f0) ((rd_T135 l0_1 x38_3).f1) ((rd_T135 l0_1 x38_3).f2) ((rd_T135 l0_1 x38_3).f3) ((rd_T135 l0_1 x38_3).f4) ((rd_T135 l0_1 x38_3).f5) ((rd_T135 l0_1 x38_3).f6)).bind fun t159 => (if t159 = true then (schema_May.l1 k3 x3_2 y156 l0_1 (l0_1.length : Int) (wrap64 (x38_3 + 1)) l0_0 l0_1) else (some false))) = some r := by first | (rw [hy156]; with_reducible exact H) | (have H2_ := (Option.bind_some _ _).symm.trans H; rw [hy156]; with_reducible exact H2_) | (have H2_ := (Option.bind_some _ _).symm.trans H; with_reducible exact H2_) | with_reducible exact H | (rw [hy156]; exact H) | exact H
             have Ny156 := Aside0.mk hy156
             clear hy156
             replace H := Option.bind_eq_some_iff.mp H
             obtain ⟨t159, A320, H⟩ := H
             replace H : (if t159 = true then (schema_May.l1 k3 x3_2 y156 l0_1 (l0_1.length : Int) (wrap64 (x38_3 + 1)) l0_0 l0_1) else (some false)) = some r := H
             have A32 := Aside0.mk A320
             clear A320
             by_cases c33 : t159 = true
             ·subst c33
              have H1 : (schema_May.l1 k3 x3_2 y156 l0_1 (l0_1.length : Int) (wrap64 (x38_3 + 1)) l0_0 l0_1) = some r := by rw [if_pos rfl] at H; exact H
              clear H
              have H := H1
              clear H1
              have H' := Aside0.mk H
              clear H
              have p154 : 0 ≤ (x38_3 : Int) := of_decide_eq_true (by first | (with_reducible assumption) | assumption)
              have q154 : x38_3 < (l0_1.length : Int) := of_decide_eq_true (by first | (with_reducible assumption) | assumption)
              obtain ⟨ad154, A154_2, c154_2, A154_6, c154_6, e154, hx154_0, hx154_1, hx154_2, hx154_3, hx154_4, hx154_5, hx154_6, hl154_2, hi154_2, hl154_6, hi154_6⟩ := at_T135 HR0_1.out x38_3 p154 q154
              cases e154
              replace hx154_0 := (HB.out.cell (World.block_lt_of_cell? w _ hx154_0)).trans hx154_0
              replace hx154_1 := (HB.out.cell (World.block_lt_of_cell? w _ hx154_1)).trans hx154_1
              replace hx154_2 := (HB.out.cell (World.block_lt_of_cell? w _ hx154_2)).trans hx154_2
              replace hx154_3 := (HB.out.cell (World.block_lt_of_cell? w _ hx154_3)).trans hx154_3
              replace hx154_4 := (HB.out.cell (World.block_lt_of_cell? w _ hx154_4)).trans hx154_4
              replace hx154_5 := (HB.out.cell (World.block_lt_of_cell? w _ hx154_5)).trans hx154_5
              replace hx154_6 := (HB.out.cell (World.block_lt_of_cell? w _ hx154_6)).trans hx154_6
              have HR154_2 := Aside0.mk hi154_2
              have HC154_2 := Aside0.mk hl154_2
              clear hi154_2 hl154_2
              have HR154_6 := Aside0.mk hi154_6
              have HC154_6 := Aside0.mk hl154_6
              clear hi154_6 hl154_6
              replace p154 := eq_true p154
              have p154D := p154; try simp only [List.length_drop, List.length_take] at p154D
              replace q154 := eq_true q154
              have q154D := q154; try simp only [List.length_drop, List.length_take] at q154D
              go_wp2_with (first | ((with_reducible refine gate_dst (N := 8) rfl ?_); (try (refine gate_guard (by rfl) ?_; dsimp only)); refine box_event ?hg (N := 8) ?hd (cs := #[.string (⟨#[]⟩ : ByteArray), .int .i64 0, .slice none 0 0, .int .u32 0, .int .i64 0, .int .i64 0, .slice none 0 0]) (t := 135) ?hr ?_; (case hd => rfl); (case hg => rfl); (case hr => first | (go_simp; done) | (go_simp; rfl)); intro gb155 hg w34 hbox hb; have n0_ := Aside0.mk (Kd.R_below (by (with_reducible repeat (first | apply Kd.R_alloc | apply Kd.R_drewN | apply Kd.R_drew)); exact HO_3.out) hb); have n1_ := Aside0.mk (Kd.R_below (by (with_reducible repeat (first | apply Kd.R_alloc | apply Kd.R_drewN | apply Kd.R_drew)); exact HO_4.out) hb); have n2_ := Aside0.mk (blk_below (g := gb147) (o := .cells #[.slice A0_0 l0_0.length c0_0, .slice (some ad154) l0_1.length c0_1] 80 (0, 0)) (by (with_reducible repeat (first | refine blk_drewN ?_ _ | refine blk_drew ?_ | refine blk_alloc ?_ _)); exact BK147.out) hb); have n3_ := Aside0.mk (below_step (by repeat (first | (with_reducible first | exact HB.out | apply below_alloc | apply pw_below_drewN | apply below_drew1 | refine below_set ?_ GE147.out) | exact HB.out)) hb); have n4_ := Aside0.mk (hbox); have n5_ := Aside0.mk ((by rw [hg]; exact (below_size (by repeat (first | (with_reducible first | exact HB.out | apply below_alloc | apply pw_below_drewN | apply below_drew1 | refine below_set ?_ GE147.out) | exact HB.out))) : w.heap.size ≤ gb155)); have n6_ := Aside0.mk ((by rw [hg]; exact (below_size (by repeat (first | (with_reducible first | exact HB.out | apply below_alloc | apply pw_below_drewN | apply below_drew1 | refine below_set ?_ GE147.out) | exact HB.out))) : w.heap.size ≤ gb155)); have n7_ := Aside0.mk ((by rw [hg]; exact Nat.ne_of_lt (blk_lt (g := gb147) (o := .cells #[.slice A0_0 l0_0.length c0_0, .slice (some ad154) l0_1.length c0_1] 80 (0, 0)) (by (with_reducible repeat (first | refine blk_drewN ?_ _ | refine blk_drew ?_ | refine blk_alloc ?_ _)); exact BK147.out)) : gb147 ≠ gb155)); have n8_ := Aside0.mk ((by rw [hg]; exact Nat.ne_of_gt (blk_lt (g := gb147) (o := .cells #[.slice A0_0 l0_0.length c0_0, .slice (some ad154) l0_1.length c0_1] 80 (0, 0)) (by (with_reducible repeat (first | refine blk_drewN ?_ _ | refine blk_drew ?_ | refine blk_alloc ?_ _)); exact BK147.out)) : gb155 ≠ gb147)); clear HO_3; clear HO_4; clear BK147; clear HB; have HO_3 := n0_; have HO_4 := n1_; have BK147 := n2_; have HB := n3_; have BK155 := n4_; have GW155 := n5_; have GE155 := n6_; have NB147_155 := n7_; have NB155_147 := n8_; clear n0_ n1_ n2_ n3_ n4_ n5_ n6_ n7_ n8_; clear hb hbox hg; have hnb35 := NB155_147.out; have hnc35 := NB147_155.out; have hcz36_0 : w34.cell? ⟨gb155, 0, none⟩ = some (.string (⟨#[]⟩ : ByteArray)) := (blk_cell BK155.out 0).trans rfl; have hcz36_1 : w34.cell? ⟨gb155, 1, none⟩ = some (.int .i64 0) := (blk_cell BK155.out 1).trans rfl; have hcz36_2 : w34.cell? ⟨gb155, 2, none⟩ = some (.slice none 0 0) := (blk_cell BK155.out 2).trans rfl; have hcz36_3 : w34.cell? ⟨gb155, 3, none⟩ = some (.int .u32 0) := (blk_cell BK155.out 3).trans rfl; have hcz36_4 : w34.cell? ⟨gb155, 4, none⟩ = some (.int .i64 0) := (blk_cell BK155.out 4).trans rfl; have hcz36_5 : w34.cell? ⟨gb155, 5, none⟩ = some (.int .i64 0) := (blk_cell BK155.out 5).trans rfl; have hcz36_6 : w34.cell? ⟨gb155, 6, none⟩ = some (.slice none 0 0) := (blk_cell BK155.out 6).trans rfl; have hfz36_0 := blk_frozen BK155.out 0; have hfz36_1 := blk_frozen BK155.out 1; have hfz36_2 := blk_frozen BK155.out 2; have hfz36_3 := blk_frozen BK155.out 3; have hfz36_4 := blk_frozen BK155.out 4; have hfz36_5 := blk_frozen BK155.out 5; have hfz36_6 := blk_frozen BK155.out 6) | ((with_reducible refine gate_builtin (b := .append) (xs := #[.tmp 42, .tmp 45]) rfl ?_); (try (refine gate_guard (by rfl) ?_; dsimp only)); at_builtin; refine Kd.R_append Kd.string (w0 := w) w.heap.size rfl (.tmp 42) (.tmp 45) 29 9 (.string ⟨#[]⟩) 16 rfl Try.underlying29 info9 rfl (by decide) (by omega) u4 x4_3 ((rd_T135 l0_1 x38_3).f0) [.string ((rd_T135 l0_1 x38_3).f0)] (fun k_ => some k_ ≠ (u3 : Value).ownBlock) (fun _ => False) rfl (by first | (go_simp; done) | (go_simp; rfl)) ?aP (fun _ hk => hk.elim) ?aF ?aO ?aB ?aS ?aL ?_; (case aP => exact rfl); (case aB => exact (by repeat (first | (with_reducible first | exact HB.out | apply below_alloc | apply pw_below_drewN | apply below_drew1 | refine below_set ?_ GE147.out | refine below_set ?_ GE155.out) | exact HB.out))); (case aF => exact (fun k_ hk => Kd.fresh' (Kd.R_lt (by (with_reducible repeat (first | apply Kd.R_alloc | apply Kd.R_drewN | apply Kd.R_drew)); exact (Kd.R_mono (Kd.R_far (p := ⟨gb155, 6, none⟩) (Kd.R_far (p := ⟨gb155, 5, none⟩) (Kd.R_far (p := ⟨gb155, 4, none⟩) (Kd.R_far (p := ⟨gb155, 3, none⟩) (Kd.R_far (p := ⟨gb155, 2, none⟩) (Kd.R_far (p := ⟨gb155, 1, none⟩) (Kd.R_far (p := ⟨gb155, 0, none⟩) (Kd.R_types HO_3.out BK155.out (by decide)) (fun _ hk => hk.2) (.string ((rd_T135 l0_1 x38_3).f0))) (fun _ hk => hk.2) (.int .i64 ((rd_T135 l0_1 x38_3).f1))) (fun _ hk => hk.2) (.slice A154_2 ((rd_T135 l0_1 x38_3).f2).length c154_2)) (fun _ hk => hk.2) (.int .u32 ((rd_T135 l0_1 x38_3).f3))) (fun _ hk => hk.2) (.int .i64 ((rd_T135 l0_1 x38_3).f4))) (fun _ hk => hk.2) (.int .i64 ((rd_T135 l0_1 x38_3).f5))) (fun _ hk => hk.2) (.slice A154_6 ((rd_T135 l0_1 x38_3).f6).length c154_6)) (fun _ h_ => h_.1)))) k_ hk)); (case aO => exact (by (with_reducible repeat (first | apply Kd.R_alloc | apply Kd.R_drewN | apply Kd.R_drew)); exact Kd.R_mono (Kd.R_far (p := ⟨gb155, 6, none⟩) (Kd.R_far (p := ⟨gb155, 5, none⟩) (Kd.R_far (p := ⟨gb155, 4, none⟩) (Kd.R_far (p := ⟨gb155, 3, none⟩) (Kd.R_far (p := ⟨gb155, 2, none⟩) (Kd.R_far (p := ⟨gb155, 1, none⟩) (Kd.R_far (p := ⟨gb155, 0, none⟩) (Kd.R_types HO_4.out BK155.out (by decide)) (fun _ hk => hk.2) (.string ((rd_T135 l0_1 x38_3).f0))) (fun _ hk => hk.2) (.int .i64 ((rd_T135 l0_1 x38_3).f1))) (fun _ hk => hk.2) (.slice A154_2 ((rd_T135 l0_1 x38_3).f2).length c154_2)) (fun _ hk => hk.2) (.int .u32 ((rd_T135 l0_1 x38_3).f3))) (fun _ hk => hk.2) (.int .i64 ((rd_T135 l0_1 x38_3).f4))) (fun _ hk => hk.2) (.int .i64 ((rd_T135 l0_1 x38_3).f5))) (fun _ hk => hk.2) (.slice A154_6 ((rd_T135 l0_1 x38_3).f6).length c154_6)) (fun _ hk => hk.1))); (case aS => exact (below_size (by repeat (first | (with_reducible first | exact HB.out | apply below_alloc | apply pw_below_drewN | apply below_drew1 | refine below_set ?_ GE147.out | refine below_set ?_ GE155.out) | exact HB.out)))); (case aL => have := LMc31.out; omega); intro v157 w37 ho hb hg hat; rw [← Ny156.out] at ho; have n0_ := Aside0.mk (Kd.R_after (ok := (fun _ => True)) (by (with_reducible repeat (first | apply Kd.R_alloc | apply Kd.R_drewN | apply Kd.R_drew)); exact Kd.R_mono (Kd.R_far (p := ⟨gb155, 6, none⟩) (Kd.R_far (p := ⟨gb155, 5, none⟩) (Kd.R_far (p := ⟨gb155, 4, none⟩) (Kd.R_far (p := ⟨gb155, 3, none⟩) (Kd.R_far (p := ⟨gb155, 2, none⟩) (Kd.R_far (p := ⟨gb155, 1, none⟩) (Kd.R_far (p := ⟨gb155, 0, none⟩) (Kd.R_types HO_3.out BK155.out (by decide)) (fun _ hk => hk.2) (.string ((rd_T135 l0_1 x38_3).f0))) (fun _ hk => hk.2) (.int .i64 ((rd_T135 l0_1 x38_3).f1))) (fun _ hk => hk.2) (.slice A154_2 ((rd_T135 l0_1 x38_3).f2).length c154_2)) (fun _ hk => hk.2) (.int .u32 ((rd_T135 l0_1 x38_3).f3))) (fun _ hk => hk.2) (.int .i64 ((rd_T135 l0_1 x38_3).f4))) (fun _ hk => hk.2) (.int .i64 ((rd_T135 l0_1 x38_3).f5))) (fun _ hk => hk.2) (.slice A154_6 ((rd_T135 l0_1 x38_3).f6).length c154_6)) (fun _ hk => ⟨trivial, hk.1⟩)) hg hat); have n1_ := Aside0.mk (blk_grown (g := gb147) (o := .cells #[.slice A0_0 l0_0.length c0_0, .slice (some ad154) l0_1.length c0_1] 80 (0, 0)) (by (with_reducible repeat (first | refine blk_drewN ?_ _ | refine blk_drew ?_ | refine blk_alloc ?_ _)); refine blk_far ?_ NB147_155.out _; (with_reducible repeat (first | refine blk_drewN ?_ _ | refine blk_drew ?_ | refine blk_alloc ?_ _)); refine blk_far ?_ NB147_155.out _; (with_reducible repeat (first | refine blk_drewN ?_ _ | refine blk_drew ?_ | refine blk_alloc ?_ _)); refine blk_far ?_ NB147_155.out _; (with_reducible repeat (first | refine blk_drewN ?_ _ | refine blk_drew ?_ | refine blk_alloc ?_ _)); refine blk_far ?_ NB147_155.out _; (with_reducible repeat (first | refine blk_drewN ?_ _ | refine blk_drew ?_ | refine blk_alloc ?_ _)); refine blk_far ?_ NB147_155.out _; (with_reducible repeat (first | refine blk_drewN ?_ _ | refine blk_drew ?_ | refine blk_alloc ?_ _)); refine blk_far ?_ NB147_155.out _; (with_reducible repeat (first | refine blk_drewN ?_ _ | refine blk_drew ?_ | refine blk_alloc ?_ _)); refine blk_far ?_ NB147_155.out _; (with_reducible repeat (first | refine blk_drewN ?_ _ | refine blk_drew ?_ | refine blk_alloc ?_ _)); exact BK147.out) hg (Kd.R_ne HO_4.out BK147.out (by decide))); have n2_ := Aside0.mk (blk_grown (g := gb155) (o := .cells #[.string ((rd_T135 l0_1 x38_3).f0), .int .i64 ((rd_T135 l0_1 x38_3).f1), .slice A154_2 ((rd_T135 l0_1 x38_3).f2).length c154_2, .int .u32 ((rd_T135 l0_1 x38_3).f3), .int .i64 ((rd_T135 l0_1 x38_3).f4), .int .i64 ((rd_T135 l0_1 x38_3).f5), .slice A154_6 ((rd_T135 l0_1 x38_3).f6).length c154_6] 135 (0, 0)) (by (with_reducible repeat (first | refine blk_drewN ?_ _ | refine blk_drew ?_ | refine blk_alloc ?_ _)); refine blk_put (cs := #[.string ((rd_T135 l0_1 x38_3).f0), .int .i64 ((rd_T135 l0_1 x38_3).f1), .slice A154_2 ((rd_T135 l0_1 x38_3).f2).length c154_2, .int .u32 ((rd_T135 l0_1 x38_3).f3), .int .i64 ((rd_T135 l0_1 x38_3).f4), .int .i64 ((rd_T135 l0_1 x38_3).f5), .slice none 0 0]) ?_ 6 _ rfl; (with_reducible repeat (first | refine blk_drewN ?_ _ | refine blk_drew ?_ | refine blk_alloc ?_ _)); refine blk_put (cs := #[.string ((rd_T135 l0_1 x38_3).f0), .int .i64 ((rd_T135 l0_1 x38_3).f1), .slice A154_2 ((rd_T135 l0_1 x38_3).f2).length c154_2, .int .u32 ((rd_T135 l0_1 x38_3).f3), .int .i64 ((rd_T135 l0_1 x38_3).f4), .int .i64 0, .slice none 0 0]) ?_ 5 _ rfl; (with_reducible repeat (first | refine blk_drewN ?_ _ | refine blk_drew ?_ | refine blk_alloc ?_ _)); refine blk_put (cs := #[.string ((rd_T135 l0_1 x38_3).f0), .int .i64 ((rd_T135 l0_1 x38_3).f1), .slice A154_2 ((rd_T135 l0_1 x38_3).f2).length c154_2, .int .u32 ((rd_T135 l0_1 x38_3).f3), .int .i64 0, .int .i64 0, .slice none 0 0]) ?_ 4 _ rfl; (with_reducible repeat (first | refine blk_drewN ?_ _ | refine blk_drew ?_ | refine blk_alloc ?_ _)); refine blk_put (cs := #[.string ((rd_T135 l0_1 x38_3).f0), .int .i64 ((rd_T135 l0_1 x38_3).f1), .slice A154_2 ((rd_T135 l0_1 x38_3).f2).length c154_2, .int .u32 0, .int .i64 0, .int .i64 0, .slice none 0 0]) ?_ 3 _ rfl; (with_reducible repeat (first | refine blk_drewN ?_ _ | refine blk_drew ?_ | refine blk_alloc ?_ _)); refine blk_put (cs := #[.string ((rd_T135 l0_1 x38_3).f0), .int .i64 ((rd_T135 l0_1 x38_3).f1), .slice none 0 0, .int .u32 0, .int .i64 0, .int .i64 0, .slice none 0 0]) ?_ 2 _ rfl; (with_reducible repeat (first | refine blk_drewN ?_ _ | refine blk_drew ?_ | refine blk_alloc ?_ _)); refine blk_put (cs := #[.string ((rd_T135 l0_1 x38_3).f0), .int .i64 0, .slice none 0 0, .int .u32 0, .int .i64 0, .int .i64 0, .slice none 0 0]) ?_ 1 _ rfl; (with_reducible repeat (first | refine blk_drewN ?_ _ | refine blk_drew ?_ | refine blk_alloc ?_ _)); refine blk_put (cs := #[.string (⟨#[]⟩ : ByteArray), .int .i64 0, .slice none 0 0, .int .u32 0, .int .i64 0, .int .i64 0, .slice none 0 0]) ?_ 0 _ rfl; (with_reducible repeat (first | refine blk_drewN ?_ _ | refine blk_drew ?_ | refine blk_alloc ?_ _)); exact BK155.out) hg (Kd.R_ne HO_4.out BK155.out (by decide))); have n3_ := Aside0.mk (hb); have n4_ := Aside0.mk (ho); clear HO_3; clear BK147; clear BK155; clear HB; clear HO_4; have HO_3 := n0_; have BK147 := n1_; have BK155 := n2_; have HB := n3_; have HO158 := n4_; clear n0_ n1_ n2_ n3_ n4_; clear ho hb hg hat; have hcz38_0 : w37.cell? ⟨gb147, 0, none⟩ = some (.slice A0_0 l0_0.length c0_0) := (blk_cell BK147.out 0).trans rfl; have hcz38_1 : w37.cell? ⟨gb147, 1, none⟩ = some (.slice (some ad154) l0_1.length c0_1) := (blk_cell BK147.out 1).trans rfl; have hfz38_0 := blk_frozen BK147.out 0; have hfz38_1 := blk_frozen BK147.out 1; have hcz39_0 : w37.cell? ⟨gb155, 0, none⟩ = some (.string ((rd_T135 l0_1 x38_3).f0)) := (blk_cell BK155.out 0).trans rfl; have hcz39_1 : w37.cell? ⟨gb155, 1, none⟩ = some (.int .i64 ((rd_T135 l0_1 x38_3).f1)) := (blk_cell BK155.out 1).trans rfl; have hcz39_2 : w37.cell? ⟨gb155, 2, none⟩ = some (.slice A154_2 ((rd_T135 l0_1 x38_3).f2).length c154_2) := (blk_cell BK155.out 2).trans rfl; have hcz39_3 : w37.cell? ⟨gb155, 3, none⟩ = some (.int .u32 ((rd_T135 l0_1 x38_3).f3)) := (blk_cell BK155.out 3).trans rfl; have hcz39_4 : w37.cell? ⟨gb155, 4, none⟩ = some (.int .i64 ((rd_T135 l0_1 x38_3).f4)) := (blk_cell BK155.out 4).trans rfl; have hcz39_5 : w37.cell? ⟨gb155, 5, none⟩ = some (.int .i64 ((rd_T135 l0_1 x38_3).f5)) := (blk_cell BK155.out 5).trans rfl; have hcz39_6 : w37.cell? ⟨gb155, 6, none⟩ = some (.slice A154_6 ((rd_T135 l0_1 x38_3).f6).length c154_6) := (blk_cell BK155.out 6).trans rfl; have hfz39_0 := blk_frozen BK155.out 0; have hfz39_1 := blk_frozen BK155.out 1; have hfz39_2 := blk_frozen BK155.out 2; have hfz39_3 := blk_frozen BK155.out 3; have hfz39_4 := blk_frozen BK155.out 4; have hfz39_5 := blk_frozen BK155.out 5; have hfz39_6 := blk_frozen BK155.out 6) | ((with_reducible refine gate_callee (f := 72) rfl ?_); refine goesL_ (some 49) rfl rfl Try.func72 (by kernel_rfl) rfl #[.agg #[.slice A0_0 l0_0.length c0_0, .slice (some ad154) l0_1.length c0_1], .agg #[.string ((rd_T135 l0_1 x38_3).f0), .int .i64 ((rd_T135 l0_1 x38_3).f1), .slice A154_2 ((rd_T135 l0_1 x38_3).f2).length c154_2, .int .u32 ((rd_T135 l0_1 x38_3).f3), .int .i64 ((rd_T135 l0_1 x38_3).f4), .int .i64 ((rd_T135 l0_1 x38_3).f5), .slice A154_6 ((rd_T135 l0_1 x38_3).f6).length c154_6]] rfl (by (try simp only [List.map_toArray, List.map_cons, List.map_nil]); first | done | rfl | (simp only [List.length_drop, List.length_take]; rfl)) ?_; (with_reducible refine (schema_index.calls k3 _ _ l0_0 _ _ l0_1 ((rd_T135 l0_1 x38_3).f0) ((rd_T135 l0_1 x38_3).f1) _ _ ((rd_T135 l0_1 x38_3).f2) ((rd_T135 l0_1 x38_3).f3) ((rd_T135 l0_1 x38_3).f4) ((rd_T135 l0_1 x38_3).f5) _ _ ((rd_T135 l0_1 x38_3).f6) true _ ?side1 ?side2 ?side3 ?side4 ?side5 ?side6 ?side7 ?side8 A32.out).mono ?_); (case side1 => repeat (first | exact (Kd.C_below HR0_0.out HB.out) | (with_reducible refine Kd.C_alloc ?_ _) | (with_reducible refine Kd.C_drewN ?_ _) | (with_reducible refine Kd.C_drew ?_))); (case side2 => exact HC0_0.out); (case side3 => repeat (first | exact (Kd.C_below HR0_1.out HB.out) | (with_reducible refine Kd.C_alloc ?_ _) | (with_reducible refine Kd.C_drewN ?_ _) | (with_reducible refine Kd.C_drew ?_))); (case side4 => exact HC0_1.out); (case side5 => repeat (first | exact (Kd.C_below HR154_2.out HB.out) | (with_reducible refine Kd.C_alloc ?_ _) | (with_reducible refine Kd.C_drewN ?_ _) | (with_reducible refine Kd.C_drew ?_))); (case side6 => exact HC154_2.out); (case side7 => repeat (first | exact (Kd.C_below HR154_6.out HB.out) | (with_reducible refine Kd.C_alloc ?_ _) | (with_reducible refine Kd.C_drewN ?_ _) | (with_reducible refine Kd.C_drew ?_))); (case side8 => exact HC154_6.out); rintro e w40 ⟨rfl, hb⟩; refine ⟨_, rfl, ?_⟩; have n0_ := Aside0.mk (Kd.R_below (by (with_reducible repeat (first | apply Kd.R_alloc | apply Kd.R_drewN | apply Kd.R_drew)); exact HO_3.out) hb); have n1_ := Aside0.mk (Kd.R_below (by (with_reducible repeat (first | apply Kd.R_alloc | apply Kd.R_drewN | apply Kd.R_drew)); exact HO158.out) hb); have n2_ := Aside0.mk (blk_below (g := gb147) (o := .cells #[.slice A0_0 l0_0.length c0_0, .slice (some ad154) l0_1.length c0_1] 80 (0, 0)) (by (with_reducible repeat (first | refine blk_drewN ?_ _ | refine blk_drew ?_ | refine blk_alloc ?_ _)); exact BK147.out) hb); have n3_ := Aside0.mk (blk_below (g := gb155) (o := .cells #[.string ((rd_T135 l0_1 x38_3).f0), .int .i64 ((rd_T135 l0_1 x38_3).f1), .slice A154_2 ((rd_T135 l0_1 x38_3).f2).length c154_2, .int .u32 ((rd_T135 l0_1 x38_3).f3), .int .i64 ((rd_T135 l0_1 x38_3).f4), .int .i64 ((rd_T135 l0_1 x38_3).f5), .slice A154_6 ((rd_T135 l0_1 x38_3).f6).length c154_6] 135 (0, 0)) (by (with_reducible repeat (first | refine blk_drewN ?_ _ | refine blk_drew ?_ | refine blk_alloc ?_ _)); exact BK155.out) hb); have n4_ := Aside0.mk (below_step (by repeat (first | (with_reducible first | exact HB.out | apply below_alloc | apply pw_below_drewN | apply below_drew1 | refine below_set ?_ GE147.out | refine below_set ?_ GE155.out) | exact HB.out)) hb); clear HO_3; clear HO158; clear BK147; clear BK155; clear HB; have HO_3 := n0_; have HO158 := n1_; have BK147 := n2_; have BK155 := n3_; have HB := n4_; clear n0_ n1_ n2_ n3_ n4_; (try clear hb); (try clear hb2); (try clear hk); (try clear hi)))
              go_roundg k3
              case measure => have := HJ1.out; have := HK2.out; have := HK3.out; omega
              case rel => exact ⟨(y156), (wrap64 (x38_3 + 1)), (by first | rfl | (simp; done) | (simp [*]; done)), H', ⟨by have := HJ1.out; have := HK2.out; have := HK3.out; omega⟩, ⟨by (with_reducible repeat (first | apply Kd.R_alloc | apply Kd.R_drewN | apply Kd.R_drew)); exact Kd.R_mono HO_3.out (fun _ hk => hk.2)⟩, ⟨by (with_reducible repeat (first | apply Kd.R_alloc | apply Kd.R_drewN | apply Kd.R_drew)); exact HO158.out⟩, ⟨by (with_reducible repeat (first | refine blk_drewN ?_ _ | refine blk_drew ?_ | refine blk_alloc ?_ _)); exact BK147.out⟩, ⟨by repeat (first | (with_reducible first | exact HB.out | apply below_alloc | apply pw_below_drewN | apply below_drew1 | refine below_set ?_ GE147.out | refine below_set ?_ GE155.out) | exact HB.out)⟩⟩
             ·replace c33 := Bool.eq_false_iff.mpr c33
              subst c33
              have H1 : (some false) = some r := by rw [if_neg (show ¬ (false = true) by decide)] at H; exact H
              clear H
              have H := H1
              clear H1
              obtain rfl := Option.some.inj H
              have p154 : 0 ≤ (x38_3 : Int) := of_decide_eq_true (by first | (with_reducible assumption) | assumption)
              have q154 : x38_3 < (l0_1.length : Int) := of_decide_eq_true (by first | (with_reducible assumption) | assumption)
              obtain ⟨ad154, A154_2, c154_2, A154_6, c154_6, e154, hx154_0, hx154_1, hx154_2, hx154_3, hx154_4, hx154_5, hx154_6, hl154_2, hi154_2, hl154_6, hi154_6⟩ := at_T135 HR0_1.out x38_3 p154 q154
              cases e154
              replace hx154_0 := (HB.out.cell (World.block_lt_of_cell? w _ hx154_0)).trans hx154_0
              replace hx154_1 := (HB.out.cell (World.block_lt_of_cell? w _ hx154_1)).trans hx154_1
              replace hx154_2 := (HB.out.cell (World.block_lt_of_cell? w _ hx154_2)).trans hx154_2
              replace hx154_3 := (HB.out.cell (World.block_lt_of_cell? w _ hx154_3)).trans hx154_3
              replace hx154_4 := (HB.out.cell (World.block_lt_of_cell? w _ hx154_4)).trans hx154_4
              replace hx154_5 := (HB.out.cell (World.block_lt_of_cell? w _ hx154_5)).trans hx154_5
              replace hx154_6 := (HB.out.cell (World.block_lt_of_cell? w _ hx154_6)).trans hx154_6
              have HR154_2 := Aside0.mk hi154_2
              have HC154_2 := Aside0.mk hl154_2
              clear hi154_2 hl154_2
              have HR154_6 := Aside0.mk hi154_6
              have HC154_6 := Aside0.mk hl154_6
              clear hi154_6 hl154_6
              replace p154 := eq_true p154
              have p154D := p154; try simp only [List.length_drop, List.length_take] at p154D
              replace q154 := eq_true q154
              have q154D := q154; try simp only [List.length_drop, List.length_take] at q154D
              go_wp2_with (first | ((with_reducible refine gate_dst (N := 8) rfl ?_); (try (refine gate_guard (by rfl) ?_; dsimp only)); refine box_event ?hg (N := 8) ?hd (cs := #[.string (⟨#[]⟩ : ByteArray), .int .i64 0, .slice none 0 0, .int .u32 0, .int .i64 0, .int .i64 0, .slice none 0 0]) (t := 135) ?hr ?_; (case hd => rfl); (case hg => rfl); (case hr => first | (go_simp; done) | (go_simp; rfl)); intro gb155 hg w41 hbox hb; have n0_ := Aside0.mk (Kd.R_below (by (with_reducible repeat (first | apply Kd.R_alloc | apply Kd.R_drewN | apply Kd.R_drew)); exact HO_3.out) hb); have n1_ := Aside0.mk (Kd.R_below (by (with_reducible repeat (first | apply Kd.R_alloc | apply Kd.R_drewN | apply Kd.R_drew)); exact HO_4.out) hb); have n2_ := Aside0.mk (blk_below (g := gb147) (o := .cells #[.slice A0_0 l0_0.length c0_0, .slice (some ad154) l0_1.length c0_1] 80 (0, 0)) (by (with_reducible repeat (first | refine blk_drewN ?_ _ | refine blk_drew ?_ | refine blk_alloc ?_ _)); exact BK147.out) hb); have n3_ := Aside0.mk (below_step (by repeat (first | (with_reducible first | exact HB.out | apply below_alloc | apply pw_below_drewN | apply below_drew1 | refine below_set ?_ GE147.out) | exact HB.out)) hb); have n4_ := Aside0.mk (hbox); have n5_ := Aside0.mk ((by rw [hg]; exact (below_size (by repeat (first | (with_reducible first | exact HB.out | apply below_alloc | apply pw_below_drewN | apply below_drew1 | refine below_set ?_ GE147.out) | exact HB.out))) : w.heap.size ≤ gb155)); have n6_ := Aside0.mk ((by rw [hg]; exact (below_size (by repeat (first | (with_reducible first | exact HB.out | apply below_alloc | apply pw_below_drewN | apply below_drew1 | refine below_set ?_ GE147.out) | exact HB.out))) : w.heap.size ≤ gb155)); have n7_ := Aside0.mk ((by rw [hg]; exact Nat.ne_of_lt (blk_lt (g := gb147) (o := .cells #[.slice A0_0 l0_0.length c0_0, .slice (some ad154) l0_1.length c0_1] 80 (0, 0)) (by (with_reducible repeat (first | refine blk_drewN ?_ _ | refine blk_drew ?_ | refine blk_alloc ?_ _)); exact BK147.out)) : gb147 ≠ gb155)); have n8_ := Aside0.mk ((by rw [hg]; exact Nat.ne_of_gt (blk_lt (g := gb147) (o := .cells #[.slice A0_0 l0_0.length c0_0, .slice (some ad154) l0_1.length c0_1] 80 (0, 0)) (by (with_reducible repeat (first | refine blk_drewN ?_ _ | refine blk_drew ?_ | refine blk_alloc ?_ _)); exact BK147.out)) : gb155 ≠ gb147)); clear HO_3; clear HO_4; clear BK147; clear HB; have HO_3 := n0_; have HO_4 := n1_; have BK147 := n2_; have HB := n3_; have BK155 := n4_; have GW155 := n5_; have GE155 := n6_; have NB147_155 := n7_; have NB155_147 := n8_; clear n0_ n1_ n2_ n3_ n4_ n5_ n6_ n7_ n8_; clear hb hbox hg; have hnb42 := NB155_147.out; have hnc42 := NB147_155.out; have hcz43_0 : w41.cell? ⟨gb155, 0, none⟩ = some (.string (⟨#[]⟩ : ByteArray)) := (blk_cell BK155.out 0).trans rfl; have hcz43_1 : w41.cell? ⟨gb155, 1, none⟩ = some (.int .i64 0) := (blk_cell BK155.out 1).trans rfl; have hcz43_2 : w41.cell? ⟨gb155, 2, none⟩ = some (.slice none 0 0) := (blk_cell BK155.out 2).trans rfl; have hcz43_3 : w41.cell? ⟨gb155, 3, none⟩ = some (.int .u32 0) := (blk_cell BK155.out 3).trans rfl; have hcz43_4 : w41.cell? ⟨gb155, 4, none⟩ = some (.int .i64 0) := (blk_cell BK155.out 4).trans rfl; have hcz43_5 : w41.cell? ⟨gb155, 5, none⟩ = some (.int .i64 0) := (blk_cell BK155.out 5).trans rfl; have hcz43_6 : w41.cell? ⟨gb155, 6, none⟩ = some (.slice none 0 0) := (blk_cell BK155.out 6).trans rfl; have hfz43_0 := blk_frozen BK155.out 0; have hfz43_1 := blk_frozen BK155.out 1; have hfz43_2 := blk_frozen BK155.out 2; have hfz43_3 := blk_frozen BK155.out 3; have hfz43_4 := blk_frozen BK155.out 4; have hfz43_5 := blk_frozen BK155.out 5; have hfz43_6 := blk_frozen BK155.out 6) | ((with_reducible refine gate_builtin (b := .append) (xs := #[.tmp 42, .tmp 45]) rfl ?_); (try (refine gate_guard (by rfl) ?_; dsimp only)); at_builtin; refine Kd.R_append Kd.string (w0 := w) w.heap.size rfl (.tmp 42) (.tmp 45) 29 9 (.string ⟨#[]⟩) 16 rfl Try.underlying29 info9 rfl (by decide) (by omega) u4 x4_3 ((rd_T135 l0_1 x38_3).f0) [.string ((rd_T135 l0_1 x38_3).f0)] (fun k_ => some k_ ≠ (u3 : Value).ownBlock) (fun _ => False) rfl (by first | (go_simp; done) | (go_simp; rfl)) ?aP (fun _ hk => hk.elim) ?aF ?aO ?aB ?aS ?aL ?_; (case aP => exact rfl); (case aB => exact (by repeat (first | (with_reducible first | exact HB.out | apply below_alloc | apply pw_below_drewN | apply below_drew1 | refine below_set ?_ GE147.out | refine below_set ?_ GE155.out) | exact HB.out))); (case aF => exact (fun k_ hk => Kd.fresh' (Kd.R_lt (by (with_reducible repeat (first | apply Kd.R_alloc | apply Kd.R_drewN | apply Kd.R_drew)); exact (Kd.R_mono (Kd.R_far (p := ⟨gb155, 6, none⟩) (Kd.R_far (p := ⟨gb155, 5, none⟩) (Kd.R_far (p := ⟨gb155, 4, none⟩) (Kd.R_far (p := ⟨gb155, 3, none⟩) (Kd.R_far (p := ⟨gb155, 2, none⟩) (Kd.R_far (p := ⟨gb155, 1, none⟩) (Kd.R_far (p := ⟨gb155, 0, none⟩) (Kd.R_types HO_3.out BK155.out (by decide)) (fun _ hk => hk.2) (.string ((rd_T135 l0_1 x38_3).f0))) (fun _ hk => hk.2) (.int .i64 ((rd_T135 l0_1 x38_3).f1))) (fun _ hk => hk.2) (.slice A154_2 ((rd_T135 l0_1 x38_3).f2).length c154_2)) (fun _ hk => hk.2) (.int .u32 ((rd_T135 l0_1 x38_3).f3))) (fun _ hk => hk.2) (.int .i64 ((rd_T135 l0_1 x38_3).f4))) (fun _ hk => hk.2) (.int .i64 ((rd_T135 l0_1 x38_3).f5))) (fun _ hk => hk.2) (.slice A154_6 ((rd_T135 l0_1 x38_3).f6).length c154_6)) (fun _ h_ => h_.1)))) k_ hk)); (case aO => exact (by (with_reducible repeat (first | apply Kd.R_alloc | apply Kd.R_drewN | apply Kd.R_drew)); exact Kd.R_mono (Kd.R_far (p := ⟨gb155, 6, none⟩) (Kd.R_far (p := ⟨gb155, 5, none⟩) (Kd.R_far (p := ⟨gb155, 4, none⟩) (Kd.R_far (p := ⟨gb155, 3, none⟩) (Kd.R_far (p := ⟨gb155, 2, none⟩) (Kd.R_far (p := ⟨gb155, 1, none⟩) (Kd.R_far (p := ⟨gb155, 0, none⟩) (Kd.R_types HO_4.out BK155.out (by decide)) (fun _ hk => hk.2) (.string ((rd_T135 l0_1 x38_3).f0))) (fun _ hk => hk.2) (.int .i64 ((rd_T135 l0_1 x38_3).f1))) (fun _ hk => hk.2) (.slice A154_2 ((rd_T135 l0_1 x38_3).f2).length c154_2)) (fun _ hk => hk.2) (.int .u32 ((rd_T135 l0_1 x38_3).f3))) (fun _ hk => hk.2) (.int .i64 ((rd_T135 l0_1 x38_3).f4))) (fun _ hk => hk.2) (.int .i64 ((rd_T135 l0_1 x38_3).f5))) (fun _ hk => hk.2) (.slice A154_6 ((rd_T135 l0_1 x38_3).f6).length c154_6)) (fun _ hk => hk.1))); (case aS => exact (below_size (by repeat (first | (with_reducible first | exact HB.out | apply below_alloc | apply pw_below_drewN | apply below_drew1 | refine below_set ?_ GE147.out | refine below_set ?_ GE155.out) | exact HB.out)))); (case aL => have := LMc31.out; omega); intro v157 w44 ho hb hg hat; rw [← Ny156.out] at ho; have n0_ := Aside0.mk (Kd.R_after (ok := (fun _ => True)) (by (with_reducible repeat (first | apply Kd.R_alloc | apply Kd.R_drewN | apply Kd.R_drew)); exact Kd.R_mono (Kd.R_far (p := ⟨gb155, 6, none⟩) (Kd.R_far (p := ⟨gb155, 5, none⟩) (Kd.R_far (p := ⟨gb155, 4, none⟩) (Kd.R_far (p := ⟨gb155, 3, none⟩) (Kd.R_far (p := ⟨gb155, 2, none⟩) (Kd.R_far (p := ⟨gb155, 1, none⟩) (Kd.R_far (p := ⟨gb155, 0, none⟩) (Kd.R_types HO_3.out BK155.out (by decide)) (fun _ hk => hk.2) (.string ((rd_T135 l0_1 x38_3).f0))) (fun _ hk => hk.2) (.int .i64 ((rd_T135 l0_1 x38_3).f1))) (fun _ hk => hk.2) (.slice A154_2 ((rd_T135 l0_1 x38_3).f2).length c154_2)) (fun _ hk => hk.2) (.int .u32 ((rd_T135 l0_1 x38_3).f3))) (fun _ hk => hk.2) (.int .i64 ((rd_T135 l0_1 x38_3).f4))) (fun _ hk => hk.2) (.int .i64 ((rd_T135 l0_1 x38_3).f5))) (fun _ hk => hk.2) (.slice A154_6 ((rd_T135 l0_1 x38_3).f6).length c154_6)) (fun _ hk => ⟨trivial, hk.1⟩)) hg hat); have n1_ := Aside0.mk (blk_grown (g := gb147) (o := .cells #[.slice A0_0 l0_0.length c0_0, .slice (some ad154) l0_1.length c0_1] 80 (0, 0)) (by (with_reducible repeat (first | refine blk_drewN ?_ _ | refine blk_drew ?_ | refine blk_alloc ?_ _)); refine blk_far ?_ NB147_155.out _; (with_reducible repeat (first | refine blk_drewN ?_ _ | refine blk_drew ?_ | refine blk_alloc ?_ _)); refine blk_far ?_ NB147_155.out _; (with_reducible repeat (first | refine blk_drewN ?_ _ | refine blk_drew ?_ | refine blk_alloc ?_ _)); refine blk_far ?_ NB147_155.out _; (with_reducible repeat (first | refine blk_drewN ?_ _ | refine blk_drew ?_ | refine blk_alloc ?_ _)); refine blk_far ?_ NB147_155.out _; (with_reducible repeat (first | refine blk_drewN ?_ _ | refine blk_drew ?_ | refine blk_alloc ?_ _)); refine blk_far ?_ NB147_155.out _; (with_reducible repeat (first | refine blk_drewN ?_ _ | refine blk_drew ?_ | refine blk_alloc ?_ _)); refine blk_far ?_ NB147_155.out _; (with_reducible repeat (first | refine blk_drewN ?_ _ | refine blk_drew ?_ | refine blk_alloc ?_ _)); refine blk_far ?_ NB147_155.out _; (with_reducible repeat (first | refine blk_drewN ?_ _ | refine blk_drew ?_ | refine blk_alloc ?_ _)); exact BK147.out) hg (Kd.R_ne HO_4.out BK147.out (by decide))); have n2_ := Aside0.mk (blk_grown (g := gb155) (o := .cells #[.string ((rd_T135 l0_1 x38_3).f0), .int .i64 ((rd_T135 l0_1 x38_3).f1), .slice A154_2 ((rd_T135 l0_1 x38_3).f2).length c154_2, .int .u32 ((rd_T135 l0_1 x38_3).f3), .int .i64 ((rd_T135 l0_1 x38_3).f4), .int .i64 ((rd_T135 l0_1 x38_3).f5), .slice A154_6 ((rd_T135 l0_1 x38_3).f6).length c154_6] 135 (0, 0)) (by (with_reducible repeat (first | refine blk_drewN ?_ _ | refine blk_drew ?_ | refine blk_alloc ?_ _)); refine blk_put (cs := #[.string ((rd_T135 l0_1 x38_3).f0), .int .i64 ((rd_T135 l0_1 x38_3).f1), .slice A154_2 ((rd_T135 l0_1 x38_3).f2).length c154_2, .int .u32 ((rd_T135 l0_1 x38_3).f3), .int .i64 ((rd_T135 l0_1 x38_3).f4), .int .i64 ((rd_T135 l0_1 x38_3).f5), .slice none 0 0]) ?_ 6 _ rfl; (with_reducible repeat (first | refine blk_drewN ?_ _ | refine blk_drew ?_ | refine blk_alloc ?_ _)); refine blk_put (cs := #[.string ((rd_T135 l0_1 x38_3).f0), .int .i64 ((rd_T135 l0_1 x38_3).f1), .slice A154_2 ((rd_T135 l0_1 x38_3).f2).length c154_2, .int .u32 ((rd_T135 l0_1 x38_3).f3), .int .i64 ((rd_T135 l0_1 x38_3).f4), .int .i64 0, .slice none 0 0]) ?_ 5 _ rfl; (with_reducible repeat (first | refine blk_drewN ?_ _ | refine blk_drew ?_ | refine blk_alloc ?_ _)); refine blk_put (cs := #[.string ((rd_T135 l0_1 x38_3).f0), .int .i64 ((rd_T135 l0_1 x38_3).f1), .slice A154_2 ((rd_T135 l0_1 x38_3).f2).length c154_2, .int .u32 ((rd_T135 l0_1 x38_3).f3), .int .i64 0, .int .i64 0, .slice none 0 0]) ?_ 4 _ rfl; (with_reducible repeat (first | refine blk_drewN ?_ _ | refine blk_drew ?_ | refine blk_alloc ?_ _)); refine blk_put (cs := #[.string ((rd_T135 l0_1 x38_3).f0), .int .i64 ((rd_T135 l0_1 x38_3).f1), .slice A154_2 ((rd_T135 l0_1 x38_3).f2).length c154_2, .int .u32 0, .int .i64 0, .int .i64 0, .slice none 0 0]) ?_ 3 _ rfl; (with_reducible repeat (first | refine blk_drewN ?_ _ | refine blk_drew ?_ | refine blk_alloc ?_ _)); refine blk_put (cs := #[.string ((rd_T135 l0_1 x38_3).f0), .int .i64 ((rd_T135 l0_1 x38_3).f1), .slice none 0 0, .int .u32 0, .int .i64 0, .int .i64 0, .slice none 0 0]) ?_ 2 _ rfl; (with_reducible repeat (first | refine blk_drewN ?_ _ | refine blk_drew ?_ | refine blk_alloc ?_ _)); refine blk_put (cs := #[.string ((rd_T135 l0_1 x38_3).f0), .int .i64 0, .slice none 0 0, .int .u32 0, .int .i64 0, .int .i64 0, .slice none 0 0]) ?_ 1 _ rfl; (with_reducible repeat (first | refine blk_drewN ?_ _ | refine blk_drew ?_ | refine blk_alloc ?_ _)); refine blk_put (cs := #[.string (⟨#[]⟩ : ByteArray), .int .i64 0, .slice none 0 0, .int .u32 0, .int .i64 0, .int .i64 0, .slice none 0 0]) ?_ 0 _ rfl; (with_reducible repeat (first | refine blk_drewN ?_ _ | refine blk_drew ?_ | refine blk_alloc ?_ _)); exact BK155.out) hg (Kd.R_ne HO_4.out BK155.out (by decide))); have n3_ := Aside0.mk (hb); have n4_ := Aside0.mk (ho); clear HO_3; clear BK147; clear BK155; clear HB; clear HO_4; have HO_3 := n0_; have BK147 := n1_; have BK155 := n2_; have HB := n3_; have HO158 := n4_; clear n0_ n1_ n2_ n3_ n4_; clear ho hb hg hat; have hcz45_0 : w44.cell? ⟨gb147, 0, none⟩ = some (.slice A0_0 l0_0.length c0_0) := (blk_cell BK147.out 0).trans rfl; have hcz45_1 : w44.cell? ⟨gb147, 1, none⟩ = some (.slice (some ad154) l0_1.length c0_1) := (blk_cell BK147.out 1).trans rfl; have hfz45_0 := blk_frozen BK147.out 0; have hfz45_1 := blk_frozen BK147.out 1; have hcz46_0 : w44.cell? ⟨gb155, 0, none⟩ = some (.string ((rd_T135 l0_1 x38_3).f0)) := (blk_cell BK155.out 0).trans rfl; have hcz46_1 : w44.cell? ⟨gb155, 1, none⟩ = some (.int .i64 ((rd_T135 l0_1 x38_3).f1)) := (blk_cell BK155.out 1).trans rfl; have hcz46_2 : w44.cell? ⟨gb155, 2, none⟩ = some (.slice A154_2 ((rd_T135 l0_1 x38_3).f2).length c154_2) := (blk_cell BK155.out 2).trans rfl; have hcz46_3 : w44.cell? ⟨gb155, 3, none⟩ = some (.int .u32 ((rd_T135 l0_1 x38_3).f3)) := (blk_cell BK155.out 3).trans rfl; have hcz46_4 : w44.cell? ⟨gb155, 4, none⟩ = some (.int .i64 ((rd_T135 l0_1 x38_3).f4)) := (blk_cell BK155.out 4).trans rfl; have hcz46_5 : w44.cell? ⟨gb155, 5, none⟩ = some (.int .i64 ((rd_T135 l0_1 x38_3).f5)) := (blk_cell BK155.out 5).trans rfl; have hcz46_6 : w44.cell? ⟨gb155, 6, none⟩ = some (.slice A154_6 ((rd_T135 l0_1 x38_3).f6).length c154_6) := (blk_cell BK155.out 6).trans rfl; have hfz46_0 := blk_frozen BK155.out 0; have hfz46_1 := blk_frozen BK155.out 1; have hfz46_2 := blk_frozen BK155.out 2; have hfz46_3 := blk_frozen BK155.out 3; have hfz46_4 := blk_frozen BK155.out 4; have hfz46_5 := blk_frozen BK155.out 5; have hfz46_6 := blk_frozen BK155.out 6) | ((with_reducible refine gate_callee (f := 72) rfl ?_); refine goesL_ (some 49) rfl rfl Try.func72 (by kernel_rfl) rfl #[.agg #[.slice A0_0 l0_0.length c0_0, .slice (some ad154) l0_1.length c0_1], .agg #[.string ((rd_T135 l0_1 x38_3).f0), .int .i64 ((rd_T135 l0_1 x38_3).f1), .slice A154_2 ((rd_T135 l0_1 x38_3).f2).length c154_2, .int .u32 ((rd_T135 l0_1 x38_3).f3), .int .i64 ((rd_T135 l0_1 x38_3).f4), .int .i64 ((rd_T135 l0_1 x38_3).f5), .slice A154_6 ((rd_T135 l0_1 x38_3).f6).length c154_6]] rfl (by (try simp only [List.map_toArray, List.map_cons, List.map_nil]); first | done | rfl | (simp only [List.length_drop, List.length_take]; rfl)) ?_; (with_reducible refine (schema_index.calls k3 _ _ l0_0 _ _ l0_1 ((rd_T135 l0_1 x38_3).f0) ((rd_T135 l0_1 x38_3).f1) _ _ ((rd_T135 l0_1 x38_3).f2) ((rd_T135 l0_1 x38_3).f3) ((rd_T135 l0_1 x38_3).f4) ((rd_T135 l0_1 x38_3).f5) _ _ ((rd_T135 l0_1 x38_3).f6) false _ ?side1 ?side2 ?side3 ?side4 ?side5 ?side6 ?side7 ?side8 A32.out).mono ?_); (case side1 => repeat (first | exact (Kd.C_below HR0_0.out HB.out) | (with_reducible refine Kd.C_alloc ?_ _) | (with_reducible refine Kd.C_drewN ?_ _) | (with_reducible refine Kd.C_drew ?_))); (case side2 => exact HC0_0.out); (case side3 => repeat (first | exact (Kd.C_below HR0_1.out HB.out) | (with_reducible refine Kd.C_alloc ?_ _) | (with_reducible refine Kd.C_drewN ?_ _) | (with_reducible refine Kd.C_drew ?_))); (case side4 => exact HC0_1.out); (case side5 => repeat (first | exact (Kd.C_below HR154_2.out HB.out) | (with_reducible refine Kd.C_alloc ?_ _) | (with_reducible refine Kd.C_drewN ?_ _) | (with_reducible refine Kd.C_drew ?_))); (case side6 => exact HC154_2.out); (case side7 => repeat (first | exact (Kd.C_below HR154_6.out HB.out) | (with_reducible refine Kd.C_alloc ?_ _) | (with_reducible refine Kd.C_drewN ?_ _) | (with_reducible refine Kd.C_drew ?_))); (case side8 => exact HC154_6.out); rintro e w47 ⟨rfl, hb⟩; refine ⟨_, rfl, ?_⟩; have n0_ := Aside0.mk (Kd.R_below (by (with_reducible repeat (first | apply Kd.R_alloc | apply Kd.R_drewN | apply Kd.R_drew)); exact HO_3.out) hb); have n1_ := Aside0.mk (Kd.R_below (by (with_reducible repeat (first | apply Kd.R_alloc | apply Kd.R_drewN | apply Kd.R_drew)); exact HO158.out) hb); have n2_ := Aside0.mk (blk_below (g := gb147) (o := .cells #[.slice A0_0 l0_0.length c0_0, .slice (some ad154) l0_1.length c0_1] 80 (0, 0)) (by (with_reducible repeat (first | refine blk_drewN ?_ _ | refine blk_drew ?_ | refine blk_alloc ?_ _)); exact BK147.out) hb); have n3_ := Aside0.mk (blk_below (g := gb155) (o := .cells #[.string ((rd_T135 l0_1 x38_3).f0), .int .i64 ((rd_T135 l0_1 x38_3).f1), .slice A154_2 ((rd_T135 l0_1 x38_3).f2).length c154_2, .int .u32 ((rd_T135 l0_1 x38_3).f3), .int .i64 ((rd_T135 l0_1 x38_3).f4), .int .i64 ((rd_T135 l0_1 x38_3).f5), .slice A154_6 ((rd_T135 l0_1 x38_3).f6).length c154_6] 135 (0, 0)) (by (with_reducible repeat (first | refine blk_drewN ?_ _ | refine blk_drew ?_ | refine blk_alloc ?_ _)); exact BK155.out) hb); have n4_ := Aside0.mk (below_step (by repeat (first | (with_reducible first | exact HB.out | apply below_alloc | apply pw_below_drewN | apply below_drew1 | refine below_set ?_ GE147.out | refine below_set ?_ GE155.out) | exact HB.out)) hb); clear HO_3; clear HO158; clear BK147; clear BK155; clear HB; have HO_3 := n0_; have HO158 := n1_; have BK147 := n2_; have BK155 := n3_; have HB := n4_; clear n0_ n1_ n2_ n3_ n4_; (try clear hb); (try clear hb2); (try clear hk); (try clear hi)))
              go_ret
              exact ⟨by first | rfl | (simp [errW_none, errW_some] <;> rfl) | (simp [*, errW_none, errW_some] <;> rfl), by repeat (first | (with_reducible first | exact HB.out | apply below_alloc | apply pw_below_drewN | apply below_drew1 | refine below_set ?_ GE147.out | refine below_set ?_ GE155.out) | exact HB.out)⟩
            ·rw [if_neg c31] at H
             exact absurd H (by simp)
           ·rw [if_neg c30] at H
            exact absurd H (by simp)
          ·rw [if_neg c29] at H
           exact absurd H (by simp)
         ·rw [if_neg c28] at H
          have c28b0 : decide (x38_3 < (l0_1.length : Int)) = false := decide_eq_false c28
          clear c28
          replace H := Option.bind_eq_some_iff.mp H
          obtain ⟨t160, A480, H⟩ := H
          replace H : (if t160 = true then ((schema_names.f k3 x4_3).bind fun t161 => (some t161)) else (some false)) = some r := H
          have A48 := Aside0.mk A480
          clear A480
          by_cases c49 : t160 = true
          ·subst c49
           have H1 : ((schema_names.f k3 x4_3).bind fun t161 => (some t161)) = some r := by rw [if_pos rfl] at H; exact H
           clear H
           have H := H1
           clear H1
           replace H := Option.bind_eq_some_iff.mp H
           obtain ⟨t161, A500, H⟩ := H
           replace H : (some t161) = some r := H
           have A50 := Aside0.mk A500
           clear A500
           obtain rfl := Option.some.inj H
           obtain ⟨Ao51, co51, eo51⟩ := Kd.R_slice HO_3.out
           subst eo51
           go_wp2_with (first | ((with_reducible refine gate_callee (f := 73) rfl ?_); refine goesL_ (some 53) rfl rfl Try.func73 (by kernel_rfl) rfl #[.slice Ao51 x3_2.length co51] rfl (by (try simp only [List.map_toArray, List.map_cons, List.map_nil]); first | done | rfl | (simp only [List.length_drop, List.length_take]; rfl)) ?_; (with_reducible refine (schema_names.calls k3 _ _ x3_2 true _ ?side1 ?side2 A48.out).mono ?_); (case side1 => repeat (first | exact (Kd.R_reads' HO_3.out).2.2 | (with_reducible refine Kd.C_alloc ?_ _) | (with_reducible refine Kd.C_drewN ?_ _) | (with_reducible refine Kd.C_drew ?_))); (case side2 => exact (Kd.R_reads' HO_3.out).2.1); rintro e w' ⟨rfl, ⟨nd, rfl⟩⟩; refine ⟨_, rfl, ?_⟩; obtain ⟨Ao52, co52, eo52⟩ := Kd.R_slice HO_4.out; subst eo52) | (go_at_call 73; (with_reducible refine (schema_names.calls k3 _ _ x4_3 t161 _ ?side1 ?side2 A50.out).mono ?_); (case side1 => repeat (first | exact (Kd.R_reads' HO_4.out).2.2 | (with_reducible refine Kd.C_alloc ?_ _) | (with_reducible refine Kd.C_drewN ?_ _) | (with_reducible refine Kd.C_drew ?_))); (case side2 => exact (Kd.R_reads' HO_4.out).2.1); rintro e w' ⟨rfl, ⟨nd, rfl⟩⟩))
           go_ret
           exact ⟨by first | rfl | (simp [errW_none, errW_some] <;> rfl) | (simp [*, errW_none, errW_some] <;> rfl), by repeat (first | (with_reducible first | exact HB.out | apply below_alloc | apply pw_below_drewN | apply below_drew1 | refine below_set ?_ GE147.out) | exact HB.out)⟩
          ·replace c49 := Bool.eq_false_iff.mpr c49
           subst c49
           have H1 : (some false) = some r := by rw [if_neg (show ¬ (false = true) by decide)] at H; exact H
           clear H
           have H := H1
           clear H1
           obtain rfl := Option.some.inj H
           obtain ⟨Ao53, co53, eo53⟩ := Kd.R_slice HO_3.out
           subst eo53
           go_wp2_with (first | ((with_reducible refine gate_callee (f := 73) rfl ?_); refine goesL_ (some 53) rfl rfl Try.func73 (by kernel_rfl) rfl #[.slice Ao53 x3_2.length co53] rfl (by (try simp only [List.map_toArray, List.map_cons, List.map_nil]); first | done | rfl | (simp only [List.length_drop, List.length_take]; rfl)) ?_; (with_reducible refine (schema_names.calls k3 _ _ x3_2 false _ ?side1 ?side2 A48.out).mono ?_); (case side1 => repeat (first | exact (Kd.R_reads' HO_3.out).2.2 | (with_reducible refine Kd.C_alloc ?_ _) | (with_reducible refine Kd.C_drewN ?_ _) | (with_reducible refine Kd.C_drew ?_))); (case side2 => exact (Kd.R_reads' HO_3.out).2.1); rintro e w' ⟨rfl, ⟨nd, rfl⟩⟩; refine ⟨_, rfl, ?_⟩))
           go_ret
           exact ⟨by first | rfl | (simp [errW_none, errW_some] <;> rfl) | (simp [*, errW_none, errW_some] <;> rfl), by repeat (first | (with_reducible first | exact HB.out | apply below_alloc | apply pw_below_drewN | apply below_drew1 | refine below_set ?_ GE147.out) | exact HB.out)⟩

-- NOT PRINTED: function 68 (schema_pen_count)

-- NOT PRINTED: function 69 (schema_pen_text)

-- NOT PRINTED: function 70 (schema_pen_numbers)

-- NOT PRINTED: function 33 (schema_Put)

-- NOT PRINTED: function 27 (rowlocklaw12_fixed)

end Go.Proofs.Ytpfegfkniilobaa.XSchema
