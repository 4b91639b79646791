-- Written by this session's own program (wip/own_print.py) over the kit's print, with this session's hand-proved contracts in their places; Lean checks it.
import Derived.Test.YtpfegfkniilobaaXSchemax0
import Derived.Test.YtpfegfkniilobaaBs
namespace Go.Proofs.Ytpfegfkniilobaa.XSchema
open Go.RowKit Go.Proofs.YtpfegfkniilobaaW.PrintWords Go.Proofs.YtpfegfkniilobaaW.PrintLast Go.Proofs.YtpfegfkniilobaaW.PrintMore
attribute [local go_sem] max2_int min2_int max_two min_two max_three min_three max_four min_four   -- for this text's walks alone
set_option linter.unusedVariables false
set_option linter.unusedSimpArgs false

/-! ### schema_Name: function 34 -/
def schema_Name.l0 : Nat → ByteArray → Int → Int → Option (Bool)
 | 0, _, _, _ => none
 | k + 1, x0, x7, x8 => if x8 < x7 then (if 0 ≤ x8 then (if x8 < (x0.size : Int) then (if (bt x0 x8) ≥ 97 then (if ((bt x0 x8) ≤ 122) then (schema_Name.l0 k x0 x7 (wrap64 (x8 + 1))) else (if x8 = 0 then (some false) else (if (bt x0 x8) = 95 then (schema_Name.l0 k x0 x7 (wrap64 (x8 + 1))) else (if (bt x0 x8) < 48 then (some false) else (if (bt x0 x8) > 57 then (some false) else (schema_Name.l0 k x0 x7 (wrap64 (x8 + 1)))))))) else (if x8 = 0 then (some false) else (if (bt x0 x8) = 95 then (schema_Name.l0 k x0 x7 (wrap64 (x8 + 1))) else (if (bt x0 x8) < 48 then (some false) else (if (bt x0 x8) > 57 then (some false) else (schema_Name.l0 k x0 x7 (wrap64 (x8 + 1)))))))) else (none)) else (none)) else (if x0.toList = ([] : List UInt8) then (some false) else (some (decide ((x0.size : Int) ≤ 24))))
def schema_Name.f (k : Nat) (a0 : ByteArray) : Option (Bool) := schema_Name.l0 k a0 (a0.size : Int) 0
theorem schema_Name.mono_l : ∀ k, (∀ y0 y1 y2, LeO (schema_Name.l0 k y0 y1 y2) (schema_Name.l0 (k + 1) y0 y1 y2))
 | 0 => fun _ _ _ r h => by simp [schema_Name.l0] at h
 | k + 1 => by
  have ih0 := schema_Name.mono_l k
  ·intro y0 y1 y2
   unfold schema_Name.l0
   repeat' first
   | (with_reducible exact ih0 _ _ _)
   | (with_reducible exact LeO.refl _)
   | (with_reducible exact LeO.none _)
   | (with_reducible refine LeO.ite ?_ ?_)
   | (with_reducible refine LeO.bind ?_ (fun _ => ?_))
   | exact ih0 _ _ _
   | exact LeO.none _
   | refine LeO.ite ?_ ?_
   | refine LeO.bind ?_ (fun _ => ?_)
theorem schema_Name.mono : ∀ a0 k, LeO (schema_Name.f k a0) (schema_Name.f (k + 1) a0) := by
 intro a0 k; have ih0 := schema_Name.mono_l k
 unfold schema_Name.f
 repeat' first
   | (with_reducible exact ih0 _ _ _)
   | (with_reducible exact LeO.refl _)
   | (with_reducible exact LeO.none _)
   | (with_reducible refine LeO.ite ?_ ?_)
   | (with_reducible refine LeO.bind ?_ (fun _ => ?_))
   | exact ih0 _ _ _
   | exact LeO.none _
   | refine LeO.ite ?_ ?_
   | refine LeO.bind ?_ (fun _ => ?_)
set_option maxHeartbeats 8000000 in
set_option maxRecDepth 100000 in
theorem schema_Name.calls (k : Nat) (a0 : ByteArray) (r : Bool) (w : World) (h : schema_Name.f k a0 = some r) :
  Calls Try.prog 34 #[.string a0] w fun e w' => e = .returned (.bool r) ∧ Drawn0 w w' := by
 have H : (schema_Name.l0 k a0 (a0.size : Int) 0) = some r := h; clear h; have H' := Aside0.mk H; clear H
 go_enter Try.func34, Try.ntmps34
 go_wp2
 go_loopg [8] k (fun kq v8 w' => ∃ (x8_1 : Int), v8 = .int .i64 x8_1 ∧ Aside0 (schema_Name.l0 kq a0 (a0.size : Int) x8_1 = some r) ∧ Aside0 (kq ≤ k) ∧ Drawn0 w w')
 case atStart => exact ⟨(0), (by first | rfl | (simp; done) | (simp [*]; done)), H', ⟨Nat.le_refl _⟩, by repeat (first | exact Drawn0.refl _ | apply Drawn0.step)⟩
 case round =>
  clear H'; obtain ⟨x8_1, rfl, HA, HK1, ⟨m1, rfl⟩⟩ := hrel
  cases gk with
  | zero => exact absurd HA.out (by simp [schema_Name.l0])
  | succ k1 =>
   have H := HA.out; clear HA; simp only [schema_Name.l0] at H
   by_cases c2 : x8_1 < (a0.size : Int)
   ·rw [if_pos c2] at H
    have c2b0 : decide (x8_1 < (a0.size : Int)) = true := decide_eq_true c2; clear c2
    by_cases c3 : 0 ≤ x8_1
    ·rw [if_pos c3] at H
     have c3b0 : decide (0 ≤ x8_1) = true := decide_eq_true c3; clear c3
     by_cases c4 : x8_1 < (a0.size : Int)
     ·rw [if_pos c4] at H
      have c4b0 : decide (x8_1 < (a0.size : Int)) = true := decide_eq_true c4; clear c4
      by_cases c6 : (bt a0 x8_1) ≥ 97
      ·rw [if_pos c6] at H
       have c6b0 : decide (97 ≤ (bt a0 x8_1)) = true := decide_eq_true c6; clear c6
       by_cases c7 : ((bt a0 x8_1) ≤ 122)
       ·rw [if_pos c7] at H
        have c7b0 : decide ((bt a0 x8_1) ≤ 122) = true := decide_eq_true c7; clear c7; have H' := Aside0.mk H; clear H; have p5 : 0 ≤ (x8_1 : Int) := of_decide_eq_true (by first | (with_reducible assumption) | assumption); have q5 : x8_1 < (a0.size : Int) := of_decide_eq_true (by first | (with_reducible assumption) | assumption); have hx5 := bt_at a0 x8_1; replace p5 := eq_true p5; have p5D := p5; try simp only [List.length_drop, List.length_take] at p5D
        replace q5 := eq_true q5; have q5D := q5; try simp only [List.length_drop, List.length_take] at q5D
        go_wp2
        go_roundg k1
        case measure => have := HK1.out; omega
        case rel => exact ⟨(wrap64 (x8_1 + 1)), (by first | rfl | (simp; done) | (simp [*]; done)), H', ⟨by have := HK1.out; omega⟩, by repeat (first | exact Drawn0.refl _ | apply Drawn0.step)⟩
       ·rw [if_neg c7] at H
        have c7b0 : decide ((bt a0 x8_1) ≤ 122) = false := decide_eq_false c7; clear c7
        by_cases c8 : x8_1 = 0
        ·rw [if_pos c8] at H
         have c8b0 : (x8_1 == 0) = true := beq_iff_eq.mpr c8; have c8b1 : (x8_1 != 0) = false := bne_eq_false_iff_eq.mpr c8; clear c8; obtain rfl := Option.some.inj H; have p5 : 0 ≤ (x8_1 : Int) := of_decide_eq_true (by first | (with_reducible assumption) | assumption); have q5 : x8_1 < (a0.size : Int) := of_decide_eq_true (by first | (with_reducible assumption) | assumption); have hx5 := bt_at a0 x8_1; replace p5 := eq_true p5; have p5D := p5; try simp only [List.length_drop, List.length_take] at p5D
         replace q5 := eq_true q5; have q5D := q5; try simp only [List.length_drop, List.length_take] at q5D
         go_wp2
         go_ret
         exact ⟨by first | rfl | (simp; done) | (simp [*]; done), by repeat (first | exact Drawn0.refl _ | apply Drawn0.step)⟩
        ·rw [if_neg c8] at H
         have c8b0 : (x8_1 == 0) = false := beq_eq_false_iff_ne.mpr c8; have c8b1 : (x8_1 != 0) = true := bne_iff_ne.mpr c8
         by_cases c9 : (bt a0 x8_1) = 95
         ·rw [if_pos c9] at H
          have c9b0 : ((bt a0 x8_1) == 95) = true := beq_iff_eq.mpr c9; have c9b1 : ((bt a0 x8_1) != 95) = false := bne_eq_false_iff_eq.mpr c9; clear c9; have H' := Aside0.mk H; clear H; have p5 : 0 ≤ (x8_1 : Int) := of_decide_eq_true (by first | (with_reducible assumption) | assumption); have q5 : x8_1 < (a0.size : Int) := of_decide_eq_true (by first | (with_reducible assumption) | assumption); have hx5 := bt_at a0 x8_1; replace p5 := eq_true p5; have p5D := p5; try simp only [List.length_drop, List.length_take] at p5D
          replace q5 := eq_true q5; have q5D := q5; try simp only [List.length_drop, List.length_take] at q5D
          go_wp2
          go_roundg k1
          case measure => have := HK1.out; omega
          case rel => exact ⟨(wrap64 (x8_1 + 1)), (by first | rfl | (simp; done) | (simp [*]; done)), H', ⟨by have := HK1.out; omega⟩, by repeat (first | exact Drawn0.refl _ | apply Drawn0.step)⟩
         ·rw [if_neg c9] at H
          have c9b0 : ((bt a0 x8_1) == 95) = false := beq_eq_false_iff_ne.mpr c9; have c9b1 : ((bt a0 x8_1) != 95) = true := bne_iff_ne.mpr c9
          by_cases c10 : (bt a0 x8_1) < 48
          ·rw [if_pos c10] at H
           have c10b0 : decide ((bt a0 x8_1) < 48) = true := decide_eq_true c10; clear c10; obtain rfl := Option.some.inj H; have p5 : 0 ≤ (x8_1 : Int) := of_decide_eq_true (by first | (with_reducible assumption) | assumption); have q5 : x8_1 < (a0.size : Int) := of_decide_eq_true (by first | (with_reducible assumption) | assumption); have hx5 := bt_at a0 x8_1; replace p5 := eq_true p5; have p5D := p5; try simp only [List.length_drop, List.length_take] at p5D
           replace q5 := eq_true q5; have q5D := q5; try simp only [List.length_drop, List.length_take] at q5D
           go_wp2
           go_ret
           exact ⟨by first | rfl | (simp; done) | (simp [*]; done), by repeat (first | exact Drawn0.refl _ | apply Drawn0.step)⟩
          ·rw [if_neg c10] at H
           have c10b0 : decide ((bt a0 x8_1) < 48) = false := decide_eq_false c10; clear c10
           by_cases c11 : (bt a0 x8_1) > 57
           ·rw [if_pos c11] at H
            have c11b0 : decide (57 < (bt a0 x8_1)) = true := decide_eq_true c11; clear c11; obtain rfl := Option.some.inj H; have p5 : 0 ≤ (x8_1 : Int) := of_decide_eq_true (by first | (with_reducible assumption) | assumption); have q5 : x8_1 < (a0.size : Int) := of_decide_eq_true (by first | (with_reducible assumption) | assumption); have hx5 := bt_at a0 x8_1; replace p5 := eq_true p5; have p5D := p5; try simp only [List.length_drop, List.length_take] at p5D
            replace q5 := eq_true q5; have q5D := q5; try simp only [List.length_drop, List.length_take] at q5D
            go_wp2
            go_ret
            exact ⟨by first | rfl | (simp; done) | (simp [*]; done), by repeat (first | exact Drawn0.refl _ | apply Drawn0.step)⟩
           ·rw [if_neg c11] at H
            have c11b0 : decide (57 < (bt a0 x8_1)) = false := decide_eq_false c11; clear c11; have H' := Aside0.mk H; clear H; have p5 : 0 ≤ (x8_1 : Int) := of_decide_eq_true (by first | (with_reducible assumption) | assumption); have q5 : x8_1 < (a0.size : Int) := of_decide_eq_true (by first | (with_reducible assumption) | assumption); have hx5 := bt_at a0 x8_1; replace p5 := eq_true p5; have p5D := p5; try simp only [List.length_drop, List.length_take] at p5D
            replace q5 := eq_true q5; have q5D := q5; try simp only [List.length_drop, List.length_take] at q5D
            go_wp2
            go_roundg k1
            case measure => have := HK1.out; omega
            case rel => exact ⟨(wrap64 (x8_1 + 1)), (by first | rfl | (simp; done) | (simp [*]; done)), H', ⟨by have := HK1.out; omega⟩, by repeat (first | exact Drawn0.refl _ | apply Drawn0.step)⟩
      ·rw [if_neg c6] at H
       have c6b0 : decide (97 ≤ (bt a0 x8_1)) = false := decide_eq_false c6; clear c6
       by_cases c12 : x8_1 = 0
       ·rw [if_pos c12] at H
        have c12b0 : (x8_1 == 0) = true := beq_iff_eq.mpr c12; have c12b1 : (x8_1 != 0) = false := bne_eq_false_iff_eq.mpr c12; clear c12; obtain rfl := Option.some.inj H; have p5 : 0 ≤ (x8_1 : Int) := of_decide_eq_true (by first | (with_reducible assumption) | assumption); have q5 : x8_1 < (a0.size : Int) := of_decide_eq_true (by first | (with_reducible assumption) | assumption); have hx5 := bt_at a0 x8_1; replace p5 := eq_true p5; have p5D := p5; try simp only [List.length_drop, List.length_take] at p5D
        replace q5 := eq_true q5; have q5D := q5; try simp only [List.length_drop, List.length_take] at q5D
        go_wp2
        go_ret
        exact ⟨by first | rfl | (simp; done) | (simp [*]; done), by repeat (first | exact Drawn0.refl _ | apply Drawn0.step)⟩
       ·rw [if_neg c12] at H
        have c12b0 : (x8_1 == 0) = false := beq_eq_false_iff_ne.mpr c12; have c12b1 : (x8_1 != 0) = true := bne_iff_ne.mpr c12
        by_cases c13 : (bt a0 x8_1) = 95
        ·rw [if_pos c13] at H
         have c13b0 : ((bt a0 x8_1) == 95) = true := beq_iff_eq.mpr c13; have c13b1 : ((bt a0 x8_1) != 95) = false := bne_eq_false_iff_eq.mpr c13; clear c13; have H' := Aside0.mk H; clear H; have p5 : 0 ≤ (x8_1 : Int) := of_decide_eq_true (by first | (with_reducible assumption) | assumption); have q5 : x8_1 < (a0.size : Int) := of_decide_eq_true (by first | (with_reducible assumption) | assumption); have hx5 := bt_at a0 x8_1; replace p5 := eq_true p5; have p5D := p5; try simp only [List.length_drop, List.length_take] at p5D
         replace q5 := eq_true q5; have q5D := q5; try simp only [List.length_drop, List.length_take] at q5D
         go_wp2
         go_roundg k1
         case measure => have := HK1.out; omega
         case rel => exact ⟨(wrap64 (x8_1 + 1)), (by first | rfl | (simp; done) | (simp [*]; done)), H', ⟨by have := HK1.out; omega⟩, by repeat (first | exact Drawn0.refl _ | apply Drawn0.step)⟩
        ·rw [if_neg c13] at H
         have c13b0 : ((bt a0 x8_1) == 95) = false := beq_eq_false_iff_ne.mpr c13; have c13b1 : ((bt a0 x8_1) != 95) = true := bne_iff_ne.mpr c13
         by_cases c14 : (bt a0 x8_1) < 48
         ·rw [if_pos c14] at H
          have c14b0 : decide ((bt a0 x8_1) < 48) = true := decide_eq_true c14; clear c14; obtain rfl := Option.some.inj H; have p5 : 0 ≤ (x8_1 : Int) := of_decide_eq_true (by first | (with_reducible assumption) | assumption); have q5 : x8_1 < (a0.size : Int) := of_decide_eq_true (by first | (with_reducible assumption) | assumption); have hx5 := bt_at a0 x8_1; replace p5 := eq_true p5; have p5D := p5; try simp only [List.length_drop, List.length_take] at p5D
          replace q5 := eq_true q5; have q5D := q5; try simp only [List.length_drop, List.length_take] at q5D
          go_wp2
          go_ret
          exact ⟨by first | rfl | (simp; done) | (simp [*]; done), by repeat (first | exact Drawn0.refl _ | apply Drawn0.step)⟩
         ·rw [if_neg c14] at H
          have c14b0 : decide ((bt a0 x8_1) < 48) = false := decide_eq_false c14; clear c14
          by_cases c15 : (bt a0 x8_1) > 57
          ·rw [if_pos c15] at H
           have c15b0 : decide (57 < (bt a0 x8_1)) = true := decide_eq_true c15; clear c15; obtain rfl := Option.some.inj H; have p5 : 0 ≤ (x8_1 : Int) := of_decide_eq_true (by first | (with_reducible assumption) | assumption); have q5 : x8_1 < (a0.size : Int) := of_decide_eq_true (by first | (with_reducible assumption) | assumption); have hx5 := bt_at a0 x8_1; replace p5 := eq_true p5; have p5D := p5; try simp only [List.length_drop, List.length_take] at p5D
           replace q5 := eq_true q5; have q5D := q5; try simp only [List.length_drop, List.length_take] at q5D
           go_wp2
           go_ret
           exact ⟨by first | rfl | (simp; done) | (simp [*]; done), by repeat (first | exact Drawn0.refl _ | apply Drawn0.step)⟩
          ·rw [if_neg c15] at H
           have c15b0 : decide (57 < (bt a0 x8_1)) = false := decide_eq_false c15; clear c15; have H' := Aside0.mk H; clear H; have p5 : 0 ≤ (x8_1 : Int) := of_decide_eq_true (by first | (with_reducible assumption) | assumption); have q5 : x8_1 < (a0.size : Int) := of_decide_eq_true (by first | (with_reducible assumption) | assumption); have hx5 := bt_at a0 x8_1; replace p5 := eq_true p5; have p5D := p5; try simp only [List.length_drop, List.length_take] at p5D
           replace q5 := eq_true q5; have q5D := q5; try simp only [List.length_drop, List.length_take] at q5D
           go_wp2
           go_roundg k1
           case measure => have := HK1.out; omega
           case rel => exact ⟨(wrap64 (x8_1 + 1)), (by first | rfl | (simp; done) | (simp [*]; done)), H', ⟨by have := HK1.out; omega⟩, by repeat (first | exact Drawn0.refl _ | apply Drawn0.step)⟩
     ·rw [if_neg c4] at H
      exact absurd H (by simp)
    ·rw [if_neg c3] at H
     exact absurd H (by simp)
   ·rw [if_neg c2] at H
    have c2b0 : decide (x8_1 < (a0.size : Int)) = false := decide_eq_false c2; clear c2
    by_cases c16 : a0.toList = ([] : List UInt8)
    ·rw [if_pos c16] at H
     have c16b0 : (a0.toList == ([] : List UInt8)) = true := beq_iff_eq.mpr c16; have c16b1 : (a0.toList != ([] : List UInt8)) = false := bne_eq_false_iff_eq.mpr c16; clear c16; obtain rfl := Option.some.inj H
     go_wp2
     go_ret
     exact ⟨by first | rfl | (simp; done) | (simp [*]; done), by repeat (first | exact Drawn0.refl _ | apply Drawn0.step)⟩
    ·rw [if_neg c16] at H
     have c16b0 : (a0.toList == ([] : List UInt8)) = false := beq_eq_false_iff_ne.mpr c16; have c16b1 : (a0.toList != ([] : List UInt8)) = true := bne_iff_ne.mpr c16; obtain rfl := Option.some.inj H
     go_wp2
     go_ret
     exact ⟨by first | rfl | (simp; done) | (simp [*]; done), by repeat (first | exact Drawn0.refl _ | apply Drawn0.step)⟩

/-! ### slices_Index_string_string: function 122 -/
def slices_Index_string_string.l0 : Nat → List ByteArray → ByteArray → Int → Int → Option (Int)
 | 0, _, _, _, _ => none
 | k + 1, x0, x1, x7, x8 => if x8 < x7 then (if 0 ≤ x8 then (if x8 < (x0.length : Int) then (if x1.toList = (rdOf ByteArray.empty x0 x8).toList then (some x8) else (slices_Index_string_string.l0 k x0 x1 x7 (wrap64 (x8 + 1)))) else (none)) else (none)) else (some (-1))
def slices_Index_string_string.f (k : Nat) (l0 : List ByteArray) (a1 : ByteArray) : Option (Int) := slices_Index_string_string.l0 k l0 a1 (l0.length : Int) 0
theorem slices_Index_string_string.mono_l : ∀ k, (∀ y0 y1 y2 y3, LeO (slices_Index_string_string.l0 k y0 y1 y2 y3) (slices_Index_string_string.l0 (k + 1) y0 y1 y2 y3))
 | 0 => fun _ _ _ _ r h => by simp [slices_Index_string_string.l0] at h
 | k + 1 => by
  have ih0 := slices_Index_string_string.mono_l k
  ·intro y0 y1 y2 y3
   unfold slices_Index_string_string.l0
   repeat' first
   | (with_reducible exact ih0 _ _ _ _)
   | (with_reducible exact LeO.refl _)
   | (with_reducible exact LeO.none _)
   | (with_reducible refine LeO.ite ?_ ?_)
   | (with_reducible refine LeO.bind ?_ (fun _ => ?_))
   | exact ih0 _ _ _ _
   | exact LeO.none _
   | refine LeO.ite ?_ ?_
   | refine LeO.bind ?_ (fun _ => ?_)
theorem slices_Index_string_string.mono : ∀ a0 a1 k, LeO (slices_Index_string_string.f k a0 a1) (slices_Index_string_string.f (k + 1) a0 a1) := by
 intro a0 a1 k; have ih0 := slices_Index_string_string.mono_l k
 unfold slices_Index_string_string.f
 repeat' first
   | (with_reducible exact ih0 _ _ _ _)
   | (with_reducible exact LeO.refl _)
   | (with_reducible exact LeO.none _)
   | (with_reducible refine LeO.ite ?_ ?_)
   | (with_reducible refine LeO.bind ?_ (fun _ => ?_))
   | exact ih0 _ _ _ _
   | exact LeO.none _
   | refine LeO.ite ?_ ?_
   | refine LeO.bind ?_ (fun _ => ?_)
set_option maxHeartbeats 8000000 in
set_option maxRecDepth 100000 in
theorem slices_Index_string_string.calls (k : Nat) (A0 : Option Addr) (c0 : Nat) (l0 : List ByteArray) (a1 : ByteArray) (r : Int) (w : World) (hr0 : Kd.C Kd.string w A0 l0.length l0) (hc0 : l0.length ≤ c0) (h : slices_Index_string_string.f k l0 a1 = some r) :
  Calls Try.prog 122 #[.slice A0 l0.length c0, .string a1] w fun e w' => e = .returned (.int .i64 r) ∧ Drawn0 w w' := by
 have HR0 := Aside0.mk hr0; have HC0 := Aside0.mk hc0; clear hr0 hc0; have H : (slices_Index_string_string.l0 k l0 a1 (l0.length : Int) 0) = some r := h; clear h; have H' := Aside0.mk H; clear H
 go_enter Try.func122, Try.ntmps122
 go_wp2
 go_loopg [8] k (fun kq v8 w' => ∃ (x8_1 : Int), v8 = .int .i64 x8_1 ∧ Aside0 (slices_Index_string_string.l0 kq l0 a1 (l0.length : Int) x8_1 = some r) ∧ Aside0 (kq ≤ k) ∧ Drawn0 w w')
 case atStart => exact ⟨(0), (by first | rfl | (simp; done) | (simp [*]; done)), H', ⟨Nat.le_refl _⟩, by repeat (first | exact Drawn0.refl _ | apply Drawn0.step)⟩
 case round =>
  clear H'; (try clear c1); (try clear p2); obtain ⟨x8_1, rfl, HA, HK1, ⟨m1, rfl⟩⟩ := hrel
  cases gk with
  | zero => exact absurd HA.out (by simp [slices_Index_string_string.l0])
  | succ k1 =>
   have H := HA.out; clear HA; simp only [slices_Index_string_string.l0] at H
   by_cases c3 : x8_1 < (l0.length : Int)
   ·rw [if_pos c3] at H
    have c3b0 : decide (x8_1 < (l0.length : Int)) = true := decide_eq_true c3; clear c3
    by_cases c4 : 0 ≤ x8_1
    ·rw [if_pos c4] at H
     have c4b0 : decide (0 ≤ x8_1) = true := decide_eq_true c4; clear c4
     by_cases c5 : x8_1 < (l0.length : Int)
     ·rw [if_pos c5] at H
      have c5b0 : decide (x8_1 < (l0.length : Int)) = true := decide_eq_true c5; clear c5
      by_cases c6 : a1.toList = (rdOf ByteArray.empty l0 x8_1).toList
      ·rw [if_pos c6] at H
       have c6b0 : (a1.toList == (rdOf ByteArray.empty l0 x8_1).toList) = true := beq_iff_eq.mpr c6; have c6b1 : (a1.toList != (rdOf ByteArray.empty l0 x8_1).toList) = false := bne_eq_false_iff_eq.mpr c6; clear c6; obtain rfl := Option.some.inj H; have p109 : 0 ≤ (x8_1 : Int) := of_decide_eq_true (by first | (with_reducible assumption) | assumption); have q109 : x8_1 < (l0.length : Int) := of_decide_eq_true (by first | (with_reducible assumption) | assumption); obtain ⟨ad109, e109, hx109_0⟩ := Kd.at_string HR0.out x8_1 p109 q109
       cases e109
       replace p109 := eq_true p109; have p109D := p109; try simp only [List.length_drop, List.length_take] at p109D
       replace q109 := eq_true q109; have q109D := q109; try simp only [List.length_drop, List.length_take] at q109D
       go_wp2
       go_ret
       exact ⟨by first | rfl | (simp; done) | (simp [*]; done), by repeat (first | exact Drawn0.refl _ | apply Drawn0.step)⟩
      ·rw [if_neg c6] at H
       have c6b0 : (a1.toList == (rdOf ByteArray.empty l0 x8_1).toList) = false := beq_eq_false_iff_ne.mpr c6; have c6b1 : (a1.toList != (rdOf ByteArray.empty l0 x8_1).toList) = true := bne_iff_ne.mpr c6; have H' := Aside0.mk H; clear H; have p109 : 0 ≤ (x8_1 : Int) := of_decide_eq_true (by first | (with_reducible assumption) | assumption); have q109 : x8_1 < (l0.length : Int) := of_decide_eq_true (by first | (with_reducible assumption) | assumption); obtain ⟨ad109, e109, hx109_0⟩ := Kd.at_string HR0.out x8_1 p109 q109
       cases e109
       replace p109 := eq_true p109; have p109D := p109; try simp only [List.length_drop, List.length_take] at p109D
       replace q109 := eq_true q109; have q109D := q109; try simp only [List.length_drop, List.length_take] at q109D
       go_wp2
       go_roundg k1
       case measure => have := HK1.out; omega
       case rel => exact ⟨(wrap64 (x8_1 + 1)), (by first | rfl | (simp; done) | (simp [*]; done)), H', ⟨by have := HK1.out; omega⟩, by repeat (first | exact Drawn0.refl _ | apply Drawn0.step)⟩
     ·rw [if_neg c5] at H
      exact absurd H (by simp)
    ·rw [if_neg c4] at H
     exact absurd H (by simp)
   ·rw [if_neg c3] at H
    have c3b0 : decide (x8_1 < (l0.length : Int)) = false := decide_eq_false c3; clear c3; obtain rfl := Option.some.inj H
    go_wp2
    go_ret
    exact ⟨by first | rfl | (simp; done) | (simp [*]; done), by repeat (first | exact Drawn0.refl _ | apply Drawn0.step)⟩

/-! ### slices_Contains_string_string: function 99 -/
def slices_Contains_string_string.f (k : Nat) (l0 : List ByteArray) (a1 : ByteArray) : Option (Bool) := (slices_Index_string_string.f k l0 a1).bind fun t110 => (some (decide (t110 ≥ 0)))
theorem slices_Contains_string_string.mono : ∀ a0 a1 k, LeO (slices_Contains_string_string.f k a0 a1) (slices_Contains_string_string.f (k + 1) a0 a1) := by
 intro a0 a1 k
 unfold slices_Contains_string_string.f
 repeat' first
   | (with_reducible exact slices_Index_string_string.mono _ _ _)
   | (with_reducible exact LeO.refl _)
   | (with_reducible exact LeO.none _)
   | (with_reducible refine LeO.ite ?_ ?_)
   | (with_reducible refine LeO.bind ?_ (fun _ => ?_))
   | exact slices_Index_string_string.mono _ _ _
   | exact LeO.none _
   | refine LeO.ite ?_ ?_
   | refine LeO.bind ?_ (fun _ => ?_)
set_option maxHeartbeats 8000000 in
set_option maxRecDepth 100000 in
theorem slices_Contains_string_string.calls (k : Nat) (A0 : Option Addr) (c0 : Nat) (l0 : List ByteArray) (a1 : ByteArray) (r : Bool) (w : World) (hr0 : Kd.C Kd.string w A0 l0.length l0) (hc0 : l0.length ≤ c0) (h : slices_Contains_string_string.f k l0 a1 = some r) :
  Calls Try.prog 99 #[.slice A0 l0.length c0, .string a1] w fun e w' => e = .returned (.bool r) ∧ Drawn0 w w' := by
 have HR0 := Aside0.mk hr0; have HC0 := Aside0.mk hc0; clear hr0 hc0; have H : ((slices_Index_string_string.f k l0 a1).bind fun t110 => (some (decide (t110 ≥ 0)))) = some r := h; clear h; replace H := Option.bind_eq_some_iff.mp H; obtain ⟨t110, A30, H⟩ := H; replace H : (some (decide (t110 ≥ 0))) = some r := H; have A3 := Aside0.mk A30; clear A30; obtain rfl := Option.some.inj H
 go_enter Try.func99, Try.ntmps99
 go_wp2_with (first | ((with_reducible refine gate_callee (f := 122) rfl ?_); refine goesL_ (some 7) rfl rfl Try.func122 (by kernel_rfl) rfl #[.slice A0 l0.length c0, .string a1] rfl (by (try simp only [List.map_toArray, List.map_cons, List.map_nil]); first | done | rfl) ?_; (with_reducible refine (slices_Index_string_string.calls k _ _ l0 a1 t110 _ ?side1 ?side2 A3.out).mono ?_); (case side1 => repeat (first | exact HR0.out | (with_reducible refine Kd.C_alloc ?_ _) | (with_reducible refine Kd.C_drewN ?_ _) | (with_reducible refine Kd.C_drew ?_))); (case side2 => exact HC0.out); rintro e w' ⟨rfl, ⟨nd, rfl⟩⟩; refine ⟨_, rfl, ?_⟩))
 go_ret
 exact ⟨by first | rfl | (simp; done) | (simp [*]; done), by repeat (first | exact Drawn0.refl _ | apply Drawn0.step)⟩

/-! ### schema_names: function 73 -/
def schema_names.l0 : Nat → List ByteArray → List ByteArray → Int → Int → Option (Bool)
 | 0, _, _, _, _ => none
 | k + 1, x0, x5, x6, x7 => if x7 < x6 then (if 0 ≤ x7 then (if x7 < (x5.length : Int) then ((schema_Name.f k (rdOf ByteArray.empty x5 x7)).bind fun t112 => (if t112 = true then (if x7 ≤ (x0.length : Int) then ((slices_Contains_string_string.f k (x0.take (x7 : Int).toNat) (rdOf ByteArray.empty x5 x7)).bind fun t114 => (if t114 = true then (some false) else (schema_names.l0 k x0 x5 x6 (wrap64 (x7 + 1))))) else (none)) else (some false))) else (none)) else (none)) else (some true)
def schema_names.f (k : Nat) (l0 : List ByteArray) : Option (Bool) := schema_names.l0 k l0 l0 (l0.length : Int) 0
theorem schema_names.mono_l : ∀ k, (∀ y0 y1 y2 y3, LeO (schema_names.l0 k y0 y1 y2 y3) (schema_names.l0 (k + 1) y0 y1 y2 y3))
 | 0 => fun _ _ _ _ r h => by simp [schema_names.l0] at h
 | k + 1 => by
  have ih0 := schema_names.mono_l k
  ·intro y0 y1 y2 y3
   unfold schema_names.l0
   repeat' first
   | (with_reducible exact ih0 _ _ _ _)
   | (with_reducible exact schema_Name.mono _ _)
   | (with_reducible exact slices_Contains_string_string.mono _ _ _)
   | (with_reducible exact LeO.refl _)
   | (with_reducible exact LeO.none _)
   | (with_reducible refine LeO.ite ?_ ?_)
   | (with_reducible refine LeO.bind ?_ (fun _ => ?_))
   | exact ih0 _ _ _ _
   | exact schema_Name.mono _ _
   | exact slices_Contains_string_string.mono _ _ _
   | exact LeO.none _
   | refine LeO.ite ?_ ?_
   | refine LeO.bind ?_ (fun _ => ?_)
theorem schema_names.mono : ∀ a0 k, LeO (schema_names.f k a0) (schema_names.f (k + 1) a0) := by
 intro a0 k; have ih0 := schema_names.mono_l k
 unfold schema_names.f
 repeat' first
   | (with_reducible exact ih0 _ _ _ _)
   | (with_reducible exact schema_Name.mono _ _)
   | (with_reducible exact slices_Contains_string_string.mono _ _ _)
   | (with_reducible exact LeO.refl _)
   | (with_reducible exact LeO.none _)
   | (with_reducible refine LeO.ite ?_ ?_)
   | (with_reducible refine LeO.bind ?_ (fun _ => ?_))
   | exact ih0 _ _ _ _
   | exact schema_Name.mono _ _
   | exact slices_Contains_string_string.mono _ _ _
   | exact LeO.none _
   | refine LeO.ite ?_ ?_
   | refine LeO.bind ?_ (fun _ => ?_)
set_option maxHeartbeats 8000000 in
set_option maxRecDepth 100000 in
theorem schema_names.calls (k : Nat) (A0 : Option Addr) (c0 : Nat) (l0 : List ByteArray) (r : Bool) (w : World) (hr0 : Kd.C Kd.string w A0 l0.length l0) (hc0 : l0.length ≤ c0) (h : schema_names.f k l0 = some r) :
  Calls Try.prog 73 #[.slice A0 l0.length c0] w fun e w' => e = .returned (.bool r) ∧ Drawn0 w w' := by
 have HR0 := Aside0.mk hr0; have HC0 := Aside0.mk hc0; clear hr0 hc0; have H : (schema_names.l0 k l0 l0 (l0.length : Int) 0) = some r := h; clear h; have H' := Aside0.mk H; clear H
 go_enter Try.func73, Try.ntmps73
 go_wp2
 go_loopg [7] k (fun kq v7 w' => ∃ (x7_1 : Int), v7 = .int .i64 x7_1 ∧ Aside0 (schema_names.l0 kq l0 l0 (l0.length : Int) x7_1 = some r) ∧ Aside0 (kq ≤ k) ∧ Drawn0 w w')
 case atStart => exact ⟨(0), (by first | rfl | (simp; done) | (simp [*]; done)), H', ⟨Nat.le_refl _⟩, by repeat (first | exact Drawn0.refl _ | apply Drawn0.step)⟩
 case round =>
  clear H'; obtain ⟨x7_1, rfl, HA, HK1, ⟨m1, rfl⟩⟩ := hrel
  cases gk with
  | zero => exact absurd HA.out (by simp [schema_names.l0])
  | succ k1 =>
   have H := HA.out; clear HA; simp only [schema_names.l0] at H
   by_cases c2 : x7_1 < (l0.length : Int)
   ·rw [if_pos c2] at H
    have c2b0 : decide (x7_1 < (l0.length : Int)) = true := decide_eq_true c2; clear c2
    by_cases c3 : 0 ≤ x7_1
    ·rw [if_pos c3] at H
     have c3b0 : decide (0 ≤ x7_1) = true := decide_eq_true c3; clear c3
     by_cases c4 : x7_1 < (l0.length : Int)
     ·rw [if_pos c4] at H
      have c4b0 : decide (x7_1 < (l0.length : Int)) = true := decide_eq_true c4; clear c4; replace H := Option.bind_eq_some_iff.mp H; obtain ⟨t112, A50, H⟩ := H; replace H : (if t112 = true then (if x7_1 ≤ (l0.length : Int) then ((slices_Contains_string_string.f k1 (l0.take (x7_1 : Int).toNat) (rdOf ByteArray.empty l0 x7_1)).bind fun t114 => (if t114 = true then (some false) else (schema_names.l0 k1 l0 l0 (l0.length : Int) (wrap64 (x7_1 + 1))))) else (none)) else (some false)) = some r := H; have A5 := Aside0.mk A50; clear A50
      by_cases c6 : t112 = true
      ·subst c6
       have H1 : (if x7_1 ≤ (l0.length : Int) then ((slices_Contains_string_string.f k1 (l0.take (x7_1 : Int).toNat) (rdOf ByteArray.empty l0 x7_1)).bind fun t114 => (if t114 = true then (some false) else (schema_names.l0 k1 l0 l0 (l0.length : Int) (wrap64 (x7_1 + 1))))) else (none)) = some r := by rw [if_pos rfl] at H; exact H
       clear H; have H := H1; clear H1; have c7b0 := eq_true (of_decide_eq_true (by first | (with_reducible assumption) | assumption) : 0 ≤ x7_1)
       by_cases c8 : x7_1 ≤ (l0.length : Int)
       ·rw [if_pos c8] at H
        have c8b0 := eq_true c8; have c8b1 : decide (x7_1 ≤ (l0.length : Int)) = true := decide_eq_true c8; clear c8; replace H := Option.bind_eq_some_iff.mp H; obtain ⟨t114, A90, H⟩ := H; replace H : (if t114 = true then (some false) else (schema_names.l0 k1 l0 l0 (l0.length : Int) (wrap64 (x7_1 + 1)))) = some r := H; have A9 := Aside0.mk A90; clear A90
        by_cases c10 : t114 = true
        ·subst c10
         have H1 : (some false) = some r := by rw [if_pos rfl] at H; exact H
         clear H; have H := H1; clear H1; obtain rfl := Option.some.inj H; have p111 : 0 ≤ (x7_1 : Int) := of_decide_eq_true (by first | (with_reducible assumption) | assumption); have q111 : x7_1 < (l0.length : Int) := of_decide_eq_true (by first | (with_reducible assumption) | assumption); obtain ⟨ad111, e111, hx111_0⟩ := Kd.at_string HR0.out x7_1 p111 q111
         cases e111
         replace p111 := eq_true p111; have p111D := p111; try simp only [List.length_drop, List.length_take] at p111D
         replace q111 := eq_true q111; have q111D := q111; try simp only [List.length_drop, List.length_take] at q111D
         go_wp2_with (first | ((with_reducible refine gate_callee (f := 34) rfl ?_); refine goesL_ (some 13) rfl rfl Try.func34 (by kernel_rfl) rfl #[.string (rdOf ByteArray.empty l0 x7_1)] rfl (by (try simp only [List.map_toArray, List.map_cons, List.map_nil]); first | done | rfl) ?_; (with_reducible refine (schema_Name.calls k1 (rdOf ByteArray.empty l0 x7_1) true _ A5.out).mono ?_); rintro e w' ⟨rfl, ⟨nd, rfl⟩⟩; refine ⟨_, rfl, ?_⟩; obtain ⟨i011, hi011, _, hsz11, _⟩ := info_parts info9; obtain ⟨hcut11, hA11, hC11⟩ := print_take_of (P := Try.prog) Value.string (⟨#[]⟩ : ByteArray) 29 9 .i64 Try.underlying29 hi011 hsz11 (some ad111) c0 l0 x7_1 (of_decide_eq_true (by first | (with_reducible assumption) | assumption)) (of_decide_eq_true (by first | (with_reducible assumption) | assumption)) HC0.out; have HR113 := Aside0.mk (Kd.C_of_reads (h1 := fun _ => rfl) (hA11 _ (Kd.reads_of_C HR0.out))); have HC113 := Aside0.mk hC11; clear hA11 hC11 hi011 hsz11) | (go_at_call 99; have hq_ : (x7_1 : Int) < (l0.length : Int) := of_decide_eq_true (by first | (with_reducible assumption) | assumption); have hz_ : (l0.take (x7_1 : Int).toNat).length = (x7_1 : Int).toNat := (by rw [List.length_take]; omega); rw [← hz_]; clear hz_ hq_; (with_reducible refine (slices_Contains_string_string.calls k1 _ _ (l0.take (x7_1 : Int).toNat) (rdOf ByteArray.empty l0 x7_1) true _ ?side1 ?side2 A9.out).mono ?_); (case side1 => repeat (first | exact HR113.out | (with_reducible refine Kd.C_alloc ?_ _) | (with_reducible refine Kd.C_drewN ?_ _) | (with_reducible refine Kd.C_drew ?_))); (case side2 => exact HC113.out); rintro e w' ⟨rfl, ⟨nd, rfl⟩⟩))
         go_ret
         exact ⟨by first | rfl | (simp; done) | (simp [*]; done), by repeat (first | exact Drawn0.refl _ | apply Drawn0.step)⟩
        ·replace c10 := Bool.eq_false_iff.mpr c10
         subst c10; have H1 : (schema_names.l0 k1 l0 l0 (l0.length : Int) (wrap64 (x7_1 + 1))) = some r := by rw [if_neg (show ¬ (false = true) by decide)] at H; exact H
         clear H; have H := H1; clear H1; have H' := Aside0.mk H; clear H; have p111 : 0 ≤ (x7_1 : Int) := of_decide_eq_true (by first | (with_reducible assumption) | assumption); have q111 : x7_1 < (l0.length : Int) := of_decide_eq_true (by first | (with_reducible assumption) | assumption); obtain ⟨ad111, e111, hx111_0⟩ := Kd.at_string HR0.out x7_1 p111 q111
         cases e111
         replace p111 := eq_true p111; have p111D := p111; try simp only [List.length_drop, List.length_take] at p111D
         replace q111 := eq_true q111; have q111D := q111; try simp only [List.length_drop, List.length_take] at q111D
         go_wp2_with (first | ((with_reducible refine gate_callee (f := 34) rfl ?_); refine goesL_ (some 13) rfl rfl Try.func34 (by kernel_rfl) rfl #[.string (rdOf ByteArray.empty l0 x7_1)] rfl (by (try simp only [List.map_toArray, List.map_cons, List.map_nil]); first | done | rfl) ?_; (with_reducible refine (schema_Name.calls k1 (rdOf ByteArray.empty l0 x7_1) true _ A5.out).mono ?_); rintro e w' ⟨rfl, ⟨nd, rfl⟩⟩; refine ⟨_, rfl, ?_⟩; obtain ⟨i012, hi012, _, hsz12, _⟩ := info_parts info9; obtain ⟨hcut12, hA12, hC12⟩ := print_take_of (P := Try.prog) Value.string (⟨#[]⟩ : ByteArray) 29 9 .i64 Try.underlying29 hi012 hsz12 (some ad111) c0 l0 x7_1 (of_decide_eq_true (by first | (with_reducible assumption) | assumption)) (of_decide_eq_true (by first | (with_reducible assumption) | assumption)) HC0.out; have HR113 := Aside0.mk (Kd.C_of_reads (h1 := fun _ => rfl) (hA12 _ (Kd.reads_of_C HR0.out))); have HC113 := Aside0.mk hC12; clear hA12 hC12 hi012 hsz12) | (go_at_call 99; have hq_ : (x7_1 : Int) < (l0.length : Int) := of_decide_eq_true (by first | (with_reducible assumption) | assumption); have hz_ : (l0.take (x7_1 : Int).toNat).length = (x7_1 : Int).toNat := (by rw [List.length_take]; omega); rw [← hz_]; clear hz_ hq_; (with_reducible refine (slices_Contains_string_string.calls k1 _ _ (l0.take (x7_1 : Int).toNat) (rdOf ByteArray.empty l0 x7_1) false _ ?side1 ?side2 A9.out).mono ?_); (case side1 => repeat (first | exact HR113.out | (with_reducible refine Kd.C_alloc ?_ _) | (with_reducible refine Kd.C_drewN ?_ _) | (with_reducible refine Kd.C_drew ?_))); (case side2 => exact HC113.out); rintro e w' ⟨rfl, ⟨nd, rfl⟩⟩))
         go_roundg k1
         case measure => have := HK1.out; omega
         case rel => exact ⟨(wrap64 (x7_1 + 1)), (by first | rfl | (simp; done) | (simp [*]; done)), H', ⟨by have := HK1.out; omega⟩, by repeat (first | exact Drawn0.refl _ | apply Drawn0.step)⟩
       ·rw [if_neg c8] at H
        exact absurd H (by simp)
      ·replace c6 := Bool.eq_false_iff.mpr c6
       subst c6; have H1 : (some false) = some r := by rw [if_neg (show ¬ (false = true) by decide)] at H; exact H
       clear H; have H := H1; clear H1; obtain rfl := Option.some.inj H; have p111 : 0 ≤ (x7_1 : Int) := of_decide_eq_true (by first | (with_reducible assumption) | assumption); have q111 : x7_1 < (l0.length : Int) := of_decide_eq_true (by first | (with_reducible assumption) | assumption); obtain ⟨ad111, e111, hx111_0⟩ := Kd.at_string HR0.out x7_1 p111 q111
       cases e111
       replace p111 := eq_true p111; have p111D := p111; try simp only [List.length_drop, List.length_take] at p111D
       replace q111 := eq_true q111; have q111D := q111; try simp only [List.length_drop, List.length_take] at q111D
       go_wp2_with (first | ((with_reducible refine gate_callee (f := 34) rfl ?_); refine goesL_ (some 13) rfl rfl Try.func34 (by kernel_rfl) rfl #[.string (rdOf ByteArray.empty l0 x7_1)] rfl (by (try simp only [List.map_toArray, List.map_cons, List.map_nil]); first | done | rfl) ?_; (with_reducible refine (schema_Name.calls k1 (rdOf ByteArray.empty l0 x7_1) false _ A5.out).mono ?_); rintro e w' ⟨rfl, ⟨nd, rfl⟩⟩; refine ⟨_, rfl, ?_⟩))
       go_ret
       exact ⟨by first | rfl | (simp; done) | (simp [*]; done), by repeat (first | exact Drawn0.refl _ | apply Drawn0.step)⟩
     ·rw [if_neg c4] at H
      exact absurd H (by simp)
    ·rw [if_neg c3] at H
     exact absurd H (by simp)
   ·rw [if_neg c2] at H
    have c2b0 : decide (x7_1 < (l0.length : Int)) = false := decide_eq_false c2; clear c2; obtain rfl := Option.some.inj H
    go_wp2
    go_ret
    exact ⟨by first | rfl | (simp; done) | (simp [*]; done), by repeat (first | exact Drawn0.refl _ | apply Drawn0.step)⟩

/-! ### schema_right_1: function 120 -/
def schema_right_1.f (a0 : Int) : Option (Bool) := if a0 < 0 then (some true) else (some (decide (a0 > 2147483647)))
set_option maxHeartbeats 8000000 in
set_option maxRecDepth 100000 in
theorem schema_right_1.calls (a0 : Int) (r : Bool) (w : World) (h : schema_right_1.f a0 = some r) :
  Calls Try.prog 120 #[.int .i64 a0] w fun e w' => e = .returned (.bool r) ∧ Drawn0 w w' := by
 have H : (if a0 < 0 then (some true) else (some (decide (a0 > 2147483647)))) = some r := h; clear h
 by_cases c2 : a0 < 0
 ·rw [if_pos c2] at H
  have c2b0 : decide (a0 < 0) = true := decide_eq_true c2; clear c2; obtain rfl := Option.some.inj H
  go_enter Try.func120, Try.ntmps120
  go_wp2
  go_ret
  exact ⟨by first | rfl | (simp; done) | (simp [*]; done), by repeat (first | exact Drawn0.refl _ | apply Drawn0.step)⟩
 ·rw [if_neg c2] at H
  have c2b0 : decide (a0 < 0) = false := decide_eq_false c2; clear c2; obtain rfl := Option.some.inj H
  go_enter Try.func120, Try.ntmps120
  go_wp2
  go_ret
  exact ⟨by first | rfl | (simp; done) | (simp [*]; done), by repeat (first | exact Drawn0.refl _ | apply Drawn0.step)⟩

/-! ### slices_IndexFunc_int_int: function 127 -/
def slices_IndexFunc_int_int.l0 : Nat → List Int → Int → Int → Option (Int)
 | 0, _, _, _ => none
 | k + 1, x0, x7, x8 => if x8 < x7 then (if 0 ≤ x8 then (if x8 < (x0.length : Int) then ((schema_right_1.f (rd x0 x8)).bind fun t116 => (if t116 = true then (some x8) else (slices_IndexFunc_int_int.l0 k x0 x7 (wrap64 (x8 + 1))))) else (none)) else (none)) else (some (-1))
def slices_IndexFunc_int_int.f (k : Nat) (l0 : List Int) (a1 : Int) : Option (Int) := slices_IndexFunc_int_int.l0 k l0 (l0.length : Int) 0
theorem slices_IndexFunc_int_int.mono_l : ∀ k, (∀ y0 y1 y2, LeO (slices_IndexFunc_int_int.l0 k y0 y1 y2) (slices_IndexFunc_int_int.l0 (k + 1) y0 y1 y2))
 | 0 => fun _ _ _ r h => by simp [slices_IndexFunc_int_int.l0] at h
 | k + 1 => by
  have ih0 := slices_IndexFunc_int_int.mono_l k
  ·intro y0 y1 y2
   unfold slices_IndexFunc_int_int.l0
   repeat' first
   | (with_reducible exact ih0 _ _ _)
   | (with_reducible exact LeO.refl _)
   | (with_reducible exact LeO.none _)
   | (with_reducible refine LeO.ite ?_ ?_)
   | (with_reducible refine LeO.bind ?_ (fun _ => ?_))
   | exact ih0 _ _ _
   | exact LeO.none _
   | refine LeO.ite ?_ ?_
   | refine LeO.bind ?_ (fun _ => ?_)
theorem slices_IndexFunc_int_int.mono : ∀ a0 a1 k, LeO (slices_IndexFunc_int_int.f k a0 a1) (slices_IndexFunc_int_int.f (k + 1) a0 a1) := by
 intro a0 a1 k; have ih0 := slices_IndexFunc_int_int.mono_l k
 unfold slices_IndexFunc_int_int.f
 repeat' first
   | (with_reducible exact ih0 _ _ _)
   | (with_reducible exact LeO.refl _)
   | (with_reducible exact LeO.none _)
   | (with_reducible refine LeO.ite ?_ ?_)
   | (with_reducible refine LeO.bind ?_ (fun _ => ?_))
   | exact ih0 _ _ _
   | exact LeO.none _
   | refine LeO.ite ?_ ?_
   | refine LeO.bind ?_ (fun _ => ?_)
set_option maxHeartbeats 8000000 in
set_option maxRecDepth 100000 in
theorem slices_IndexFunc_int_int.calls (k : Nat) (A0 : Option Addr) (c0 : Nat) (l0 : List Int) (a1 : Int) (r : Int) (w : World) (hr0 : Kd.C (Kd.int .i64) w A0 l0.length l0) (hc0 : l0.length ≤ c0) (h : slices_IndexFunc_int_int.f k l0 a1 = some r) :
  Calls Try.prog 127 #[.slice A0 l0.length c0, .func (.func 120) #[] #[]] w fun e w' => e = .returned (.int .i64 r) ∧ Drawn0 w w' := by
 have HR0 := Aside0.mk hr0; have HC0 := Aside0.mk hc0; clear hr0 hc0; have H : (slices_IndexFunc_int_int.l0 k l0 (l0.length : Int) 0) = some r := h; clear h; have H' := Aside0.mk H; clear H
 go_enter Try.func127, Try.ntmps127
 go_wp2
 go_loopg [8] k (fun kq v8 w' => ∃ (x8_1 : Int), v8 = .int .i64 x8_1 ∧ Aside0 (slices_IndexFunc_int_int.l0 kq l0 (l0.length : Int) x8_1 = some r) ∧ Aside0 (kq ≤ k) ∧ Drawn0 w w')
 case atStart => exact ⟨(0), (by first | rfl | (simp; done) | (simp [*]; done)), H', ⟨Nat.le_refl _⟩, by repeat (first | exact Drawn0.refl _ | apply Drawn0.step)⟩
 case round =>
  clear H'; (try clear c1); (try clear p2); obtain ⟨x8_1, rfl, HA, HK1, ⟨m1, rfl⟩⟩ := hrel
  cases gk with
  | zero => exact absurd HA.out (by simp [slices_IndexFunc_int_int.l0])
  | succ k1 =>
   have H := HA.out; clear HA; simp only [slices_IndexFunc_int_int.l0] at H
   by_cases c3 : x8_1 < (l0.length : Int)
   ·rw [if_pos c3] at H
    have c3b0 : decide (x8_1 < (l0.length : Int)) = true := decide_eq_true c3; clear c3
    by_cases c4 : 0 ≤ x8_1
    ·rw [if_pos c4] at H
     have c4b0 : decide (0 ≤ x8_1) = true := decide_eq_true c4; clear c4
     by_cases c5 : x8_1 < (l0.length : Int)
     ·rw [if_pos c5] at H
      have c5b0 : decide (x8_1 < (l0.length : Int)) = true := decide_eq_true c5; clear c5; replace H := Option.bind_eq_some_iff.mp H; obtain ⟨t116, A60, H⟩ := H; replace H : (if t116 = true then (some x8_1) else (slices_IndexFunc_int_int.l0 k1 l0 (l0.length : Int) (wrap64 (x8_1 + 1)))) = some r := H; have A6 := Aside0.mk A60; clear A60
      by_cases c7 : t116 = true
      ·subst c7
       have H1 : (some x8_1) = some r := by rw [if_pos rfl] at H; exact H
       clear H; have H := H1; clear H1; obtain rfl := Option.some.inj H; have p115 : 0 ≤ (x8_1 : Int) := of_decide_eq_true (by first | (with_reducible assumption) | assumption); have q115 : x8_1 < (l0.length : Int) := of_decide_eq_true (by first | (with_reducible assumption) | assumption); obtain ⟨ad115, e115, hx115_0⟩ := Kd.at_int HR0.out x8_1 p115 q115
       cases e115
       replace p115 := eq_true p115; have p115D := p115; try simp only [List.length_drop, List.length_take] at p115D
       replace q115 := eq_true q115; have q115D := q115; try simp only [List.length_drop, List.length_take] at q115D
       go_wp2_with (first | ((with_reducible refine gate_dst (N := 16) rfl ?_); refine goesT_ (some 16) rfl rfl Try.func120 (by kernel_rfl) rfl #[.int .i64 (rd l0 x8_1)] rfl (by (try simp only [List.map_toArray, List.map_cons, List.map_nil]); first | done | rfl) ?_; (with_reducible refine (schema_right_1.calls (rd l0 x8_1) true _ A6.out).mono ?_); rintro e w' ⟨rfl, ⟨nd, rfl⟩⟩; refine ⟨_, rfl, ?_⟩))
       go_ret
       exact ⟨by first | rfl | (simp; done) | (simp [*]; done), by repeat (first | exact Drawn0.refl _ | apply Drawn0.step)⟩
      ·replace c7 := Bool.eq_false_iff.mpr c7
       subst c7; have H1 : (slices_IndexFunc_int_int.l0 k1 l0 (l0.length : Int) (wrap64 (x8_1 + 1))) = some r := by rw [if_neg (show ¬ (false = true) by decide)] at H; exact H
       clear H; have H := H1; clear H1; have H' := Aside0.mk H; clear H; have p115 : 0 ≤ (x8_1 : Int) := of_decide_eq_true (by first | (with_reducible assumption) | assumption); have q115 : x8_1 < (l0.length : Int) := of_decide_eq_true (by first | (with_reducible assumption) | assumption); obtain ⟨ad115, e115, hx115_0⟩ := Kd.at_int HR0.out x8_1 p115 q115
       cases e115
       replace p115 := eq_true p115; have p115D := p115; try simp only [List.length_drop, List.length_take] at p115D
       replace q115 := eq_true q115; have q115D := q115; try simp only [List.length_drop, List.length_take] at q115D
       go_wp2_with (first | ((with_reducible refine gate_dst (N := 16) rfl ?_); refine goesT_ (some 16) rfl rfl Try.func120 (by kernel_rfl) rfl #[.int .i64 (rd l0 x8_1)] rfl (by (try simp only [List.map_toArray, List.map_cons, List.map_nil]); first | done | rfl) ?_; (with_reducible refine (schema_right_1.calls (rd l0 x8_1) false _ A6.out).mono ?_); rintro e w' ⟨rfl, ⟨nd, rfl⟩⟩; refine ⟨_, rfl, ?_⟩))
       go_roundg k1
       case measure => have := HK1.out; omega
       case rel => exact ⟨(wrap64 (x8_1 + 1)), (by first | rfl | (simp; done) | (simp [*]; done)), H', ⟨by have := HK1.out; omega⟩, by repeat (first | exact Drawn0.refl _ | apply Drawn0.step)⟩
     ·rw [if_neg c5] at H
      exact absurd H (by simp)
    ·rw [if_neg c4] at H
     exact absurd H (by simp)
   ·rw [if_neg c3] at H
    have c3b0 : decide (x8_1 < (l0.length : Int)) = false := decide_eq_false c3; clear c3; obtain rfl := Option.some.inj H
    go_wp2
    go_ret
    exact ⟨by first | rfl | (simp; done) | (simp [*]; done), by repeat (first | exact Drawn0.refl _ | apply Drawn0.step)⟩

/-! ### slices_ContainsFunc_int_int: function 119 -/
def slices_ContainsFunc_int_int.f (k : Nat) (l0 : List Int) (a1 : Int) : Option (Bool) := (slices_IndexFunc_int_int.f k l0 0).bind fun t117 => (some (decide (t117 ≥ 0)))
theorem slices_ContainsFunc_int_int.mono : ∀ a0 a1 k, LeO (slices_ContainsFunc_int_int.f k a0 a1) (slices_ContainsFunc_int_int.f (k + 1) a0 a1) := by
 intro a0 a1 k
 unfold slices_ContainsFunc_int_int.f
 repeat' first
   | (with_reducible exact slices_IndexFunc_int_int.mono _ _ _)
   | (with_reducible exact LeO.refl _)
   | (with_reducible exact LeO.none _)
   | (with_reducible refine LeO.ite ?_ ?_)
   | (with_reducible refine LeO.bind ?_ (fun _ => ?_))
   | exact slices_IndexFunc_int_int.mono _ _ _
   | exact LeO.none _
   | refine LeO.ite ?_ ?_
   | refine LeO.bind ?_ (fun _ => ?_)
set_option maxHeartbeats 8000000 in
set_option maxRecDepth 100000 in
theorem slices_ContainsFunc_int_int.calls (k : Nat) (A0 : Option Addr) (c0 : Nat) (l0 : List Int) (a1 : Int) (r : Bool) (w : World) (hr0 : Kd.C (Kd.int .i64) w A0 l0.length l0) (hc0 : l0.length ≤ c0) (h : slices_ContainsFunc_int_int.f k l0 a1 = some r) :
  Calls Try.prog 119 #[.slice A0 l0.length c0, .func (.func 120) #[] #[]] w fun e w' => e = .returned (.bool r) ∧ Drawn0 w w' := by
 have HR0 := Aside0.mk hr0; have HC0 := Aside0.mk hc0; clear hr0 hc0; have H : ((slices_IndexFunc_int_int.f k l0 0).bind fun t117 => (some (decide (t117 ≥ 0)))) = some r := h; clear h; replace H := Option.bind_eq_some_iff.mp H; obtain ⟨t117, A30, H⟩ := H; replace H : (some (decide (t117 ≥ 0))) = some r := H; have A3 := Aside0.mk A30; clear A30; obtain rfl := Option.some.inj H
 go_enter Try.func119, Try.ntmps119
 go_wp2_with (first | ((with_reducible refine gate_callee (f := 127) rfl ?_); refine goesL_ (some 7) rfl rfl Try.func127 (by kernel_rfl) rfl #[.slice A0 l0.length c0, .func (.func 120) #[] #[]] rfl (by (try simp only [List.map_toArray, List.map_cons, List.map_nil]); first | done | rfl) ?_; (with_reducible refine (slices_IndexFunc_int_int.calls k _ _ l0 0 t117 _ ?side1 ?side2 A3.out).mono ?_); (case side1 => repeat (first | exact HR0.out | (with_reducible refine Kd.C_alloc ?_ _) | (with_reducible refine Kd.C_drewN ?_ _) | (with_reducible refine Kd.C_drew ?_))); (case side2 => exact HC0.out); rintro e w' ⟨rfl, ⟨nd, rfl⟩⟩; refine ⟨_, rfl, ?_⟩))
 go_ret
 exact ⟨by first | rfl | (simp; done) | (simp [*]; done), by repeat (first | exact Drawn0.refl _ | apply Drawn0.step)⟩

/-! ### schema_right: function 97 -/
def schema_right.f (k : Nat) (l0 : List Int) : Option (Bool) := (slices_ContainsFunc_int_int.f k l0 0).bind fun t118 => (some (!t118))
theorem schema_right.mono : ∀ a0 k, LeO (schema_right.f k a0) (schema_right.f (k + 1) a0) := by
 intro a0 k
 unfold schema_right.f
 repeat' first
   | (with_reducible exact slices_ContainsFunc_int_int.mono _ _ _)
   | (with_reducible exact LeO.refl _)
   | (with_reducible exact LeO.none _)
   | (with_reducible refine LeO.ite ?_ ?_)
   | (with_reducible refine LeO.bind ?_ (fun _ => ?_))
   | exact slices_ContainsFunc_int_int.mono _ _ _
   | exact LeO.none _
   | refine LeO.ite ?_ ?_
   | refine LeO.bind ?_ (fun _ => ?_)
set_option maxHeartbeats 8000000 in
set_option maxRecDepth 100000 in
theorem schema_right.calls (k : Nat) (A0 : Option Addr) (c0 : Nat) (l0 : List Int) (r : Bool) (w : World) (hr0 : Kd.C (Kd.int .i64) w A0 l0.length l0) (hc0 : l0.length ≤ c0) (h : schema_right.f k l0 = some r) :
  Calls Try.prog 97 #[.slice A0 l0.length c0] w fun e w' => e = .returned (.bool r) ∧ Drawn0 w w' := by
 have HR0 := Aside0.mk hr0; have HC0 := Aside0.mk hc0; clear hr0 hc0; have H : ((slices_ContainsFunc_int_int.f k l0 0).bind fun t118 => (some (!t118))) = some r := h; clear h; replace H := Option.bind_eq_some_iff.mp H; obtain ⟨t118, A20, H⟩ := H; replace H : (some (!t118)) = some r := H; have A2 := Aside0.mk A20; clear A20; obtain rfl := Option.some.inj H
 go_enter Try.func97, Try.ntmps97
 go_wp2_with (first | ((with_reducible refine gate_callee (f := 119) rfl ?_); refine goesL_ (some 4) rfl rfl Try.func119 (by kernel_rfl) rfl #[.slice A0 l0.length c0, .func (.func 120) #[] #[]] rfl (by (try simp only [List.map_toArray, List.map_cons, List.map_nil]); first | done | rfl) ?_; (with_reducible refine (slices_ContainsFunc_int_int.calls k _ _ l0 0 t118 _ ?side1 ?side2 A2.out).mono ?_); (case side1 => repeat (first | exact HR0.out | (with_reducible refine Kd.C_alloc ?_ _) | (with_reducible refine Kd.C_drewN ?_ _) | (with_reducible refine Kd.C_drew ?_))); (case side2 => exact HC0.out); rintro e w' ⟨rfl, ⟨nd, rfl⟩⟩; refine ⟨_, rfl, ?_⟩))
 go_ret
 exact ⟨by first | rfl | (simp; done) | (simp [*]; done), by repeat (first | exact Drawn0.refl _ | apply Drawn0.step)⟩

end Go.Proofs.Ytpfegfkniilobaa.XSchema
