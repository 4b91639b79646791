-- Written by this session's own program (wip/own_print.py) over the kit's print, with this session's hand-proved contracts in their places; Lean checks it.
import Derived.Test.YtpfegfkniilobaaXSchemax0
import Derived.Test.YtpfegfkniilobaaBs
namespace Go.Proofs.Ytpfegfkniilobaa.XSchema
open Go.RowKit Go.Proofs.YtpfegfkniilobaaW.PrintWords Go.Proofs.YtpfegfkniilobaaW.PrintLast Go.Proofs.YtpfegfkniilobaaW.PrintMore
attribute [local go_sem] max2_int min2_int max_two min_two max_three min_three max_four min_four   -- for this text's walks alone
set_option linter.unusedVariables false
set_option linter.unusedSimpArgs false

/-! ### rowlockref12_Name: function 35 -/
mutual
def rowlockref12_Name.j0 : Nat → ByteArray → Bool → Option (Bool)
 | 0, _, _ => none
 | k + 1, x0, x13 => if x13 = true then (some false) else (rowlockref12_Name.l0 k x0 0)
def rowlockref12_Name.l0 : Nat → ByteArray → Int → Option (Bool)
 | 0, _, _ => none
 | k + 1, x0, x3 => if x3 < (x0.size : Int) then (if 0 ≤ x3 then (if (bt x0 x3) ≥ 97 then (if (bt x0 x3) ≥ 48 then (if (bt x0 x3) ≤ 57 then (if ((bt x0 x3) ≤ 122) then (rowlockref12_Name.l0 k x0 (wrap64 (x3 + 1))) else (if x3 = 0 then (some false) else (rowlockref12_Name.l0 k x0 (wrap64 (x3 + 1))))) else (if ((bt x0 x3) ≤ 122) then (rowlockref12_Name.l0 k x0 (wrap64 (x3 + 1))) else (if ((bt x0 x3) = 95) then (if x3 = 0 then (some false) else (rowlockref12_Name.l0 k x0 (wrap64 (x3 + 1)))) else (some false)))) else (if ((bt x0 x3) ≤ 122) then (rowlockref12_Name.l0 k x0 (wrap64 (x3 + 1))) else (if ((bt x0 x3) = 95) then (if x3 = 0 then (some false) else (rowlockref12_Name.l0 k x0 (wrap64 (x3 + 1)))) else (some false)))) else (if (bt x0 x3) ≥ 48 then (if (bt x0 x3) ≤ 57 then (if x3 = 0 then (some false) else (rowlockref12_Name.l0 k x0 (wrap64 (x3 + 1)))) else (if ((bt x0 x3) = 95) then (if x3 = 0 then (some false) else (rowlockref12_Name.l0 k x0 (wrap64 (x3 + 1)))) else (some false))) else (if ((bt x0 x3) = 95) then (if x3 = 0 then (some false) else (rowlockref12_Name.l0 k x0 (wrap64 (x3 + 1)))) else (some false)))) else (none)) else (some true)
end
def rowlockref12_Name.f (k : Nat) (a0 : ByteArray) : Option (Bool) := if (a0.size : Int) < 1 then (rowlockref12_Name.j0 k a0 true) else (rowlockref12_Name.j0 k a0 (decide ((a0.size : Int) > 24)))
theorem rowlockref12_Name.mono_l : ∀ k, (∀ y0 y1, LeO (rowlockref12_Name.j0 k y0 y1) (rowlockref12_Name.j0 (k + 1) y0 y1)) ∧ (∀ y0 y1, LeO (rowlockref12_Name.l0 k y0 y1) (rowlockref12_Name.l0 (k + 1) y0 y1))
 | 0 => ⟨fun _ _ r h => by simp [rowlockref12_Name.j0] at h, fun _ _ r h => by simp [rowlockref12_Name.l0] at h⟩
 | k + 1 => by
  obtain ⟨ih0, ih1⟩ := rowlockref12_Name.mono_l k; refine ⟨?_, ?_⟩
  ·intro y0 y1
   unfold rowlockref12_Name.j0
   repeat' first
   | (with_reducible exact ih0 _ _)
   | (with_reducible exact ih1 _ _)
   | (with_reducible exact LeO.refl _)
   | (with_reducible exact LeO.none _)
   | (with_reducible refine LeO.ite ?_ ?_)
   | (with_reducible refine LeO.bind ?_ (fun _ => ?_))
   | exact ih0 _ _
   | exact ih1 _ _
   | exact LeO.none _
   | refine LeO.ite ?_ ?_
   | refine LeO.bind ?_ (fun _ => ?_)
  ·intro y0 y1
   unfold rowlockref12_Name.l0
   repeat' first
   | (with_reducible exact ih0 _ _)
   | (with_reducible exact ih1 _ _)
   | (with_reducible exact LeO.refl _)
   | (with_reducible exact LeO.none _)
   | (with_reducible refine LeO.ite ?_ ?_)
   | (with_reducible refine LeO.bind ?_ (fun _ => ?_))
   | exact ih0 _ _
   | exact ih1 _ _
   | exact LeO.none _
   | refine LeO.ite ?_ ?_
   | refine LeO.bind ?_ (fun _ => ?_)
theorem rowlockref12_Name.mono : ∀ a0 k, LeO (rowlockref12_Name.f k a0) (rowlockref12_Name.f (k + 1) a0) := by
 intro a0 k; obtain ⟨ih0, ih1⟩ := rowlockref12_Name.mono_l k
 unfold rowlockref12_Name.f
 repeat' first
   | (with_reducible exact ih0 _ _)
   | (with_reducible exact ih1 _ _)
   | (with_reducible exact LeO.refl _)
   | (with_reducible exact LeO.none _)
   | (with_reducible refine LeO.ite ?_ ?_)
   | (with_reducible refine LeO.bind ?_ (fun _ => ?_))
   | exact ih0 _ _
   | exact ih1 _ _
   | exact LeO.none _
   | refine LeO.ite ?_ ?_
   | refine LeO.bind ?_ (fun _ => ?_)
set_option maxHeartbeats 8000000 in
set_option maxRecDepth 100000 in
theorem rowlockref12_Name.calls (k : Nat) (a0 : ByteArray) (r : Bool) (w : World) (h : rowlockref12_Name.f k a0 = some r) :
  Calls Try.prog 35 #[.string a0] w fun e w' => e = .returned (.bool r) ∧ Drawn0 w w' := by
 have H : (if (a0.size : Int) < 1 then (rowlockref12_Name.j0 k a0 true) else (rowlockref12_Name.j0 k a0 (decide ((a0.size : Int) > 24)))) = some r := h; clear h; have HC2 := Aside0.mk H; clear H
 go_enter Try.func35, Try.ntmps35
 go_upto_region 1 with (fail)
 go_cut [13] (fun v13 wc => ∃ (kq : Nat) (x13_1 : Bool), v13 = .bool x13_1 ∧ Aside0 (rowlockref12_Name.j0 kq a0 x13_1 = some r) ∧ Aside0 (kq ≤ k) ∧ Drawn0 w wc)
 case first =>
  have H := HC2.out; clear HC2
  by_cases c3 : (a0.size : Int) < 1
  ·rw [if_pos c3] at H
   have c3b0 : decide ((a0.size : Int) < 1) = true := decide_eq_true c3; have c3b1 : decide (a0.size < 1) = true := decide_eq_true (by omega); clear c3
   (first | rw [c3b0] | (simp only [i64_w, i32_w]; rw [c3b0]) | skip)
   have H' := Aside0.mk H; clear H
   go_wp2
   go_meet
   case rel => exact ⟨_, (true), (by first | rfl | (simp; done) | (simp [*]; done)), H', ⟨by first | omega | exact Nat.le_refl _⟩, by repeat (first | exact Drawn0.refl _ | apply Drawn0.step)⟩
  ·rw [if_neg c3] at H
   have c3b0 : decide ((a0.size : Int) < 1) = false := decide_eq_false c3; have c3b1 : decide (a0.size < 1) = false := decide_eq_false (by omega); clear c3
   (first | rw [c3b0] | (simp only [i64_w, i32_w]; rw [c3b0]) | skip)
   have H' := Aside0.mk H; clear H
   go_wp2
   go_meet
   case rel => exact ⟨_, (decide ((a0.size : Int) > 24)), (by first | rfl | (simp; done) | (simp [*]; done)), H', ⟨by first | omega | exact Nat.le_refl _⟩, by repeat (first | exact Drawn0.refl _ | apply Drawn0.step)⟩
 case rest =>
  clear HC2; (try clear p2); (try clear c3); (try clear c3b0); (try clear c3b1); obtain ⟨kq, x13_1, rfl, HA, HJ1, ⟨mc1, rfl⟩⟩ := hcut
  cases kq with
  | zero => exact absurd HA.out (by simp [rowlockref12_Name.j0])
  | succ kj1 =>
   have H := HA.out; clear HA; simp only [rowlockref12_Name.j0] at H
   by_cases c4 : x13_1 = true
   ·subst c4
    have H1 : (some false) = some r := by rw [if_pos rfl] at H; exact H
    clear H; have H := H1; clear H1; obtain rfl := Option.some.inj H
    go_wp2
    go_ret
    exact ⟨by first | rfl | (simp; done) | (simp [*]; done), by repeat (first | exact Drawn0.refl _ | apply Drawn0.step)⟩
   ·replace c4 := Bool.eq_false_iff.mpr c4
    subst c4; have H1 : (rowlockref12_Name.l0 kj1 a0 0) = some r := by rw [if_neg (show ¬ (false = true) by decide)] at H; exact H
    clear H; have H := H1; clear H1; have H' := Aside0.mk H; clear H
    go_wp2
    go_loopg [3] kj1 (fun kq v3 w' => ∃ (x3_2 : Int), v3 = .int .i64 x3_2 ∧ Aside0 (rowlockref12_Name.l0 kq a0 x3_2 = some r) ∧ Aside0 (kq ≤ kj1) ∧ Drawn0 w w')
    case atStart => exact ⟨(0), (by first | rfl | (simp; done) | (simp [*]; done)), H', ⟨Nat.le_refl _⟩, by repeat (first | exact Drawn0.refl _ | apply Drawn0.step)⟩
    case round =>
     clear H'; (try clear c1); (try clear p2); (try clear c3); (try clear c3b0); (try clear c3b1); (try clear c4); (try clear p2); obtain ⟨x3_2, rfl, HA, HK2, ⟨m2, rfl⟩⟩ := hrel
     cases gk with
     | zero => exact absurd HA.out (by simp [rowlockref12_Name.l0])
     | succ k2 =>
      have H := HA.out; clear HA; simp only [rowlockref12_Name.l0] at H
      by_cases c5 : x3_2 < (a0.size : Int)
      ·rw [if_pos c5] at H
       have c5b0 : decide (x3_2 < (a0.size : Int)) = true := decide_eq_true c5; clear c5
       by_cases c6 : 0 ≤ x3_2
       ·rw [if_pos c6] at H
        have c6b0 : decide (0 ≤ x3_2) = true := decide_eq_true c6; clear c6
        by_cases c8 : (bt a0 x3_2) ≥ 97
        ·rw [if_pos c8] at H
         have c8b0 : decide (97 ≤ (bt a0 x3_2)) = true := decide_eq_true c8; clear c8
         by_cases c11 : (bt a0 x3_2) ≥ 48
         ·rw [if_pos c11] at H
          have c11b0 : decide (48 ≤ (bt a0 x3_2)) = true := decide_eq_true c11; clear c11
          by_cases c13 : (bt a0 x3_2) ≤ 57
          ·rw [if_pos c13] at H
           have c13b0 : decide ((bt a0 x3_2) ≤ 57) = true := decide_eq_true c13; clear c13
           by_cases c14 : ((bt a0 x3_2) ≤ 122)
           ·rw [if_pos c14] at H
            have c14b0 : decide ((bt a0 x3_2) ≤ 122) = true := decide_eq_true c14; clear c14; have H' := Aside0.mk H; clear H; have p7 : 0 ≤ (x3_2 : Int) := of_decide_eq_true (by first | (with_reducible assumption) | assumption); have q7 : x3_2 < (a0.size : Int) := of_decide_eq_true (by first | (with_reducible assumption) | assumption); have hx7 := bt_at a0 x3_2; replace p7 := eq_true p7; have p7D := p7; try simp only [List.length_drop, List.length_take] at p7D
            replace q7 := eq_true q7; have q7D := q7; try simp only [List.length_drop, List.length_take] at q7D
            have p9 : 0 ≤ (x3_2 : Int) := of_decide_eq_true (by first | (with_reducible assumption) | assumption); have q9 : x3_2 < (a0.size : Int) := of_decide_eq_true (by first | (with_reducible assumption) | assumption); have hx9 := bt_at a0 x3_2; replace p9 := eq_true p9; have p9D := p9; try simp only [List.length_drop, List.length_take] at p9D
            replace q9 := eq_true q9; have q9D := q9; try simp only [List.length_drop, List.length_take] at q9D
            have p10 : 0 ≤ (x3_2 : Int) := of_decide_eq_true (by first | (with_reducible assumption) | assumption); have q10 : x3_2 < (a0.size : Int) := of_decide_eq_true (by first | (with_reducible assumption) | assumption); have hx10 := bt_at a0 x3_2; replace p10 := eq_true p10; have p10D := p10; try simp only [List.length_drop, List.length_take] at p10D
            replace q10 := eq_true q10; have q10D := q10; try simp only [List.length_drop, List.length_take] at q10D
            have p12 : 0 ≤ (x3_2 : Int) := of_decide_eq_true (by first | (with_reducible assumption) | assumption); have q12 : x3_2 < (a0.size : Int) := of_decide_eq_true (by first | (with_reducible assumption) | assumption); have hx12 := bt_at a0 x3_2; replace p12 := eq_true p12; have p12D := p12; try simp only [List.length_drop, List.length_take] at p12D
            replace q12 := eq_true q12; have q12D := q12; try simp only [List.length_drop, List.length_take] at q12D
            go_wp2
            go_roundg k2
            case measure => have := HJ1.out; have := HK2.out; omega
            case rel => exact ⟨(wrap64 (x3_2 + 1)), (by first | rfl | (simp; done) | (simp [*]; done)), H', ⟨by have := HJ1.out; have := HK2.out; omega⟩, by repeat (first | exact Drawn0.refl _ | apply Drawn0.step)⟩
           ·rw [if_neg c14] at H
            have c14b0 : decide ((bt a0 x3_2) ≤ 122) = false := decide_eq_false c14; clear c14
            by_cases c15 : x3_2 = 0
            ·rw [if_pos c15] at H
             have c15b0 : (x3_2 == 0) = true := beq_iff_eq.mpr c15; have c15b1 : (x3_2 != 0) = false := bne_eq_false_iff_eq.mpr c15; clear c15; obtain rfl := Option.some.inj H; have p7 : 0 ≤ (x3_2 : Int) := of_decide_eq_true (by first | (with_reducible assumption) | assumption); have q7 : x3_2 < (a0.size : Int) := of_decide_eq_true (by first | (with_reducible assumption) | assumption); have hx7 := bt_at a0 x3_2; replace p7 := eq_true p7; have p7D := p7; try simp only [List.length_drop, List.length_take] at p7D
             replace q7 := eq_true q7; have q7D := q7; try simp only [List.length_drop, List.length_take] at q7D
             have p9 : 0 ≤ (x3_2 : Int) := of_decide_eq_true (by first | (with_reducible assumption) | assumption); have q9 : x3_2 < (a0.size : Int) := of_decide_eq_true (by first | (with_reducible assumption) | assumption); have hx9 := bt_at a0 x3_2; replace p9 := eq_true p9; have p9D := p9; try simp only [List.length_drop, List.length_take] at p9D
             replace q9 := eq_true q9; have q9D := q9; try simp only [List.length_drop, List.length_take] at q9D
             have p10 : 0 ≤ (x3_2 : Int) := of_decide_eq_true (by first | (with_reducible assumption) | assumption); have q10 : x3_2 < (a0.size : Int) := of_decide_eq_true (by first | (with_reducible assumption) | assumption); have hx10 := bt_at a0 x3_2; replace p10 := eq_true p10; have p10D := p10; try simp only [List.length_drop, List.length_take] at p10D
             replace q10 := eq_true q10; have q10D := q10; try simp only [List.length_drop, List.length_take] at q10D
             have p12 : 0 ≤ (x3_2 : Int) := of_decide_eq_true (by first | (with_reducible assumption) | assumption); have q12 : x3_2 < (a0.size : Int) := of_decide_eq_true (by first | (with_reducible assumption) | assumption); have hx12 := bt_at a0 x3_2; replace p12 := eq_true p12; have p12D := p12; try simp only [List.length_drop, List.length_take] at p12D
             replace q12 := eq_true q12; have q12D := q12; try simp only [List.length_drop, List.length_take] at q12D
             go_wp2
             go_ret
             exact ⟨by first | rfl | (simp; done) | (simp [*]; done), by repeat (first | exact Drawn0.refl _ | apply Drawn0.step)⟩
            ·rw [if_neg c15] at H
             have c15b0 : (x3_2 == 0) = false := beq_eq_false_iff_ne.mpr c15; have c15b1 : (x3_2 != 0) = true := bne_iff_ne.mpr c15; have H' := Aside0.mk H; clear H; have p7 : 0 ≤ (x3_2 : Int) := of_decide_eq_true (by first | (with_reducible assumption) | assumption); have q7 : x3_2 < (a0.size : Int) := of_decide_eq_true (by first | (with_reducible assumption) | assumption); have hx7 := bt_at a0 x3_2; replace p7 := eq_true p7; have p7D := p7; try simp only [List.length_drop, List.length_take] at p7D
             replace q7 := eq_true q7; have q7D := q7; try simp only [List.length_drop, List.length_take] at q7D
             have p9 : 0 ≤ (x3_2 : Int) := of_decide_eq_true (by first | (with_reducible assumption) | assumption); have q9 : x3_2 < (a0.size : Int) := of_decide_eq_true (by first | (with_reducible assumption) | assumption); have hx9 := bt_at a0 x3_2; replace p9 := eq_true p9; have p9D := p9; try simp only [List.length_drop, List.length_take] at p9D
             replace q9 := eq_true q9; have q9D := q9; try simp only [List.length_drop, List.length_take] at q9D
             have p10 : 0 ≤ (x3_2 : Int) := of_decide_eq_true (by first | (with_reducible assumption) | assumption); have q10 : x3_2 < (a0.size : Int) := of_decide_eq_true (by first | (with_reducible assumption) | assumption); have hx10 := bt_at a0 x3_2; replace p10 := eq_true p10; have p10D := p10; try simp only [List.length_drop, List.length_take] at p10D
             replace q10 := eq_true q10; have q10D := q10; try simp only [List.length_drop, List.length_take] at q10D
             have p12 : 0 ≤ (x3_2 : Int) := of_decide_eq_true (by first | (with_reducible assumption) | assumption); have q12 : x3_2 < (a0.size : Int) := of_decide_eq_true (by first | (with_reducible assumption) | assumption); have hx12 := bt_at a0 x3_2; replace p12 := eq_true p12; have p12D := p12; try simp only [List.length_drop, List.length_take] at p12D
             replace q12 := eq_true q12; have q12D := q12; try simp only [List.length_drop, List.length_take] at q12D
             go_wp2
             go_roundg k2
             case measure => have := HJ1.out; have := HK2.out; omega
             case rel => exact ⟨(wrap64 (x3_2 + 1)), (by first | rfl | (simp; done) | (simp [*]; done)), H', ⟨by have := HJ1.out; have := HK2.out; omega⟩, by repeat (first | exact Drawn0.refl _ | apply Drawn0.step)⟩
          ·rw [if_neg c13] at H
           have c13b0 : decide ((bt a0 x3_2) ≤ 57) = false := decide_eq_false c13; clear c13
           by_cases c17 : ((bt a0 x3_2) ≤ 122)
           ·rw [if_pos c17] at H
            have c17b0 : decide ((bt a0 x3_2) ≤ 122) = true := decide_eq_true c17; clear c17; have H' := Aside0.mk H; clear H; have p7 : 0 ≤ (x3_2 : Int) := of_decide_eq_true (by first | (with_reducible assumption) | assumption); have q7 : x3_2 < (a0.size : Int) := of_decide_eq_true (by first | (with_reducible assumption) | assumption); have hx7 := bt_at a0 x3_2; replace p7 := eq_true p7; have p7D := p7; try simp only [List.length_drop, List.length_take] at p7D
            replace q7 := eq_true q7; have q7D := q7; try simp only [List.length_drop, List.length_take] at q7D
            have p9 : 0 ≤ (x3_2 : Int) := of_decide_eq_true (by first | (with_reducible assumption) | assumption); have q9 : x3_2 < (a0.size : Int) := of_decide_eq_true (by first | (with_reducible assumption) | assumption); have hx9 := bt_at a0 x3_2; replace p9 := eq_true p9; have p9D := p9; try simp only [List.length_drop, List.length_take] at p9D
            replace q9 := eq_true q9; have q9D := q9; try simp only [List.length_drop, List.length_take] at q9D
            have p10 : 0 ≤ (x3_2 : Int) := of_decide_eq_true (by first | (with_reducible assumption) | assumption); have q10 : x3_2 < (a0.size : Int) := of_decide_eq_true (by first | (with_reducible assumption) | assumption); have hx10 := bt_at a0 x3_2; replace p10 := eq_true p10; have p10D := p10; try simp only [List.length_drop, List.length_take] at p10D
            replace q10 := eq_true q10; have q10D := q10; try simp only [List.length_drop, List.length_take] at q10D
            have p12 : 0 ≤ (x3_2 : Int) := of_decide_eq_true (by first | (with_reducible assumption) | assumption); have q12 : x3_2 < (a0.size : Int) := of_decide_eq_true (by first | (with_reducible assumption) | assumption); have hx12 := bt_at a0 x3_2; replace p12 := eq_true p12; have p12D := p12; try simp only [List.length_drop, List.length_take] at p12D
            replace q12 := eq_true q12; have q12D := q12; try simp only [List.length_drop, List.length_take] at q12D
            have p16 : 0 ≤ (x3_2 : Int) := of_decide_eq_true (by first | (with_reducible assumption) | assumption); have q16 : x3_2 < (a0.size : Int) := of_decide_eq_true (by first | (with_reducible assumption) | assumption); have hx16 := bt_at a0 x3_2; replace p16 := eq_true p16; have p16D := p16; try simp only [List.length_drop, List.length_take] at p16D
            replace q16 := eq_true q16; have q16D := q16; try simp only [List.length_drop, List.length_take] at q16D
            go_wp2
            go_roundg k2
            case measure => have := HJ1.out; have := HK2.out; omega
            case rel => exact ⟨(wrap64 (x3_2 + 1)), (by first | rfl | (simp; done) | (simp [*]; done)), H', ⟨by have := HJ1.out; have := HK2.out; omega⟩, by repeat (first | exact Drawn0.refl _ | apply Drawn0.step)⟩
           ·rw [if_neg c17] at H
            have c17b0 : decide ((bt a0 x3_2) ≤ 122) = false := decide_eq_false c17; clear c17
            by_cases c18 : ((bt a0 x3_2) = 95)
            ·rw [if_pos c18] at H
             have c18b0 : ((bt a0 x3_2) == 95) = true := beq_iff_eq.mpr c18; have c18b1 : ((bt a0 x3_2) != 95) = false := bne_eq_false_iff_eq.mpr c18; clear c18
             by_cases c19 : x3_2 = 0
             ·rw [if_pos c19] at H
              have c19b0 : (x3_2 == 0) = true := beq_iff_eq.mpr c19; have c19b1 : (x3_2 != 0) = false := bne_eq_false_iff_eq.mpr c19; clear c19; obtain rfl := Option.some.inj H; have p7 : 0 ≤ (x3_2 : Int) := of_decide_eq_true (by first | (with_reducible assumption) | assumption); have q7 : x3_2 < (a0.size : Int) := of_decide_eq_true (by first | (with_reducible assumption) | assumption); have hx7 := bt_at a0 x3_2; replace p7 := eq_true p7; have p7D := p7; try simp only [List.length_drop, List.length_take] at p7D
              replace q7 := eq_true q7; have q7D := q7; try simp only [List.length_drop, List.length_take] at q7D
              have p9 : 0 ≤ (x3_2 : Int) := of_decide_eq_true (by first | (with_reducible assumption) | assumption); have q9 : x3_2 < (a0.size : Int) := of_decide_eq_true (by first | (with_reducible assumption) | assumption); have hx9 := bt_at a0 x3_2; replace p9 := eq_true p9; have p9D := p9; try simp only [List.length_drop, List.length_take] at p9D
              replace q9 := eq_true q9; have q9D := q9; try simp only [List.length_drop, List.length_take] at q9D
              have p10 : 0 ≤ (x3_2 : Int) := of_decide_eq_true (by first | (with_reducible assumption) | assumption); have q10 : x3_2 < (a0.size : Int) := of_decide_eq_true (by first | (with_reducible assumption) | assumption); have hx10 := bt_at a0 x3_2; replace p10 := eq_true p10; have p10D := p10; try simp only [List.length_drop, List.length_take] at p10D
              replace q10 := eq_true q10; have q10D := q10; try simp only [List.length_drop, List.length_take] at q10D
              have p12 : 0 ≤ (x3_2 : Int) := of_decide_eq_true (by first | (with_reducible assumption) | assumption); have q12 : x3_2 < (a0.size : Int) := of_decide_eq_true (by first | (with_reducible assumption) | assumption); have hx12 := bt_at a0 x3_2; replace p12 := eq_true p12; have p12D := p12; try simp only [List.length_drop, List.length_take] at p12D
              replace q12 := eq_true q12; have q12D := q12; try simp only [List.length_drop, List.length_take] at q12D
              have p16 : 0 ≤ (x3_2 : Int) := of_decide_eq_true (by first | (with_reducible assumption) | assumption); have q16 : x3_2 < (a0.size : Int) := of_decide_eq_true (by first | (with_reducible assumption) | assumption); have hx16 := bt_at a0 x3_2; replace p16 := eq_true p16; have p16D := p16; try simp only [List.length_drop, List.length_take] at p16D
              replace q16 := eq_true q16; have q16D := q16; try simp only [List.length_drop, List.length_take] at q16D
              go_wp2
              go_ret
              exact ⟨by first | rfl | (simp; done) | (simp [*]; done), by repeat (first | exact Drawn0.refl _ | apply Drawn0.step)⟩
             ·rw [if_neg c19] at H
              have c19b0 : (x3_2 == 0) = false := beq_eq_false_iff_ne.mpr c19; have c19b1 : (x3_2 != 0) = true := bne_iff_ne.mpr c19; have H' := Aside0.mk H; clear H; have p7 : 0 ≤ (x3_2 : Int) := of_decide_eq_true (by first | (with_reducible assumption) | assumption); have q7 : x3_2 < (a0.size : Int) := of_decide_eq_true (by first | (with_reducible assumption) | assumption); have hx7 := bt_at a0 x3_2; replace p7 := eq_true p7; have p7D := p7; try simp only [List.length_drop, List.length_take] at p7D
              replace q7 := eq_true q7; have q7D := q7; try simp only [List.length_drop, List.length_take] at q7D
              have p9 : 0 ≤ (x3_2 : Int) := of_decide_eq_true (by first | (with_reducible assumption) | assumption); have q9 : x3_2 < (a0.size : Int) := of_decide_eq_true (by first | (with_reducible assumption) | assumption); have hx9 := bt_at a0 x3_2; replace p9 := eq_true p9; have p9D := p9; try simp only [List.length_drop, List.length_take] at p9D
              replace q9 := eq_true q9; have q9D := q9; try simp only [List.length_drop, List.length_take] at q9D
              have p10 : 0 ≤ (x3_2 : Int) := of_decide_eq_true (by first | (with_reducible assumption) | assumption); have q10 : x3_2 < (a0.size : Int) := of_decide_eq_true (by first | (with_reducible assumption) | assumption); have hx10 := bt_at a0 x3_2; replace p10 := eq_true p10; have p10D := p10; try simp only [List.length_drop, List.length_take] at p10D
              replace q10 := eq_true q10; have q10D := q10; try simp only [List.length_drop, List.length_take] at q10D
              have p12 : 0 ≤ (x3_2 : Int) := of_decide_eq_true (by first | (with_reducible assumption) | assumption); have q12 : x3_2 < (a0.size : Int) := of_decide_eq_true (by first | (with_reducible assumption) | assumption); have hx12 := bt_at a0 x3_2; replace p12 := eq_true p12; have p12D := p12; try simp only [List.length_drop, List.length_take] at p12D
              replace q12 := eq_true q12; have q12D := q12; try simp only [List.length_drop, List.length_take] at q12D
              have p16 : 0 ≤ (x3_2 : Int) := of_decide_eq_true (by first | (with_reducible assumption) | assumption); have q16 : x3_2 < (a0.size : Int) := of_decide_eq_true (by first | (with_reducible assumption) | assumption); have hx16 := bt_at a0 x3_2; replace p16 := eq_true p16; have p16D := p16; try simp only [List.length_drop, List.length_take] at p16D
              replace q16 := eq_true q16; have q16D := q16; try simp only [List.length_drop, List.length_take] at q16D
              go_wp2
              go_roundg k2
              case measure => have := HJ1.out; have := HK2.out; omega
              case rel => exact ⟨(wrap64 (x3_2 + 1)), (by first | rfl | (simp; done) | (simp [*]; done)), H', ⟨by have := HJ1.out; have := HK2.out; omega⟩, by repeat (first | exact Drawn0.refl _ | apply Drawn0.step)⟩
            ·rw [if_neg c18] at H
             have c18b0 : ((bt a0 x3_2) == 95) = false := beq_eq_false_iff_ne.mpr c18; have c18b1 : ((bt a0 x3_2) != 95) = true := bne_iff_ne.mpr c18; obtain rfl := Option.some.inj H; have p7 : 0 ≤ (x3_2 : Int) := of_decide_eq_true (by first | (with_reducible assumption) | assumption); have q7 : x3_2 < (a0.size : Int) := of_decide_eq_true (by first | (with_reducible assumption) | assumption); have hx7 := bt_at a0 x3_2; replace p7 := eq_true p7; have p7D := p7; try simp only [List.length_drop, List.length_take] at p7D
             replace q7 := eq_true q7; have q7D := q7; try simp only [List.length_drop, List.length_take] at q7D
             have p9 : 0 ≤ (x3_2 : Int) := of_decide_eq_true (by first | (with_reducible assumption) | assumption); have q9 : x3_2 < (a0.size : Int) := of_decide_eq_true (by first | (with_reducible assumption) | assumption); have hx9 := bt_at a0 x3_2; replace p9 := eq_true p9; have p9D := p9; try simp only [List.length_drop, List.length_take] at p9D
             replace q9 := eq_true q9; have q9D := q9; try simp only [List.length_drop, List.length_take] at q9D
             have p10 : 0 ≤ (x3_2 : Int) := of_decide_eq_true (by first | (with_reducible assumption) | assumption); have q10 : x3_2 < (a0.size : Int) := of_decide_eq_true (by first | (with_reducible assumption) | assumption); have hx10 := bt_at a0 x3_2; replace p10 := eq_true p10; have p10D := p10; try simp only [List.length_drop, List.length_take] at p10D
             replace q10 := eq_true q10; have q10D := q10; try simp only [List.length_drop, List.length_take] at q10D
             have p12 : 0 ≤ (x3_2 : Int) := of_decide_eq_true (by first | (with_reducible assumption) | assumption); have q12 : x3_2 < (a0.size : Int) := of_decide_eq_true (by first | (with_reducible assumption) | assumption); have hx12 := bt_at a0 x3_2; replace p12 := eq_true p12; have p12D := p12; try simp only [List.length_drop, List.length_take] at p12D
             replace q12 := eq_true q12; have q12D := q12; try simp only [List.length_drop, List.length_take] at q12D
             have p16 : 0 ≤ (x3_2 : Int) := of_decide_eq_true (by first | (with_reducible assumption) | assumption); have q16 : x3_2 < (a0.size : Int) := of_decide_eq_true (by first | (with_reducible assumption) | assumption); have hx16 := bt_at a0 x3_2; replace p16 := eq_true p16; have p16D := p16; try simp only [List.length_drop, List.length_take] at p16D
             replace q16 := eq_true q16; have q16D := q16; try simp only [List.length_drop, List.length_take] at q16D
             go_wp2
             go_ret
             exact ⟨by first | rfl | (simp; done) | (simp [*]; done), by repeat (first | exact Drawn0.refl _ | apply Drawn0.step)⟩
         ·rw [if_neg c11] at H
          have c11b0 : decide (48 ≤ (bt a0 x3_2)) = false := decide_eq_false c11; clear c11
          by_cases c21 : ((bt a0 x3_2) ≤ 122)
          ·rw [if_pos c21] at H
           have c21b0 : decide ((bt a0 x3_2) ≤ 122) = true := decide_eq_true c21; clear c21; have H' := Aside0.mk H; clear H; have p7 : 0 ≤ (x3_2 : Int) := of_decide_eq_true (by first | (with_reducible assumption) | assumption); have q7 : x3_2 < (a0.size : Int) := of_decide_eq_true (by first | (with_reducible assumption) | assumption); have hx7 := bt_at a0 x3_2; replace p7 := eq_true p7; have p7D := p7; try simp only [List.length_drop, List.length_take] at p7D
           replace q7 := eq_true q7; have q7D := q7; try simp only [List.length_drop, List.length_take] at q7D
           have p9 : 0 ≤ (x3_2 : Int) := of_decide_eq_true (by first | (with_reducible assumption) | assumption); have q9 : x3_2 < (a0.size : Int) := of_decide_eq_true (by first | (with_reducible assumption) | assumption); have hx9 := bt_at a0 x3_2; replace p9 := eq_true p9; have p9D := p9; try simp only [List.length_drop, List.length_take] at p9D
           replace q9 := eq_true q9; have q9D := q9; try simp only [List.length_drop, List.length_take] at q9D
           have p10 : 0 ≤ (x3_2 : Int) := of_decide_eq_true (by first | (with_reducible assumption) | assumption); have q10 : x3_2 < (a0.size : Int) := of_decide_eq_true (by first | (with_reducible assumption) | assumption); have hx10 := bt_at a0 x3_2; replace p10 := eq_true p10; have p10D := p10; try simp only [List.length_drop, List.length_take] at p10D
           replace q10 := eq_true q10; have q10D := q10; try simp only [List.length_drop, List.length_take] at q10D
           have p20 : 0 ≤ (x3_2 : Int) := of_decide_eq_true (by first | (with_reducible assumption) | assumption); have q20 : x3_2 < (a0.size : Int) := of_decide_eq_true (by first | (with_reducible assumption) | assumption); have hx20 := bt_at a0 x3_2; replace p20 := eq_true p20; have p20D := p20; try simp only [List.length_drop, List.length_take] at p20D
           replace q20 := eq_true q20; have q20D := q20; try simp only [List.length_drop, List.length_take] at q20D
           go_wp2
           go_roundg k2
           case measure => have := HJ1.out; have := HK2.out; omega
           case rel => exact ⟨(wrap64 (x3_2 + 1)), (by first | rfl | (simp; done) | (simp [*]; done)), H', ⟨by have := HJ1.out; have := HK2.out; omega⟩, by repeat (first | exact Drawn0.refl _ | apply Drawn0.step)⟩
          ·rw [if_neg c21] at H
           have c21b0 : decide ((bt a0 x3_2) ≤ 122) = false := decide_eq_false c21; clear c21
           by_cases c22 : ((bt a0 x3_2) = 95)
           ·rw [if_pos c22] at H
            have c22b0 : ((bt a0 x3_2) == 95) = true := beq_iff_eq.mpr c22; have c22b1 : ((bt a0 x3_2) != 95) = false := bne_eq_false_iff_eq.mpr c22; clear c22
            by_cases c23 : x3_2 = 0
            ·rw [if_pos c23] at H
             have c23b0 : (x3_2 == 0) = true := beq_iff_eq.mpr c23; have c23b1 : (x3_2 != 0) = false := bne_eq_false_iff_eq.mpr c23; clear c23; obtain rfl := Option.some.inj H; have p7 : 0 ≤ (x3_2 : Int) := of_decide_eq_true (by first | (with_reducible assumption) | assumption); have q7 : x3_2 < (a0.size : Int) := of_decide_eq_true (by first | (with_reducible assumption) | assumption); have hx7 := bt_at a0 x3_2; replace p7 := eq_true p7; have p7D := p7; try simp only [List.length_drop, List.length_take] at p7D
             replace q7 := eq_true q7; have q7D := q7; try simp only [List.length_drop, List.length_take] at q7D
             have p9 : 0 ≤ (x3_2 : Int) := of_decide_eq_true (by first | (with_reducible assumption) | assumption); have q9 : x3_2 < (a0.size : Int) := of_decide_eq_true (by first | (with_reducible assumption) | assumption); have hx9 := bt_at a0 x3_2; replace p9 := eq_true p9; have p9D := p9; try simp only [List.length_drop, List.length_take] at p9D
             replace q9 := eq_true q9; have q9D := q9; try simp only [List.length_drop, List.length_take] at q9D
             have p10 : 0 ≤ (x3_2 : Int) := of_decide_eq_true (by first | (with_reducible assumption) | assumption); have q10 : x3_2 < (a0.size : Int) := of_decide_eq_true (by first | (with_reducible assumption) | assumption); have hx10 := bt_at a0 x3_2; replace p10 := eq_true p10; have p10D := p10; try simp only [List.length_drop, List.length_take] at p10D
             replace q10 := eq_true q10; have q10D := q10; try simp only [List.length_drop, List.length_take] at q10D
             have p20 : 0 ≤ (x3_2 : Int) := of_decide_eq_true (by first | (with_reducible assumption) | assumption); have q20 : x3_2 < (a0.size : Int) := of_decide_eq_true (by first | (with_reducible assumption) | assumption); have hx20 := bt_at a0 x3_2; replace p20 := eq_true p20; have p20D := p20; try simp only [List.length_drop, List.length_take] at p20D
             replace q20 := eq_true q20; have q20D := q20; try simp only [List.length_drop, List.length_take] at q20D
             go_wp2
             go_ret
             exact ⟨by first | rfl | (simp; done) | (simp [*]; done), by repeat (first | exact Drawn0.refl _ | apply Drawn0.step)⟩
            ·rw [if_neg c23] at H
             have c23b0 : (x3_2 == 0) = false := beq_eq_false_iff_ne.mpr c23; have c23b1 : (x3_2 != 0) = true := bne_iff_ne.mpr c23; have H' := Aside0.mk H; clear H; have p7 : 0 ≤ (x3_2 : Int) := of_decide_eq_true (by first | (with_reducible assumption) | assumption); have q7 : x3_2 < (a0.size : Int) := of_decide_eq_true (by first | (with_reducible assumption) | assumption); have hx7 := bt_at a0 x3_2; replace p7 := eq_true p7; have p7D := p7; try simp only [List.length_drop, List.length_take] at p7D
             replace q7 := eq_true q7; have q7D := q7; try simp only [List.length_drop, List.length_take] at q7D
             have p9 : 0 ≤ (x3_2 : Int) := of_decide_eq_true (by first | (with_reducible assumption) | assumption); have q9 : x3_2 < (a0.size : Int) := of_decide_eq_true (by first | (with_reducible assumption) | assumption); have hx9 := bt_at a0 x3_2; replace p9 := eq_true p9; have p9D := p9; try simp only [List.length_drop, List.length_take] at p9D
             replace q9 := eq_true q9; have q9D := q9; try simp only [List.length_drop, List.length_take] at q9D
             have p10 : 0 ≤ (x3_2 : Int) := of_decide_eq_true (by first | (with_reducible assumption) | assumption); have q10 : x3_2 < (a0.size : Int) := of_decide_eq_true (by first | (with_reducible assumption) | assumption); have hx10 := bt_at a0 x3_2; replace p10 := eq_true p10; have p10D := p10; try simp only [List.length_drop, List.length_take] at p10D
             replace q10 := eq_true q10; have q10D := q10; try simp only [List.length_drop, List.length_take] at q10D
             have p20 : 0 ≤ (x3_2 : Int) := of_decide_eq_true (by first | (with_reducible assumption) | assumption); have q20 : x3_2 < (a0.size : Int) := of_decide_eq_true (by first | (with_reducible assumption) | assumption); have hx20 := bt_at a0 x3_2; replace p20 := eq_true p20; have p20D := p20; try simp only [List.length_drop, List.length_take] at p20D
             replace q20 := eq_true q20; have q20D := q20; try simp only [List.length_drop, List.length_take] at q20D
             go_wp2
             go_roundg k2
             case measure => have := HJ1.out; have := HK2.out; omega
             case rel => exact ⟨(wrap64 (x3_2 + 1)), (by first | rfl | (simp; done) | (simp [*]; done)), H', ⟨by have := HJ1.out; have := HK2.out; omega⟩, by repeat (first | exact Drawn0.refl _ | apply Drawn0.step)⟩
           ·rw [if_neg c22] at H
            have c22b0 : ((bt a0 x3_2) == 95) = false := beq_eq_false_iff_ne.mpr c22; have c22b1 : ((bt a0 x3_2) != 95) = true := bne_iff_ne.mpr c22; obtain rfl := Option.some.inj H; have p7 : 0 ≤ (x3_2 : Int) := of_decide_eq_true (by first | (with_reducible assumption) | assumption); have q7 : x3_2 < (a0.size : Int) := of_decide_eq_true (by first | (with_reducible assumption) | assumption); have hx7 := bt_at a0 x3_2; replace p7 := eq_true p7; have p7D := p7; try simp only [List.length_drop, List.length_take] at p7D
            replace q7 := eq_true q7; have q7D := q7; try simp only [List.length_drop, List.length_take] at q7D
            have p9 : 0 ≤ (x3_2 : Int) := of_decide_eq_true (by first | (with_reducible assumption) | assumption); have q9 : x3_2 < (a0.size : Int) := of_decide_eq_true (by first | (with_reducible assumption) | assumption); have hx9 := bt_at a0 x3_2; replace p9 := eq_true p9; have p9D := p9; try simp only [List.length_drop, List.length_take] at p9D
            replace q9 := eq_true q9; have q9D := q9; try simp only [List.length_drop, List.length_take] at q9D
            have p10 : 0 ≤ (x3_2 : Int) := of_decide_eq_true (by first | (with_reducible assumption) | assumption); have q10 : x3_2 < (a0.size : Int) := of_decide_eq_true (by first | (with_reducible assumption) | assumption); have hx10 := bt_at a0 x3_2; replace p10 := eq_true p10; have p10D := p10; try simp only [List.length_drop, List.length_take] at p10D
            replace q10 := eq_true q10; have q10D := q10; try simp only [List.length_drop, List.length_take] at q10D
            have p20 : 0 ≤ (x3_2 : Int) := of_decide_eq_true (by first | (with_reducible assumption) | assumption); have q20 : x3_2 < (a0.size : Int) := of_decide_eq_true (by first | (with_reducible assumption) | assumption); have hx20 := bt_at a0 x3_2; replace p20 := eq_true p20; have p20D := p20; try simp only [List.length_drop, List.length_take] at p20D
            replace q20 := eq_true q20; have q20D := q20; try simp only [List.length_drop, List.length_take] at q20D
            go_wp2
            go_ret
            exact ⟨by first | rfl | (simp; done) | (simp [*]; done), by repeat (first | exact Drawn0.refl _ | apply Drawn0.step)⟩
        ·rw [if_neg c8] at H
         have c8b0 : decide (97 ≤ (bt a0 x3_2)) = false := decide_eq_false c8; clear c8
         by_cases c25 : (bt a0 x3_2) ≥ 48
         ·rw [if_pos c25] at H
          have c25b0 : decide (48 ≤ (bt a0 x3_2)) = true := decide_eq_true c25; clear c25
          by_cases c27 : (bt a0 x3_2) ≤ 57
          ·rw [if_pos c27] at H
           have c27b0 : decide ((bt a0 x3_2) ≤ 57) = true := decide_eq_true c27; clear c27
           by_cases c28 : x3_2 = 0
           ·rw [if_pos c28] at H
            have c28b0 : (x3_2 == 0) = true := beq_iff_eq.mpr c28; have c28b1 : (x3_2 != 0) = false := bne_eq_false_iff_eq.mpr c28; clear c28; obtain rfl := Option.some.inj H; have p7 : 0 ≤ (x3_2 : Int) := of_decide_eq_true (by first | (with_reducible assumption) | assumption); have q7 : x3_2 < (a0.size : Int) := of_decide_eq_true (by first | (with_reducible assumption) | assumption); have hx7 := bt_at a0 x3_2; replace p7 := eq_true p7; have p7D := p7; try simp only [List.length_drop, List.length_take] at p7D
            replace q7 := eq_true q7; have q7D := q7; try simp only [List.length_drop, List.length_take] at q7D
            have p24 : 0 ≤ (x3_2 : Int) := of_decide_eq_true (by first | (with_reducible assumption) | assumption); have q24 : x3_2 < (a0.size : Int) := of_decide_eq_true (by first | (with_reducible assumption) | assumption); have hx24 := bt_at a0 x3_2; replace p24 := eq_true p24; have p24D := p24; try simp only [List.length_drop, List.length_take] at p24D
            replace q24 := eq_true q24; have q24D := q24; try simp only [List.length_drop, List.length_take] at q24D
            have p26 : 0 ≤ (x3_2 : Int) := of_decide_eq_true (by first | (with_reducible assumption) | assumption); have q26 : x3_2 < (a0.size : Int) := of_decide_eq_true (by first | (with_reducible assumption) | assumption); have hx26 := bt_at a0 x3_2; replace p26 := eq_true p26; have p26D := p26; try simp only [List.length_drop, List.length_take] at p26D
            replace q26 := eq_true q26; have q26D := q26; try simp only [List.length_drop, List.length_take] at q26D
            go_wp2
            go_ret
            exact ⟨by first | rfl | (simp; done) | (simp [*]; done), by repeat (first | exact Drawn0.refl _ | apply Drawn0.step)⟩
           ·rw [if_neg c28] at H
            have c28b0 : (x3_2 == 0) = false := beq_eq_false_iff_ne.mpr c28; have c28b1 : (x3_2 != 0) = true := bne_iff_ne.mpr c28; have H' := Aside0.mk H; clear H; have p7 : 0 ≤ (x3_2 : Int) := of_decide_eq_true (by first | (with_reducible assumption) | assumption); have q7 : x3_2 < (a0.size : Int) := of_decide_eq_true (by first | (with_reducible assumption) | assumption); have hx7 := bt_at a0 x3_2; replace p7 := eq_true p7; have p7D := p7; try simp only [List.length_drop, List.length_take] at p7D
            replace q7 := eq_true q7; have q7D := q7; try simp only [List.length_drop, List.length_take] at q7D
            have p24 : 0 ≤ (x3_2 : Int) := of_decide_eq_true (by first | (with_reducible assumption) | assumption); have q24 : x3_2 < (a0.size : Int) := of_decide_eq_true (by first | (with_reducible assumption) | assumption); have hx24 := bt_at a0 x3_2; replace p24 := eq_true p24; have p24D := p24; try simp only [List.length_drop, List.length_take] at p24D
            replace q24 := eq_true q24; have q24D := q24; try simp only [List.length_drop, List.length_take] at q24D
            have p26 : 0 ≤ (x3_2 : Int) := of_decide_eq_true (by first | (with_reducible assumption) | assumption); have q26 : x3_2 < (a0.size : Int) := of_decide_eq_true (by first | (with_reducible assumption) | assumption); have hx26 := bt_at a0 x3_2; replace p26 := eq_true p26; have p26D := p26; try simp only [List.length_drop, List.length_take] at p26D
            replace q26 := eq_true q26; have q26D := q26; try simp only [List.length_drop, List.length_take] at q26D
            go_wp2
            go_roundg k2
            case measure => have := HJ1.out; have := HK2.out; omega
            case rel => exact ⟨(wrap64 (x3_2 + 1)), (by first | rfl | (simp; done) | (simp [*]; done)), H', ⟨by have := HJ1.out; have := HK2.out; omega⟩, by repeat (first | exact Drawn0.refl _ | apply Drawn0.step)⟩
          ·rw [if_neg c27] at H
           have c27b0 : decide ((bt a0 x3_2) ≤ 57) = false := decide_eq_false c27; clear c27
           by_cases c30 : ((bt a0 x3_2) = 95)
           ·rw [if_pos c30] at H
            have c30b0 : ((bt a0 x3_2) == 95) = true := beq_iff_eq.mpr c30; have c30b1 : ((bt a0 x3_2) != 95) = false := bne_eq_false_iff_eq.mpr c30; clear c30
            by_cases c31 : x3_2 = 0
            ·rw [if_pos c31] at H
             have c31b0 : (x3_2 == 0) = true := beq_iff_eq.mpr c31; have c31b1 : (x3_2 != 0) = false := bne_eq_false_iff_eq.mpr c31; clear c31; obtain rfl := Option.some.inj H; have p7 : 0 ≤ (x3_2 : Int) := of_decide_eq_true (by first | (with_reducible assumption) | assumption); have q7 : x3_2 < (a0.size : Int) := of_decide_eq_true (by first | (with_reducible assumption) | assumption); have hx7 := bt_at a0 x3_2; replace p7 := eq_true p7; have p7D := p7; try simp only [List.length_drop, List.length_take] at p7D
             replace q7 := eq_true q7; have q7D := q7; try simp only [List.length_drop, List.length_take] at q7D
             have p24 : 0 ≤ (x3_2 : Int) := of_decide_eq_true (by first | (with_reducible assumption) | assumption); have q24 : x3_2 < (a0.size : Int) := of_decide_eq_true (by first | (with_reducible assumption) | assumption); have hx24 := bt_at a0 x3_2; replace p24 := eq_true p24; have p24D := p24; try simp only [List.length_drop, List.length_take] at p24D
             replace q24 := eq_true q24; have q24D := q24; try simp only [List.length_drop, List.length_take] at q24D
             have p26 : 0 ≤ (x3_2 : Int) := of_decide_eq_true (by first | (with_reducible assumption) | assumption); have q26 : x3_2 < (a0.size : Int) := of_decide_eq_true (by first | (with_reducible assumption) | assumption); have hx26 := bt_at a0 x3_2; replace p26 := eq_true p26; have p26D := p26; try simp only [List.length_drop, List.length_take] at p26D
             replace q26 := eq_true q26; have q26D := q26; try simp only [List.length_drop, List.length_take] at q26D
             have p29 : 0 ≤ (x3_2 : Int) := of_decide_eq_true (by first | (with_reducible assumption) | assumption); have q29 : x3_2 < (a0.size : Int) := of_decide_eq_true (by first | (with_reducible assumption) | assumption); have hx29 := bt_at a0 x3_2; replace p29 := eq_true p29; have p29D := p29; try simp only [List.length_drop, List.length_take] at p29D
             replace q29 := eq_true q29; have q29D := q29; try simp only [List.length_drop, List.length_take] at q29D
             go_wp2
             go_ret
             exact ⟨by first | rfl | (simp; done) | (simp [*]; done), by repeat (first | exact Drawn0.refl _ | apply Drawn0.step)⟩
            ·rw [if_neg c31] at H
             have c31b0 : (x3_2 == 0) = false := beq_eq_false_iff_ne.mpr c31; have c31b1 : (x3_2 != 0) = true := bne_iff_ne.mpr c31; have H' := Aside0.mk H; clear H; have p7 : 0 ≤ (x3_2 : Int) := of_decide_eq_true (by first | (with_reducible assumption) | assumption); have q7 : x3_2 < (a0.size : Int) := of_decide_eq_true (by first | (with_reducible assumption) | assumption); have hx7 := bt_at a0 x3_2; replace p7 := eq_true p7; have p7D := p7; try simp only [List.length_drop, List.length_take] at p7D
             replace q7 := eq_true q7; have q7D := q7; try simp only [List.length_drop, List.length_take] at q7D
             have p24 : 0 ≤ (x3_2 : Int) := of_decide_eq_true (by first | (with_reducible assumption) | assumption); have q24 : x3_2 < (a0.size : Int) := of_decide_eq_true (by first | (with_reducible assumption) | assumption); have hx24 := bt_at a0 x3_2; replace p24 := eq_true p24; have p24D := p24; try simp only [List.length_drop, List.length_take] at p24D
             replace q24 := eq_true q24; have q24D := q24; try simp only [List.length_drop, List.length_take] at q24D
             have p26 : 0 ≤ (x3_2 : Int) := of_decide_eq_true (by first | (with_reducible assumption) | assumption); have q26 : x3_2 < (a0.size : Int) := of_decide_eq_true (by first | (with_reducible assumption) | assumption); have hx26 := bt_at a0 x3_2; replace p26 := eq_true p26; have p26D := p26; try simp only [List.length_drop, List.length_take] at p26D
             replace q26 := eq_true q26; have q26D := q26; try simp only [List.length_drop, List.length_take] at q26D
             have p29 : 0 ≤ (x3_2 : Int) := of_decide_eq_true (by first | (with_reducible assumption) | assumption); have q29 : x3_2 < (a0.size : Int) := of_decide_eq_true (by first | (with_reducible assumption) | assumption); have hx29 := bt_at a0 x3_2; replace p29 := eq_true p29; have p29D := p29; try simp only [List.length_drop, List.length_take] at p29D
             replace q29 := eq_true q29; have q29D := q29; try simp only [List.length_drop, List.length_take] at q29D
             go_wp2
             go_roundg k2
             case measure => have := HJ1.out; have := HK2.out; omega
             case rel => exact ⟨(wrap64 (x3_2 + 1)), (by first | rfl | (simp; done) | (simp [*]; done)), H', ⟨by have := HJ1.out; have := HK2.out; omega⟩, by repeat (first | exact Drawn0.refl _ | apply Drawn0.step)⟩
           ·rw [if_neg c30] at H
            have c30b0 : ((bt a0 x3_2) == 95) = false := beq_eq_false_iff_ne.mpr c30; have c30b1 : ((bt a0 x3_2) != 95) = true := bne_iff_ne.mpr c30; obtain rfl := Option.some.inj H; have p7 : 0 ≤ (x3_2 : Int) := of_decide_eq_true (by first | (with_reducible assumption) | assumption); have q7 : x3_2 < (a0.size : Int) := of_decide_eq_true (by first | (with_reducible assumption) | assumption); have hx7 := bt_at a0 x3_2; replace p7 := eq_true p7; have p7D := p7; try simp only [List.length_drop, List.length_take] at p7D
            replace q7 := eq_true q7; have q7D := q7; try simp only [List.length_drop, List.length_take] at q7D
            have p24 : 0 ≤ (x3_2 : Int) := of_decide_eq_true (by first | (with_reducible assumption) | assumption); have q24 : x3_2 < (a0.size : Int) := of_decide_eq_true (by first | (with_reducible assumption) | assumption); have hx24 := bt_at a0 x3_2; replace p24 := eq_true p24; have p24D := p24; try simp only [List.length_drop, List.length_take] at p24D
            replace q24 := eq_true q24; have q24D := q24; try simp only [List.length_drop, List.length_take] at q24D
            have p26 : 0 ≤ (x3_2 : Int) := of_decide_eq_true (by first | (with_reducible assumption) | assumption); have q26 : x3_2 < (a0.size : Int) := of_decide_eq_true (by first | (with_reducible assumption) | assumption); have hx26 := bt_at a0 x3_2; replace p26 := eq_true p26; have p26D := p26; try simp only [List.length_drop, List.length_take] at p26D
            replace q26 := eq_true q26; have q26D := q26; try simp only [List.length_drop, List.length_take] at q26D
            have p29 : 0 ≤ (x3_2 : Int) := of_decide_eq_true (by first | (with_reducible assumption) | assumption); have q29 : x3_2 < (a0.size : Int) := of_decide_eq_true (by first | (with_reducible assumption) | assumption); have hx29 := bt_at a0 x3_2; replace p29 := eq_true p29; have p29D := p29; try simp only [List.length_drop, List.length_take] at p29D
            replace q29 := eq_true q29; have q29D := q29; try simp only [List.length_drop, List.length_take] at q29D
            go_wp2
            go_ret
            exact ⟨by first | rfl | (simp; done) | (simp [*]; done), by repeat (first | exact Drawn0.refl _ | apply Drawn0.step)⟩
         ·rw [if_neg c25] at H
          have c25b0 : decide (48 ≤ (bt a0 x3_2)) = false := decide_eq_false c25; clear c25
          by_cases c33 : ((bt a0 x3_2) = 95)
          ·rw [if_pos c33] at H
           have c33b0 : ((bt a0 x3_2) == 95) = true := beq_iff_eq.mpr c33; have c33b1 : ((bt a0 x3_2) != 95) = false := bne_eq_false_iff_eq.mpr c33; clear c33
           by_cases c34 : x3_2 = 0
           ·rw [if_pos c34] at H
            have c34b0 : (x3_2 == 0) = true := beq_iff_eq.mpr c34; have c34b1 : (x3_2 != 0) = false := bne_eq_false_iff_eq.mpr c34; clear c34; obtain rfl := Option.some.inj H; have p7 : 0 ≤ (x3_2 : Int) := of_decide_eq_true (by first | (with_reducible assumption) | assumption); have q7 : x3_2 < (a0.size : Int) := of_decide_eq_true (by first | (with_reducible assumption) | assumption); have hx7 := bt_at a0 x3_2; replace p7 := eq_true p7; have p7D := p7; try simp only [List.length_drop, List.length_take] at p7D
            replace q7 := eq_true q7; have q7D := q7; try simp only [List.length_drop, List.length_take] at q7D
            have p24 : 0 ≤ (x3_2 : Int) := of_decide_eq_true (by first | (with_reducible assumption) | assumption); have q24 : x3_2 < (a0.size : Int) := of_decide_eq_true (by first | (with_reducible assumption) | assumption); have hx24 := bt_at a0 x3_2; replace p24 := eq_true p24; have p24D := p24; try simp only [List.length_drop, List.length_take] at p24D
            replace q24 := eq_true q24; have q24D := q24; try simp only [List.length_drop, List.length_take] at q24D
            have p32 : 0 ≤ (x3_2 : Int) := of_decide_eq_true (by first | (with_reducible assumption) | assumption); have q32 : x3_2 < (a0.size : Int) := of_decide_eq_true (by first | (with_reducible assumption) | assumption); have hx32 := bt_at a0 x3_2; replace p32 := eq_true p32; have p32D := p32; try simp only [List.length_drop, List.length_take] at p32D
            replace q32 := eq_true q32; have q32D := q32; try simp only [List.length_drop, List.length_take] at q32D
            go_wp2
            go_ret
            exact ⟨by first | rfl | (simp; done) | (simp [*]; done), by repeat (first | exact Drawn0.refl _ | apply Drawn0.step)⟩
           ·rw [if_neg c34] at H
            have c34b0 : (x3_2 == 0) = false := beq_eq_false_iff_ne.mpr c34; have c34b1 : (x3_2 != 0) = true := bne_iff_ne.mpr c34; have H' := Aside0.mk H; clear H; have p7 : 0 ≤ (x3_2 : Int) := of_decide_eq_true (by first | (with_reducible assumption) | assumption); have q7 : x3_2 < (a0.size : Int) := of_decide_eq_true (by first | (with_reducible assumption) | assumption); have hx7 := bt_at a0 x3_2; replace p7 := eq_true p7; have p7D := p7; try simp only [List.length_drop, List.length_take] at p7D
            replace q7 := eq_true q7; have q7D := q7; try simp only [List.length_drop, List.length_take] at q7D
            have p24 : 0 ≤ (x3_2 : Int) := of_decide_eq_true (by first | (with_reducible assumption) | assumption); have q24 : x3_2 < (a0.size : Int) := of_decide_eq_true (by first | (with_reducible assumption) | assumption); have hx24 := bt_at a0 x3_2; replace p24 := eq_true p24; have p24D := p24; try simp only [List.length_drop, List.length_take] at p24D
            replace q24 := eq_true q24; have q24D := q24; try simp only [List.length_drop, List.length_take] at q24D
            have p32 : 0 ≤ (x3_2 : Int) := of_decide_eq_true (by first | (with_reducible assumption) | assumption); have q32 : x3_2 < (a0.size : Int) := of_decide_eq_true (by first | (with_reducible assumption) | assumption); have hx32 := bt_at a0 x3_2; replace p32 := eq_true p32; have p32D := p32; try simp only [List.length_drop, List.length_take] at p32D
            replace q32 := eq_true q32; have q32D := q32; try simp only [List.length_drop, List.length_take] at q32D
            go_wp2
            go_roundg k2
            case measure => have := HJ1.out; have := HK2.out; omega
            case rel => exact ⟨(wrap64 (x3_2 + 1)), (by first | rfl | (simp; done) | (simp [*]; done)), H', ⟨by have := HJ1.out; have := HK2.out; omega⟩, by repeat (first | exact Drawn0.refl _ | apply Drawn0.step)⟩
          ·rw [if_neg c33] at H
           have c33b0 : ((bt a0 x3_2) == 95) = false := beq_eq_false_iff_ne.mpr c33; have c33b1 : ((bt a0 x3_2) != 95) = true := bne_iff_ne.mpr c33; obtain rfl := Option.some.inj H; have p7 : 0 ≤ (x3_2 : Int) := of_decide_eq_true (by first | (with_reducible assumption) | assumption); have q7 : x3_2 < (a0.size : Int) := of_decide_eq_true (by first | (with_reducible assumption) | assumption); have hx7 := bt_at a0 x3_2; replace p7 := eq_true p7; have p7D := p7; try simp only [List.length_drop, List.length_take] at p7D
           replace q7 := eq_true q7; have q7D := q7; try simp only [List.length_drop, List.length_take] at q7D
           have p24 : 0 ≤ (x3_2 : Int) := of_decide_eq_true (by first | (with_reducible assumption) | assumption); have q24 : x3_2 < (a0.size : Int) := of_decide_eq_true (by first | (with_reducible assumption) | assumption); have hx24 := bt_at a0 x3_2; replace p24 := eq_true p24; have p24D := p24; try simp only [List.length_drop, List.length_take] at p24D
           replace q24 := eq_true q24; have q24D := q24; try simp only [List.length_drop, List.length_take] at q24D
           have p32 : 0 ≤ (x3_2 : Int) := of_decide_eq_true (by first | (with_reducible assumption) | assumption); have q32 : x3_2 < (a0.size : Int) := of_decide_eq_true (by first | (with_reducible assumption) | assumption); have hx32 := bt_at a0 x3_2; replace p32 := eq_true p32; have p32D := p32; try simp only [List.length_drop, List.length_take] at p32D
           replace q32 := eq_true q32; have q32D := q32; try simp only [List.length_drop, List.length_take] at q32D
           go_wp2
           go_ret
           exact ⟨by first | rfl | (simp; done) | (simp [*]; done), by repeat (first | exact Drawn0.refl _ | apply Drawn0.step)⟩
       ·rw [if_neg c6] at H
        exact absurd H (by simp)
      ·rw [if_neg c5] at H
       have c5b0 : decide (x3_2 < (a0.size : Int)) = false := decide_eq_false c5; clear c5; obtain rfl := Option.some.inj H
       go_wp2
       go_ret
       exact ⟨by first | rfl | (simp; done) | (simp [*]; done), by repeat (first | exact Drawn0.refl _ | apply Drawn0.step)⟩

/-! ### rowlockref12_number: function 95 -/
def rowlockref12_number.f (a0 : Int) : Option (Bool) := if a0 ≥ 0 then (some (decide (a0 < 2147483648))) else (some false)
set_option maxHeartbeats 8000000 in
set_option maxRecDepth 100000 in
theorem rowlockref12_number.calls (a0 : Int) (r : Bool) (w : World) (h : rowlockref12_number.f a0 = some r) :
  Calls Try.prog 95 #[.int .i64 a0] w fun e w' => e = .returned (.bool r) ∧ Drawn0 w w' := by
 have H : (if a0 ≥ 0 then (some (decide (a0 < 2147483648))) else (some false)) = some r := h; clear h
 by_cases c2 : a0 ≥ 0
 ·rw [if_pos c2] at H
  have c2b0 : decide (0 ≤ a0) = true := decide_eq_true c2; clear c2; obtain rfl := Option.some.inj H
  go_enter Try.func95, Try.ntmps95
  go_wp2
  go_ret
  exact ⟨by first | rfl | (simp; done) | (simp [*]; done), by repeat (first | exact Drawn0.refl _ | apply Drawn0.step)⟩
 ·rw [if_neg c2] at H
  have c2b0 : decide (0 ≤ a0) = false := decide_eq_false c2; clear c2; obtain rfl := Option.some.inj H
  go_enter Try.func95, Try.ntmps95
  go_wp2
  go_ret
  exact ⟨by first | rfl | (simp; done) | (simp [*]; done), by repeat (first | exact Drawn0.refl _ | apply Drawn0.step)⟩

end Go.Proofs.Ytpfegfkniilobaa.XSchema
