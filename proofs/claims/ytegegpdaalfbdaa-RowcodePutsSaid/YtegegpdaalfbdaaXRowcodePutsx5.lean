-- Written by this session's own program (wip/own_print.py) over the kit's print, with this session's hand-proved contracts in their places; Lean checks it.
import Derived.Test.YtegegpdaalfbdaaXRowcodePutsx0
import Derived.Test.YtegegpdaalfbdaaXRowcodePutsx2
import Derived.Test.YtegegpdaalfbdaaXRowcodePutsx3
import Derived.Test.YtegegpdaalfbdaaXRowcodePutsx4
namespace Go.Proofs.Ytegegpdaalfbdaa.XRowcodePuts
open Go.RowKit Go.Proofs.YtegegpdaalfbdaaW.PrintWords Go.Proofs.YtegegpdaalfbdaaW.PrintLast Go.Proofs.YtegegpdaalfbdaaW.PrintMore
attribute [local go_sem] max2_int min2_int max_two min_two max_three min_three max_four min_four   -- for this text's walks alone
set_option linter.unusedVariables false
set_option linter.unusedSimpArgs false

/-! ### rowlocklaw04_RowcodePuts: function 10 -/
def rowlocklaw04_RowcodePuts.j0 : Nat → List (S36) → List Int → Int → Bool → Option (Bool)
  | 0, _, _, _, _ => none
  | k + 1, x0, x3, x4, x42 => if x42 = true then (some false) else (if x4 = 0 then ((rowcode_Get.f k x3).bind fun bt197 => (if bt197.2 = 0 then ((rowlockref04_Same.f k bt197.1 x0).bind fun t201 => (some t201)) else (some false))) else (some true))
def rowlocklaw04_RowcodePuts.f (k : Nat) (l0 : List (S36)) : Option (Bool) := (rowlockref01_Great.f k l0).bind fun t185 => (if t185 = true then ((rowlocklaw04_fixed.f k).bind fun t186 => (some t186)) else ((rowcode_Put.f k l0).bind fun bt187 => ((rowlockref04_Put.f k l0).bind fun bt191 => ((rowlocklaw04_fixed.f k).bind fun t195 => (if t195 = true then (if (strOfNums bt187.1).toList = (strOfNums bt191.1).toList then (if bt187.2 = bt191.2 then ((rowcode_Size.f k l0).bind fun t196 => (rowlocklaw04_RowcodePuts.j0 k l0 bt187.1 bt187.2 (t196 != (bt191.1.length : Int)))) else (rowlocklaw04_RowcodePuts.j0 k l0 bt187.1 bt187.2 true)) else (rowlocklaw04_RowcodePuts.j0 k l0 bt187.1 bt187.2 true)) else (rowlocklaw04_RowcodePuts.j0 k l0 bt187.1 bt187.2 true))))))
theorem rowlocklaw04_RowcodePuts.mono_l : ∀ k, (∀ y0 y1 y2 y3, LeO (rowlocklaw04_RowcodePuts.j0 k y0 y1 y2 y3) (rowlocklaw04_RowcodePuts.j0 (k + 1) y0 y1 y2 y3))
  | 0 => fun _ _ _ _ r h => by simp [rowlocklaw04_RowcodePuts.j0] at h
  | k + 1 => by
    have ih0 := rowlocklaw04_RowcodePuts.mono_l k
    · intro y0 y1 y2 y3
      unfold rowlocklaw04_RowcodePuts.j0
      repeat' first
      | (with_reducible exact ih0 _ _ _ _)
      | (with_reducible exact rowcode_Get.mono _ _)
      | (with_reducible exact rowcode_Put.mono _ _)
      | (with_reducible exact rowcode_Size.mono _ _)
      | (with_reducible exact rowlocklaw04_fixed.mono _)
      | (with_reducible exact rowlockref01_Great.mono _ _)
      | (with_reducible exact rowlockref04_Put.mono _ _)
      | (with_reducible exact rowlockref04_Same.mono _ _ _)
      | (with_reducible exact LeO.refl _)
      | (with_reducible exact LeO.none _)
      | (with_reducible refine LeO.ite ?_ ?_)
      | (with_reducible refine LeO.bind ?_ (fun _ => ?_))
      | exact ih0 _ _ _ _
      | exact rowcode_Get.mono _ _
      | exact rowcode_Put.mono _ _
      | exact rowcode_Size.mono _ _
      | exact rowlocklaw04_fixed.mono _
      | exact rowlockref01_Great.mono _ _
      | exact rowlockref04_Put.mono _ _
      | exact rowlockref04_Same.mono _ _ _
      | exact LeO.none _
      | refine LeO.ite ?_ ?_
      | refine LeO.bind ?_ (fun _ => ?_)
theorem rowlocklaw04_RowcodePuts.mono : ∀ a0 k, LeO (rowlocklaw04_RowcodePuts.f k a0) (rowlocklaw04_RowcodePuts.f (k + 1) a0) := by
  intro a0 k
  have ih0 := rowlocklaw04_RowcodePuts.mono_l k
  unfold rowlocklaw04_RowcodePuts.f
  repeat' first
      | (with_reducible exact ih0 _ _ _ _)
      | (with_reducible exact rowcode_Get.mono _ _)
      | (with_reducible exact rowcode_Put.mono _ _)
      | (with_reducible exact rowcode_Size.mono _ _)
      | (with_reducible exact rowlocklaw04_fixed.mono _)
      | (with_reducible exact rowlockref01_Great.mono _ _)
      | (with_reducible exact rowlockref04_Put.mono _ _)
      | (with_reducible exact rowlockref04_Same.mono _ _ _)
      | (with_reducible exact LeO.refl _)
      | (with_reducible exact LeO.none _)
      | (with_reducible refine LeO.ite ?_ ?_)
      | (with_reducible refine LeO.bind ?_ (fun _ => ?_))
      | exact ih0 _ _ _ _
      | exact rowcode_Get.mono _ _
      | exact rowcode_Put.mono _ _
      | exact rowcode_Size.mono _ _
      | exact rowlocklaw04_fixed.mono _
      | exact rowlockref01_Great.mono _ _
      | exact rowlockref04_Put.mono _ _
      | exact rowlockref04_Same.mono _ _ _
      | exact LeO.none _
      | refine LeO.ite ?_ ?_
      | refine LeO.bind ?_ (fun _ => ?_)
set_option maxHeartbeats 8000000 in
set_option maxRecDepth 100000 in
theorem rowlocklaw04_RowcodePuts.calls (k : Nat) (A0 : Option Addr) (c0 : Nat) (l0 : List (S36)) (r : Bool) (w : World) (hr0 : Kd.C k36 w A0 l0.length l0) (hc0 : l0.length ≤ c0) (h : rowlocklaw04_RowcodePuts.f k l0 = some r) :
    Calls Try.prog 10 #[.slice A0 l0.length c0] w fun e w' => e = .returned (.bool r) ∧ Below w.heap.size w w' := by
  have HR0 := Aside0.mk hr0
  have HC0 := Aside0.mk hc0
  clear hr0 hc0
  have HB := Aside0.mk (Below.refl w.heap.size w)
  have H : ((rowlockref01_Great.f k l0).bind fun t185 => (if t185 = true then ((rowlocklaw04_fixed.f k).bind fun t186 => (some t186)) else ((rowcode_Put.f k l0).bind fun bt187 => ((rowlockref04_Put.f k l0).bind fun bt191 => ((rowlocklaw04_fixed.f k).bind fun t195 => (if t195 = true then (if (strOfNums bt187.1).toList = (strOfNums bt191.1).toList then (if bt187.2 = bt191.2 then ((rowcode_Size.f k l0).bind fun t196 => (rowlocklaw04_RowcodePuts.j0 k l0 bt187.1 bt187.2 (t196 != (bt191.1.length : Int)))) else (rowlocklaw04_RowcodePuts.j0 k l0 bt187.1 bt187.2 true)) else (rowlocklaw04_RowcodePuts.j0 k l0 bt187.1 bt187.2 true)) else (rowlocklaw04_RowcodePuts.j0 k l0 bt187.1 bt187.2 true))))))) = some r := h
  clear h
  replace H := Option.bind_eq_some_iff.mp H
  obtain ⟨t185, A20, H⟩ := H
  replace H : (if t185 = true then ((rowlocklaw04_fixed.f k).bind fun t186 => (some t186)) else ((rowcode_Put.f k l0).bind fun bt187 => ((rowlockref04_Put.f k l0).bind fun bt191 => ((rowlocklaw04_fixed.f k).bind fun t195 => (if t195 = true then (if (strOfNums bt187.1).toList = (strOfNums bt191.1).toList then (if bt187.2 = bt191.2 then ((rowcode_Size.f k l0).bind fun t196 => (rowlocklaw04_RowcodePuts.j0 k l0 bt187.1 bt187.2 (t196 != (bt191.1.length : Int)))) else (rowlocklaw04_RowcodePuts.j0 k l0 bt187.1 bt187.2 true)) else (rowlocklaw04_RowcodePuts.j0 k l0 bt187.1 bt187.2 true)) else (rowlocklaw04_RowcodePuts.j0 k l0 bt187.1 bt187.2 true)))))) = some r := H
  have A2 := Aside0.mk A20
  clear A20
  by_cases c3 : t185 = true
  · subst c3
    have H1 : ((rowlocklaw04_fixed.f k).bind fun t186 => (some t186)) = some r := by rw [if_pos rfl] at H; exact H
    clear H
    have H := H1
    clear H1
    replace H := Option.bind_eq_some_iff.mp H
    obtain ⟨t186, A40, H⟩ := H
    replace H : (some t186) = some r := H
    have A4 := Aside0.mk A40
    clear A40
    obtain rfl := Option.some.inj H
    go_enter Try.func10, Try.ntmps10
    go_wp2_with (first | ((with_reducible refine gate_callee (f := 23) rfl ?_); refine goesL_ (some 10) rfl rfl Try.func23 (by kernel_rfl) rfl #[.slice A0 l0.length c0] rfl (by (try simp only [List.map_toArray, List.map_cons, List.map_nil]); first | done | rfl | (simp only [List.length_drop, List.length_take]; rfl)) ?_; (with_reducible refine (rowlockref01_Great.calls k _ _ l0 true _ ?side1 ?side2 A2.out).mono ?_); (case side1 => repeat (first | exact HR0.out | (with_reducible refine Kd.C_alloc ?_ _) | (with_reducible refine Kd.C_drewN ?_ _) | (with_reducible refine Kd.C_drew ?_))); (case side2 => exact HC0.out); rintro e w5 ⟨rfl, hb⟩; refine ⟨_, rfl, ?_⟩; have n0_ := Aside0.mk (below_step (by repeat (first | (with_reducible first | exact HB.out | apply below_alloc | apply pw_below_drewN | apply below_drew1) | exact HB.out)) hb); clear HB; have HB := n0_; clear n0_; (try clear hb); (try clear hb2); (try clear hk); (try clear hi)) | ((with_reducible refine gate_callee (f := 26) rfl ?_); refine goesL_ (some 11) rfl rfl Try.func26 (by kernel_rfl) rfl #[] rfl (by (try simp only [List.map_toArray, List.map_cons, List.map_nil]); first | done | rfl | (simp only [List.length_drop, List.length_take]; rfl)) ?_; (with_reducible refine (rowlocklaw04_fixed.calls k  t186 _ A4.out).mono ?_); rintro e w6 ⟨rfl, hb⟩; refine ⟨_, rfl, ?_⟩; have n0_ := Aside0.mk (below_step (by repeat (first | (with_reducible first | exact HB.out | apply below_alloc | apply pw_below_drewN | apply below_drew1) | exact HB.out)) hb); clear HB; have HB := n0_; clear n0_; (try clear hb); (try clear hb2); (try clear hk); (try clear hi)))
    go_ret
    exact ⟨by first | rfl | (simp [errW_none, errW_some] <;> rfl) | (simp [*, errW_none, errW_some] <;> rfl), by repeat (first | (with_reducible first | exact HB.out | apply below_alloc | apply pw_below_drewN | apply below_drew1) | exact HB.out)⟩
  · replace c3 := Bool.eq_false_iff.mpr c3
    subst c3
    have H1 : ((rowcode_Put.f k l0).bind fun bt187 => ((rowlockref04_Put.f k l0).bind fun bt191 => ((rowlocklaw04_fixed.f k).bind fun t195 => (if t195 = true then (if (strOfNums bt187.1).toList = (strOfNums bt191.1).toList then (if bt187.2 = bt191.2 then ((rowcode_Size.f k l0).bind fun t196 => (rowlocklaw04_RowcodePuts.j0 k l0 bt187.1 bt187.2 (t196 != (bt191.1.length : Int)))) else (rowlocklaw04_RowcodePuts.j0 k l0 bt187.1 bt187.2 true)) else (rowlocklaw04_RowcodePuts.j0 k l0 bt187.1 bt187.2 true)) else (rowlocklaw04_RowcodePuts.j0 k l0 bt187.1 bt187.2 true))))) = some r := by rw [if_neg (show ¬ (false = true) by decide)] at H; exact H
    clear H
    have H := H1
    clear H1
    replace H := Option.bind_eq_some_iff.mp H
    obtain ⟨⟨t187, t188⟩, A70, H⟩ := H
    replace H : ((rowlockref04_Put.f k l0).bind fun bt191 => ((rowlocklaw04_fixed.f k).bind fun t195 => (if t195 = true then (if (strOfNums t187).toList = (strOfNums bt191.1).toList then (if t188 = bt191.2 then ((rowcode_Size.f k l0).bind fun t196 => (rowlocklaw04_RowcodePuts.j0 k l0 t187 t188 (t196 != (bt191.1.length : Int)))) else (rowlocklaw04_RowcodePuts.j0 k l0 t187 t188 true)) else (rowlocklaw04_RowcodePuts.j0 k l0 t187 t188 true)) else (rowlocklaw04_RowcodePuts.j0 k l0 t187 t188 true)))) = some r := H
    have A7 := Aside0.mk A70
    clear A70
    replace H := Option.bind_eq_some_iff.mp H
    obtain ⟨⟨t191, t192⟩, A80, H⟩ := H
    replace H : ((rowlocklaw04_fixed.f k).bind fun t195 => (if t195 = true then (if (strOfNums t187).toList = (strOfNums t191).toList then (if t188 = t192 then ((rowcode_Size.f k l0).bind fun t196 => (rowlocklaw04_RowcodePuts.j0 k l0 t187 t188 (t196 != (t191.length : Int)))) else (rowlocklaw04_RowcodePuts.j0 k l0 t187 t188 true)) else (rowlocklaw04_RowcodePuts.j0 k l0 t187 t188 true)) else (rowlocklaw04_RowcodePuts.j0 k l0 t187 t188 true))) = some r := H
    have A8 := Aside0.mk A80
    clear A80
    have HC9 := Aside0.mk H
    clear H
    go_enter Try.func10, Try.ntmps10
    go_upto_region 5 with (first | ((with_reducible refine gate_callee (f := 23) rfl ?_); refine goesL_ (some 10) rfl rfl Try.func23 (by kernel_rfl) rfl #[.slice A0 l0.length c0] rfl (by (try simp only [List.map_toArray, List.map_cons, List.map_nil]); first | done | rfl | (simp only [List.length_drop, List.length_take]; rfl)) ?_; (with_reducible refine (rowlockref01_Great.calls k _ _ l0 false _ ?side1 ?side2 A2.out).mono ?_); (case side1 => repeat (first | exact HR0.out | (with_reducible refine Kd.C_alloc ?_ _) | (with_reducible refine Kd.C_drewN ?_ _) | (with_reducible refine Kd.C_drew ?_))); (case side2 => exact HC0.out); rintro e w10 ⟨rfl, hb⟩; refine ⟨_, rfl, ?_⟩; have n0_ := Aside0.mk (below_step (by repeat (first | (with_reducible first | exact HB.out | apply below_alloc | apply pw_below_drewN | apply below_drew1) | exact HB.out)) hb); clear HB; have HB := n0_; clear n0_; (try clear hb); (try clear hb2); (try clear hk); (try clear hi)) | ((with_reducible refine gate_callee (f := 32) rfl ?_); refine goesL_ (some 14) rfl rfl Try.func32 (by kernel_rfl) rfl #[.slice A0 l0.length c0] rfl (by (try simp only [List.map_toArray, List.map_cons, List.map_nil]); first | done | rfl | (simp only [List.length_drop, List.length_take]; rfl)) ?_; (with_reducible refine (rowcode_Put.calls k _ _ l0 t187 t188 _ ?side1 ?side2 A7.out).mono ?_); (case side1 => repeat (first | exact (Kd.C_below HR0.out HB.out) | (with_reducible refine Kd.C_alloc ?_ _) | (with_reducible refine Kd.C_drewN ?_ _) | (with_reducible refine Kd.C_drew ?_))); (case side2 => exact HC0.out); rintro e w11 ⟨v189, rfl, ho0, hb⟩; refine ⟨_, rfl, ?_⟩; have n0_ := Aside0.mk (Kd.R_lower ho0 (below_size (by repeat (first | (with_reducible first | exact HB.out | apply below_alloc | apply pw_below_drewN | apply below_drew1) | exact HB.out)))); have n1_ := Aside0.mk (below_step (by repeat (first | (with_reducible first | exact HB.out | apply below_alloc | apply pw_below_drewN | apply below_drew1) | exact HB.out)) hb); clear HB; have HO190 := n0_; have HB := n1_; clear n0_ n1_; (try clear hb); (try clear hb2); (try clear hk); (try clear hi); (try clear ho0)) | ((with_reducible refine gate_callee (f := 33) rfl ?_); refine goesL_ (some 19) rfl rfl Try.func33 (by kernel_rfl) rfl #[.slice A0 l0.length c0] rfl (by (try simp only [List.map_toArray, List.map_cons, List.map_nil]); first | done | rfl | (simp only [List.length_drop, List.length_take]; rfl)) ?_; (with_reducible refine (rowlockref04_Put.calls k _ _ l0 t191 t192 _ ?side1 ?side2 A8.out).mono ?_); (case side1 => repeat (first | exact (Kd.C_below HR0.out HB.out) | (with_reducible refine Kd.C_alloc ?_ _) | (with_reducible refine Kd.C_drewN ?_ _) | (with_reducible refine Kd.C_drew ?_))); (case side2 => exact HC0.out); rintro e w12 ⟨v193, rfl, ho0, hb⟩; refine ⟨_, rfl, ?_⟩; have n0_ := Aside0.mk (Kd.R_elder' (by (with_reducible repeat (first | apply Kd.R_alloc | apply Kd.R_drewN | apply Kd.R_drew)); exact HO190.out) (Kd.R_base ho0) hb); have n1_ := Aside0.mk (Kd.R_lower (Kd.R_new' ho0 (Kd.R_lt (by (with_reducible repeat (first | apply Kd.R_alloc | apply Kd.R_drewN | apply Kd.R_drew)); exact HO190.out))) (below_size (by repeat (first | (with_reducible first | exact HB.out | apply below_alloc | apply pw_below_drewN | apply below_drew1) | exact HB.out)))); have n2_ := Aside0.mk (below_step (by repeat (first | (with_reducible first | exact HB.out | apply below_alloc | apply pw_below_drewN | apply below_drew1) | exact HB.out)) hb); clear HO190; clear HB; have HO190 := n0_; have HO194 := n1_; have HB := n2_; clear n0_ n1_ n2_; (try clear hb); (try clear hb2); (try clear hk); (try clear hi); (try clear ho0)))
    (try simp only [Act.put, List.setIfInBounds_toArray, List.set_cons_zero, List.set_cons_succ])
    go_cut [42] (fun v42 wc => ∃ (kq : Nat) (x42_8 : Bool), v42 = .bool x42_8 ∧ Aside0 (rowlocklaw04_RowcodePuts.j0 kq l0 t187 t188 x42_8 = some r) ∧ Aside0 (kq ≤ k) ∧ Aside0 (Kd.R (Kd.int .u8) 5 wc w.heap.size (fun _ => True) v189 t187) ∧ Aside0 (Below w.heap.size w wc))
    case first =>
      have H := HC9.out
      clear HC9
      replace H := Option.bind_eq_some_iff.mp H
      obtain ⟨t195, A130, H⟩ := H
      replace H : (if t195 = true then (if (strOfNums t187).toList = (strOfNums t191).toList then (if t188 = t192 then ((rowcode_Size.f k l0).bind fun t196 => (rowlocklaw04_RowcodePuts.j0 k l0 t187 t188 (t196 != (t191.length : Int)))) else (rowlocklaw04_RowcodePuts.j0 k l0 t187 t188 true)) else (rowlocklaw04_RowcodePuts.j0 k l0 t187 t188 true)) else (rowlocklaw04_RowcodePuts.j0 k l0 t187 t188 true)) = some r := H
      have A13 := Aside0.mk A130
      clear A130
      by_cases c14 : t195 = true
      · subst c14
        have H1 : (if (strOfNums t187).toList = (strOfNums t191).toList then (if t188 = t192 then ((rowcode_Size.f k l0).bind fun t196 => (rowlocklaw04_RowcodePuts.j0 k l0 t187 t188 (t196 != (t191.length : Int)))) else (rowlocklaw04_RowcodePuts.j0 k l0 t187 t188 true)) else (rowlocklaw04_RowcodePuts.j0 k l0 t187 t188 true)) = some r := by rw [if_pos rfl] at H; exact H
        clear H
        have H := H1
        clear H1
        by_cases c15 : (strOfNums t187).toList = (strOfNums t191).toList
        · rw [if_pos c15] at H
          have c15b0 : ((strOfNums t187).toList == (strOfNums t191).toList) = true := beq_iff_eq.mpr c15
          have c15b1 : ((strOfNums t187).toList != (strOfNums t191).toList) = false := bne_eq_false_iff_eq.mpr c15
          clear c15
          (first | rw [c15b0] | (simp only [i64_w, i32_w]; rw [c15b0]) | skip)
          by_cases c16 : t188 = t192
          · rw [if_pos c16] at H
            have c16b0 : (t188 == t192) = true := beq_iff_eq.mpr c16
            have c16b1 : (t188 != t192) = false := bne_eq_false_iff_eq.mpr c16
            clear c16
            replace H := Option.bind_eq_some_iff.mp H
            obtain ⟨t196, A170, H⟩ := H
            replace H : (rowlocklaw04_RowcodePuts.j0 k l0 t187 t188 (t196 != (t191.length : Int))) = some r := H
            have A17 := Aside0.mk A170
            clear A170
            have H' := Aside0.mk H
            clear H
            go_wp2_with (first | ((with_reducible refine gate_callee (f := 26) rfl ?_); refine goesL_ (some 22) rfl rfl Try.func26 (by kernel_rfl) rfl #[] rfl (by (try simp only [List.map_toArray, List.map_cons, List.map_nil]); first | done | rfl | (simp only [List.length_drop, List.length_take]; rfl)) ?_; (with_reducible refine (rowlocklaw04_fixed.calls k  true _ A13.out).mono ?_); rintro e w18 ⟨rfl, hb⟩; refine ⟨_, rfl, ?_⟩; have n0_ := Aside0.mk (Kd.R_below (by (with_reducible repeat (first | apply Kd.R_alloc | apply Kd.R_drewN | apply Kd.R_drew)); exact HO190.out) hb); have n1_ := Aside0.mk (Kd.R_below (by (with_reducible repeat (first | apply Kd.R_alloc | apply Kd.R_drewN | apply Kd.R_drew)); exact HO194.out) hb); have n2_ := Aside0.mk (below_step (by repeat (first | (with_reducible first | exact HB.out | apply below_alloc | apply pw_below_drewN | apply below_drew1) | exact HB.out)) hb); clear HO190; clear HO194; clear HB; have HO190 := n0_; have HO194 := n1_; have HB := n2_; clear n0_ n1_ n2_; (try clear hb); (try clear hb2); (try clear hk); (try clear hi); have hcv19 := own_string (P := Try.prog) Try.underlying49 Try.underlying5 Try.underlying9 (Kd.own_of_R HO190.out); have hcv20 := own_string (P := Try.prog) Try.underlying49 Try.underlying5 Try.underlying9 (Kd.own_of_R HO194.out)) | (go_at_call 34; (with_reducible refine (rowcode_Size.calls k _ _ l0 t196 _ ?side1 ?side2 A17.out).mono ?_); (case side1 => repeat (first | exact (Kd.C_below HR0.out HB.out) | (with_reducible refine Kd.C_alloc ?_ _) | (with_reducible refine Kd.C_drewN ?_ _) | (with_reducible refine Kd.C_drew ?_))); (case side2 => exact HC0.out); rintro e w21 ⟨rfl, hb⟩; have n0_ := Aside0.mk (Kd.R_below (by (with_reducible repeat (first | apply Kd.R_alloc | apply Kd.R_drewN | apply Kd.R_drew)); exact HO190.out) hb); have n1_ := Aside0.mk (Kd.R_below (by (with_reducible repeat (first | apply Kd.R_alloc | apply Kd.R_drewN | apply Kd.R_drew)); exact HO194.out) hb); have n2_ := Aside0.mk (below_step (by repeat (first | (with_reducible first | exact HB.out | apply below_alloc | apply pw_below_drewN | apply below_drew1) | exact HB.out)) hb); clear HO190; clear HO194; clear HB; have HO190 := n0_; have HO194 := n1_; have HB := n2_; clear n0_ n1_ n2_; (try clear hb); (try clear hb2); (try clear hk); (try clear hi); obtain ⟨Ao22, co22, eo22⟩ := Kd.R_slice HO194.out; subst eo22))
            go_meet
            case rel => exact ⟨_, ((t196 != (t191.length : Int))), (by first | rfl | (simp; done) | (simp [*]; done)), H', ⟨by first | omega | exact Nat.le_refl _⟩, ⟨by (with_reducible repeat (first | apply Kd.R_alloc | apply Kd.R_drewN | apply Kd.R_drew)); exact Kd.R_mono HO190.out (fun _ hk => trivial)⟩, ⟨by repeat (first | (with_reducible first | exact HB.out | apply below_alloc | apply pw_below_drewN | apply below_drew1) | exact HB.out)⟩⟩
          · rw [if_neg c16] at H
            have c16b0 : (t188 == t192) = false := beq_eq_false_iff_ne.mpr c16
            have c16b1 : (t188 != t192) = true := bne_iff_ne.mpr c16
            have H' := Aside0.mk H
            clear H
            go_wp2_with (first | ((with_reducible refine gate_callee (f := 26) rfl ?_); refine goesL_ (some 22) rfl rfl Try.func26 (by kernel_rfl) rfl #[] rfl (by (try simp only [List.map_toArray, List.map_cons, List.map_nil]); first | done | rfl | (simp only [List.length_drop, List.length_take]; rfl)) ?_; (with_reducible refine (rowlocklaw04_fixed.calls k  true _ A13.out).mono ?_); rintro e w23 ⟨rfl, hb⟩; refine ⟨_, rfl, ?_⟩; have n0_ := Aside0.mk (Kd.R_below (by (with_reducible repeat (first | apply Kd.R_alloc | apply Kd.R_drewN | apply Kd.R_drew)); exact HO190.out) hb); have n1_ := Aside0.mk (Kd.R_below (by (with_reducible repeat (first | apply Kd.R_alloc | apply Kd.R_drewN | apply Kd.R_drew)); exact HO194.out) hb); have n2_ := Aside0.mk (below_step (by repeat (first | (with_reducible first | exact HB.out | apply below_alloc | apply pw_below_drewN | apply below_drew1) | exact HB.out)) hb); clear HO190; clear HO194; clear HB; have HO190 := n0_; have HO194 := n1_; have HB := n2_; clear n0_ n1_ n2_; (try clear hb); (try clear hb2); (try clear hk); (try clear hi); have hcv24 := own_string (P := Try.prog) Try.underlying49 Try.underlying5 Try.underlying9 (Kd.own_of_R HO190.out); have hcv25 := own_string (P := Try.prog) Try.underlying49 Try.underlying5 Try.underlying9 (Kd.own_of_R HO194.out)))
            go_meet
            case rel => exact ⟨_, (true), (by first | rfl | (simp; done) | (simp [*]; done)), H', ⟨by first | omega | exact Nat.le_refl _⟩, ⟨by (with_reducible repeat (first | apply Kd.R_alloc | apply Kd.R_drewN | apply Kd.R_drew)); exact Kd.R_mono HO190.out (fun _ hk => trivial)⟩, ⟨by repeat (first | (with_reducible first | exact HB.out | apply below_alloc | apply pw_below_drewN | apply below_drew1) | exact HB.out)⟩⟩
        · rw [if_neg c15] at H
          have c15b0 : ((strOfNums t187).toList == (strOfNums t191).toList) = false := beq_eq_false_iff_ne.mpr c15
          have c15b1 : ((strOfNums t187).toList != (strOfNums t191).toList) = true := bne_iff_ne.mpr c15
          (first | rw [c15b0] | (simp only [i64_w, i32_w]; rw [c15b0]) | skip)
          have H' := Aside0.mk H
          clear H
          go_wp2_with (first | ((with_reducible refine gate_callee (f := 26) rfl ?_); refine goesL_ (some 22) rfl rfl Try.func26 (by kernel_rfl) rfl #[] rfl (by (try simp only [List.map_toArray, List.map_cons, List.map_nil]); first | done | rfl | (simp only [List.length_drop, List.length_take]; rfl)) ?_; (with_reducible refine (rowlocklaw04_fixed.calls k  true _ A13.out).mono ?_); rintro e w26 ⟨rfl, hb⟩; refine ⟨_, rfl, ?_⟩; have n0_ := Aside0.mk (Kd.R_below (by (with_reducible repeat (first | apply Kd.R_alloc | apply Kd.R_drewN | apply Kd.R_drew)); exact HO190.out) hb); have n1_ := Aside0.mk (Kd.R_below (by (with_reducible repeat (first | apply Kd.R_alloc | apply Kd.R_drewN | apply Kd.R_drew)); exact HO194.out) hb); have n2_ := Aside0.mk (below_step (by repeat (first | (with_reducible first | exact HB.out | apply below_alloc | apply pw_below_drewN | apply below_drew1) | exact HB.out)) hb); clear HO190; clear HO194; clear HB; have HO190 := n0_; have HO194 := n1_; have HB := n2_; clear n0_ n1_ n2_; (try clear hb); (try clear hb2); (try clear hk); (try clear hi); have hcv27 := own_string (P := Try.prog) Try.underlying49 Try.underlying5 Try.underlying9 (Kd.own_of_R HO190.out); have hcv28 := own_string (P := Try.prog) Try.underlying49 Try.underlying5 Try.underlying9 (Kd.own_of_R HO194.out)))
          go_meet
          case rel => exact ⟨_, (true), (by first | rfl | (simp; done) | (simp [*]; done)), H', ⟨by first | omega | exact Nat.le_refl _⟩, ⟨by (with_reducible repeat (first | apply Kd.R_alloc | apply Kd.R_drewN | apply Kd.R_drew)); exact Kd.R_mono HO190.out (fun _ hk => trivial)⟩, ⟨by repeat (first | (with_reducible first | exact HB.out | apply below_alloc | apply pw_below_drewN | apply below_drew1) | exact HB.out)⟩⟩
      · replace c14 := Bool.eq_false_iff.mpr c14
        subst c14
        have H1 : (rowlocklaw04_RowcodePuts.j0 k l0 t187 t188 true) = some r := by rw [if_neg (show ¬ (false = true) by decide)] at H; exact H
        clear H
        have H := H1
        clear H1
        have H' := Aside0.mk H
        clear H
        go_wp2_with (first | ((with_reducible refine gate_callee (f := 26) rfl ?_); refine goesL_ (some 22) rfl rfl Try.func26 (by kernel_rfl) rfl #[] rfl (by (try simp only [List.map_toArray, List.map_cons, List.map_nil]); first | done | rfl | (simp only [List.length_drop, List.length_take]; rfl)) ?_; (with_reducible refine (rowlocklaw04_fixed.calls k  false _ A13.out).mono ?_); rintro e w29 ⟨rfl, hb⟩; refine ⟨_, rfl, ?_⟩; have n0_ := Aside0.mk (Kd.R_below (by (with_reducible repeat (first | apply Kd.R_alloc | apply Kd.R_drewN | apply Kd.R_drew)); exact HO190.out) hb); have n1_ := Aside0.mk (Kd.R_below (by (with_reducible repeat (first | apply Kd.R_alloc | apply Kd.R_drewN | apply Kd.R_drew)); exact HO194.out) hb); have n2_ := Aside0.mk (below_step (by repeat (first | (with_reducible first | exact HB.out | apply below_alloc | apply pw_below_drewN | apply below_drew1) | exact HB.out)) hb); clear HO190; clear HO194; clear HB; have HO190 := n0_; have HO194 := n1_; have HB := n2_; clear n0_ n1_ n2_; (try clear hb); (try clear hb2); (try clear hk); (try clear hi)))
        go_meet
        case rel => exact ⟨_, (true), (by first | rfl | (simp; done) | (simp [*]; done)), H', ⟨by first | omega | exact Nat.le_refl _⟩, ⟨by (with_reducible repeat (first | apply Kd.R_alloc | apply Kd.R_drewN | apply Kd.R_drew)); exact Kd.R_mono HO190.out (fun _ hk => trivial)⟩, ⟨by repeat (first | (with_reducible first | exact HB.out | apply below_alloc | apply pw_below_drewN | apply below_drew1) | exact HB.out)⟩⟩
    case rest =>
      clear HC9
      try clear c1
      try clear hcv1
      try clear c2
      try clear p2
      try clear hcv2
      try clear c3
      try clear c10
      try clear c14
      try clear c15
      try clear c15b0
      try clear c15b1
      try clear c16
      try clear c16b0
      try clear c16b1
      try clear hcv19
      try clear hcv20
      try clear c23
      try clear hcv24
      try clear hcv25
      try clear c26
      try clear hcv27
      try clear hcv28
      obtain ⟨kq, x42_8, rfl, HA, HJ8, HO_3, HB⟩ := hcut
      cases kq with
      | zero => exact absurd HA.out (by simp [rowlocklaw04_RowcodePuts.j0])
      | succ kj8 =>
        have H := HA.out
        clear HA
        simp only [rowlocklaw04_RowcodePuts.j0] at H
        by_cases c30 : x42_8 = true
        · subst c30
          have H1 : (some false) = some r := by rw [if_pos rfl] at H; exact H
          clear H
          have H := H1
          clear H1
          obtain rfl := Option.some.inj H
          go_wp2
          go_ret
          exact ⟨by first | rfl | (simp [errW_none, errW_some] <;> rfl) | (simp [*, errW_none, errW_some] <;> rfl), by repeat (first | (with_reducible first | exact HB.out | apply below_alloc | apply pw_below_drewN | apply below_drew1) | exact HB.out)⟩
        · replace c30 := Bool.eq_false_iff.mpr c30
          subst c30
          have H1 : (if t188 = 0 then ((rowcode_Get.f kj8 t187).bind fun bt197 => (if bt197.2 = 0 then ((rowlockref04_Same.f kj8 bt197.1 l0).bind fun t201 => (some t201)) else (some false))) else (some true)) = some r := by rw [if_neg (show ¬ (false = true) by decide)] at H; exact H
          clear H
          have H := H1
          clear H1
          by_cases c31 : t188 = 0
          · rw [if_pos c31] at H
            have c31b0 : (t188 == 0) = true := beq_iff_eq.mpr c31
            have c31b1 : (t188 != 0) = false := bne_eq_false_iff_eq.mpr c31
            clear c31
            replace H := Option.bind_eq_some_iff.mp H
            obtain ⟨⟨t197, t198⟩, A320, H⟩ := H
            replace H : (if t198 = 0 then ((rowlockref04_Same.f kj8 t197 l0).bind fun t201 => (some t201)) else (some false)) = some r := H
            have A32 := Aside0.mk A320
            clear A320
            by_cases c33 : t198 = 0
            · rw [if_pos c33] at H
              have c33b0 : (t198 == 0) = true := beq_iff_eq.mpr c33
              have c33b1 : (t198 != 0) = false := bne_eq_false_iff_eq.mpr c33
              clear c33
              replace H := Option.bind_eq_some_iff.mp H
              obtain ⟨t201, A340, H⟩ := H
              replace H : (some t201) = some r := H
              have A34 := Aside0.mk A340
              clear A340
              obtain rfl := Option.some.inj H
              obtain ⟨Ao35, co35, eo35⟩ := Kd.R_slice HO_3.out
              subst eo35
              go_wp2_with (first | ((with_reducible refine gate_callee (f := 29) rfl ?_); refine goesL_ (some 47) rfl rfl Try.func29 (by kernel_rfl) rfl #[.slice Ao35 t187.length co35] rfl (by (try simp only [List.map_toArray, List.map_cons, List.map_nil]); first | done | rfl | (simp only [List.length_drop, List.length_take]; rfl)) ?_; (with_reducible refine (rowcode_Get.calls kj8 _ _ t187 t197 t198 _ ?side1 ?side2 A32.out).mono ?_); (case side1 => repeat (first | exact (Kd.R_reads' HO_3.out).2.2 | (with_reducible refine Kd.C_alloc ?_ _) | (with_reducible refine Kd.C_drewN ?_ _) | (with_reducible refine Kd.C_drew ?_))); (case side2 => exact (Kd.R_reads' HO_3.out).2.1); rintro e w36 ⟨v199, rfl, ho0, hb⟩; refine ⟨_, rfl, ?_⟩; have n0_ := Aside0.mk (Kd.R_below (by (with_reducible repeat (first | apply Kd.R_alloc | apply Kd.R_drewN | apply Kd.R_drew)); exact HO_3.out) hb); have n1_ := Aside0.mk (Kd.R_lower ho0 (below_size (by repeat (first | (with_reducible first | exact HB.out | apply below_alloc | apply pw_below_drewN | apply below_drew1) | exact HB.out)))); have n2_ := Aside0.mk (below_step (by repeat (first | (with_reducible first | exact HB.out | apply below_alloc | apply pw_below_drewN | apply below_drew1) | exact HB.out)) hb); clear HO_3; clear HB; have HO_3 := n0_; have HO200 := n1_; have HB := n2_; clear n0_ n1_ n2_; (try clear hb); (try clear hb2); (try clear hk); (try clear hi); (try clear ho0); obtain ⟨Ao37, co37, eo37⟩ := Kd.R_slice HO200.out; subst eo37) | (go_at_call 31; (with_reducible refine (rowlockref04_Same.calls kj8 _ _ t197 _ _ l0 t201 _ ?side1 ?side2 ?side3 ?side4 A34.out).mono ?_); (case side1 => repeat (first | exact (Kd.R_reads' HO200.out).2.2 | (with_reducible refine Kd.C_alloc ?_ _) | (with_reducible refine Kd.C_drewN ?_ _) | (with_reducible refine Kd.C_drew ?_))); (case side2 => exact (Kd.R_reads' HO200.out).2.1); (case side3 => repeat (first | exact (Kd.C_below HR0.out HB.out) | (with_reducible refine Kd.C_alloc ?_ _) | (with_reducible refine Kd.C_drewN ?_ _) | (with_reducible refine Kd.C_drew ?_))); (case side4 => exact HC0.out); rintro e w' ⟨rfl, ⟨nd, rfl⟩⟩))
              go_ret
              exact ⟨by first | rfl | (simp [errW_none, errW_some] <;> rfl) | (simp [*, errW_none, errW_some] <;> rfl), by repeat (first | (with_reducible first | exact HB.out | apply below_alloc | apply pw_below_drewN | apply below_drew1) | exact HB.out)⟩
            · rw [if_neg c33] at H
              have c33b0 : (t198 == 0) = false := beq_eq_false_iff_ne.mpr c33
              have c33b1 : (t198 != 0) = true := bne_iff_ne.mpr c33
              obtain rfl := Option.some.inj H
              obtain ⟨Ao38, co38, eo38⟩ := Kd.R_slice HO_3.out
              subst eo38
              go_wp2_with (first | ((with_reducible refine gate_callee (f := 29) rfl ?_); refine goesL_ (some 47) rfl rfl Try.func29 (by kernel_rfl) rfl #[.slice Ao38 t187.length co38] rfl (by (try simp only [List.map_toArray, List.map_cons, List.map_nil]); first | done | rfl | (simp only [List.length_drop, List.length_take]; rfl)) ?_; (with_reducible refine (rowcode_Get.calls kj8 _ _ t187 t197 t198 _ ?side1 ?side2 A32.out).mono ?_); (case side1 => repeat (first | exact (Kd.R_reads' HO_3.out).2.2 | (with_reducible refine Kd.C_alloc ?_ _) | (with_reducible refine Kd.C_drewN ?_ _) | (with_reducible refine Kd.C_drew ?_))); (case side2 => exact (Kd.R_reads' HO_3.out).2.1); rintro e w39 ⟨v199, rfl, ho0, hb⟩; refine ⟨_, rfl, ?_⟩; have n0_ := Aside0.mk (Kd.R_below (by (with_reducible repeat (first | apply Kd.R_alloc | apply Kd.R_drewN | apply Kd.R_drew)); exact HO_3.out) hb); have n1_ := Aside0.mk (Kd.R_lower ho0 (below_size (by repeat (first | (with_reducible first | exact HB.out | apply below_alloc | apply pw_below_drewN | apply below_drew1) | exact HB.out)))); have n2_ := Aside0.mk (below_step (by repeat (first | (with_reducible first | exact HB.out | apply below_alloc | apply pw_below_drewN | apply below_drew1) | exact HB.out)) hb); clear HO_3; clear HB; have HO_3 := n0_; have HO200 := n1_; have HB := n2_; clear n0_ n1_ n2_; (try clear hb); (try clear hb2); (try clear hk); (try clear hi); (try clear ho0)))
              go_ret
              exact ⟨by first | rfl | (simp [errW_none, errW_some] <;> rfl) | (simp [*, errW_none, errW_some] <;> rfl), by repeat (first | (with_reducible first | exact HB.out | apply below_alloc | apply pw_below_drewN | apply below_drew1) | exact HB.out)⟩
          · rw [if_neg c31] at H
            have c31b0 : (t188 == 0) = false := beq_eq_false_iff_ne.mpr c31
            have c31b1 : (t188 != 0) = true := bne_iff_ne.mpr c31
            obtain rfl := Option.some.inj H
            go_wp2
            go_ret
            exact ⟨by first | rfl | (simp [errW_none, errW_some] <;> rfl) | (simp [*, errW_none, errW_some] <;> rfl), by repeat (first | (with_reducible first | exact HB.out | apply below_alloc | apply pw_below_drewN | apply below_drew1) | exact HB.out)⟩

end Go.Proofs.Ytegegpdaalfbdaa.XRowcodePuts
