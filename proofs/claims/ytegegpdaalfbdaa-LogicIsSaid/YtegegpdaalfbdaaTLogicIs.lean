/- The walk of LogicIs where its plain answer is true; condition: the plain function answers true. -/
import Derived.Test.YtegegpdaalfbdaaPLogicIsx0
import Derived.Test.YtegegpdaalfbdaaPLogicIsx1
namespace Go.Proofs.Ytegegpdaalfbdaa.PLogicIs
open Go.RowKit Go.Proofs.YtegegpdaalfbdaaW.PrintWords Go.Proofs.YtegegpdaalfbdaaW.PrintLast Go.Proofs.YtegegpdaalfbdaaW.PrintMore
attribute [local go_sem] max2_int min2_int max_two min_two max_three min_three max_four min_four   -- for this text's walks alone
set_option linter.unusedVariables false
set_option linter.unusedSimpArgs false

/-! ### rowlocklaw02_LogicIs: function 3 -/
def rowlocklaw02_LogicIs.f (k : Nat) (l0 : List Int) (a1 : Int) : Option (Bool) := if (l0.length : Int) > 3000 then ((rowlocklaw02_fixed.f k).bind fun t133 => (some t133)) else ((rowlocklaw02_fixed.f k).bind fun t134 => (if t134 = true then ((logic_And.f k l0).bind fun t135 => ((rowlocklaw02_told.f k l0).bind fun t136 => ((rowlockref02_And.f k t136).bind fun t139 => (if (wrap64 (t135)) = t139 then ((logic_Or.f k l0).bind fun t140 => ((rowlocklaw02_told.f k l0).bind fun t141 => ((rowlockref02_Or.f k t141).bind fun t144 => (if (wrap64 (t140)) = t144 then ((logic_Not.f a1).bind fun t145 => ((rowlockref02_Told.f a1).bind fun t146 => ((rowlockref02_Not.f t146).bind fun t147 => (some ((wrap64 (t145)) == t147))))) else (some false))))) else (some false))))) else (some false)))
theorem rowlocklaw02_LogicIs.mono : ∀ a0 a1 k, LeO (rowlocklaw02_LogicIs.f k a0 a1) (rowlocklaw02_LogicIs.f (k + 1) a0 a1) := by
  intro a0 a1 k
  unfold rowlocklaw02_LogicIs.f
  repeat' first
      | (with_reducible exact logic_And.mono _ _)
      | (with_reducible exact logic_Or.mono _ _)
      | (with_reducible exact rowlocklaw02_fixed.mono _)
      | (with_reducible exact rowlocklaw02_told.mono _ _)
      | (with_reducible exact rowlockref02_And.mono _ _)
      | (with_reducible exact rowlockref02_Or.mono _ _)
      | (with_reducible exact LeO.refl _)
      | (with_reducible exact LeO.none _)
      | (with_reducible refine LeO.ite ?_ ?_)
      | (with_reducible refine LeO.bind ?_ (fun _ => ?_))
      | exact logic_And.mono _ _
      | exact logic_Or.mono _ _
      | exact rowlocklaw02_fixed.mono _
      | exact rowlocklaw02_told.mono _ _
      | exact rowlockref02_And.mono _ _
      | exact rowlockref02_Or.mono _ _
      | exact LeO.none _
      | refine LeO.ite ?_ ?_
      | refine LeO.bind ?_ (fun _ => ?_)
set_option maxHeartbeats 8000000 in
set_option maxRecDepth 100000 in
theorem rowlocklaw02_LogicIs.calls (k : Nat) (A0 : Option Addr) (c0 : Nat) (l0 : List Int) (a1 : Int) (w : World) (hr0 : Kd.C (Kd.int .u8) w A0 l0.length l0) (hc0 : l0.length ≤ c0) (h : rowlocklaw02_LogicIs.f k l0 a1 = some true) :
    Calls Try.prog 3 #[.slice A0 l0.length c0, .int .u8 a1] w fun e w' => e = .returned (.bool true) ∧ Below w.heap.size w w' := by
  have HR0 := Aside0.mk hr0
  have HC0 := Aside0.mk hc0
  clear hr0 hc0
  have HB := Aside0.mk (Below.refl w.heap.size w)
  have H : (if (l0.length : Int) > 3000 then ((rowlocklaw02_fixed.f k).bind fun t133 => (some t133)) else ((rowlocklaw02_fixed.f k).bind fun t134 => (if t134 = true then ((logic_And.f k l0).bind fun t135 => ((rowlocklaw02_told.f k l0).bind fun t136 => ((rowlockref02_And.f k t136).bind fun t139 => (if (wrap64 (t135)) = t139 then ((logic_Or.f k l0).bind fun t140 => ((rowlocklaw02_told.f k l0).bind fun t141 => ((rowlockref02_Or.f k t141).bind fun t144 => (if (wrap64 (t140)) = t144 then ((logic_Not.f a1).bind fun t145 => ((rowlockref02_Told.f a1).bind fun t146 => ((rowlockref02_Not.f t146).bind fun t147 => (some ((wrap64 (t145)) == t147))))) else (some false))))) else (some false))))) else (some false)))) = some true := h
  clear h
  by_cases c3 : (l0.length : Int) > 3000
  · rw [if_pos c3] at H
    have c3b0 : decide (3000 < (l0.length : Int)) = true := decide_eq_true c3
    have c3b1 : decide (3000 < l0.length) = true := decide_eq_true (by omega)
    clear c3
    replace H := Option.bind_eq_some_iff.mp H
    obtain ⟨t133, A40, H⟩ := H
    replace H : (some t133) = some true := H
    have A4 := Aside0.mk A40
    clear A40
    first
    | exact absurd (Option.some.inj H) (by decide)
    | have HE := Aside0.mk (Option.some.inj H)
      clear H
      go_enter Try.func3, Try.ntmps3
      go_wp2_with ((with_reducible refine gate_callee (f := 11) rfl ?_); refine goesL_ (some 8) rfl rfl Try.func11 (by kernel_rfl) rfl #[] rfl (by (try simp only [List.map_toArray, List.map_cons, List.map_nil]); first | done | rfl | (simp only [List.length_drop, List.length_take]; rfl)) ?_; (with_reducible refine (rowlocklaw02_fixed.calls k  t133 _ A4.out).mono ?_); rintro e w5 ⟨rfl, hb⟩; refine ⟨_, rfl, ?_⟩; have n0_ := Aside0.mk (below_step (by repeat (first | (with_reducible first | exact HB.out | apply below_alloc | apply pw_below_drewN | apply below_drew1) | exact HB.out)) hb); clear HB; have HB := n0_; clear n0_; (try clear hb); (try clear hb2); (try clear hk); (try clear hi))
      go_ret
      exact ⟨by first | rfl | (rw [HE.out]; first | done | rfl) | (simp [HE.out]; done) | (have h_ := HE.out; simp at h_; simp [h_]; done) | (simp [errW_none, errW_some] <;> rfl) | (simp [*, errW_none, errW_some] <;> rfl), by repeat (first | (with_reducible first | exact HB.out | apply below_alloc | apply pw_below_drewN | apply below_drew1) | exact HB.out)⟩
  · rw [if_neg c3] at H
    have c3b0 : decide (3000 < (l0.length : Int)) = false := decide_eq_false c3
    have c3b1 : decide (3000 < l0.length) = false := decide_eq_false (by omega)
    clear c3
    replace H := Option.bind_eq_some_iff.mp H
    obtain ⟨t134, A60, H⟩ := H
    replace H : (if t134 = true then ((logic_And.f k l0).bind fun t135 => ((rowlocklaw02_told.f k l0).bind fun t136 => ((rowlockref02_And.f k t136).bind fun t139 => (if (wrap64 (t135)) = t139 then ((logic_Or.f k l0).bind fun t140 => ((rowlocklaw02_told.f k l0).bind fun t141 => ((rowlockref02_Or.f k t141).bind fun t144 => (if (wrap64 (t140)) = t144 then ((logic_Not.f a1).bind fun t145 => ((rowlockref02_Told.f a1).bind fun t146 => ((rowlockref02_Not.f t146).bind fun t147 => (some ((wrap64 (t145)) == t147))))) else (some false))))) else (some false))))) else (some false)) = some true := H
    have A6 := Aside0.mk A60
    clear A60
    by_cases c7 : t134 = true
    · subst c7
      have H1 : ((logic_And.f k l0).bind fun t135 => ((rowlocklaw02_told.f k l0).bind fun t136 => ((rowlockref02_And.f k t136).bind fun t139 => (if (wrap64 (t135)) = t139 then ((logic_Or.f k l0).bind fun t140 => ((rowlocklaw02_told.f k l0).bind fun t141 => ((rowlockref02_Or.f k t141).bind fun t144 => (if (wrap64 (t140)) = t144 then ((logic_Not.f a1).bind fun t145 => ((rowlockref02_Told.f a1).bind fun t146 => ((rowlockref02_Not.f t146).bind fun t147 => (some ((wrap64 (t145)) == t147))))) else (some false))))) else (some false))))) = some true := by rw [if_pos rfl] at H; exact H
      clear H
      have H := H1
      clear H1
      replace H := Option.bind_eq_some_iff.mp H
      obtain ⟨t135, A80, H⟩ := H
      replace H : ((rowlocklaw02_told.f k l0).bind fun t136 => ((rowlockref02_And.f k t136).bind fun t139 => (if (wrap64 (t135)) = t139 then ((logic_Or.f k l0).bind fun t140 => ((rowlocklaw02_told.f k l0).bind fun t141 => ((rowlockref02_Or.f k t141).bind fun t144 => (if (wrap64 (t140)) = t144 then ((logic_Not.f a1).bind fun t145 => ((rowlockref02_Told.f a1).bind fun t146 => ((rowlockref02_Not.f t146).bind fun t147 => (some ((wrap64 (t145)) == t147))))) else (some false))))) else (some false)))) = some true := H
      have A8 := Aside0.mk A80
      clear A80
      replace H := Option.bind_eq_some_iff.mp H
      obtain ⟨t136, A90, H⟩ := H
      replace H : ((rowlockref02_And.f k t136).bind fun t139 => (if (wrap64 (t135)) = t139 then ((logic_Or.f k l0).bind fun t140 => ((rowlocklaw02_told.f k l0).bind fun t141 => ((rowlockref02_Or.f k t141).bind fun t144 => (if (wrap64 (t140)) = t144 then ((logic_Not.f a1).bind fun t145 => ((rowlockref02_Told.f a1).bind fun t146 => ((rowlockref02_Not.f t146).bind fun t147 => (some ((wrap64 (t145)) == t147))))) else (some false))))) else (some false))) = some true := H
      have A9 := Aside0.mk A90
      clear A90
      replace H := Option.bind_eq_some_iff.mp H
      obtain ⟨t139, A100, H⟩ := H
      replace H : (if (wrap64 (t135)) = t139 then ((logic_Or.f k l0).bind fun t140 => ((rowlocklaw02_told.f k l0).bind fun t141 => ((rowlockref02_Or.f k t141).bind fun t144 => (if (wrap64 (t140)) = t144 then ((logic_Not.f a1).bind fun t145 => ((rowlockref02_Told.f a1).bind fun t146 => ((rowlockref02_Not.f t146).bind fun t147 => (some ((wrap64 (t145)) == t147))))) else (some false))))) else (some false)) = some true := H
      have A10 := Aside0.mk A100
      clear A100
      by_cases c11 : (wrap64 (t135)) = t139
      · rw [if_pos c11] at H
        have c11b0 : ((wrap64 (t135)) == t139) = true := beq_iff_eq.mpr c11
        have c11b1 : ((wrap64 (t135)) != t139) = false := bne_eq_false_iff_eq.mpr c11
        clear c11
        replace H := Option.bind_eq_some_iff.mp H
        obtain ⟨t140, A120, H⟩ := H
        replace H : ((rowlocklaw02_told.f k l0).bind fun t141 => ((rowlockref02_Or.f k t141).bind fun t144 => (if (wrap64 (t140)) = t144 then ((logic_Not.f a1).bind fun t145 => ((rowlockref02_Told.f a1).bind fun t146 => ((rowlockref02_Not.f t146).bind fun t147 => (some ((wrap64 (t145)) == t147))))) else (some false)))) = some true := H
        have A12 := Aside0.mk A120
        clear A120
        replace H := Option.bind_eq_some_iff.mp H
        obtain ⟨t141, A130, H⟩ := H
        replace H : ((rowlockref02_Or.f k t141).bind fun t144 => (if (wrap64 (t140)) = t144 then ((logic_Not.f a1).bind fun t145 => ((rowlockref02_Told.f a1).bind fun t146 => ((rowlockref02_Not.f t146).bind fun t147 => (some ((wrap64 (t145)) == t147))))) else (some false))) = some true := H
        have A13 := Aside0.mk A130
        clear A130
        replace H := Option.bind_eq_some_iff.mp H
        obtain ⟨t144, A140, H⟩ := H
        replace H : (if (wrap64 (t140)) = t144 then ((logic_Not.f a1).bind fun t145 => ((rowlockref02_Told.f a1).bind fun t146 => ((rowlockref02_Not.f t146).bind fun t147 => (some ((wrap64 (t145)) == t147))))) else (some false)) = some true := H
        have A14 := Aside0.mk A140
        clear A140
        by_cases c15 : (wrap64 (t140)) = t144
        · rw [if_pos c15] at H
          have c15b0 : ((wrap64 (t140)) == t144) = true := beq_iff_eq.mpr c15
          have c15b1 : ((wrap64 (t140)) != t144) = false := bne_eq_false_iff_eq.mpr c15
          clear c15
          replace H := Option.bind_eq_some_iff.mp H
          obtain ⟨t145, A160, H⟩ := H
          replace H : ((rowlockref02_Told.f a1).bind fun t146 => ((rowlockref02_Not.f t146).bind fun t147 => (some ((wrap64 (t145)) == t147)))) = some true := H
          have A16 := Aside0.mk A160
          clear A160
          replace H := Option.bind_eq_some_iff.mp H
          obtain ⟨t146, A170, H⟩ := H
          replace H : ((rowlockref02_Not.f t146).bind fun t147 => (some ((wrap64 (t145)) == t147))) = some true := H
          have A17 := Aside0.mk A170
          clear A170
          replace H := Option.bind_eq_some_iff.mp H
          obtain ⟨t147, A180, H⟩ := H
          replace H : (some ((wrap64 (t145)) == t147)) = some true := H
          have A18 := Aside0.mk A180
          clear A180
          first
          | exact absurd (Option.some.inj H) (by decide)
          | have HE := Aside0.mk (Option.some.inj H)
            clear H
            go_enter Try.func3, Try.ntmps3
            go_wp2_with ((with_reducible refine gate_callee (f := 11) rfl ?_); refine goesL_ (some 9) rfl rfl Try.func11 (by kernel_rfl) rfl #[] rfl (by (try simp only [List.map_toArray, List.map_cons, List.map_nil]); first | done | rfl | (simp only [List.length_drop, List.length_take]; rfl)) ?_; (with_reducible refine (rowlocklaw02_fixed.calls k  true _ A6.out).mono ?_); rintro e w19 ⟨rfl, hb⟩; refine ⟨_, rfl, ?_⟩; have n0_ := Aside0.mk (below_step (by repeat (first | (with_reducible first | exact HB.out | apply below_alloc | apply pw_below_drewN | apply below_drew1) | exact HB.out)) hb); clear HB; have HB := n0_; clear n0_; (try clear hb); (try clear hb2); (try clear hk); (try clear hi))
            go_wp2_with (go_at_call 12; (with_reducible refine (logic_And.calls k _ _ l0 t135 _ ?side1 ?side2 A8.out).mono ?_); (case side1 => repeat (first | exact (Kd.C_below HR0.out HB.out) | (with_reducible refine Kd.C_alloc ?_ _) | (with_reducible refine Kd.C_drewN ?_ _) | (with_reducible refine Kd.C_drew ?_))); (case side2 => exact HC0.out); rintro e w20 ⟨rfl, hb⟩; have n0_ := Aside0.mk (below_step (by repeat (first | (with_reducible first | exact HB.out | apply below_alloc | apply pw_below_drewN | apply below_drew1) | exact HB.out)) hb); clear HB; have HB := n0_; clear n0_; (try clear hb); (try clear hb2); (try clear hk); (try clear hi))
            go_wp2_with (go_at_call 14; (with_reducible refine (rowlocklaw02_told.calls k _ _ l0 t136 _ ?side1 ?side2 A9.out).mono ?_); (case side1 => repeat (first | exact (Kd.C_below HR0.out HB.out) | (with_reducible refine Kd.C_alloc ?_ _) | (with_reducible refine Kd.C_drewN ?_ _) | (with_reducible refine Kd.C_drew ?_))); (case side2 => exact HC0.out); rintro e w21 ⟨v137, rfl, ho0, hb⟩; have n0_ := Aside0.mk (Kd.R_lower ho0 (below_size (by repeat (first | (with_reducible first | exact HB.out | apply below_alloc | apply pw_below_drewN | apply below_drew1) | exact HB.out)))); have n1_ := Aside0.mk (below_step (by repeat (first | (with_reducible first | exact HB.out | apply below_alloc | apply pw_below_drewN | apply below_drew1) | exact HB.out)) hb); clear HB; have HO138 := n0_; have HB := n1_; clear n0_ n1_; (try clear hb); (try clear hb2); (try clear hk); (try clear hi); (try clear ho0); obtain ⟨Ao22, co22, eo22⟩ := Kd.R_slice HO138.out; subst eo22)
            go_wp2_with (go_at_call 13; (with_reducible refine (rowlockref02_And.calls k _ _ t136 t139 _ ?side1 ?side2 A10.out).mono ?_); (case side1 => repeat (first | exact (Kd.R_reads' HO138.out).2.2 | (with_reducible refine Kd.C_alloc ?_ _) | (with_reducible refine Kd.C_drewN ?_ _) | (with_reducible refine Kd.C_drew ?_))); (case side2 => exact (Kd.R_reads' HO138.out).2.1); rintro e w' ⟨rfl, ⟨nd, rfl⟩⟩)
            go_wp2_with (go_at_call 15; (with_reducible refine (logic_Or.calls k _ _ l0 t140 _ ?side1 ?side2 A12.out).mono ?_); (case side1 => repeat (first | exact (Kd.C_below HR0.out (by repeat (first | (with_reducible first | exact HB.out | apply below_alloc | apply pw_below_drewN | apply below_drew1) | exact HB.out))) | (with_reducible refine Kd.C_alloc ?_ _) | (with_reducible refine Kd.C_drewN ?_ _) | (with_reducible refine Kd.C_drew ?_))); (case side2 => exact HC0.out); rintro e w23 ⟨rfl, hb⟩; have n0_ := Aside0.mk (Kd.R_below (by (with_reducible repeat (first | apply Kd.R_alloc | apply Kd.R_drewN | apply Kd.R_drew)); exact HO138.out) hb); have n1_ := Aside0.mk (below_step (by repeat (first | (with_reducible first | exact HB.out | apply below_alloc | apply pw_below_drewN | apply below_drew1) | exact HB.out)) hb); clear HO138; clear HB; have HO138 := n0_; have HB := n1_; clear n0_ n1_; (try clear hb); (try clear hb2); (try clear hk); (try clear hi))
            go_wp2_with (go_at_call 14; (with_reducible refine (rowlocklaw02_told.calls k _ _ l0 t141 _ ?side1 ?side2 A13.out).mono ?_); (case side1 => repeat (first | exact (Kd.C_below HR0.out HB.out) | (with_reducible refine Kd.C_alloc ?_ _) | (with_reducible refine Kd.C_drewN ?_ _) | (with_reducible refine Kd.C_drew ?_))); (case side2 => exact HC0.out); rintro e w24 ⟨v142, rfl, ho0, hb⟩; have n0_ := Aside0.mk (Kd.R_elder' (by (with_reducible repeat (first | apply Kd.R_alloc | apply Kd.R_drewN | apply Kd.R_drew)); exact HO138.out) (Kd.R_base ho0) hb); have n1_ := Aside0.mk (Kd.R_lower (Kd.R_new' ho0 (Kd.R_lt (by (with_reducible repeat (first | apply Kd.R_alloc | apply Kd.R_drewN | apply Kd.R_drew)); exact HO138.out))) (below_size (by repeat (first | (with_reducible first | exact HB.out | apply below_alloc | apply pw_below_drewN | apply below_drew1) | exact HB.out)))); have n2_ := Aside0.mk (below_step (by repeat (first | (with_reducible first | exact HB.out | apply below_alloc | apply pw_below_drewN | apply below_drew1) | exact HB.out)) hb); clear HO138; clear HB; have HO138 := n0_; have HO143 := n1_; have HB := n2_; clear n0_ n1_ n2_; (try clear hb); (try clear hb2); (try clear hk); (try clear hi); (try clear ho0); obtain ⟨Ao25, co25, eo25⟩ := Kd.R_slice HO143.out; subst eo25)
            go_wp2_with (go_at_call 16; (with_reducible refine (rowlockref02_Or.calls k _ _ t141 t144 _ ?side1 ?side2 A14.out).mono ?_); (case side1 => repeat (first | exact (Kd.R_reads' HO143.out).2.2 | (with_reducible refine Kd.C_alloc ?_ _) | (with_reducible refine Kd.C_drewN ?_ _) | (with_reducible refine Kd.C_drew ?_))); (case side2 => exact (Kd.R_reads' HO143.out).2.1); rintro e w' ⟨rfl, ⟨nd, rfl⟩⟩)
            go_wp2_with (go_at_call 17; (with_reducible refine (logic_Not.calls a1 t145 _ A16.out).mono ?_); rintro e w' ⟨rfl, ⟨nd, rfl⟩⟩)
            go_wp2_with (go_at_call 19; (with_reducible refine (rowlockref02_Told.calls a1 t146 _ A17.out).mono ?_); rintro e w' ⟨rfl, ⟨nd, rfl⟩⟩)
            go_wp2_with (go_at_call 18; (with_reducible refine (rowlockref02_Not.calls t146 t147 _ A18.out).mono ?_); rintro e w26 ⟨rfl, hb⟩; have n0_ := Aside0.mk (Kd.R_below (by (with_reducible repeat (first | apply Kd.R_alloc | apply Kd.R_drewN | apply Kd.R_drew)); exact HO138.out) hb); have n1_ := Aside0.mk (Kd.R_below (by (with_reducible repeat (first | apply Kd.R_alloc | apply Kd.R_drewN | apply Kd.R_drew)); exact HO143.out) hb); have n2_ := Aside0.mk (below_step (by repeat (first | (with_reducible first | exact HB.out | apply below_alloc | apply pw_below_drewN | apply below_drew1) | exact HB.out)) hb); clear HO138; clear HO143; clear HB; have HO138 := n0_; have HO143 := n1_; have HB := n2_; clear n0_ n1_ n2_; (try clear hb); (try clear hb2); (try clear hk); (try clear hi))
            go_ret
            exact ⟨by first | rfl | (rw [HE.out]; first | done | rfl) | (simp [HE.out]; done) | (have h_ := HE.out; simp at h_; simp [h_]; done) | (simp [errW_none, errW_some] <;> rfl) | (simp [*, errW_none, errW_some] <;> rfl), by repeat (first | (with_reducible first | exact HB.out | apply below_alloc | apply pw_below_drewN | apply below_drew1) | exact HB.out)⟩
        · rw [if_neg c15] at H
          have c15b0 : ((wrap64 (t140)) == t144) = false := beq_eq_false_iff_ne.mpr c15
          have c15b1 : ((wrap64 (t140)) != t144) = true := bne_iff_ne.mpr c15
          first
          | exact absurd (Option.some.inj H) (by decide)
          | have HE := Aside0.mk (Option.some.inj H)
            clear H
            go_enter Try.func3, Try.ntmps3
            go_wp2_with ((with_reducible refine gate_callee (f := 11) rfl ?_); refine goesL_ (some 9) rfl rfl Try.func11 (by kernel_rfl) rfl #[] rfl (by (try simp only [List.map_toArray, List.map_cons, List.map_nil]); first | done | rfl | (simp only [List.length_drop, List.length_take]; rfl)) ?_; (with_reducible refine (rowlocklaw02_fixed.calls k  true _ A6.out).mono ?_); rintro e w27 ⟨rfl, hb⟩; refine ⟨_, rfl, ?_⟩; have n0_ := Aside0.mk (below_step (by repeat (first | (with_reducible first | exact HB.out | apply below_alloc | apply pw_below_drewN | apply below_drew1) | exact HB.out)) hb); clear HB; have HB := n0_; clear n0_; (try clear hb); (try clear hb2); (try clear hk); (try clear hi))
            go_wp2_with (go_at_call 12; (with_reducible refine (logic_And.calls k _ _ l0 t135 _ ?side1 ?side2 A8.out).mono ?_); (case side1 => repeat (first | exact (Kd.C_below HR0.out HB.out) | (with_reducible refine Kd.C_alloc ?_ _) | (with_reducible refine Kd.C_drewN ?_ _) | (with_reducible refine Kd.C_drew ?_))); (case side2 => exact HC0.out); rintro e w28 ⟨rfl, hb⟩; have n0_ := Aside0.mk (below_step (by repeat (first | (with_reducible first | exact HB.out | apply below_alloc | apply pw_below_drewN | apply below_drew1) | exact HB.out)) hb); clear HB; have HB := n0_; clear n0_; (try clear hb); (try clear hb2); (try clear hk); (try clear hi))
            go_wp2_with (go_at_call 14; (with_reducible refine (rowlocklaw02_told.calls k _ _ l0 t136 _ ?side1 ?side2 A9.out).mono ?_); (case side1 => repeat (first | exact (Kd.C_below HR0.out HB.out) | (with_reducible refine Kd.C_alloc ?_ _) | (with_reducible refine Kd.C_drewN ?_ _) | (with_reducible refine Kd.C_drew ?_))); (case side2 => exact HC0.out); rintro e w29 ⟨v137, rfl, ho0, hb⟩; have n0_ := Aside0.mk (Kd.R_lower ho0 (below_size (by repeat (first | (with_reducible first | exact HB.out | apply below_alloc | apply pw_below_drewN | apply below_drew1) | exact HB.out)))); have n1_ := Aside0.mk (below_step (by repeat (first | (with_reducible first | exact HB.out | apply below_alloc | apply pw_below_drewN | apply below_drew1) | exact HB.out)) hb); clear HB; have HO138 := n0_; have HB := n1_; clear n0_ n1_; (try clear hb); (try clear hb2); (try clear hk); (try clear hi); (try clear ho0); obtain ⟨Ao30, co30, eo30⟩ := Kd.R_slice HO138.out; subst eo30)
            go_wp2_with (go_at_call 13; (with_reducible refine (rowlockref02_And.calls k _ _ t136 t139 _ ?side1 ?side2 A10.out).mono ?_); (case side1 => repeat (first | exact (Kd.R_reads' HO138.out).2.2 | (with_reducible refine Kd.C_alloc ?_ _) | (with_reducible refine Kd.C_drewN ?_ _) | (with_reducible refine Kd.C_drew ?_))); (case side2 => exact (Kd.R_reads' HO138.out).2.1); rintro e w' ⟨rfl, ⟨nd, rfl⟩⟩)
            go_wp2_with (go_at_call 15; (with_reducible refine (logic_Or.calls k _ _ l0 t140 _ ?side1 ?side2 A12.out).mono ?_); (case side1 => repeat (first | exact (Kd.C_below HR0.out (by repeat (first | (with_reducible first | exact HB.out | apply below_alloc | apply pw_below_drewN | apply below_drew1) | exact HB.out))) | (with_reducible refine Kd.C_alloc ?_ _) | (with_reducible refine Kd.C_drewN ?_ _) | (with_reducible refine Kd.C_drew ?_))); (case side2 => exact HC0.out); rintro e w31 ⟨rfl, hb⟩; have n0_ := Aside0.mk (Kd.R_below (by (with_reducible repeat (first | apply Kd.R_alloc | apply Kd.R_drewN | apply Kd.R_drew)); exact HO138.out) hb); have n1_ := Aside0.mk (below_step (by repeat (first | (with_reducible first | exact HB.out | apply below_alloc | apply pw_below_drewN | apply below_drew1) | exact HB.out)) hb); clear HO138; clear HB; have HO138 := n0_; have HB := n1_; clear n0_ n1_; (try clear hb); (try clear hb2); (try clear hk); (try clear hi))
            go_wp2_with (go_at_call 14; (with_reducible refine (rowlocklaw02_told.calls k _ _ l0 t141 _ ?side1 ?side2 A13.out).mono ?_); (case side1 => repeat (first | exact (Kd.C_below HR0.out HB.out) | (with_reducible refine Kd.C_alloc ?_ _) | (with_reducible refine Kd.C_drewN ?_ _) | (with_reducible refine Kd.C_drew ?_))); (case side2 => exact HC0.out); rintro e w32 ⟨v142, rfl, ho0, hb⟩; have n0_ := Aside0.mk (Kd.R_elder' (by (with_reducible repeat (first | apply Kd.R_alloc | apply Kd.R_drewN | apply Kd.R_drew)); exact HO138.out) (Kd.R_base ho0) hb); have n1_ := Aside0.mk (Kd.R_lower (Kd.R_new' ho0 (Kd.R_lt (by (with_reducible repeat (first | apply Kd.R_alloc | apply Kd.R_drewN | apply Kd.R_drew)); exact HO138.out))) (below_size (by repeat (first | (with_reducible first | exact HB.out | apply below_alloc | apply pw_below_drewN | apply below_drew1) | exact HB.out)))); have n2_ := Aside0.mk (below_step (by repeat (first | (with_reducible first | exact HB.out | apply below_alloc | apply pw_below_drewN | apply below_drew1) | exact HB.out)) hb); clear HO138; clear HB; have HO138 := n0_; have HO143 := n1_; have HB := n2_; clear n0_ n1_ n2_; (try clear hb); (try clear hb2); (try clear hk); (try clear hi); (try clear ho0); obtain ⟨Ao33, co33, eo33⟩ := Kd.R_slice HO143.out; subst eo33)
            go_wp2_with (go_at_call 16; (with_reducible refine (rowlockref02_Or.calls k _ _ t141 t144 _ ?side1 ?side2 A14.out).mono ?_); (case side1 => repeat (first | exact (Kd.R_reads' HO143.out).2.2 | (with_reducible refine Kd.C_alloc ?_ _) | (with_reducible refine Kd.C_drewN ?_ _) | (with_reducible refine Kd.C_drew ?_))); (case side2 => exact (Kd.R_reads' HO143.out).2.1); rintro e w' ⟨rfl, ⟨nd, rfl⟩⟩)
            go_ret
            exact ⟨by first | rfl | (rw [HE.out]; first | done | rfl) | (simp [HE.out]; done) | (have h_ := HE.out; simp at h_; simp [h_]; done) | (simp [errW_none, errW_some] <;> rfl) | (simp [*, errW_none, errW_some] <;> rfl), by repeat (first | (with_reducible first | exact HB.out | apply below_alloc | apply pw_below_drewN | apply below_drew1) | exact HB.out)⟩
      · rw [if_neg c11] at H
        have c11b0 : ((wrap64 (t135)) == t139) = false := beq_eq_false_iff_ne.mpr c11
        have c11b1 : ((wrap64 (t135)) != t139) = true := bne_iff_ne.mpr c11
        first
        | exact absurd (Option.some.inj H) (by decide)
        | have HE := Aside0.mk (Option.some.inj H)
          clear H
          go_enter Try.func3, Try.ntmps3
          go_wp2_with ((with_reducible refine gate_callee (f := 11) rfl ?_); refine goesL_ (some 9) rfl rfl Try.func11 (by kernel_rfl) rfl #[] rfl (by (try simp only [List.map_toArray, List.map_cons, List.map_nil]); first | done | rfl | (simp only [List.length_drop, List.length_take]; rfl)) ?_; (with_reducible refine (rowlocklaw02_fixed.calls k  true _ A6.out).mono ?_); rintro e w34 ⟨rfl, hb⟩; refine ⟨_, rfl, ?_⟩; have n0_ := Aside0.mk (below_step (by repeat (first | (with_reducible first | exact HB.out | apply below_alloc | apply pw_below_drewN | apply below_drew1) | exact HB.out)) hb); clear HB; have HB := n0_; clear n0_; (try clear hb); (try clear hb2); (try clear hk); (try clear hi))
          go_wp2_with (go_at_call 12; (with_reducible refine (logic_And.calls k _ _ l0 t135 _ ?side1 ?side2 A8.out).mono ?_); (case side1 => repeat (first | exact (Kd.C_below HR0.out HB.out) | (with_reducible refine Kd.C_alloc ?_ _) | (with_reducible refine Kd.C_drewN ?_ _) | (with_reducible refine Kd.C_drew ?_))); (case side2 => exact HC0.out); rintro e w35 ⟨rfl, hb⟩; have n0_ := Aside0.mk (below_step (by repeat (first | (with_reducible first | exact HB.out | apply below_alloc | apply pw_below_drewN | apply below_drew1) | exact HB.out)) hb); clear HB; have HB := n0_; clear n0_; (try clear hb); (try clear hb2); (try clear hk); (try clear hi))
          go_wp2_with (go_at_call 14; (with_reducible refine (rowlocklaw02_told.calls k _ _ l0 t136 _ ?side1 ?side2 A9.out).mono ?_); (case side1 => repeat (first | exact (Kd.C_below HR0.out HB.out) | (with_reducible refine Kd.C_alloc ?_ _) | (with_reducible refine Kd.C_drewN ?_ _) | (with_reducible refine Kd.C_drew ?_))); (case side2 => exact HC0.out); rintro e w36 ⟨v137, rfl, ho0, hb⟩; have n0_ := Aside0.mk (Kd.R_lower ho0 (below_size (by repeat (first | (with_reducible first | exact HB.out | apply below_alloc | apply pw_below_drewN | apply below_drew1) | exact HB.out)))); have n1_ := Aside0.mk (below_step (by repeat (first | (with_reducible first | exact HB.out | apply below_alloc | apply pw_below_drewN | apply below_drew1) | exact HB.out)) hb); clear HB; have HO138 := n0_; have HB := n1_; clear n0_ n1_; (try clear hb); (try clear hb2); (try clear hk); (try clear hi); (try clear ho0); obtain ⟨Ao37, co37, eo37⟩ := Kd.R_slice HO138.out; subst eo37)
          go_wp2_with (go_at_call 13; (with_reducible refine (rowlockref02_And.calls k _ _ t136 t139 _ ?side1 ?side2 A10.out).mono ?_); (case side1 => repeat (first | exact (Kd.R_reads' HO138.out).2.2 | (with_reducible refine Kd.C_alloc ?_ _) | (with_reducible refine Kd.C_drewN ?_ _) | (with_reducible refine Kd.C_drew ?_))); (case side2 => exact (Kd.R_reads' HO138.out).2.1); rintro e w' ⟨rfl, ⟨nd, rfl⟩⟩)
          go_ret
          exact ⟨by first | rfl | (rw [HE.out]; first | done | rfl) | (simp [HE.out]; done) | (have h_ := HE.out; simp at h_; simp [h_]; done) | (simp [errW_none, errW_some] <;> rfl) | (simp [*, errW_none, errW_some] <;> rfl), by repeat (first | (with_reducible first | exact HB.out | apply below_alloc | apply pw_below_drewN | apply below_drew1) | exact HB.out)⟩
    · replace c7 := Bool.eq_false_iff.mpr c7
      subst c7
      have H1 : (some false) = some true := by rw [if_neg (show ¬ (false = true) by decide)] at H; exact H
      clear H
      have H := H1
      clear H1
      first
      | exact absurd (Option.some.inj H) (by decide)
      | have HE := Aside0.mk (Option.some.inj H)
        clear H
        go_enter Try.func3, Try.ntmps3
        go_wp2_with ((with_reducible refine gate_callee (f := 11) rfl ?_); refine goesL_ (some 9) rfl rfl Try.func11 (by kernel_rfl) rfl #[] rfl (by (try simp only [List.map_toArray, List.map_cons, List.map_nil]); first | done | rfl | (simp only [List.length_drop, List.length_take]; rfl)) ?_; (with_reducible refine (rowlocklaw02_fixed.calls k  false _ A6.out).mono ?_); rintro e w38 ⟨rfl, hb⟩; refine ⟨_, rfl, ?_⟩; have n0_ := Aside0.mk (below_step (by repeat (first | (with_reducible first | exact HB.out | apply below_alloc | apply pw_below_drewN | apply below_drew1) | exact HB.out)) hb); clear HB; have HB := n0_; clear n0_; (try clear hb); (try clear hb2); (try clear hk); (try clear hi))
        go_ret
        exact ⟨by first | rfl | (rw [HE.out]; first | done | rfl) | (simp [HE.out]; done) | (have h_ := HE.out; simp at h_; simp [h_]; done) | (simp [errW_none, errW_some] <;> rfl) | (simp [*, errW_none, errW_some] <;> rfl), by repeat (first | (with_reducible first | exact HB.out | apply below_alloc | apply pw_below_drewN | apply below_drew1) | exact HB.out)⟩

/-- THE ONE PURE STATEMENT of rowlocklaw02_LogicIs: yours. -/
def rowlocklaw02_LogicIs.Pure : Prop := ∀ (l0 : List Int) (a1 : Int), l0.length ≤ maxLen → l0.length * 1 ≤ 140737488351232 → (∀ x ∈ l0, (Lit.int .u8 x).wf = true) → (Lit.int .u8 a1).wf = true → ∃ k, rowlocklaw02_LogicIs.f k l0 a1 = some true
theorem rowlocklaw02_LogicIs.walk (P : rowlocklaw02_LogicIs.Pure) (a0 : Option Addr) (len0 cap0 : Nat) (z0 : List Int) (a1 : Int) (w : World) (w0 : (a0 = none ∧ len0 = 0 ∧ cap0 = 0 ∧ z0 = []) ∨ ∃ x, a0 = some x ∧ len0 ≤ cap0 ∧ cap0 ≤ maxLen ∧ z0.length = cap0 ∧ (∀ i, i < z0.length → w.cell? (x.add i) = some (.int .u8 (z0.getD i 0))) ∧ ∀ n ∈ z0, (Lit.int .u8 n).wf = true) (y0 : len0 * 1 ≤ 140737488351232) (w1 : (Lit.int .u8 a1).wf = true) :
    Calls Try.prog 3 #[.slice a0 len0 cap0, .int .u8 a1] w fun e w' => e = .returned (.bool true) ∧ Below w.heap.size w w' := by
  obtain ⟨l0, rfl, hr0, hm0, hw0, hc0⟩ := ReadsInt.ofRowC w0
  obtain ⟨k, h⟩ := P l0 a1 hm0 y0 hw0 w1
  refine (rowlocklaw02_LogicIs.calls k _ _ l0 a1 w (Kd.C_of_reads (d := (0 : Int)) (h1 := fun _ => rfl) hr0) hc0 h).mono ?_
  rintro e w' ⟨rfl, hd⟩
  exact ⟨rfl, hd⟩

end Go.Proofs.Ytegegpdaalfbdaa.PLogicIs
