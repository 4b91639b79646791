-- Written by this session's own program (wip/own_print.py) over the kit's print, with this session's hand-proved contracts in their places; Lean checks it.
import Derived.Test.YtegegpdaalfbdaaXRowcodeGetsx0
import Derived.Test.YtegegpdaalfbdaaClr
import Derived.Test.YtegegpdaalfbdaaXRowcodeGetsx2
import Derived.Test.YtegegpdaalfbdaaXRowcodeGetsx3
namespace Go.Proofs.Ytegegpdaalfbdaa.XRowcodeGets
open Go.RowKit Go.Proofs.YtegegpdaalfbdaaW.PrintWords Go.Proofs.YtegegpdaalfbdaaW.PrintLast Go.Proofs.YtegegpdaalfbdaaW.PrintMore
attribute [local go_sem] max2_int min2_int max_two min_two max_three min_three max_four min_four   -- for this text's walks alone
set_option linter.unusedVariables false
set_option linter.unusedSimpArgs false

/-! ### rowlocklaw04_RowcodeGets: function 9 -/
def rowlocklaw04_RowcodeGets.j0 : Nat → List Int → List (S36) → Int → Bool → Option (Bool)
  | 0, _, _, _, _ => none
  | k + 1, x0, x4, x5, x40 => if x40 = true then (some false) else (if x5 = 0 then ((rowcode_Put.f k x4).bind fun bt184 => (if bt184.2 = 0 then (some ((strOfNums bt184.1).toList == (strOfNums x0).toList)) else (some false))) else (some true))
def rowlocklaw04_RowcodeGets.f (k : Nat) (l0 : List Int) : Option (Bool) := if (l0.length : Int) > 5000 then ((rowlocklaw04_fixed.f k).bind fun t167 => (some t167)) else ((some (([] : List Int) : List Int)).bind fun y168 => (if y168.length + l0.length < 140737488355328 then ((rowcode_Get.f k (y168 ++ l0)).bind fun bt174 => ((rowlockref04_Get.f k l0).bind fun bt178 => ((rowlocklaw04_fixed.f k).bind fun t182 => (if t182 = true then ((rowlockref04_Same.f k bt174.1 bt178.1).bind fun t183 => (if t183 = true then (rowlocklaw04_RowcodeGets.j0 k l0 bt174.1 bt174.2 (bt174.2 != bt178.2)) else (rowlocklaw04_RowcodeGets.j0 k l0 bt174.1 bt174.2 true))) else (rowlocklaw04_RowcodeGets.j0 k l0 bt174.1 bt174.2 true))))) else (none)))
theorem rowlocklaw04_RowcodeGets.mono_l : ∀ k, (∀ y0 y1 y2 y3, LeO (rowlocklaw04_RowcodeGets.j0 k y0 y1 y2 y3) (rowlocklaw04_RowcodeGets.j0 (k + 1) y0 y1 y2 y3))
  | 0 => fun _ _ _ _ r h => by simp [rowlocklaw04_RowcodeGets.j0] at h
  | k + 1 => by
    have ih0 := rowlocklaw04_RowcodeGets.mono_l k
    · intro y0 y1 y2 y3
      unfold rowlocklaw04_RowcodeGets.j0
      repeat' first
      | (with_reducible exact ih0 _ _ _ _)
      | (with_reducible exact rowcode_Get.mono _ _)
      | (with_reducible exact rowcode_Put.mono _ _)
      | (with_reducible exact rowlocklaw04_fixed.mono _)
      | (with_reducible exact rowlockref04_Get.mono _ _)
      | (with_reducible exact rowlockref04_Same.mono _ _ _)
      | (with_reducible exact LeO.refl _)
      | (with_reducible exact LeO.none _)
      | (with_reducible refine LeO.ite ?_ ?_)
      | (with_reducible refine LeO.bind ?_ (fun _ => ?_))
      | exact ih0 _ _ _ _
      | exact rowcode_Get.mono _ _
      | exact rowcode_Put.mono _ _
      | exact rowlocklaw04_fixed.mono _
      | exact rowlockref04_Get.mono _ _
      | exact rowlockref04_Same.mono _ _ _
      | exact LeO.none _
      | refine LeO.ite ?_ ?_
      | refine LeO.bind ?_ (fun _ => ?_)
theorem rowlocklaw04_RowcodeGets.mono : ∀ a0 k, LeO (rowlocklaw04_RowcodeGets.f k a0) (rowlocklaw04_RowcodeGets.f (k + 1) a0) := by
  intro a0 k
  have ih0 := rowlocklaw04_RowcodeGets.mono_l k
  unfold rowlocklaw04_RowcodeGets.f
  repeat' first
      | (with_reducible exact ih0 _ _ _ _)
      | (with_reducible exact rowcode_Get.mono _ _)
      | (with_reducible exact rowcode_Put.mono _ _)
      | (with_reducible exact rowlocklaw04_fixed.mono _)
      | (with_reducible exact rowlockref04_Get.mono _ _)
      | (with_reducible exact rowlockref04_Same.mono _ _ _)
      | (with_reducible exact LeO.refl _)
      | (with_reducible exact LeO.none _)
      | (with_reducible refine LeO.ite ?_ ?_)
      | (with_reducible refine LeO.bind ?_ (fun _ => ?_))
      | exact ih0 _ _ _ _
      | exact rowcode_Get.mono _ _
      | exact rowcode_Put.mono _ _
      | exact rowlocklaw04_fixed.mono _
      | exact rowlockref04_Get.mono _ _
      | exact rowlockref04_Same.mono _ _ _
      | exact LeO.none _
      | refine LeO.ite ?_ ?_
      | refine LeO.bind ?_ (fun _ => ?_)
set_option maxHeartbeats 8000000 in
set_option maxRecDepth 100000 in
theorem rowlocklaw04_RowcodeGets.calls (k : Nat) (A0 : Option Addr) (c0 : Nat) (l0 : List Int) (r : Bool) (w : World) (hr0 : Kd.C (Kd.int .u8) w A0 l0.length l0) (hc0 : l0.length ≤ c0) (h : rowlocklaw04_RowcodeGets.f k l0 = some r) :
    Calls Try.prog 9 #[.slice A0 l0.length c0] w fun e w' => e = .returned (.bool r) ∧ Below w.heap.size w w' := by
  have HR0 := Aside0.mk hr0
  have HC0 := Aside0.mk hc0
  clear hr0 hc0
  have HB := Aside0.mk (Below.refl w.heap.size w)
  have H : (if (l0.length : Int) > 5000 then ((rowlocklaw04_fixed.f k).bind fun t167 => (some t167)) else ((some (([] : List Int) : List Int)).bind fun y168 => (if y168.length + l0.length < 140737488355328 then ((rowcode_Get.f k (y168 ++ l0)).bind fun bt174 => ((rowlockref04_Get.f k l0).bind fun bt178 => ((rowlocklaw04_fixed.f k).bind fun t182 => (if t182 = true then ((rowlockref04_Same.f k bt174.1 bt178.1).bind fun t183 => (if t183 = true then (rowlocklaw04_RowcodeGets.j0 k l0 bt174.1 bt174.2 (bt174.2 != bt178.2)) else (rowlocklaw04_RowcodeGets.j0 k l0 bt174.1 bt174.2 true))) else (rowlocklaw04_RowcodeGets.j0 k l0 bt174.1 bt174.2 true))))) else (none)))) = some r := h
  clear h
  by_cases c2 : (l0.length : Int) > 5000
  · rw [if_pos c2] at H
    have c2b0 : decide (5000 < (l0.length : Int)) = true := decide_eq_true c2
    have c2b1 : decide (5000 < l0.length) = true := decide_eq_true (by omega)
    clear c2
    replace H := Option.bind_eq_some_iff.mp H
    obtain ⟨t167, A30, H⟩ := H
    replace H : (some t167) = some r := H
    have A3 := Aside0.mk A30
    clear A30
    obtain rfl := Option.some.inj H
    go_enter Try.func9, Try.ntmps9
    go_wp2_with (first | ((with_reducible refine gate_callee (f := 26) rfl ?_); refine goesL_ (some 13) rfl rfl Try.func26 (by kernel_rfl) rfl #[] rfl (by (try simp only [List.map_toArray, List.map_cons, List.map_nil]); first | done | rfl | (simp only [List.length_drop, List.length_take]; rfl)) ?_; (with_reducible refine (rowlocklaw04_fixed.calls k  t167 _ A3.out).mono ?_); rintro e w4 ⟨rfl, hb⟩; refine ⟨_, rfl, ?_⟩; have n0_ := Aside0.mk (below_step (by repeat (first | (with_reducible first | exact HB.out | apply below_alloc | apply pw_below_drewN | apply below_drew1) | exact HB.out)) hb); clear HB; have HB := n0_; clear n0_; (try clear hb); (try clear hb2); (try clear hk); (try clear hi)))
    go_ret
    exact ⟨by first | rfl | (simp [errW_none, errW_some] <;> rfl) | (simp [*, errW_none, errW_some] <;> rfl), by repeat (first | (with_reducible first | exact HB.out | apply below_alloc | apply pw_below_drewN | apply below_drew1) | exact HB.out)⟩
  · rw [if_neg c2] at H
    have c2b0 : decide (5000 < (l0.length : Int)) = false := decide_eq_false c2
    have c2b1 : decide (5000 < l0.length) = false := decide_eq_false (by omega)
    clear c2
    obtain ⟨y168, hy168⟩ : ∃ y_ : List Int, y_ = (([] : List Int)) := ⟨_, rfl⟩
    replace H : (if y168.length + l0.length < 140737488355328 then ((rowcode_Get.f k (y168 ++ l0)).bind fun bt174 => ((rowlockref04_Get.f k l0).bind fun bt178 => ((rowlocklaw04_fixed.f k).bind fun t182 => (if t182 = true then ((rowlockref04_Same.f k bt174.1 bt178.1).bind fun t183 => (if t183 = true then (rowlocklaw04_RowcodeGets.j0 k l0 bt174.1 bt174.2 (bt174.2 != bt178.2)) else (rowlocklaw04_RowcodeGets.j0 k l0 bt174.1 bt174.2 true))) else (rowlocklaw04_RowcodeGets.j0 k l0 bt174.1 bt174.2 true))))) else (none)) = some r := by first | (rw [hy168]; with_reducible exact H) | (have H2_ := (Option.bind_some _ _).symm.trans H; rw [hy168]; with_reducible exact H2_) | (have H2_ := (Option.bind_some _ _).symm.trans H; with_reducible exact H2_) | with_reducible exact H | (rw [hy168]; exact H) | exact H
    have Ny168 := Aside0.mk hy168
    clear hy168
    by_cases c5 : y168.length + l0.length < 140737488355328
    · rw [if_pos c5] at H
      have LMc5 := Aside0.mk c5
      clear c5
      obtain ⟨y171, hy171⟩ : ∃ y_ : List Int, y_ = (y168 ++ l0) := ⟨_, rfl⟩
      replace H : ((rowcode_Get.f k y171).bind fun bt174 => ((rowlockref04_Get.f k l0).bind fun bt178 => ((rowlocklaw04_fixed.f k).bind fun t182 => (if t182 = true then ((rowlockref04_Same.f k bt174.1 bt178.1).bind fun t183 => (if t183 = true then (rowlocklaw04_RowcodeGets.j0 k l0 bt174.1 bt174.2 (bt174.2 != bt178.2)) else (rowlocklaw04_RowcodeGets.j0 k l0 bt174.1 bt174.2 true))) else (rowlocklaw04_RowcodeGets.j0 k l0 bt174.1 bt174.2 true))))) = some r := by first | (rw [hy171]; with_reducible exact H) | (have H2_ := (Option.bind_some _ _).symm.trans H; rw [hy171]; with_reducible exact H2_) | (have H2_ := (Option.bind_some _ _).symm.trans H; with_reducible exact H2_) | with_reducible exact H | (rw [hy171]; exact H) | exact H
      have Ny171 := Aside0.mk hy171
      clear hy171
      replace H := Option.bind_eq_some_iff.mp H
      obtain ⟨⟨t174, t175⟩, A60, H⟩ := H
      replace H : ((rowlockref04_Get.f k l0).bind fun bt178 => ((rowlocklaw04_fixed.f k).bind fun t182 => (if t182 = true then ((rowlockref04_Same.f k t174 bt178.1).bind fun t183 => (if t183 = true then (rowlocklaw04_RowcodeGets.j0 k l0 t174 t175 (t175 != bt178.2)) else (rowlocklaw04_RowcodeGets.j0 k l0 t174 t175 true))) else (rowlocklaw04_RowcodeGets.j0 k l0 t174 t175 true)))) = some r := H
      have A6 := Aside0.mk A60
      clear A60
      replace H := Option.bind_eq_some_iff.mp H
      obtain ⟨⟨t178, t179⟩, A70, H⟩ := H
      replace H : ((rowlocklaw04_fixed.f k).bind fun t182 => (if t182 = true then ((rowlockref04_Same.f k t174 t178).bind fun t183 => (if t183 = true then (rowlocklaw04_RowcodeGets.j0 k l0 t174 t175 (t175 != t179)) else (rowlocklaw04_RowcodeGets.j0 k l0 t174 t175 true))) else (rowlocklaw04_RowcodeGets.j0 k l0 t174 t175 true))) = some r := H
      have A7 := Aside0.mk A70
      clear A70
      have HC8 := Aside0.mk H
      clear H
      go_enter Try.func9, Try.ntmps9
      go_upto_region 7 with (first | ((with_reducible refine gate_dst (N := 14) rfl ?_); refine Kd.R_lit (Kd.int .u8) _ 5 ?hg (N := 14) ?hd (xs := ([] : List Int)) (inner := []) (ok := fun _ => True) (okp := fun _ => True) ?hr ?hp (fun _ hk => hk) trivial (Below.refl _ _) (Nat.le_refl _) (by simp) ?_; (case hd => rfl); (case hg => rfl); (case hr => first | (go_simp; done) | (go_simp; rfl)); (case hp => exact (Reps.none _ _)); intro v169 w9 ho10 hb hg_ hnew_; clear hg_ hnew_; (first | rw [← Ny168.out] at ho10 | (simp only [Int.reduceToNat] at ho10; rw [← Ny168.out] at ho10)); have n0_ := Aside0.mk (Kd.R_lower ho10 (below_size (by repeat (first | (with_reducible first | exact HB.out | apply below_alloc | apply pw_below_drewN | apply below_drew1) | exact HB.out)))); have n1_ := Aside0.mk (below_step (by repeat (first | (with_reducible first | exact HB.out | apply below_alloc | apply pw_below_drewN | apply below_drew1) | exact HB.out)) hb); clear HB; have HO170 := n0_; have HB := n1_; clear n0_ n1_; clear hb ho10) | ((with_reducible refine gate_builtin (b := .append) (xs := #[.tmp 14, .tmp 15]) rfl ?_); at_builtin; refine Kd.R_append_rows (Kd.int .u8) (w0 := w) w.heap.size rfl (.tmp 14) (.tmp 15) 49 5 (.int .u8 0) 1 rfl Try.underlying49 info5 rfl (by decide) (by omega) v169 y168 l0 _ _ _ (fun _ => True) (fun _ => False) rfl rfl ?aO ?aR (fun _ _ h => h) (fun _ h => h.elim) ?aF ?aB ?aS ?aL ?_; (case aR => repeat (first | exact (Kd.C_below HR0.out HB.out) | (with_reducible refine Kd.C_alloc ?_ _) | (with_reducible refine Kd.C_drewN ?_ _) | (with_reducible refine Kd.C_drew ?_))); (case aB => exact (by repeat (first | (with_reducible first | exact HB.out | apply below_alloc | apply pw_below_drewN | apply below_drew1) | exact HB.out))); (case aF => exact (fun _ _ => trivial)); (case aO => exact (by (with_reducible repeat (first | apply Kd.R_alloc | apply Kd.R_drewN | apply Kd.R_drew)); exact HO170.out)); (case aS => exact (below_size (by repeat (first | (with_reducible first | exact HB.out | apply below_alloc | apply pw_below_drewN | apply below_drew1) | exact HB.out)))); (case aL => have := LMc5.out; omega); intro v172 w11 ho hb hg hat; rw [← Ny171.out] at ho; have n0_ := Aside0.mk (hb); have n1_ := Aside0.mk (ho); clear HB; clear HO170; have HB := n0_; have HO173 := n1_; clear n0_ n1_; clear ho hb hg hat; obtain ⟨Ao12, co12, eo12⟩ := Kd.R_slice HO173.out; subst eo12) | ((with_reducible refine gate_callee (f := 29) rfl ?_); refine goesL_ (some 19) rfl rfl Try.func29 (by kernel_rfl) rfl #[.slice Ao12 y171.length co12] rfl (by (try simp only [List.map_toArray, List.map_cons, List.map_nil]); first | done | rfl | (simp only [List.length_drop, List.length_take]; rfl)) ?_; (with_reducible refine (rowcode_Get.calls k _ _ y171 t174 t175 _ ?side1 ?side2 A6.out).mono ?_); (case side1 => repeat (first | exact (Kd.R_reads' HO173.out).2.2 | (with_reducible refine Kd.C_alloc ?_ _) | (with_reducible refine Kd.C_drewN ?_ _) | (with_reducible refine Kd.C_drew ?_))); (case side2 => exact (Kd.R_reads' HO173.out).2.1); rintro e w13 ⟨v176, rfl, ho0, hb⟩; refine ⟨_, rfl, ?_⟩; have n0_ := Aside0.mk (Kd.R_below (by (with_reducible repeat (first | apply Kd.R_alloc | apply Kd.R_drewN | apply Kd.R_drew)); exact HO173.out) hb); have n1_ := Aside0.mk (Kd.R_lower ho0 (below_size (by repeat (first | (with_reducible first | exact HB.out | apply below_alloc | apply pw_below_drewN | apply below_drew1) | exact HB.out)))); have n2_ := Aside0.mk (below_step (by repeat (first | (with_reducible first | exact HB.out | apply below_alloc | apply pw_below_drewN | apply below_drew1) | exact HB.out)) hb); clear HO173; clear HB; have HO173 := n0_; have HO177 := n1_; have HB := n2_; clear n0_ n1_ n2_; (try clear hb); (try clear hb2); (try clear hk); (try clear hi); (try clear ho0); obtain ⟨wC, hclr, hgC⟩ := Clr.clear_own (P := Try.prog) (t := 49) Try.underlying49 (fun w => by first | (kernel_rfl; done) | rfl | (simp [zeroValue, typeInfo]; done)) HO173.out 0; have nC0 := Aside0.mk (Kd.R_over' HO177.out (Kd.R_typed HO173.out) (by decide) hgC); have nC1 := Aside0.mk (Below.grown HB.out hgC HB.out.size (Kd.R_base HO173.out)); have nC2 := Aside0.mk (Kd.R_nil (Kd.int .u8) 5 wC w.heap.size (fun _ => True)); clear HO173 HO177 HB hgC; have HO173 := nC2; have HO177 := nC0; have HB := nC1; clear nC0 nC1 nC2) | ((with_reducible refine gate_callee (f := 30) rfl ?_); refine goesL_ (some 25) rfl rfl Try.func30 (by kernel_rfl) rfl #[.slice A0 l0.length c0] rfl (by (try simp only [List.map_toArray, List.map_cons, List.map_nil]); first | done | rfl | (simp only [List.length_drop, List.length_take]; rfl)) ?_; (with_reducible refine (rowlockref04_Get.calls k _ _ l0 t178 t179 _ ?side1 ?side2 A7.out).mono ?_); (case side1 => repeat (first | exact (Kd.C_below HR0.out HB.out) | (with_reducible refine Kd.C_alloc ?_ _) | (with_reducible refine Kd.C_drewN ?_ _) | (with_reducible refine Kd.C_drew ?_))); (case side2 => exact HC0.out); rintro e w14 ⟨v180, rfl, ho0, hb⟩; refine ⟨_, rfl, ?_⟩; have n0_ := Aside0.mk (Kd.R_below (by (with_reducible repeat (first | apply Kd.R_alloc | apply Kd.R_drewN | apply Kd.R_drew)); exact HO173.out) hb); have n1_ := Aside0.mk (Kd.R_elder' (by (with_reducible repeat (first | apply Kd.R_alloc | apply Kd.R_drewN | apply Kd.R_drew)); exact HO177.out) (Kd.R_base ho0) hb); have n2_ := Aside0.mk (Kd.R_lower (Kd.R_new' ho0 (Kd.R_lt (by (with_reducible repeat (first | apply Kd.R_alloc | apply Kd.R_drewN | apply Kd.R_drew)); exact HO177.out))) (below_size (by repeat (first | (with_reducible first | exact HB.out | apply below_alloc | apply pw_below_drewN | apply below_drew1) | exact HB.out)))); have n3_ := Aside0.mk (below_step (by repeat (first | (with_reducible first | exact HB.out | apply below_alloc | apply pw_below_drewN | apply below_drew1) | exact HB.out)) hb); clear HO173; clear HO177; clear HB; have HO173 := n0_; have HO177 := n1_; have HO181 := n2_; have HB := n3_; clear n0_ n1_ n2_ n3_; (try clear hb); (try clear hb2); (try clear hk); (try clear hi); (try clear ho0)))
      (try simp only [Act.put, List.setIfInBounds_toArray, List.set_cons_zero, List.set_cons_succ])
      go_cut [40] (fun v40 wc => ∃ (kq : Nat) (x40_7 : Bool), v40 = .bool x40_7 ∧ Aside0 (rowlocklaw04_RowcodeGets.j0 kq l0 t174 t175 x40_7 = some r) ∧ Aside0 (kq ≤ k) ∧ Aside0 (Kd.R k36 36 wc w.heap.size (fun _ => True) v176 t174) ∧ Aside0 (Below w.heap.size w wc))
      case first =>
        have H := HC8.out
        clear HC8
        replace H := Option.bind_eq_some_iff.mp H
        obtain ⟨t182, A150, H⟩ := H
        replace H : (if t182 = true then ((rowlockref04_Same.f k t174 t178).bind fun t183 => (if t183 = true then (rowlocklaw04_RowcodeGets.j0 k l0 t174 t175 (t175 != t179)) else (rowlocklaw04_RowcodeGets.j0 k l0 t174 t175 true))) else (rowlocklaw04_RowcodeGets.j0 k l0 t174 t175 true)) = some r := H
        have A15 := Aside0.mk A150
        clear A150
        by_cases c16 : t182 = true
        · subst c16
          have H1 : ((rowlockref04_Same.f k t174 t178).bind fun t183 => (if t183 = true then (rowlocklaw04_RowcodeGets.j0 k l0 t174 t175 (t175 != t179)) else (rowlocklaw04_RowcodeGets.j0 k l0 t174 t175 true))) = some r := by rw [if_pos rfl] at H; exact H
          clear H
          have H := H1
          clear H1
          replace H := Option.bind_eq_some_iff.mp H
          obtain ⟨t183, A170, H⟩ := H
          replace H : (if t183 = true then (rowlocklaw04_RowcodeGets.j0 k l0 t174 t175 (t175 != t179)) else (rowlocklaw04_RowcodeGets.j0 k l0 t174 t175 true)) = some r := H
          have A17 := Aside0.mk A170
          clear A170
          by_cases c18 : t183 = true
          · subst c18
            have H1 : (rowlocklaw04_RowcodeGets.j0 k l0 t174 t175 (t175 != t179)) = some r := by rw [if_pos rfl] at H; exact H
            clear H
            have H := H1
            clear H1
            have H' := Aside0.mk H
            clear H
            go_wp2_with (first | ((with_reducible refine gate_callee (f := 26) rfl ?_); refine goesL_ (some 28) rfl rfl Try.func26 (by kernel_rfl) rfl #[] rfl (by (try simp only [List.map_toArray, List.map_cons, List.map_nil]); first | done | rfl | (simp only [List.length_drop, List.length_take]; rfl)) ?_; (with_reducible refine (rowlocklaw04_fixed.calls k  true _ A15.out).mono ?_); rintro e w19 ⟨rfl, hb⟩; refine ⟨_, rfl, ?_⟩; have n0_ := Aside0.mk (Kd.R_below (by (with_reducible repeat (first | apply Kd.R_alloc | apply Kd.R_drewN | apply Kd.R_drew)); exact HO173.out) hb); have n1_ := Aside0.mk (Kd.R_below (by (with_reducible repeat (first | apply Kd.R_alloc | apply Kd.R_drewN | apply Kd.R_drew)); exact HO177.out) hb); have n2_ := Aside0.mk (Kd.R_below (by (with_reducible repeat (first | apply Kd.R_alloc | apply Kd.R_drewN | apply Kd.R_drew)); exact HO181.out) hb); have n3_ := Aside0.mk (below_step (by repeat (first | (with_reducible first | exact HB.out | apply below_alloc | apply pw_below_drewN | apply below_drew1) | exact HB.out)) hb); clear HO173; clear HO177; clear HO181; clear HB; have HO173 := n0_; have HO177 := n1_; have HO181 := n2_; have HB := n3_; clear n0_ n1_ n2_ n3_; (try clear hb); (try clear hb2); (try clear hk); (try clear hi); obtain ⟨Ao20, co20, eo20⟩ := Kd.R_slice HO177.out; subst eo20; obtain ⟨Ao21, co21, eo21⟩ := Kd.R_slice HO181.out; subst eo21) | (go_at_call 31; (with_reducible refine (rowlockref04_Same.calls k _ _ t174 _ _ t178 true _ ?side1 ?side2 ?side3 ?side4 A17.out).mono ?_); (case side1 => repeat (first | exact (Kd.R_reads' HO177.out).2.2 | (with_reducible refine Kd.C_alloc ?_ _) | (with_reducible refine Kd.C_drewN ?_ _) | (with_reducible refine Kd.C_drew ?_))); (case side2 => exact (Kd.R_reads' HO177.out).2.1); (case side3 => repeat (first | exact (Kd.R_reads' HO181.out).2.2 | (with_reducible refine Kd.C_alloc ?_ _) | (with_reducible refine Kd.C_drewN ?_ _) | (with_reducible refine Kd.C_drew ?_))); (case side4 => exact (Kd.R_reads' HO181.out).2.1); rintro e w' ⟨rfl, ⟨nd, rfl⟩⟩))
            go_meet
            case rel => exact ⟨_, ((t175 != t179)), (by first | rfl | (simp; done) | (simp [*]; done)), H', ⟨by first | omega | exact Nat.le_refl _⟩, ⟨by (with_reducible repeat (first | apply Kd.R_alloc | apply Kd.R_drewN | apply Kd.R_drew)); exact Kd.R_mono HO177.out (fun _ hk => trivial)⟩, ⟨by repeat (first | (with_reducible first | exact HB.out | apply below_alloc | apply pw_below_drewN | apply below_drew1) | exact HB.out)⟩⟩
          · replace c18 := Bool.eq_false_iff.mpr c18
            subst c18
            have H1 : (rowlocklaw04_RowcodeGets.j0 k l0 t174 t175 true) = some r := by rw [if_neg (show ¬ (false = true) by decide)] at H; exact H
            clear H
            have H := H1
            clear H1
            have H' := Aside0.mk H
            clear H
            go_wp2_with (first | ((with_reducible refine gate_callee (f := 26) rfl ?_); refine goesL_ (some 28) rfl rfl Try.func26 (by kernel_rfl) rfl #[] rfl (by (try simp only [List.map_toArray, List.map_cons, List.map_nil]); first | done | rfl | (simp only [List.length_drop, List.length_take]; rfl)) ?_; (with_reducible refine (rowlocklaw04_fixed.calls k  true _ A15.out).mono ?_); rintro e w22 ⟨rfl, hb⟩; refine ⟨_, rfl, ?_⟩; have n0_ := Aside0.mk (Kd.R_below (by (with_reducible repeat (first | apply Kd.R_alloc | apply Kd.R_drewN | apply Kd.R_drew)); exact HO173.out) hb); have n1_ := Aside0.mk (Kd.R_below (by (with_reducible repeat (first | apply Kd.R_alloc | apply Kd.R_drewN | apply Kd.R_drew)); exact HO177.out) hb); have n2_ := Aside0.mk (Kd.R_below (by (with_reducible repeat (first | apply Kd.R_alloc | apply Kd.R_drewN | apply Kd.R_drew)); exact HO181.out) hb); have n3_ := Aside0.mk (below_step (by repeat (first | (with_reducible first | exact HB.out | apply below_alloc | apply pw_below_drewN | apply below_drew1) | exact HB.out)) hb); clear HO173; clear HO177; clear HO181; clear HB; have HO173 := n0_; have HO177 := n1_; have HO181 := n2_; have HB := n3_; clear n0_ n1_ n2_ n3_; (try clear hb); (try clear hb2); (try clear hk); (try clear hi); obtain ⟨Ao23, co23, eo23⟩ := Kd.R_slice HO177.out; subst eo23; obtain ⟨Ao24, co24, eo24⟩ := Kd.R_slice HO181.out; subst eo24) | (go_at_call 31; (with_reducible refine (rowlockref04_Same.calls k _ _ t174 _ _ t178 false _ ?side1 ?side2 ?side3 ?side4 A17.out).mono ?_); (case side1 => repeat (first | exact (Kd.R_reads' HO177.out).2.2 | (with_reducible refine Kd.C_alloc ?_ _) | (with_reducible refine Kd.C_drewN ?_ _) | (with_reducible refine Kd.C_drew ?_))); (case side2 => exact (Kd.R_reads' HO177.out).2.1); (case side3 => repeat (first | exact (Kd.R_reads' HO181.out).2.2 | (with_reducible refine Kd.C_alloc ?_ _) | (with_reducible refine Kd.C_drewN ?_ _) | (with_reducible refine Kd.C_drew ?_))); (case side4 => exact (Kd.R_reads' HO181.out).2.1); rintro e w' ⟨rfl, ⟨nd, rfl⟩⟩))
            go_meet
            case rel => exact ⟨_, (true), (by first | rfl | (simp; done) | (simp [*]; done)), H', ⟨by first | omega | exact Nat.le_refl _⟩, ⟨by (with_reducible repeat (first | apply Kd.R_alloc | apply Kd.R_drewN | apply Kd.R_drew)); exact Kd.R_mono HO177.out (fun _ hk => trivial)⟩, ⟨by repeat (first | (with_reducible first | exact HB.out | apply below_alloc | apply pw_below_drewN | apply below_drew1) | exact HB.out)⟩⟩
        · replace c16 := Bool.eq_false_iff.mpr c16
          subst c16
          have H1 : (rowlocklaw04_RowcodeGets.j0 k l0 t174 t175 true) = some r := by rw [if_neg (show ¬ (false = true) by decide)] at H; exact H
          clear H
          have H := H1
          clear H1
          have H' := Aside0.mk H
          clear H
          go_wp2_with (first | ((with_reducible refine gate_callee (f := 26) rfl ?_); refine goesL_ (some 28) rfl rfl Try.func26 (by kernel_rfl) rfl #[] rfl (by (try simp only [List.map_toArray, List.map_cons, List.map_nil]); first | done | rfl | (simp only [List.length_drop, List.length_take]; rfl)) ?_; (with_reducible refine (rowlocklaw04_fixed.calls k  false _ A15.out).mono ?_); rintro e w25 ⟨rfl, hb⟩; refine ⟨_, rfl, ?_⟩; have n0_ := Aside0.mk (Kd.R_below (by (with_reducible repeat (first | apply Kd.R_alloc | apply Kd.R_drewN | apply Kd.R_drew)); exact HO173.out) hb); have n1_ := Aside0.mk (Kd.R_below (by (with_reducible repeat (first | apply Kd.R_alloc | apply Kd.R_drewN | apply Kd.R_drew)); exact HO177.out) hb); have n2_ := Aside0.mk (Kd.R_below (by (with_reducible repeat (first | apply Kd.R_alloc | apply Kd.R_drewN | apply Kd.R_drew)); exact HO181.out) hb); have n3_ := Aside0.mk (below_step (by repeat (first | (with_reducible first | exact HB.out | apply below_alloc | apply pw_below_drewN | apply below_drew1) | exact HB.out)) hb); clear HO173; clear HO177; clear HO181; clear HB; have HO173 := n0_; have HO177 := n1_; have HO181 := n2_; have HB := n3_; clear n0_ n1_ n2_ n3_; (try clear hb); (try clear hb2); (try clear hk); (try clear hi)))
          go_meet
          case rel => exact ⟨_, (true), (by first | rfl | (simp; done) | (simp [*]; done)), H', ⟨by first | omega | exact Nat.le_refl _⟩, ⟨by (with_reducible repeat (first | apply Kd.R_alloc | apply Kd.R_drewN | apply Kd.R_drew)); exact Kd.R_mono HO177.out (fun _ hk => trivial)⟩, ⟨by repeat (first | (with_reducible first | exact HB.out | apply below_alloc | apply pw_below_drewN | apply below_drew1) | exact HB.out)⟩⟩
      case rest =>
        clear HC8
        try clear c1
        try clear c2
        try clear c2b0
        try clear c2b1
        try clear p2
        try clear c3
        try clear c5
        try clear c9
        try clear c16
        try clear c18
        obtain ⟨kq, x40_7, rfl, HA, HJ7, HO_4, HB⟩ := hcut
        cases kq with
        | zero => exact absurd HA.out (by simp [rowlocklaw04_RowcodeGets.j0])
        | succ kj7 =>
          have H := HA.out
          clear HA
          simp only [rowlocklaw04_RowcodeGets.j0] at H
          by_cases c26 : x40_7 = true
          · subst c26
            have H1 : (some false) = some r := by rw [if_pos rfl] at H; exact H
            clear H
            have H := H1
            clear H1
            obtain rfl := Option.some.inj H
            go_wp2
            go_ret
            exact ⟨by first | rfl | (simp [errW_none, errW_some] <;> rfl) | (simp [*, errW_none, errW_some] <;> rfl), by repeat (first | (with_reducible first | exact HB.out | apply below_alloc | apply pw_below_drewN | apply below_drew1) | exact HB.out)⟩
          · replace c26 := Bool.eq_false_iff.mpr c26
            subst c26
            have H1 : (if t175 = 0 then ((rowcode_Put.f kj7 t174).bind fun bt184 => (if bt184.2 = 0 then (some ((strOfNums bt184.1).toList == (strOfNums l0).toList)) else (some false))) else (some true)) = some r := by rw [if_neg (show ¬ (false = true) by decide)] at H; exact H
            clear H
            have H := H1
            clear H1
            by_cases c27 : t175 = 0
            · rw [if_pos c27] at H
              have c27b0 : (t175 == 0) = true := beq_iff_eq.mpr c27
              have c27b1 : (t175 != 0) = false := bne_eq_false_iff_eq.mpr c27
              clear c27
              replace H := Option.bind_eq_some_iff.mp H
              obtain ⟨⟨t184, t185⟩, A280, H⟩ := H
              replace H : (if t185 = 0 then (some ((strOfNums t184).toList == (strOfNums l0).toList)) else (some false)) = some r := H
              have A28 := Aside0.mk A280
              clear A280
              by_cases c29 : t185 = 0
              · rw [if_pos c29] at H
                have c29b0 : (t185 == 0) = true := beq_iff_eq.mpr c29
                have c29b1 : (t185 != 0) = false := bne_eq_false_iff_eq.mpr c29
                clear c29
                obtain rfl := Option.some.inj H
                obtain ⟨Ao30, co30, eo30⟩ := Kd.R_slice HO_4.out
                subst eo30
                go_wp2_with (first | ((with_reducible refine gate_callee (f := 32) rfl ?_); refine goesL_ (some 45) rfl rfl Try.func32 (by kernel_rfl) rfl #[.slice Ao30 t174.length co30] rfl (by (try simp only [List.map_toArray, List.map_cons, List.map_nil]); first | done | rfl | (simp only [List.length_drop, List.length_take]; rfl)) ?_; (with_reducible refine (rowcode_Put.calls kj7 _ _ t174 t184 t185 _ ?side1 ?side2 A28.out).mono ?_); (case side1 => repeat (first | exact (Kd.R_reads' HO_4.out).2.2 | (with_reducible refine Kd.C_alloc ?_ _) | (with_reducible refine Kd.C_drewN ?_ _) | (with_reducible refine Kd.C_drew ?_))); (case side2 => exact (Kd.R_reads' HO_4.out).2.1); rintro e w31 ⟨v186, rfl, ho0, hb⟩; refine ⟨_, rfl, ?_⟩; have n0_ := Aside0.mk (Kd.R_below (by (with_reducible repeat (first | apply Kd.R_alloc | apply Kd.R_drewN | apply Kd.R_drew)); exact HO_4.out) hb); have n1_ := Aside0.mk (Kd.R_lower ho0 (below_size (by repeat (first | (with_reducible first | exact HB.out | apply below_alloc | apply pw_below_drewN | apply below_drew1) | exact HB.out)))); have n2_ := Aside0.mk (below_step (by repeat (first | (with_reducible first | exact HB.out | apply below_alloc | apply pw_below_drewN | apply below_drew1) | exact HB.out)) hb); clear HO_4; clear HB; have HO_4 := n0_; have HO187 := n1_; have HB := n2_; clear n0_ n1_ n2_; (try clear hb); (try clear hb2); (try clear hk); (try clear hi); (try clear ho0); have hcv32 := own_string (P := Try.prog) Try.underlying49 Try.underlying5 Try.underlying9 (Kd.own_of_R HO187.out); have hcv33 := Kd.C_string (P := Try.prog) (A := A0) (c := c0) Try.underlying49 Try.underlying5 Try.underlying9 (Kd.C_below HR0.out HB.out)))
                go_ret
                exact ⟨by first | rfl | (simp [errW_none, errW_some] <;> rfl) | (simp [*, errW_none, errW_some] <;> rfl), by repeat (first | (with_reducible first | exact HB.out | apply below_alloc | apply pw_below_drewN | apply below_drew1) | exact HB.out)⟩
              · rw [if_neg c29] at H
                have c29b0 : (t185 == 0) = false := beq_eq_false_iff_ne.mpr c29
                have c29b1 : (t185 != 0) = true := bne_iff_ne.mpr c29
                obtain rfl := Option.some.inj H
                obtain ⟨Ao34, co34, eo34⟩ := Kd.R_slice HO_4.out
                subst eo34
                go_wp2_with (first | ((with_reducible refine gate_callee (f := 32) rfl ?_); refine goesL_ (some 45) rfl rfl Try.func32 (by kernel_rfl) rfl #[.slice Ao34 t174.length co34] rfl (by (try simp only [List.map_toArray, List.map_cons, List.map_nil]); first | done | rfl | (simp only [List.length_drop, List.length_take]; rfl)) ?_; (with_reducible refine (rowcode_Put.calls kj7 _ _ t174 t184 t185 _ ?side1 ?side2 A28.out).mono ?_); (case side1 => repeat (first | exact (Kd.R_reads' HO_4.out).2.2 | (with_reducible refine Kd.C_alloc ?_ _) | (with_reducible refine Kd.C_drewN ?_ _) | (with_reducible refine Kd.C_drew ?_))); (case side2 => exact (Kd.R_reads' HO_4.out).2.1); rintro e w35 ⟨v186, rfl, ho0, hb⟩; refine ⟨_, rfl, ?_⟩; have n0_ := Aside0.mk (Kd.R_below (by (with_reducible repeat (first | apply Kd.R_alloc | apply Kd.R_drewN | apply Kd.R_drew)); exact HO_4.out) hb); have n1_ := Aside0.mk (Kd.R_lower ho0 (below_size (by repeat (first | (with_reducible first | exact HB.out | apply below_alloc | apply pw_below_drewN | apply below_drew1) | exact HB.out)))); have n2_ := Aside0.mk (below_step (by repeat (first | (with_reducible first | exact HB.out | apply below_alloc | apply pw_below_drewN | apply below_drew1) | exact HB.out)) hb); clear HO_4; clear HB; have HO_4 := n0_; have HO187 := n1_; have HB := n2_; clear n0_ n1_ n2_; (try clear hb); (try clear hb2); (try clear hk); (try clear hi); (try clear ho0)))
                go_ret
                exact ⟨by first | rfl | (simp [errW_none, errW_some] <;> rfl) | (simp [*, errW_none, errW_some] <;> rfl), by repeat (first | (with_reducible first | exact HB.out | apply below_alloc | apply pw_below_drewN | apply below_drew1) | exact HB.out)⟩
            · rw [if_neg c27] at H
              have c27b0 : (t175 == 0) = false := beq_eq_false_iff_ne.mpr c27
              have c27b1 : (t175 != 0) = true := bne_iff_ne.mpr c27
              obtain rfl := Option.some.inj H
              go_wp2
              go_ret
              exact ⟨by first | rfl | (simp [errW_none, errW_some] <;> rfl) | (simp [*, errW_none, errW_some] <;> rfl), by repeat (first | (with_reducible first | exact HB.out | apply below_alloc | apply pw_below_drewN | apply below_drew1) | exact HB.out)⟩
    · rw [if_neg c5] at H
      exact absurd H (by simp)

/-- THE ONE PURE STATEMENT of rowlocklaw04_RowcodeGets: yours. -/
def rowlocklaw04_RowcodeGets.Pure : Prop := ∀ (l0 : List Int), l0.length ≤ maxLen → l0.length * 1 ≤ 140737488351232 → (∀ x ∈ l0, (Lit.int .u8 x).wf = true) → ∃ k, rowlocklaw04_RowcodeGets.f k l0 = some true
theorem rowlocklaw04_RowcodeGets.walk (P : rowlocklaw04_RowcodeGets.Pure) (a0 : Option Addr) (len0 cap0 : Nat) (z0 : List Int) (w : World) (w0 : (a0 = none ∧ len0 = 0 ∧ cap0 = 0 ∧ z0 = []) ∨ ∃ x, a0 = some x ∧ len0 ≤ cap0 ∧ cap0 ≤ maxLen ∧ z0.length = cap0 ∧ (∀ i, i < z0.length → w.cell? (x.add i) = some (.int .u8 (z0.getD i 0))) ∧ ∀ n ∈ z0, (Lit.int .u8 n).wf = true) (y0 : len0 * 1 ≤ 140737488351232) :
    Calls Try.prog 9 #[.slice a0 len0 cap0] w fun e w' => e = .returned (.bool true) ∧ Below w.heap.size w w' := by
  obtain ⟨l0, rfl, hr0, hm0, hw0, hc0⟩ := ReadsInt.ofRowC w0
  obtain ⟨k, h⟩ := P l0 hm0 y0 hw0
  refine (rowlocklaw04_RowcodeGets.calls k _ _ l0 true w (Kd.C_of_reads (d := (0 : Int)) (h1 := fun _ => rfl) hr0) hc0 h).mono ?_
  rintro e w' ⟨rfl, hd⟩
  exact ⟨rfl, hd⟩

end Go.Proofs.Ytegegpdaalfbdaa.XRowcodeGets
