-- Written by this session's own program (wip/own_print.py) over the kit's print, with this session's hand-proved contracts in their places; Lean checks it.
import Derived.Test.YtolgcohmmghehaaXSlotsPlaysx0
import Derived.Test.YtolgcohmmghehaaClr
import Derived.Test.YtolgcohmmghehaaXSlotsPlaysx1
import Derived.Test.YtolgcohmmghehaaXSlotsPlaysx3
import Derived.Test.YtolgcohmmghehaaXSlotsPlaysx5
import Derived.Test.YtolgcohmmghehaaXSlotsPlaysx6
namespace Go.Proofs.Ytolgcohmmghehaa.XSlotsPlays
open Go.RowKit Go.Proofs.YtolgcohmmghehaaW.PrintWords Go.Proofs.YtolgcohmmghehaaW.PrintLast Go.Proofs.YtolgcohmmghehaaW.PrintMore
attribute [local go_sem] max2_int min2_int max_two min_two max_three min_three max_four min_four   -- for this text's walks alone
set_option linter.unusedVariables false
set_option linter.unusedSimpArgs false

/-! ### rowlocklaw08_SlotsPlays: function 13 -/
mutual
def rowlocklaw08_SlotsPlays.l0 : Nat → Int → List Int → List (List Int) → Int → Int → Int → List ByteArray → Option (Bool)
 | 0, _, _, _, _, _, _, _ => none
 | k + 1, x1, x7, x26, x27, x28, x254000, x254001 => if x28 < x27 then (if 0 ≤ x28 then (if x28 < (x26.length : Int) then (if ((rd_L2 x26 x28).length : Int) > 600 then ((rowlocklaw08_fixed.f k).bind fun t255 => (some t255)) else ((some (([] : List Int) : List Int)).bind fun y256 => (if y256.length + (rd_L2 x26 x28).length < 140737488355328 then ((slots_Add.f k x7 (y256 ++ (rd_L2 x26 x28))).bind fun bt262 => (if ((rd_L2 x26 x28).length : Int) = 0 then (if bt262.2.2 = 1 then (if (bt262.1.length : Int) = 0 then (if bt262.2.1 = 0 then (rowlocklaw08_SlotsPlays.j2 k x1 x7 x26 x27 x28 x254000 x254001) else (some false)) else (some false)) else (some false)) else ((rowlockref08_Page_Room.f k x254000 x254001).bind fun t267 => (if ((rd_L2 x26 x28).length : Int) > t267 then (if bt262.2.2 = 7 then (if (bt262.1.length : Int) = 0 then (if bt262.2.1 = 0 then (rowlocklaw08_SlotsPlays.j2 k x1 x7 x26 x27 x28 x254000 x254001) else (some false)) else (some false)) else (some false)) else (if bt262.2.2 = 0 then (rowlocklaw08_SlotsPlays.j1 k x1 x7 (rd_L2 x26 x28) (strOfNums x7) bt262.1 x26 x27 x28 (bt262.2.1 != (x254001.length : Int)) x254000 x254001) else (rowlocklaw08_SlotsPlays.j1 k x1 x7 (rd_L2 x26 x28) (strOfNums x7) bt262.1 x26 x27 x28 true x254000 x254001)))))) else (none)))) else (none)) else (none)) else ((slots_Link.f k x7 x1).bind fun bt275 => ((rowlocklaw08_fixed.f k).bind fun t279 => (if t279 = true then (if bt275.2 = 0 then ((rowlockref08_Page_Lay.f k x1 x254001).bind fun t280 => (if (strOfNums bt275.1).toList = t280.toList then ((rowlocklaw08_same.f k bt275.1 x1 x254001).bind fun t281 => (some t281)) else (some false))) else (some false)) else (some false))))
def rowlocklaw08_SlotsPlays.j2 : Nat → Int → List Int → List (List Int) → Int → Int → Int → List ByteArray → Option (Bool)
 | 0, _, _, _, _, _, _, _ => none
 | k + 1, x1, x7, x26, x27, x28, x254000, x254001 => (slots_Count.f k x7).bind fun t272 => (if t272 = (x254001.length : Int) then ((slots_Room.f k x7).bind fun t273 => ((rowlockref08_Page_Room.f k x254000 x254001).bind fun t274 => (if t273 = t274 then (rowlocklaw08_SlotsPlays.l0 k x1 x7 x26 x27 (wrap64 (x28 + 1)) x254000 x254001) else (some false)))) else (some false))
def rowlocklaw08_SlotsPlays.j1 : Nat → Int → List Int → List Int → ByteArray → List Int → List (List Int) → Int → Int → Bool → Int → List ByteArray → Option (Bool)
 | 0, _, _, _, _, _, _, _, _, _, _, _ => none
 | k + 1, x1, x7, x10, x12, x13, x26, x27, x28, x57, x254000, x254001 => if x57 = true then (some false) else (if x254001.length < 8796093022208 then ((some (x254001 ++ [strOfNums x10] : List ByteArray)).bind fun y268 => (if (strOfNums x7).toList = x12.toList then ((rowlockref08_Page_Lay.f k x254000 y268).bind fun t271 => (if (strOfNums x13).toList = t271.toList then (rowlocklaw08_SlotsPlays.j2 k x1 x13 x26 x27 x28 x254000 y268) else (some false))) else (some false))) else (none))
end
def rowlocklaw08_SlotsPlays.f (k : Nat) (a0 : Int) (a1 : Int) (l2 : List (List Int)) : Option (Bool) := if (l2.length : Int) > 200 then ((rowlocklaw08_fixed.f k).bind fun t249 => (some t249)) else ((slots_New.f a0).bind fun t250 => (rowlocklaw08_SlotsPlays.l0 k a1 t250 l2 (l2.length : Int) 0 a0 ([] : List ByteArray)))
theorem rowlocklaw08_SlotsPlays.mono_l : ∀ k, (∀ y0 y1 y2 y3 y4 y5 y6, LeO (rowlocklaw08_SlotsPlays.l0 k y0 y1 y2 y3 y4 y5 y6) (rowlocklaw08_SlotsPlays.l0 (k + 1) y0 y1 y2 y3 y4 y5 y6)) ∧ (∀ y0 y1 y2 y3 y4 y5 y6, LeO (rowlocklaw08_SlotsPlays.j2 k y0 y1 y2 y3 y4 y5 y6) (rowlocklaw08_SlotsPlays.j2 (k + 1) y0 y1 y2 y3 y4 y5 y6)) ∧ (∀ y0 y1 y2 y3 y4 y5 y6 y7 y8 y9 y10, LeO (rowlocklaw08_SlotsPlays.j1 k y0 y1 y2 y3 y4 y5 y6 y7 y8 y9 y10) (rowlocklaw08_SlotsPlays.j1 (k + 1) y0 y1 y2 y3 y4 y5 y6 y7 y8 y9 y10))
 | 0 => ⟨fun _ _ _ _ _ _ _ r h => by simp [rowlocklaw08_SlotsPlays.l0] at h, fun _ _ _ _ _ _ _ r h => by simp [rowlocklaw08_SlotsPlays.j2] at h, fun _ _ _ _ _ _ _ _ _ _ _ r h => by simp [rowlocklaw08_SlotsPlays.j1] at h⟩
 | k + 1 => by
  obtain ⟨ih0, ih1, ih2⟩ := rowlocklaw08_SlotsPlays.mono_l k
  refine ⟨?_, ?_, ?_⟩
  ·intro y0 y1 y2 y3 y4 y5 y6
   unfold rowlocklaw08_SlotsPlays.l0
   repeat' first
   | (with_reducible exact ih0 _ _ _ _ _ _ _)
   | (with_reducible exact ih1 _ _ _ _ _ _ _)
   | (with_reducible exact ih2 _ _ _ _ _ _ _ _ _ _ _)
   | (with_reducible exact rowlocklaw08_fixed.mono _)
   | (with_reducible exact rowlocklaw08_same.mono _ _ _ _)
   | (with_reducible exact rowlockref08_Page_Lay.mono _ _ _)
   | (with_reducible exact rowlockref08_Page_Room.mono _ _ _)
   | (with_reducible exact slots_Add.mono _ _ _)
   | (with_reducible exact slots_Count.mono _ _)
   | (with_reducible exact slots_Link.mono _ _ _)
   | (with_reducible exact slots_Room.mono _ _)
   | (with_reducible exact LeO.refl _)
   | (with_reducible exact LeO.none _)
   | (with_reducible refine LeO.ite ?_ ?_)
   | (with_reducible refine LeO.bind ?_ (fun _ => ?_))
   | exact ih0 _ _ _ _ _ _ _
   | exact ih1 _ _ _ _ _ _ _
   | exact ih2 _ _ _ _ _ _ _ _ _ _ _
   | exact rowlocklaw08_fixed.mono _
   | exact rowlocklaw08_same.mono _ _ _ _
   | exact rowlockref08_Page_Lay.mono _ _ _
   | exact rowlockref08_Page_Room.mono _ _ _
   | exact slots_Add.mono _ _ _
   | exact slots_Count.mono _ _
   | exact slots_Link.mono _ _ _
   | exact slots_Room.mono _ _
   | exact LeO.none _
   | refine LeO.ite ?_ ?_
   | refine LeO.bind ?_ (fun _ => ?_)
  ·intro y0 y1 y2 y3 y4 y5 y6
   unfold rowlocklaw08_SlotsPlays.j2
   repeat' first
   | (with_reducible exact ih0 _ _ _ _ _ _ _)
   | (with_reducible exact ih1 _ _ _ _ _ _ _)
   | (with_reducible exact ih2 _ _ _ _ _ _ _ _ _ _ _)
   | (with_reducible exact rowlocklaw08_fixed.mono _)
   | (with_reducible exact rowlocklaw08_same.mono _ _ _ _)
   | (with_reducible exact rowlockref08_Page_Lay.mono _ _ _)
   | (with_reducible exact rowlockref08_Page_Room.mono _ _ _)
   | (with_reducible exact slots_Add.mono _ _ _)
   | (with_reducible exact slots_Count.mono _ _)
   | (with_reducible exact slots_Link.mono _ _ _)
   | (with_reducible exact slots_Room.mono _ _)
   | (with_reducible exact LeO.refl _)
   | (with_reducible exact LeO.none _)
   | (with_reducible refine LeO.ite ?_ ?_)
   | (with_reducible refine LeO.bind ?_ (fun _ => ?_))
   | exact ih0 _ _ _ _ _ _ _
   | exact ih1 _ _ _ _ _ _ _
   | exact ih2 _ _ _ _ _ _ _ _ _ _ _
   | exact rowlocklaw08_fixed.mono _
   | exact rowlocklaw08_same.mono _ _ _ _
   | exact rowlockref08_Page_Lay.mono _ _ _
   | exact rowlockref08_Page_Room.mono _ _ _
   | exact slots_Add.mono _ _ _
   | exact slots_Count.mono _ _
   | exact slots_Link.mono _ _ _
   | exact slots_Room.mono _ _
   | exact LeO.none _
   | refine LeO.ite ?_ ?_
   | refine LeO.bind ?_ (fun _ => ?_)
  ·intro y0 y1 y2 y3 y4 y5 y6 y7 y8 y9 y10
   unfold rowlocklaw08_SlotsPlays.j1
   repeat' first
   | (with_reducible exact ih0 _ _ _ _ _ _ _)
   | (with_reducible exact ih1 _ _ _ _ _ _ _)
   | (with_reducible exact ih2 _ _ _ _ _ _ _ _ _ _ _)
   | (with_reducible exact rowlocklaw08_fixed.mono _)
   | (with_reducible exact rowlocklaw08_same.mono _ _ _ _)
   | (with_reducible exact rowlockref08_Page_Lay.mono _ _ _)
   | (with_reducible exact rowlockref08_Page_Room.mono _ _ _)
   | (with_reducible exact slots_Add.mono _ _ _)
   | (with_reducible exact slots_Count.mono _ _)
   | (with_reducible exact slots_Link.mono _ _ _)
   | (with_reducible exact slots_Room.mono _ _)
   | (with_reducible exact LeO.refl _)
   | (with_reducible exact LeO.none _)
   | (with_reducible refine LeO.ite ?_ ?_)
   | (with_reducible refine LeO.bind ?_ (fun _ => ?_))
   | exact ih0 _ _ _ _ _ _ _
   | exact ih1 _ _ _ _ _ _ _
   | exact ih2 _ _ _ _ _ _ _ _ _ _ _
   | exact rowlocklaw08_fixed.mono _
   | exact rowlocklaw08_same.mono _ _ _ _
   | exact rowlockref08_Page_Lay.mono _ _ _
   | exact rowlockref08_Page_Room.mono _ _ _
   | exact slots_Add.mono _ _ _
   | exact slots_Count.mono _ _
   | exact slots_Link.mono _ _ _
   | exact slots_Room.mono _ _
   | exact LeO.none _
   | refine LeO.ite ?_ ?_
   | refine LeO.bind ?_ (fun _ => ?_)
theorem rowlocklaw08_SlotsPlays.mono : ∀ a0 a1 a2 k, LeO (rowlocklaw08_SlotsPlays.f k a0 a1 a2) (rowlocklaw08_SlotsPlays.f (k + 1) a0 a1 a2) := by
 intro a0 a1 a2 k
 obtain ⟨ih0, ih1, ih2⟩ := rowlocklaw08_SlotsPlays.mono_l k
 unfold rowlocklaw08_SlotsPlays.f
 repeat' first
   | (with_reducible exact ih0 _ _ _ _ _ _ _)
   | (with_reducible exact ih1 _ _ _ _ _ _ _)
   | (with_reducible exact ih2 _ _ _ _ _ _ _ _ _ _ _)
   | (with_reducible exact rowlocklaw08_fixed.mono _)
   | (with_reducible exact rowlocklaw08_same.mono _ _ _ _)
   | (with_reducible exact rowlockref08_Page_Lay.mono _ _ _)
   | (with_reducible exact rowlockref08_Page_Room.mono _ _ _)
   | (with_reducible exact slots_Add.mono _ _ _)
   | (with_reducible exact slots_Count.mono _ _)
   | (with_reducible exact slots_Link.mono _ _ _)
   | (with_reducible exact slots_Room.mono _ _)
   | (with_reducible exact LeO.refl _)
   | (with_reducible exact LeO.none _)
   | (with_reducible refine LeO.ite ?_ ?_)
   | (with_reducible refine LeO.bind ?_ (fun _ => ?_))
   | exact ih0 _ _ _ _ _ _ _
   | exact ih1 _ _ _ _ _ _ _
   | exact ih2 _ _ _ _ _ _ _ _ _ _ _
   | exact rowlocklaw08_fixed.mono _
   | exact rowlocklaw08_same.mono _ _ _ _
   | exact rowlockref08_Page_Lay.mono _ _ _
   | exact rowlockref08_Page_Room.mono _ _ _
   | exact slots_Add.mono _ _ _
   | exact slots_Count.mono _ _
   | exact slots_Link.mono _ _ _
   | exact slots_Room.mono _ _
   | exact LeO.none _
   | refine LeO.ite ?_ ?_
   | refine LeO.bind ?_ (fun _ => ?_)
def rowlocklaw08_SlotsPlays.T17 : Bool × List (List Nat × List Nat) := (true, [([], []), ([0], [0]), ([], []), ([1, 2], [1, 2]), ([3], [3]), ([4], [4]), ([5, 4], [4, 5]), ([4], [4]), ([7, 4, 4], [4, 7]), ([6, 8, 4], [4, 6, 8]), ([4, 9], [4, 9])])
def rowlocklaw08_SlotsPlays.B17 : List Nat := [0, 1, 0, 7, 15, 31, 63, 31, 159, 511, 1023]
theorem rowlocklaw08_SlotsPlays.tab17 : rtab .any (opsOf Try.f13 17) = rowlocklaw08_SlotsPlays.T17 := by kernel_rfl
theorem rowlocklaw08_SlotsPlays.bits17 : waitsOk rowlocklaw08_SlotsPlays.T17.2 rowlocklaw08_SlotsPlays.B17 = true := by kernel_rfl
def rowlocklaw08_SlotsPlays.T26 : Bool × List (List Nat × List Nat) := (true, [([], []), ([0], [0]), ([], []), ([2], [2]), ([3], [3]), ([1, 4], [1, 4]), ([5, 1], [5]), ([6], [6]), ([7, 6, 6], [6, 7]), ([6], [6]), ([9, 8, 6], [6, 9]), ([8, 10, 6], [6, 8, 10]), ([6, 11], [6, 11])])
def rowlocklaw08_SlotsPlays.B26 : List Nat := [0, 1, 0, 4, 12, 31, 63, 127, 255, 127, 1023, 2047, 4095]
theorem rowlocklaw08_SlotsPlays.tab26 : rtab .any (opsOf Try.f13 26) = rowlocklaw08_SlotsPlays.T26 := by kernel_rfl
theorem rowlocklaw08_SlotsPlays.bits26 : waitsOk rowlocklaw08_SlotsPlays.T26.2 rowlocklaw08_SlotsPlays.B26 = true := by kernel_rfl
def rowlocklaw08_SlotsPlays.T31 : Bool × List (List Nat × List Nat) := (true, [([], []), ([0, 0], [0]), ([1], [1]), ([2, 1], [1, 2]), ([1, 3], [1, 3]), ([4, 1], [4]), ([5], [5]), ([6, 5], [5, 6]), ([5], [5]), ([8, 5, 5], [5, 8]), ([7, 9, 5], [5, 7, 9]), ([5, 10], [5, 10]), ([11, 9], [11]), ([12], [12]), ([12], [12]), ([13, 14, 12, 12], [12, 13, 14]), ([12, 15], [12, 15]), ([16, 15, 0, 1, 2, 3, 4, 5, 6, 7, 8, 9, 10, 11, 12, 13, 14, 15, 16], [16])])
def rowlocklaw08_SlotsPlays.B31 : List Nat := [0, 1, 3, 7, 15, 31, 63, 127, 63, 319, 1023, 2047, 4095, 8191, 8191, 32767, 65535, 131071]
theorem rowlocklaw08_SlotsPlays.tab31 : rtab .any (opsOf Try.f13 31) = rowlocklaw08_SlotsPlays.T31 := by kernel_rfl
theorem rowlocklaw08_SlotsPlays.bits31 : waitsOk rowlocklaw08_SlotsPlays.T31.2 rowlocklaw08_SlotsPlays.B31 = true := by kernel_rfl
set_option maxHeartbeats 8000000 in
set_option maxRecDepth 100000 in
theorem rowlocklaw08_SlotsPlays.calls (k : Nat) (a0 : Int) (a1 : Int) (A2 : Option Addr) (c2 : Nat) (l2 : List (List Int)) (r : Bool) (w : World) (hr2 : Kd.C (Kd.slice 5 (Kd.int .u8)) w A2 l2.length l2) (hc2 : l2.length ≤ c2) (h : rowlocklaw08_SlotsPlays.f k a0 a1 l2 = some r) :
  Calls Try.prog 13 #[.int .u32 a0, .int .u32 a1, .slice A2 l2.length c2] w fun e w' => e = .returned (.bool r) ∧ Below w.heap.size w w' := by
 have hu89 := Try.underlying89
 have HR2 := Aside0.mk hr2
 have HC2 := Aside0.mk hc2
 clear hr2 hc2
 have HB := Aside0.mk (Below.refl w.heap.size w)
 have H : (if (l2.length : Int) > 200 then ((rowlocklaw08_fixed.f k).bind fun t249 => (some t249)) else ((slots_New.f a0).bind fun t250 => (rowlocklaw08_SlotsPlays.l0 k a1 t250 l2 (l2.length : Int) 0 a0 ([] : List ByteArray)))) = some r := h
 clear h
 by_cases c4 : (l2.length : Int) > 200
 ·rw [if_pos c4] at H
  have c4b0 : decide (200 < (l2.length : Int)) = true := decide_eq_true c4
  have c4b1 : decide (200 < l2.length) = true := decide_eq_true (by omega)
  clear c4
  replace H := Option.bind_eq_some_iff.mp H
  obtain ⟨t249, A50, H⟩ := H
  replace H : (some t249) = some r := H
  have A5 := Aside0.mk A50
  clear A50
  obtain rfl := Option.some.inj H
  go_enter Try.func13, Try.ntmps13
  go_wp2_with (first | ((with_reducible refine gate_callee (f := 47) rfl ?_); refine goesL_ (some 21) rfl rfl Try.func47 (by kernel_rfl) rfl #[] rfl (by (try simp only [List.map_toArray, List.map_cons, List.map_nil]); first | done | rfl | (simp only [List.length_drop, List.length_take]; rfl)) ?_; (with_reducible refine (rowlocklaw08_fixed.calls k  t249 _ A5.out).mono ?_); rintro e w6 ⟨rfl, hb⟩; refine ⟨_, rfl, ?_⟩; have n0_ := Aside0.mk (below_step (by repeat (first | (with_reducible first | exact HB.out | apply below_alloc | apply pw_below_drewN | apply below_drew1) | exact HB.out)) hb); clear HB; have HB := n0_; clear n0_; (try clear hb); (try clear hb2); (try clear hk); (try clear hi)))
  go_ret
  exact ⟨by first | rfl | (simp [errW_none, errW_some] <;> rfl) | (simp [*, errW_none, errW_some] <;> rfl), by repeat (first | (with_reducible first | exact HB.out | apply below_alloc | apply pw_below_drewN | apply below_drew1) | exact HB.out)⟩
 ·rw [if_neg c4] at H
  have c4b0 : decide (200 < (l2.length : Int)) = false := decide_eq_false c4
  have c4b1 : decide (200 < l2.length) = false := decide_eq_false (by omega)
  clear c4
  replace H := Option.bind_eq_some_iff.mp H
  obtain ⟨t250, A70, H⟩ := H
  replace H : (rowlocklaw08_SlotsPlays.l0 k a1 t250 l2 (l2.length : Int) 0 a0 ([] : List ByteArray)) = some r := H
  have A7 := Aside0.mk A70
  clear A70
  have H' := Aside0.mk H
  clear H
  go_enter Try.func13, Try.ntmps13
  go_wp2_with (first | ((with_reducible refine gate_callee (f := 48) rfl ?_); refine goesL_ (some 23) rfl rfl Try.func48 (by kernel_rfl) rfl #[.int .u32 a0] rfl (by (try simp only [List.map_toArray, List.map_cons, List.map_nil]); first | done | rfl | (simp only [List.length_drop, List.length_take]; rfl)) ?_; (with_reducible refine (slots_New.calls a0 t250 _ A7.out).mono ?_); rintro e w8 ⟨v251, rfl, ho0, hb⟩; refine ⟨_, rfl, ?_⟩; have n0_ := Aside0.mk (Kd.R_lower ho0 (below_size (by repeat (first | (with_reducible first | exact HB.out | apply below_alloc | apply pw_below_drewN | apply below_drew1) | exact HB.out)))); have n1_ := Aside0.mk (below_step (by repeat (first | (with_reducible first | exact HB.out | apply below_alloc | apply pw_below_drewN | apply below_drew1) | exact HB.out)) hb); clear HB; have HO252 := n0_; have HB := n1_; clear n0_ n1_; (try clear hb); (try clear hb2); (try clear hk); (try clear hi); (try clear ho0)) | ((with_reducible refine gate_dst (N := 8) rfl ?_); (try (refine gate_guard (by rfl) ?_; dsimp only)); refine box_event ?hg (N := 8) ?hd (cs := #[.int .u32 0, .slice none 0 0]) (t := 89) ?hr ?_; (case hd => rfl); (case hg => rfl); (case hr => first | (go_simp; done) | (go_simp; rfl)); intro gb253 hg w9 hbox hb; have n0_ := Aside0.mk (Kd.R_below (by (with_reducible repeat (first | apply Kd.R_alloc | apply Kd.R_drewN | apply Kd.R_drew)); exact HO252.out) hb); have n1_ := Aside0.mk (below_step (by repeat (first | (with_reducible first | exact HB.out | apply below_alloc | apply pw_below_drewN | apply below_drew1) | exact HB.out)) hb); have n2_ := Aside0.mk (hbox); have n3_ := Aside0.mk ((by rw [hg]; exact (below_size (by repeat (first | (with_reducible first | exact HB.out | apply below_alloc | apply pw_below_drewN | apply below_drew1) | exact HB.out))) : w.heap.size ≤ gb253)); have n4_ := Aside0.mk ((by rw [hg]; exact (below_size (by repeat (first | (with_reducible first | exact HB.out | apply below_alloc | apply pw_below_drewN | apply below_drew1) | exact HB.out))) : w.heap.size ≤ gb253)); clear HO252; clear HB; have HO252 := n0_; have HB := n1_; have BK253 := n2_; have GW253 := n3_; have GE253 := n4_; clear n0_ n1_ n2_ n3_ n4_; clear hb hbox hg; have hcz10_0 : w9.cell? ⟨gb253, 0, none⟩ = some (.int .u32 0) := (blk_cell BK253.out 0).trans rfl; have hcz10_1 : w9.cell? ⟨gb253, 1, none⟩ = some (.slice none 0 0) := (blk_cell BK253.out 1).trans rfl; have hfz10_0 := blk_frozen BK253.out 0; have hfz10_1 := blk_frozen BK253.out 1))
  go_loopg [7, 28] k (fun kq v7 v28 w' => ∃ (x7_1 : List Int) (x28_1 : Int) (x254001_1 : List ByteArray) (u254001 : Value), v28 = .int .i64 x28_1 ∧ Aside0 (rowlocklaw08_SlotsPlays.l0 kq a1 x7_1 l2 (l2.length : Int) x28_1 a0 x254001_1 = some r) ∧ Aside0 (kq ≤ k) ∧ Aside0 (Kd.R (Kd.int .u8) 5 w' w.heap.size (fun _ => True) v7 x7_1) ∧ Aside0 (Kd.R Kd.string 9 w' w.heap.size (fun _ => True) u254001 x254001_1) ∧ Aside0 (w'.heap[gb253]? = some (.cells #[.int .u32 a0, u254001] 89 (0, 0))) ∧ Aside0 (Below w.heap.size w w'))
  case atStart => exact ⟨(t250), (0), (([] : List ByteArray)), (.slice none 0 0), (by first | rfl | (simp; done) | (simp [*]; done)), H', ⟨Nat.le_refl _⟩, ⟨by (with_reducible repeat (first | apply Kd.R_alloc | apply Kd.R_drewN | apply Kd.R_drew)); exact Kd.R_mono (Kd.R_far (p := ⟨gb253, 1, none⟩) (Kd.R_far (p := ⟨gb253, 0, none⟩) (Kd.R_types HO252.out BK253.out (by decide)) (fun _ hk => hk.2) (.int .u32 a0)) (fun _ hk => hk.2) (.slice none 0 0)) (fun _ hk => trivial)⟩, ⟨by first | exact Kd.R_nil _ _ _ _ _ | exact Kd.N_nil _ _ _ _ _ | exact Kd.V_nil _ _ _ _ _ | exact Kd.Q_nil _ _ _ _ _ | exact Kd.S_nil _ _ _ _ _⟩, ⟨by (with_reducible repeat (first | refine blk_drewN ?_ _ | refine blk_drew ?_ | refine blk_alloc ?_ _)); refine blk_put (cs := #[.int .u32 a0, .slice none 0 0]) ?_ 1 _ rfl; (with_reducible repeat (first | refine blk_drewN ?_ _ | refine blk_drew ?_ | refine blk_alloc ?_ _)); refine blk_put (cs := #[.int .u32 0, .slice none 0 0]) ?_ 0 _ rfl; (with_reducible repeat (first | refine blk_drewN ?_ _ | refine blk_drew ?_ | refine blk_alloc ?_ _)); exact BK253.out⟩, ⟨by repeat (first | (with_reducible first | exact HB.out | apply below_alloc | apply pw_below_drewN | apply below_drew1 | refine below_set ?_ GE253.out) | exact HB.out)⟩⟩
  case round =>
   clear H'
   try clear c1
   try clear c2
   try clear p2
   try clear c4
   try clear c4b0
   try clear c4b1
   try clear hcz10_0
   try clear hcz10_1
   try clear hfz10_0
   try clear hfz10_1
   obtain ⟨x7_1, x28_1, x254001_1, u254001, rfl, HA, HK1, HO_7, HO_254001, BK253, HB⟩ := hrel
   cases gk with
   | zero => exact absurd HA.out (by simp [rowlocklaw08_SlotsPlays.l0])
   | succ k1 =>
    have H := HA.out
    clear HA
    simp only [rowlocklaw08_SlotsPlays.l0] at H
    by_cases c11 : x28_1 < (l2.length : Int)
    ·rw [if_pos c11] at H
     have c11b0 : decide (x28_1 < (l2.length : Int)) = true := decide_eq_true c11
     clear c11
     by_cases c12 : 0 ≤ x28_1
     ·rw [if_pos c12] at H
      have c12b0 : decide (0 ≤ x28_1) = true := decide_eq_true c12
      clear c12
      by_cases c13 : x28_1 < (l2.length : Int)
      ·rw [if_pos c13] at H
       have c13b0 : decide (x28_1 < (l2.length : Int)) = true := decide_eq_true c13
       clear c13
       by_cases c14 : ((rd_L2 l2 x28_1).length : Int) > 600
       ·rw [if_pos c14] at H
        have c14b0 : decide (600 < ((rd_L2 l2 x28_1).length : Int)) = true := decide_eq_true c14
        have c14b1 : decide (600 < (rd_L2 l2 x28_1).length) = true := decide_eq_true (by omega)
        clear c14
        replace H := Option.bind_eq_some_iff.mp H
        obtain ⟨t255, A150, H⟩ := H
        replace H : (some t255) = some r := H
        have A15 := Aside0.mk A150
        clear A150
        obtain rfl := Option.some.inj H
        have p254 : 0 ≤ (x28_1 : Int) := of_decide_eq_true (by first | (with_reducible assumption) | assumption)
        have q254 : x28_1 < (l2.length : Int) := of_decide_eq_true (by first | (with_reducible assumption) | assumption)
        obtain ⟨ad254, A254_0, c254_0, e254, hx254_0, hl254_0, hi254_0⟩ := at_L2 HR2.out x28_1 p254 q254
        cases e254
        replace hx254_0 := (HB.out.cell (World.block_lt_of_cell? w _ hx254_0)).trans hx254_0
        have HR254_0 := Aside0.mk hi254_0
        have HC254_0 := Aside0.mk hl254_0
        clear hi254_0 hl254_0
        replace p254 := eq_true p254
        have p254D := p254; try simp only [List.length_drop, List.length_take] at p254D
        replace q254 := eq_true q254
        have q254D := q254; try simp only [List.length_drop, List.length_take] at q254D
        go_wp2_with (first | ((with_reducible refine gate_callee (f := 47) rfl ?_); refine goesL_ (some 35) rfl rfl Try.func47 (by kernel_rfl) rfl #[] rfl (by (try simp only [List.map_toArray, List.map_cons, List.map_nil]); first | done | rfl | (simp only [List.length_drop, List.length_take]; rfl)) ?_; (with_reducible refine (rowlocklaw08_fixed.calls k1  t255 _ A15.out).mono ?_); rintro e w16 ⟨rfl, hb⟩; refine ⟨_, rfl, ?_⟩; have n0_ := Aside0.mk (Kd.R_below (by (with_reducible repeat (first | apply Kd.R_alloc | apply Kd.R_drewN | apply Kd.R_drew)); exact HO_7.out) hb); have n1_ := Aside0.mk (Kd.R_below (by (with_reducible repeat (first | apply Kd.R_alloc | apply Kd.R_drewN | apply Kd.R_drew)); exact HO_254001.out) hb); have n2_ := Aside0.mk (blk_below (g := gb253) (o := .cells #[.int .u32 a0, u254001] 89 (0, 0)) (by (with_reducible repeat (first | refine blk_drewN ?_ _ | refine blk_drew ?_ | refine blk_alloc ?_ _)); exact BK253.out) hb); have n3_ := Aside0.mk (below_step (by repeat (first | (with_reducible first | exact HB.out | apply below_alloc | apply pw_below_drewN | apply below_drew1 | refine below_set ?_ GE253.out) | exact HB.out)) hb); clear HO_7; clear HO_254001; clear BK253; clear HB; have HO_7 := n0_; have HO_254001 := n1_; have BK253 := n2_; have HB := n3_; clear n0_ n1_ n2_ n3_; (try clear hb); (try clear hb2); (try clear hk); (try clear hi)))
        go_ret
        exact ⟨by first | rfl | (simp [errW_none, errW_some] <;> rfl) | (simp [*, errW_none, errW_some] <;> rfl), by repeat (first | (with_reducible first | exact HB.out | apply below_alloc | apply pw_below_drewN | apply below_drew1 | refine below_set ?_ GE253.out) | exact HB.out)⟩
       ·rw [if_neg c14] at H
        have c14b0 : decide (600 < ((rd_L2 l2 x28_1).length : Int)) = false := decide_eq_false c14
        have c14b1 : decide (600 < (rd_L2 l2 x28_1).length) = false := decide_eq_false (by omega)
        clear c14
        obtain ⟨y256, hy256⟩ : ∃ y_ : List Int, y_ = (([] : List Int)) := ⟨_, rfl⟩
        replace H : (if y256.length + (rd_L2 l2 x28_1).length < 140737488355328 then ((slots_Add.f k1 x7_1 (y256 ++ (rd_L2 l2 x28_1))).bind fun bt262 => (if ((rd_L2 l2 x28_1).length : Int) = 0 then (if bt262.2.2 = 1 then (if (bt262.1.length : Int) = 0 then (if bt262.2.1 = 0 then (rowlocklaw08_SlotsPlays.j2 k1 a1 x7_1 l2 (l2.length : Int) x28_1 a0 x254001_1) else (some false)) else (some false)) else (some false)) else ((rowlockref08_Page_Room.f k1 a0 x254001_1).bind fun t267 => (if ((rd_L2 l2 x28_1).length : Int) > t267 then (if bt262.2.2 = 7 then (if (bt262.1.length : Int) = 0 then (if bt262.2.1 = 0 then (rowlocklaw08_SlotsPlays.j2 k1 a1 x7_1 l2 (l2.length : Int) x28_1 a0 x254001_1) else (some false)) else (some false)) else (some false)) else (if bt262.2.2 = 0 then (rowlocklaw08_SlotsPlays.j1 k1 a1 x7_1 (rd_L2 l2 x28_1) (strOfNums x7_1) bt262.1 l2 (l2.length : Int) x28_1 (bt262.2.1 != (x254001_1.length : Int)) a0 x254001_1) else (rowlocklaw08_SlotsPlays.j1 k1 a1 x7_1 (rd_L2 l2 x28_1) (strOfNums x7_1) bt262.1 l2 (l2.length : Int) x28_1 true a0 x254001_1)))))) else (none)) = some r := by first | (rw [hy256]; with_reducible exact H) | (have H2_ := (Option.bind_some _ _).symm.trans H; rw [hy256]; with_reducible exact H2_) | (have H2_ := (Option.bind_some _ _).symm.trans H; with_reducible exact H2_) | with_reducible exact H | (rw [hy256]; exact H) | exact H
        have Ny256 := Aside0.mk hy256
        clear hy256
        by_cases c17 : y256.length + (rd_L2 l2 x28_1).length < 140737488355328
        ·rw [if_pos c17] at H
         have LMc17 := Aside0.mk c17
         clear c17
         obtain ⟨y259, hy259⟩ : ∃ y_ : List Int, y_ = (y256 ++ (rd_L2 l2 x28_1)) := ⟨_, rfl⟩
         replace H : ((slots_Add.f k1 x7_1 y259).bind fun bt262 => (if ((rd_L2 l2 x28_1).length : Int) = 0 then (if bt262.2.2 = 1 then (if (bt262.1.length : Int) = 0 then (if bt262.2.1 = 0 then (rowlocklaw08_SlotsPlays.j2 k1 a1 x7_1 l2 (l2.length : Int) x28_1 a0 x254001_1) else (some false)) else (some false)) else (some false)) else ((rowlockref08_Page_Room.f k1 a0 x254001_1).bind fun t267 => (if ((rd_L2 l2 x28_1).length : Int) > t267 then (if bt262.2.2 = 7 then (if (bt262.1.length : Int) = 0 then (if bt262.2.1 = 0 then (rowlocklaw08_SlotsPlays.j2 k1 a1 x7_1 l2 (l2.length : Int) x28_1 a0 x254001_1) else (some false)) else (some false)) else (some false)) else (if bt262.2.2 = 0 then (rowlocklaw08_SlotsPlays.j1 k1 a1 x7_1 (rd_L2 l2 x28_1) (strOfNums x7_1) bt262.1 l2 (l2.length : Int) x28_1 (bt262.2.1 != (x254001_1.length : Int)) a0 x254001_1) else (rowlocklaw08_SlotsPlays.j1 k1 a1 x7_1 (rd_L2 l2 x28_1) (strOfNums x7_1) bt262.1 l2 (l2.length : Int) x28_1 true a0 x254001_1)))))) = some r := by first | (rw [hy259]; with_reducible exact H) | (have H2_ := (Option.bind_some _ _).symm.trans H; rw [hy259]; with_reducible exact H2_) | (have H2_ := (Option.bind_some _ _).symm.trans H; with_reducible exact H2_) | with_reducible exact H | (rw [hy259]; exact H) | exact H
         have Ny259 := Aside0.mk hy259
         clear hy259
         replace H := Option.bind_eq_some_iff.mp H
         obtain ⟨⟨t262, t265, t266⟩, A180, H⟩ := H
         replace H : (if ((rd_L2 l2 x28_1).length : Int) = 0 then (if t266 = 1 then (if (t262.length : Int) = 0 then (if t265 = 0 then (rowlocklaw08_SlotsPlays.j2 k1 a1 x7_1 l2 (l2.length : Int) x28_1 a0 x254001_1) else (some false)) else (some false)) else (some false)) else ((rowlockref08_Page_Room.f k1 a0 x254001_1).bind fun t267 => (if ((rd_L2 l2 x28_1).length : Int) > t267 then (if t266 = 7 then (if (t262.length : Int) = 0 then (if t265 = 0 then (rowlocklaw08_SlotsPlays.j2 k1 a1 x7_1 l2 (l2.length : Int) x28_1 a0 x254001_1) else (some false)) else (some false)) else (some false)) else (if t266 = 0 then (rowlocklaw08_SlotsPlays.j1 k1 a1 x7_1 (rd_L2 l2 x28_1) (strOfNums x7_1) t262 l2 (l2.length : Int) x28_1 (t265 != (x254001_1.length : Int)) a0 x254001_1) else (rowlocklaw08_SlotsPlays.j1 k1 a1 x7_1 (rd_L2 l2 x28_1) (strOfNums x7_1) t262 l2 (l2.length : Int) x28_1 true a0 x254001_1))))) = some r := H
         have A18 := Aside0.mk A180
         clear A180
         have HC19 := Aside0.mk H
         clear H
         have p254 : 0 ≤ (x28_1 : Int) := of_decide_eq_true (by first | (with_reducible assumption) | assumption)
         have q254 : x28_1 < (l2.length : Int) := of_decide_eq_true (by first | (with_reducible assumption) | assumption)
         obtain ⟨ad254, A254_0, c254_0, e254, hx254_0, hl254_0, hi254_0⟩ := at_L2 HR2.out x28_1 p254 q254
         cases e254
         replace hx254_0 := (HB.out.cell (World.block_lt_of_cell? w _ hx254_0)).trans hx254_0
         have HR254_0 := Aside0.mk hi254_0
         have HC254_0 := Aside0.mk hl254_0
         clear hi254_0 hl254_0
         replace p254 := eq_true p254
         have p254D := p254; try simp only [List.length_drop, List.length_take] at p254D
         replace q254 := eq_true q254
         have q254D := q254; try simp only [List.length_drop, List.length_take] at q254D
         go_upto_block 2 with (first | ((with_reducible refine gate_dst (N := 36) rfl ?_); (try (refine gate_guard (by rfl) ?_; dsimp only)); refine Kd.R_lit (Kd.int .u8) _ 5 ?hg (N := 36) ?hd (xs := ([] : List Int)) (inner := []) (ok := fun _ => True) (okp := fun _ => True) ?hr ?hp (fun _ hk => hk) trivial (Below.refl _ _) (Nat.le_refl _) (by simp) ?_; (case hd => rfl); (case hg => rfl); (case hr => first | (go_simp; done) | (go_simp; rfl)); (case hp => exact (Reps.none _ _)); intro v257 w20 ho21 hb hg_ hnew_; clear hg_ hnew_; (first | rw [← Ny256.out] at ho21 | (simp only [Int.reduceToNat] at ho21; rw [← Ny256.out] at ho21)); have n0_ := Aside0.mk (Kd.R_elder' (by (with_reducible repeat (first | apply Kd.R_alloc | apply Kd.R_drewN | apply Kd.R_drew)); exact HO_7.out) (Kd.R_base ho21) hb); have n1_ := Aside0.mk (Kd.R_below (by (with_reducible repeat (first | apply Kd.R_alloc | apply Kd.R_drewN | apply Kd.R_drew)); exact HO_254001.out) hb); have n2_ := Aside0.mk (Kd.R_lower (Kd.R_new' ho21 (Kd.R_lt (by (with_reducible repeat (first | apply Kd.R_alloc | apply Kd.R_drewN | apply Kd.R_drew)); exact HO_7.out))) (below_size (by repeat (first | (with_reducible first | exact HB.out | apply below_alloc | apply pw_below_drewN | apply below_drew1 | refine below_set ?_ GE253.out) | exact HB.out)))); have n3_ := Aside0.mk (blk_below (g := gb253) (o := .cells #[.int .u32 a0, u254001] 89 (0, 0)) (by (with_reducible repeat (first | refine blk_drewN ?_ _ | refine blk_drew ?_ | refine blk_alloc ?_ _)); exact BK253.out) hb); have n4_ := Aside0.mk (below_step (by repeat (first | (with_reducible first | exact HB.out | apply below_alloc | apply pw_below_drewN | apply below_drew1 | refine below_set ?_ GE253.out) | exact HB.out)) hb); clear HO_7; clear HO_254001; clear BK253; clear HB; have HO_7 := n0_; have HO_254001 := n1_; have HO258 := n2_; have BK253 := n3_; have HB := n4_; clear n0_ n1_ n2_ n3_ n4_; clear hb ho21) | ((with_reducible refine gate_builtin (b := .append) (xs := #[.tmp 36, .tmp 37]) rfl ?_); (try (refine gate_guard (by rfl) ?_; dsimp only)); at_builtin; refine Kd.R_append_rows (Kd.int .u8) (w0 := w) w.heap.size rfl (.tmp 36) (.tmp 37) 26 5 (.int .u8 0) 1 rfl Try.underlying26 info5 rfl (by decide) (by omega) v257 y256 (rd_L2 l2 x28_1) _ _ _ (fun k_ => some k_ ≠ (u7 : Value).ownBlock) (fun _ => False) rfl rfl ?aO ?aR (fun _ _ h => h) (fun _ h => h.elim) ?aF ?aB ?aS ?aL ?_; (case aR => repeat (first | exact (Kd.C_below HR254_0.out HB.out) | (with_reducible refine Kd.C_alloc ?_ _) | (with_reducible refine Kd.C_drewN ?_ _) | (with_reducible refine Kd.C_drew ?_))); (case aB => exact (by repeat (first | (with_reducible first | exact HB.out | apply below_alloc | apply pw_below_drewN | apply below_drew1 | refine below_set ?_ GE253.out) | exact HB.out))); (case aF => exact (fun k_ hk => Kd.fresh' (Kd.R_lt (by (with_reducible repeat (first | apply Kd.R_alloc | apply Kd.R_drewN | apply Kd.R_drew)); exact HO_7.out)) k_ hk)); (case aO => exact (by (with_reducible repeat (first | apply Kd.R_alloc | apply Kd.R_drewN | apply Kd.R_drew)); exact Kd.R_mono HO258.out (fun _ hk => hk.2))); (case aS => exact (below_size (by repeat (first | (with_reducible first | exact HB.out | apply below_alloc | apply pw_below_drewN | apply below_drew1 | refine below_set ?_ GE253.out) | exact HB.out)))); (case aL => have := LMc17.out; omega); intro v260 w22 ho hb hg hat; rw [← Ny259.out] at ho; have n0_ := Aside0.mk (Kd.R_after (ok := (fun _ => True)) (by (with_reducible repeat (first | apply Kd.R_alloc | apply Kd.R_drewN | apply Kd.R_drew)); exact HO_7.out) hg hat); have n1_ := Aside0.mk (Kd.R_over' (by (with_reducible repeat (first | apply Kd.R_alloc | apply Kd.R_drewN | apply Kd.R_drew)); exact HO_254001.out) (Kd.R_typed (by (with_reducible repeat (first | apply Kd.R_alloc | apply Kd.R_drewN | apply Kd.R_drew)); exact HO258.out)) (by decide) hg); have n2_ := Aside0.mk (blk_grown (g := gb253) (o := .cells #[.int .u32 a0, u254001] 89 (0, 0)) (by (with_reducible repeat (first | refine blk_drewN ?_ _ | refine blk_drew ?_ | refine blk_alloc ?_ _)); exact BK253.out) hg (Kd.R_ne HO258.out BK253.out (by decide))); have n3_ := Aside0.mk (hb); have n4_ := Aside0.mk (ho); clear HO_7; clear HO_254001; clear BK253; clear HB; clear HO258; have HO_7 := n0_; have HO_254001 := n1_; have BK253 := n2_; have HB := n3_; have HO261 := n4_; clear n0_ n1_ n2_ n3_ n4_; clear ho hb hg hat; have hcv23 := own_string (P := Try.prog) Try.underlying26 Try.underlying5 Try.underlying9 (Kd.own_of_R HO_7.out); obtain ⟨Ao24, co24, eo24⟩ := Kd.R_slice HO_7.out; subst eo24; obtain ⟨Ao25, co25, eo25⟩ := Kd.R_slice HO261.out; subst eo25) | ((with_reducible refine gate_callee (f := 49) rfl ?_); refine goesL_ (some 44) rfl rfl Try.func49 (by kernel_rfl) rfl #[.slice Ao24 x7_1.length co24, .slice Ao25 y259.length co25] rfl (by (try simp only [List.map_toArray, List.map_cons, List.map_nil]); first | done | rfl | (simp only [List.length_drop, List.length_take]; rfl)) ?_; (with_reducible refine (slots_Add.calls k1 _ _ x7_1 (fun k_ => some k_ = (.slice Ao25 y259.length co25 : Value).ownBlock) _ _ y259 t262 t265 t266 _ ?side1 ?side2 ?side3 A18.out).mono ?_); (case side1 => repeat (first | exact (Kd.R_reads' HO_7.out).2.2 | (with_reducible refine Kd.C_alloc ?_ _) | (with_reducible refine Kd.C_drewN ?_ _) | (with_reducible refine Kd.C_drew ?_))); (case side2 => exact (Kd.R_reads' HO_7.out).2.1); (case side3 => exact Kd.R_V (Kd.R_tight rfl (Kd.R_types (Kd.R_apart' (HO261.out) (Kd.R_typed HO_254001.out) (by decide)) BK253.out (by decide)))); rintro e w26q ⟨v263, rfl, ho0, hb⟩; refine ⟨_, rfl, ?_⟩; have n0_ := Aside0.mk (Kd.R_elder' (by (with_reducible repeat (first | apply Kd.R_alloc | apply Kd.R_drewN | apply Kd.R_drew)); exact HO_7.out) (Kd.R_base ho0) hb); have n1_ := Aside0.mk (Kd.R_below (by (with_reducible repeat (first | apply Kd.R_alloc | apply Kd.R_drewN | apply Kd.R_drew)); exact HO_254001.out) hb); have n2_ := Aside0.mk (Kd.R_elder' (by (with_reducible repeat (first | apply Kd.R_alloc | apply Kd.R_drewN | apply Kd.R_drew)); exact HO261.out) (Kd.R_base ho0) hb); have n3_ := Aside0.mk (Kd.R_lower (Kd.R_new' (Kd.R_new' (Kd.R_mono (ok' := fun k_ => True) ho0 (fun _ hk_ => trivial)) (Kd.R_lt (by (with_reducible repeat (first | apply Kd.R_alloc | apply Kd.R_drewN | apply Kd.R_drew)); exact HO_7.out))) (Kd.R_lt (by (with_reducible repeat (first | apply Kd.R_alloc | apply Kd.R_drewN | apply Kd.R_drew)); exact HO261.out))) (below_size (by repeat (first | (with_reducible first | exact HB.out | apply below_alloc | apply pw_below_drewN | apply below_drew1 | refine below_set ?_ GE253.out) | exact HB.out)))); have n4_ := Aside0.mk (blk_below (g := gb253) (o := .cells #[.int .u32 a0, u254001] 89 (0, 0)) (by (with_reducible repeat (first | refine blk_drewN ?_ _ | refine blk_drew ?_ | refine blk_alloc ?_ _)); exact BK253.out) hb); have n5_ := Aside0.mk (below_step (by repeat (first | (with_reducible first | exact HB.out | apply below_alloc | apply pw_below_drewN | apply below_drew1 | refine below_set ?_ GE253.out) | exact HB.out)) hb); clear HO_7; clear HO_254001; clear HO261; clear BK253; clear HB; have HO_7 := n0_; have HO_254001 := n1_; have HO261 := n2_; have HO264 := n3_; have BK253 := n4_; have HB := n5_; clear n0_ n1_ n2_ n3_ n4_ n5_; (try clear hb); (try clear hb2); (try clear hk); (try clear hi); (try clear ho0); obtain ⟨w26, hclr, hgC⟩ := Clr.clear_own (P := Try.prog) (t := 26) Try.underlying26 (fun w => by first | (kernel_rfl; done) | rfl | (simp [zeroValue, typeInfo]; done)) HO261.out 0; have nC0 := Aside0.mk (Kd.R_grown HO_7.out hgC (fun k hk => hk.1.2)); have nC1 := Aside0.mk (Kd.R_over' HO_254001.out (Kd.R_typed HO261.out) (by decide) hgC); have nC2 := Aside0.mk (Kd.R_grown HO264.out hgC (fun k hk => hk.2)); have nC3 := Aside0.mk (blk_grown (g := gb253) (o := .cells #[.int .u32 a0, u254001] 89 (0, 0)) BK253.out hgC (Kd.R_ne HO261.out BK253.out (by decide))); have nC4 := Aside0.mk (Below.grown HB.out hgC HB.out.size (Kd.R_base HO261.out)); have nC5 := Aside0.mk (Kd.R_nil (Kd.int .u8) 5 w26 w.heap.size (fun _ => True)); clear HO_7 HO_254001 HO264 BK253 HB HO261 hgC; have HO_7 := nC0; have HO_254001 := nC1; have HO264 := nC2; have BK253 := nC3; have HB := nC4; have HO261 := nC5; clear nC0 nC1 nC2 nC3 nC4 nC5))
         (try simp only [Act.put, List.setIfInBounds_toArray, List.set_cons_zero, List.set_cons_succ])
         go_cut [7] (fun v7 wc => ∃ (kq : Nat) (x7_18 : List Int) (x254001_18 : List ByteArray) (u254001 : Value), Aside0 (rowlocklaw08_SlotsPlays.j2 kq a1 x7_18 l2 (l2.length : Int) x28_1 a0 x254001_18 = some r) ∧ Aside0 (kq ≤ k1) ∧ Aside0 (Kd.R (Kd.int .u8) 5 wc w.heap.size (fun _ => True) v7 x7_18) ∧ Aside0 (Kd.R Kd.string 9 wc w.heap.size (fun _ => True) u254001 x254001_18) ∧ Aside0 (wc.heap[gb253]? = some (.cells #[.int .u32 a0, u254001] 89 (0, 0))) ∧ Aside0 (Below w.heap.size w wc))
         case first =>
          have H := HC19.out
          clear HC19
          by_cases c27 : ((rd_L2 l2 x28_1).length : Int) = 0
          ·rw [if_pos c27] at H
           have c27b0 : (((rd_L2 l2 x28_1).length : Int) == 0) = true := beq_iff_eq.mpr c27
           have c27b1 : (((rd_L2 l2 x28_1).length : Int) != 0) = false := bne_eq_false_iff_eq.mpr c27
           clear c27
           (first | rw [c27b0] | (simp only [i64_w, i32_w]; rw [c27b0]) | skip)
           by_cases c28 : t266 = 1
           ·rw [if_pos c28] at H
            have c28b0 : (t266 == 1) = true := beq_iff_eq.mpr c28
            have c28b1 : (t266 != 1) = false := bne_eq_false_iff_eq.mpr c28
            clear c28
            by_cases c29 : (t262.length : Int) = 0
            ·rw [if_pos c29] at H
             have c29b0 : ((t262.length : Int) == 0) = true := beq_iff_eq.mpr c29
             have c29b1 : ((t262.length : Int) != 0) = false := bne_eq_false_iff_eq.mpr c29
             clear c29
             by_cases c30 : t265 = 0
             ·rw [if_pos c30] at H
              have c30b0 : (t265 == 0) = true := beq_iff_eq.mpr c30
              have c30b1 : (t265 != 0) = false := bne_eq_false_iff_eq.mpr c30
              clear c30
              have H' := Aside0.mk H
              clear H
              obtain ⟨Ao31, co31, eo31⟩ := Kd.R_slice HO264.out
              subst eo31
              go_wp2
              go_meet
              case rel => exact ⟨_, (x7_1), (x254001_1), (u254001), H', ⟨by have := HK1.out; first | omega | exact Nat.le_refl _⟩, ⟨by (with_reducible repeat (first | apply Kd.R_alloc | apply Kd.R_drewN | apply Kd.R_drew)); exact Kd.R_mono HO_7.out (fun _ hk => trivial)⟩, ⟨by (with_reducible repeat (first | apply Kd.R_alloc | apply Kd.R_drewN | apply Kd.R_drew)); exact HO_254001.out⟩, ⟨by (with_reducible repeat (first | refine blk_drewN ?_ _ | refine blk_drew ?_ | refine blk_alloc ?_ _)); exact BK253.out⟩, ⟨by repeat (first | (with_reducible first | exact HB.out | apply below_alloc | apply pw_below_drewN | apply below_drew1 | refine below_set ?_ GE253.out) | exact HB.out)⟩⟩
             ·rw [if_neg c30] at H
              have c30b0 : (t265 == 0) = false := beq_eq_false_iff_ne.mpr c30
              have c30b1 : (t265 != 0) = true := bne_iff_ne.mpr c30
              obtain rfl := Option.some.inj H
              obtain ⟨Ao32, co32, eo32⟩ := Kd.R_slice HO264.out
              subst eo32
              go_wp2
              go_ret
              exact ⟨by first | rfl | (simp [errW_none, errW_some] <;> rfl) | (simp [*, errW_none, errW_some] <;> rfl), by repeat (first | (with_reducible first | exact HB.out | apply below_alloc | apply pw_below_drewN | apply below_drew1 | refine below_set ?_ GE253.out) | exact HB.out)⟩
            ·rw [if_neg c29] at H
             have c29b0 : ((t262.length : Int) == 0) = false := beq_eq_false_iff_ne.mpr c29
             have c29b1 : ((t262.length : Int) != 0) = true := bne_iff_ne.mpr c29
             have c29b2 : ¬ (t262 = []) := fun h_ => c29 (by rw [h_]; rfl)
             obtain rfl := Option.some.inj H
             obtain ⟨Ao33, co33, eo33⟩ := Kd.R_slice HO264.out
             subst eo33
             go_wp2
             go_ret
             exact ⟨by first | rfl | (simp [errW_none, errW_some] <;> rfl) | (simp [*, errW_none, errW_some] <;> rfl), by repeat (first | (with_reducible first | exact HB.out | apply below_alloc | apply pw_below_drewN | apply below_drew1 | refine below_set ?_ GE253.out) | exact HB.out)⟩
           ·rw [if_neg c28] at H
            have c28b0 : (t266 == 1) = false := beq_eq_false_iff_ne.mpr c28
            have c28b1 : (t266 != 1) = true := bne_iff_ne.mpr c28
            obtain rfl := Option.some.inj H
            go_wp2
            go_ret
            exact ⟨by first | rfl | (simp [errW_none, errW_some] <;> rfl) | (simp [*, errW_none, errW_some] <;> rfl), by repeat (first | (with_reducible first | exact HB.out | apply below_alloc | apply pw_below_drewN | apply below_drew1 | refine below_set ?_ GE253.out) | exact HB.out)⟩
          ·rw [if_neg c27] at H
           have c27b0 : (((rd_L2 l2 x28_1).length : Int) == 0) = false := beq_eq_false_iff_ne.mpr c27
           have c27b1 : (((rd_L2 l2 x28_1).length : Int) != 0) = true := bne_iff_ne.mpr c27
           have c27b2 : ¬ ((rd_L2 l2 x28_1) = []) := fun h_ => c27 (by rw [h_]; rfl)
           (first | rw [c27b0] | (simp only [i64_w, i32_w]; rw [c27b0]) | skip)
           replace H := Option.bind_eq_some_iff.mp H
           obtain ⟨t267, A340, H⟩ := H
           replace H : (if ((rd_L2 l2 x28_1).length : Int) > t267 then (if t266 = 7 then (if (t262.length : Int) = 0 then (if t265 = 0 then (rowlocklaw08_SlotsPlays.j2 k1 a1 x7_1 l2 (l2.length : Int) x28_1 a0 x254001_1) else (some false)) else (some false)) else (some false)) else (if t266 = 0 then (rowlocklaw08_SlotsPlays.j1 k1 a1 x7_1 (rd_L2 l2 x28_1) (strOfNums x7_1) t262 l2 (l2.length : Int) x28_1 (t265 != (x254001_1.length : Int)) a0 x254001_1) else (rowlocklaw08_SlotsPlays.j1 k1 a1 x7_1 (rd_L2 l2 x28_1) (strOfNums x7_1) t262 l2 (l2.length : Int) x28_1 true a0 x254001_1))) = some r := H
           have A34 := Aside0.mk A340
           clear A340
           by_cases c35 : ((rd_L2 l2 x28_1).length : Int) > t267
           ·rw [if_pos c35] at H
            have c35b0 : decide (t267 < ((rd_L2 l2 x28_1).length : Int)) = true := decide_eq_true c35
            clear c35
            by_cases c36 : t266 = 7
            ·rw [if_pos c36] at H
             have c36b0 : (t266 == 7) = true := beq_iff_eq.mpr c36
             have c36b1 : (t266 != 7) = false := bne_eq_false_iff_eq.mpr c36
             clear c36
             by_cases c37 : (t262.length : Int) = 0
             ·rw [if_pos c37] at H
              have c37b0 : ((t262.length : Int) == 0) = true := beq_iff_eq.mpr c37
              have c37b1 : ((t262.length : Int) != 0) = false := bne_eq_false_iff_eq.mpr c37
              clear c37
              by_cases c38 : t265 = 0
              ·rw [if_pos c38] at H
               have c38b0 : (t265 == 0) = true := beq_iff_eq.mpr c38
               have c38b1 : (t265 != 0) = false := bne_eq_false_iff_eq.mpr c38
               clear c38
               have H' := Aside0.mk H
               clear H
               have hcz39_0 : w26.cell? ⟨gb253, 0, none⟩ = some (.int .u32 a0) := (blk_cell BK253.out 0).trans rfl
               have hcz39_1 : w26.cell? ⟨gb253, 1, none⟩ = some (u254001) := (blk_cell BK253.out 1).trans rfl
               have hfz39_0 := blk_frozen BK253.out 0
               have hfz39_1 := blk_frozen BK253.out 1
               obtain ⟨Ao40, co40, eo40⟩ := Kd.R_slice HO_254001.out
               subst eo40
               go_wp2_with (first | ((with_reducible refine gate_callee (f := 50) rfl ?_); refine goesL_ (some 96) rfl rfl Try.func50 (by kernel_rfl) rfl #[.agg #[.int .u32 a0, .slice Ao40 x254001_1.length co40]] rfl (by (try simp only [List.map_toArray, List.map_cons, List.map_nil]); first | done | rfl | (simp only [List.length_drop, List.length_take]; rfl)) ?_; (with_reducible refine (rowlockref08_Page_Room.calls k1 a0 _ _ x254001_1 t267 _ ?side1 ?side2 A34.out).mono ?_); (case side1 => repeat (first | exact (Kd.R_reads' HO_254001.out).2.2 | (with_reducible refine Kd.C_alloc ?_ _) | (with_reducible refine Kd.C_drewN ?_ _) | (with_reducible refine Kd.C_drew ?_))); (case side2 => exact (Kd.R_reads' HO_254001.out).2.1); rintro e w41 ⟨rfl, hb⟩; refine ⟨_, rfl, ?_⟩; have n0_ := Aside0.mk (Kd.R_below (by (with_reducible repeat (first | apply Kd.R_alloc | apply Kd.R_drewN | apply Kd.R_drew)); exact HO_7.out) hb); have n1_ := Aside0.mk (Kd.R_below (by (with_reducible repeat (first | apply Kd.R_alloc | apply Kd.R_drewN | apply Kd.R_drew)); exact HO_254001.out) hb); have n2_ := Aside0.mk (Kd.R_below (by (with_reducible repeat (first | apply Kd.R_alloc | apply Kd.R_drewN | apply Kd.R_drew)); exact HO261.out) hb); have n3_ := Aside0.mk (Kd.R_below (by (with_reducible repeat (first | apply Kd.R_alloc | apply Kd.R_drewN | apply Kd.R_drew)); exact HO264.out) hb); have n4_ := Aside0.mk (blk_below (g := gb253) (o := .cells #[.int .u32 a0, .slice Ao40 x254001_1.length co40] 89 (0, 0)) (by (with_reducible repeat (first | refine blk_drewN ?_ _ | refine blk_drew ?_ | refine blk_alloc ?_ _)); exact BK253.out) hb); have n5_ := Aside0.mk (below_step (by repeat (first | (with_reducible first | exact HB.out | apply below_alloc | apply pw_below_drewN | apply below_drew1 | refine below_set ?_ GE253.out) | exact HB.out)) hb); clear HO_7; clear HO_254001; clear HO261; clear HO264; clear BK253; clear HB; have HO_7 := n0_; have HO_254001 := n1_; have HO261 := n2_; have HO264 := n3_; have BK253 := n4_; have HB := n5_; clear n0_ n1_ n2_ n3_ n4_ n5_; (try clear hb); (try clear hb2); (try clear hk); (try clear hi); obtain ⟨Ao42, co42, eo42⟩ := Kd.R_slice HO264.out; subst eo42))
               go_meet
               case rel => exact ⟨_, (x7_1), (x254001_1), (.slice Ao40 x254001_1.length co40), H', ⟨by have := HK1.out; first | omega | exact Nat.le_refl _⟩, ⟨by (with_reducible repeat (first | apply Kd.R_alloc | apply Kd.R_drewN | apply Kd.R_drew)); exact Kd.R_mono HO_7.out (fun _ hk => trivial)⟩, ⟨by (with_reducible repeat (first | apply Kd.R_alloc | apply Kd.R_drewN | apply Kd.R_drew)); exact HO_254001.out⟩, ⟨by (with_reducible repeat (first | refine blk_drewN ?_ _ | refine blk_drew ?_ | refine blk_alloc ?_ _)); exact BK253.out⟩, ⟨by repeat (first | (with_reducible first | exact HB.out | apply below_alloc | apply pw_below_drewN | apply below_drew1 | refine below_set ?_ GE253.out) | exact HB.out)⟩⟩
              ·rw [if_neg c38] at H
               have c38b0 : (t265 == 0) = false := beq_eq_false_iff_ne.mpr c38
               have c38b1 : (t265 != 0) = true := bne_iff_ne.mpr c38
               obtain rfl := Option.some.inj H
               have hcz43_0 : w26.cell? ⟨gb253, 0, none⟩ = some (.int .u32 a0) := (blk_cell BK253.out 0).trans rfl
               have hcz43_1 : w26.cell? ⟨gb253, 1, none⟩ = some (u254001) := (blk_cell BK253.out 1).trans rfl
               have hfz43_0 := blk_frozen BK253.out 0
               have hfz43_1 := blk_frozen BK253.out 1
               obtain ⟨Ao44, co44, eo44⟩ := Kd.R_slice HO_254001.out
               subst eo44
               go_wp2_with (first | ((with_reducible refine gate_callee (f := 50) rfl ?_); refine goesL_ (some 96) rfl rfl Try.func50 (by kernel_rfl) rfl #[.agg #[.int .u32 a0, .slice Ao44 x254001_1.length co44]] rfl (by (try simp only [List.map_toArray, List.map_cons, List.map_nil]); first | done | rfl | (simp only [List.length_drop, List.length_take]; rfl)) ?_; (with_reducible refine (rowlockref08_Page_Room.calls k1 a0 _ _ x254001_1 t267 _ ?side1 ?side2 A34.out).mono ?_); (case side1 => repeat (first | exact (Kd.R_reads' HO_254001.out).2.2 | (with_reducible refine Kd.C_alloc ?_ _) | (with_reducible refine Kd.C_drewN ?_ _) | (with_reducible refine Kd.C_drew ?_))); (case side2 => exact (Kd.R_reads' HO_254001.out).2.1); rintro e w45 ⟨rfl, hb⟩; refine ⟨_, rfl, ?_⟩; have n0_ := Aside0.mk (Kd.R_below (by (with_reducible repeat (first | apply Kd.R_alloc | apply Kd.R_drewN | apply Kd.R_drew)); exact HO_7.out) hb); have n1_ := Aside0.mk (Kd.R_below (by (with_reducible repeat (first | apply Kd.R_alloc | apply Kd.R_drewN | apply Kd.R_drew)); exact HO_254001.out) hb); have n2_ := Aside0.mk (Kd.R_below (by (with_reducible repeat (first | apply Kd.R_alloc | apply Kd.R_drewN | apply Kd.R_drew)); exact HO261.out) hb); have n3_ := Aside0.mk (Kd.R_below (by (with_reducible repeat (first | apply Kd.R_alloc | apply Kd.R_drewN | apply Kd.R_drew)); exact HO264.out) hb); have n4_ := Aside0.mk (blk_below (g := gb253) (o := .cells #[.int .u32 a0, .slice Ao44 x254001_1.length co44] 89 (0, 0)) (by (with_reducible repeat (first | refine blk_drewN ?_ _ | refine blk_drew ?_ | refine blk_alloc ?_ _)); exact BK253.out) hb); have n5_ := Aside0.mk (below_step (by repeat (first | (with_reducible first | exact HB.out | apply below_alloc | apply pw_below_drewN | apply below_drew1 | refine below_set ?_ GE253.out) | exact HB.out)) hb); clear HO_7; clear HO_254001; clear HO261; clear HO264; clear BK253; clear HB; have HO_7 := n0_; have HO_254001 := n1_; have HO261 := n2_; have HO264 := n3_; have BK253 := n4_; have HB := n5_; clear n0_ n1_ n2_ n3_ n4_ n5_; (try clear hb); (try clear hb2); (try clear hk); (try clear hi); obtain ⟨Ao46, co46, eo46⟩ := Kd.R_slice HO264.out; subst eo46))
               go_ret
               exact ⟨by first | rfl | (simp [errW_none, errW_some] <;> rfl) | (simp [*, errW_none, errW_some] <;> rfl), by repeat (first | (with_reducible first | exact HB.out | apply below_alloc | apply pw_below_drewN | apply below_drew1 | refine below_set ?_ GE253.out) | exact HB.out)⟩
             ·rw [if_neg c37] at H
              have c37b0 : ((t262.length : Int) == 0) = false := beq_eq_false_iff_ne.mpr c37
              have c37b1 : ((t262.length : Int) != 0) = true := bne_iff_ne.mpr c37
              have c37b2 : ¬ (t262 = []) := fun h_ => c37 (by rw [h_]; rfl)
              obtain rfl := Option.some.inj H
              have hcz47_0 : w26.cell? ⟨gb253, 0, none⟩ = some (.int .u32 a0) := (blk_cell BK253.out 0).trans rfl
              have hcz47_1 : w26.cell? ⟨gb253, 1, none⟩ = some (u254001) := (blk_cell BK253.out 1).trans rfl
              have hfz47_0 := blk_frozen BK253.out 0
              have hfz47_1 := blk_frozen BK253.out 1
              obtain ⟨Ao48, co48, eo48⟩ := Kd.R_slice HO_254001.out
              subst eo48
              go_wp2_with (first | ((with_reducible refine gate_callee (f := 50) rfl ?_); refine goesL_ (some 96) rfl rfl Try.func50 (by kernel_rfl) rfl #[.agg #[.int .u32 a0, .slice Ao48 x254001_1.length co48]] rfl (by (try simp only [List.map_toArray, List.map_cons, List.map_nil]); first | done | rfl | (simp only [List.length_drop, List.length_take]; rfl)) ?_; (with_reducible refine (rowlockref08_Page_Room.calls k1 a0 _ _ x254001_1 t267 _ ?side1 ?side2 A34.out).mono ?_); (case side1 => repeat (first | exact (Kd.R_reads' HO_254001.out).2.2 | (with_reducible refine Kd.C_alloc ?_ _) | (with_reducible refine Kd.C_drewN ?_ _) | (with_reducible refine Kd.C_drew ?_))); (case side2 => exact (Kd.R_reads' HO_254001.out).2.1); rintro e w49 ⟨rfl, hb⟩; refine ⟨_, rfl, ?_⟩; have n0_ := Aside0.mk (Kd.R_below (by (with_reducible repeat (first | apply Kd.R_alloc | apply Kd.R_drewN | apply Kd.R_drew)); exact HO_7.out) hb); have n1_ := Aside0.mk (Kd.R_below (by (with_reducible repeat (first | apply Kd.R_alloc | apply Kd.R_drewN | apply Kd.R_drew)); exact HO_254001.out) hb); have n2_ := Aside0.mk (Kd.R_below (by (with_reducible repeat (first | apply Kd.R_alloc | apply Kd.R_drewN | apply Kd.R_drew)); exact HO261.out) hb); have n3_ := Aside0.mk (Kd.R_below (by (with_reducible repeat (first | apply Kd.R_alloc | apply Kd.R_drewN | apply Kd.R_drew)); exact HO264.out) hb); have n4_ := Aside0.mk (blk_below (g := gb253) (o := .cells #[.int .u32 a0, .slice Ao48 x254001_1.length co48] 89 (0, 0)) (by (with_reducible repeat (first | refine blk_drewN ?_ _ | refine blk_drew ?_ | refine blk_alloc ?_ _)); exact BK253.out) hb); have n5_ := Aside0.mk (below_step (by repeat (first | (with_reducible first | exact HB.out | apply below_alloc | apply pw_below_drewN | apply below_drew1 | refine below_set ?_ GE253.out) | exact HB.out)) hb); clear HO_7; clear HO_254001; clear HO261; clear HO264; clear BK253; clear HB; have HO_7 := n0_; have HO_254001 := n1_; have HO261 := n2_; have HO264 := n3_; have BK253 := n4_; have HB := n5_; clear n0_ n1_ n2_ n3_ n4_ n5_; (try clear hb); (try clear hb2); (try clear hk); (try clear hi); obtain ⟨Ao50, co50, eo50⟩ := Kd.R_slice HO264.out; subst eo50))
              go_ret
              exact ⟨by first | rfl | (simp [errW_none, errW_some] <;> rfl) | (simp [*, errW_none, errW_some] <;> rfl), by repeat (first | (with_reducible first | exact HB.out | apply below_alloc | apply pw_below_drewN | apply below_drew1 | refine below_set ?_ GE253.out) | exact HB.out)⟩
            ·rw [if_neg c36] at H
             have c36b0 : (t266 == 7) = false := beq_eq_false_iff_ne.mpr c36
             have c36b1 : (t266 != 7) = true := bne_iff_ne.mpr c36
             obtain rfl := Option.some.inj H
             have hcz51_0 : w26.cell? ⟨gb253, 0, none⟩ = some (.int .u32 a0) := (blk_cell BK253.out 0).trans rfl
             have hcz51_1 : w26.cell? ⟨gb253, 1, none⟩ = some (u254001) := (blk_cell BK253.out 1).trans rfl
             have hfz51_0 := blk_frozen BK253.out 0
             have hfz51_1 := blk_frozen BK253.out 1
             obtain ⟨Ao52, co52, eo52⟩ := Kd.R_slice HO_254001.out
             subst eo52
             go_wp2_with (first | ((with_reducible refine gate_callee (f := 50) rfl ?_); refine goesL_ (some 96) rfl rfl Try.func50 (by kernel_rfl) rfl #[.agg #[.int .u32 a0, .slice Ao52 x254001_1.length co52]] rfl (by (try simp only [List.map_toArray, List.map_cons, List.map_nil]); first | done | rfl | (simp only [List.length_drop, List.length_take]; rfl)) ?_; (with_reducible refine (rowlockref08_Page_Room.calls k1 a0 _ _ x254001_1 t267 _ ?side1 ?side2 A34.out).mono ?_); (case side1 => repeat (first | exact (Kd.R_reads' HO_254001.out).2.2 | (with_reducible refine Kd.C_alloc ?_ _) | (with_reducible refine Kd.C_drewN ?_ _) | (with_reducible refine Kd.C_drew ?_))); (case side2 => exact (Kd.R_reads' HO_254001.out).2.1); rintro e w53 ⟨rfl, hb⟩; refine ⟨_, rfl, ?_⟩; have n0_ := Aside0.mk (Kd.R_below (by (with_reducible repeat (first | apply Kd.R_alloc | apply Kd.R_drewN | apply Kd.R_drew)); exact HO_7.out) hb); have n1_ := Aside0.mk (Kd.R_below (by (with_reducible repeat (first | apply Kd.R_alloc | apply Kd.R_drewN | apply Kd.R_drew)); exact HO_254001.out) hb); have n2_ := Aside0.mk (Kd.R_below (by (with_reducible repeat (first | apply Kd.R_alloc | apply Kd.R_drewN | apply Kd.R_drew)); exact HO261.out) hb); have n3_ := Aside0.mk (Kd.R_below (by (with_reducible repeat (first | apply Kd.R_alloc | apply Kd.R_drewN | apply Kd.R_drew)); exact HO264.out) hb); have n4_ := Aside0.mk (blk_below (g := gb253) (o := .cells #[.int .u32 a0, .slice Ao52 x254001_1.length co52] 89 (0, 0)) (by (with_reducible repeat (first | refine blk_drewN ?_ _ | refine blk_drew ?_ | refine blk_alloc ?_ _)); exact BK253.out) hb); have n5_ := Aside0.mk (below_step (by repeat (first | (with_reducible first | exact HB.out | apply below_alloc | apply pw_below_drewN | apply below_drew1 | refine below_set ?_ GE253.out) | exact HB.out)) hb); clear HO_7; clear HO_254001; clear HO261; clear HO264; clear BK253; clear HB; have HO_7 := n0_; have HO_254001 := n1_; have HO261 := n2_; have HO264 := n3_; have BK253 := n4_; have HB := n5_; clear n0_ n1_ n2_ n3_ n4_ n5_; (try clear hb); (try clear hb2); (try clear hk); (try clear hi)))
             go_ret
             exact ⟨by first | rfl | (simp [errW_none, errW_some] <;> rfl) | (simp [*, errW_none, errW_some] <;> rfl), by repeat (first | (with_reducible first | exact HB.out | apply below_alloc | apply pw_below_drewN | apply below_drew1 | refine below_set ?_ GE253.out) | exact HB.out)⟩
           ·rw [if_neg c35] at H
            have c35b0 : decide (t267 < ((rd_L2 l2 x28_1).length : Int)) = false := decide_eq_false c35
            clear c35
            have HC54 := Aside0.mk H
            clear H
            have hcz55_0 : w26.cell? ⟨gb253, 0, none⟩ = some (.int .u32 a0) := (blk_cell BK253.out 0).trans rfl
            have hcz55_1 : w26.cell? ⟨gb253, 1, none⟩ = some (u254001) := (blk_cell BK253.out 1).trans rfl
            have hfz55_0 := blk_frozen BK253.out 0
            have hfz55_1 := blk_frozen BK253.out 1
            obtain ⟨Ao56, co56, eo56⟩ := Kd.R_slice HO_254001.out
            subst eo56
            go_upto_region 14 with (first | ((with_reducible refine gate_callee (f := 50) rfl ?_); refine goesL_ (some 96) rfl rfl Try.func50 (by kernel_rfl) rfl #[.agg #[.int .u32 a0, .slice Ao56 x254001_1.length co56]] rfl (by (try simp only [List.map_toArray, List.map_cons, List.map_nil]); first | done | rfl | (simp only [List.length_drop, List.length_take]; rfl)) ?_; (with_reducible refine (rowlockref08_Page_Room.calls k1 a0 _ _ x254001_1 t267 _ ?side1 ?side2 A34.out).mono ?_); (case side1 => repeat (first | exact (Kd.R_reads' HO_254001.out).2.2 | (with_reducible refine Kd.C_alloc ?_ _) | (with_reducible refine Kd.C_drewN ?_ _) | (with_reducible refine Kd.C_drew ?_))); (case side2 => exact (Kd.R_reads' HO_254001.out).2.1); rintro e w57 ⟨rfl, hb⟩; refine ⟨_, rfl, ?_⟩; have n0_ := Aside0.mk (Kd.R_below (by (with_reducible repeat (first | apply Kd.R_alloc | apply Kd.R_drewN | apply Kd.R_drew)); exact HO_7.out) hb); have n1_ := Aside0.mk (Kd.R_below (by (with_reducible repeat (first | apply Kd.R_alloc | apply Kd.R_drewN | apply Kd.R_drew)); exact HO_254001.out) hb); have n2_ := Aside0.mk (Kd.R_below (by (with_reducible repeat (first | apply Kd.R_alloc | apply Kd.R_drewN | apply Kd.R_drew)); exact HO261.out) hb); have n3_ := Aside0.mk (Kd.R_below (by (with_reducible repeat (first | apply Kd.R_alloc | apply Kd.R_drewN | apply Kd.R_drew)); exact HO264.out) hb); have n4_ := Aside0.mk (blk_below (g := gb253) (o := .cells #[.int .u32 a0, .slice Ao56 x254001_1.length co56] 89 (0, 0)) (by (with_reducible repeat (first | refine blk_drewN ?_ _ | refine blk_drew ?_ | refine blk_alloc ?_ _)); exact BK253.out) hb); have n5_ := Aside0.mk (below_step (by repeat (first | (with_reducible first | exact HB.out | apply below_alloc | apply pw_below_drewN | apply below_drew1 | refine below_set ?_ GE253.out) | exact HB.out)) hb); clear HO_7; clear HO_254001; clear HO261; clear HO264; clear BK253; clear HB; have HO_7 := n0_; have HO_254001 := n1_; have HO261 := n2_; have HO264 := n3_; have BK253 := n4_; have HB := n5_; clear n0_ n1_ n2_ n3_ n4_ n5_; (try clear hb); (try clear hb2); (try clear hk); (try clear hi)))
            (try simp only [Act.put, List.setIfInBounds_toArray, List.set_cons_zero, List.set_cons_succ])
            go_cut [57] (fun v57 wc => ∃ (kq : Nat) (x57_53 : Bool), v57 = .bool x57_53 ∧ Aside0 (rowlocklaw08_SlotsPlays.j1 kq a1 x7_1 (rd_L2 l2 x28_1) (strOfNums x7_1) t262 l2 (l2.length : Int) x28_1 x57_53 a0 x254001_1 = some r) ∧ Aside0 (kq ≤ k1) ∧ Aside0 (Kd.R (Kd.int .u8) 5 wc w.heap.size (fun k_ => some k_ ≠ (v263 : Value).ownBlock) (.slice Ao24 x7_1.length co24) x7_1) ∧ Aside0 (Kd.R (Kd.int .u8) 5 wc w.heap.size (fun k_ => some k_ ≠ ((.slice Ao24 x7_1.length co24) : Value).ownBlock) v263 t262) ∧ Aside0 (Kd.R Kd.string 9 wc w.heap.size (fun _ => True) (.slice Ao56 x254001_1.length co56) x254001_1) ∧ Aside0 (wc.heap[gb253]? = some (.cells #[.int .u32 a0, (.slice Ao56 x254001_1.length co56)] 89 (0, 0))) ∧ Aside0 (Below w.heap.size w wc))
            case first =>
             have H := HC54.out
             clear HC54
             by_cases c58 : t266 = 0
             ·rw [if_pos c58] at H
              have c58b0 : (t266 == 0) = true := beq_iff_eq.mpr c58
              have c58b1 : (t266 != 0) = false := bne_eq_false_iff_eq.mpr c58
              clear c58
              (first | rw [c58b0] | (simp only [i64_w, i32_w]; rw [c58b0]) | skip)
              have H' := Aside0.mk H
              clear H
              have hcz59_0 : w57.cell? ⟨gb253, 0, none⟩ = some (.int .u32 a0) := (blk_cell BK253.out 0).trans rfl
              have hcz59_1 : w57.cell? ⟨gb253, 1, none⟩ = some (.slice Ao56 x254001_1.length co56) := (blk_cell BK253.out 1).trans rfl
              have hfz59_0 := blk_frozen BK253.out 0
              have hfz59_1 := blk_frozen BK253.out 1
              go_wp2
              go_meet
              case rel => exact ⟨_, ((t265 != (x254001_1.length : Int))), (by first | rfl | (simp; done) | (simp [*]; done)), H', ⟨by have := HK1.out; first | omega | exact Nat.le_refl _⟩, ⟨by (with_reducible repeat (first | apply Kd.R_alloc | apply Kd.R_drewN | apply Kd.R_drew)); exact Kd.R_mono HO_7.out (fun _ hk => hk.2)⟩, ⟨by (with_reducible repeat (first | apply Kd.R_alloc | apply Kd.R_drewN | apply Kd.R_drew)); exact Kd.R_mono HO264.out (fun _ hk => hk.1.2)⟩, ⟨by (with_reducible repeat (first | apply Kd.R_alloc | apply Kd.R_drewN | apply Kd.R_drew)); exact HO_254001.out⟩, ⟨by (with_reducible repeat (first | refine blk_drewN ?_ _ | refine blk_drew ?_ | refine blk_alloc ?_ _)); exact BK253.out⟩, ⟨by repeat (first | (with_reducible first | exact HB.out | apply below_alloc | apply pw_below_drewN | apply below_drew1 | refine below_set ?_ GE253.out) | exact HB.out)⟩⟩
             ·rw [if_neg c58] at H
              have c58b0 : (t266 == 0) = false := beq_eq_false_iff_ne.mpr c58
              have c58b1 : (t266 != 0) = true := bne_iff_ne.mpr c58
              (first | rw [c58b0] | (simp only [i64_w, i32_w]; rw [c58b0]) | skip)
              have H' := Aside0.mk H
              clear H
              go_wp2
              go_meet
              case rel => exact ⟨_, (true), (by first | rfl | (simp; done) | (simp [*]; done)), H', ⟨by have := HK1.out; first | omega | exact Nat.le_refl _⟩, ⟨by (with_reducible repeat (first | apply Kd.R_alloc | apply Kd.R_drewN | apply Kd.R_drew)); exact Kd.R_mono HO_7.out (fun _ hk => hk.2)⟩, ⟨by (with_reducible repeat (first | apply Kd.R_alloc | apply Kd.R_drewN | apply Kd.R_drew)); exact Kd.R_mono HO264.out (fun _ hk => hk.1.2)⟩, ⟨by (with_reducible repeat (first | apply Kd.R_alloc | apply Kd.R_drewN | apply Kd.R_drew)); exact HO_254001.out⟩, ⟨by (with_reducible repeat (first | refine blk_drewN ?_ _ | refine blk_drew ?_ | refine blk_alloc ?_ _)); exact BK253.out⟩, ⟨by repeat (first | (with_reducible first | exact HB.out | apply below_alloc | apply pw_below_drewN | apply below_drew1 | refine below_set ?_ GE253.out) | exact HB.out)⟩⟩
            case rest =>
             clear HC54
             try clear c1
             try clear c2
             try clear p2
             try clear q2
             try clear hx2
             try clear hcv2
             try clear c3
             try clear c4
             try clear c4b0
             try clear c4b1
             try clear c5
             try clear c11
             try clear c11b0
             try clear c12
             try clear c12b0
             try clear c13
             try clear c13b0
             try clear c14
             try clear c14b0
             try clear c14b1
             try clear c17
             try clear hcv23
             try clear c25
             try clear p25
             try clear q25
             try clear hx25
             try clear c27
             try clear c27b0
             try clear c27b1
             try clear c27b2
             try clear c28
             try clear c28b0
             try clear c28b1
             try clear c29
             try clear c29b0
             try clear c29b1
             try clear c29b2
             try clear c30
             try clear c30b0
             try clear c30b1
             try clear c35
             try clear c35b0
             try clear c36
             try clear c36b0
             try clear c36b1
             try clear c37
             try clear c37b0
             try clear c37b1
             try clear c37b2
             try clear c38
             try clear c38b0
             try clear c38b1
             try clear c47
             try clear c48
             try clear c49
             try clear c50
             try clear c58
             try clear c58b0
             try clear c58b1
             try clear hcz10_0
             try clear hcz10_1
             try clear hcz39_0
             try clear hcz39_1
             try clear hcz43_0
             try clear hcz43_1
             try clear hcz47_0
             try clear hcz47_1
             try clear hcz51_0
             try clear hcz51_1
             try clear hcz55_0
             try clear hcz55_1
             try clear hcz59_0
             try clear hcz59_1
             try clear hfz10_0
             try clear hfz10_1
             try clear hfz39_0
             try clear hfz39_1
             try clear hfz43_0
             try clear hfz43_1
             try clear hfz47_0
             try clear hfz47_1
             try clear hfz51_0
             try clear hfz51_1
             try clear hfz55_0
             try clear hfz55_1
             try clear hfz59_0
             try clear hfz59_1
             try clear hx254_0
             try clear p2
             try clear p254
             try clear q254
             obtain ⟨kq, x57_53, rfl, HA, HJ53, HO_7, HO_13, HO_254001, BK253, HB⟩ := hcut
             cases kq with
             | zero => exact absurd HA.out (by simp [rowlocklaw08_SlotsPlays.j1])
             | succ kj53 =>
              have H := HA.out
              clear HA
              simp only [rowlocklaw08_SlotsPlays.j1] at H
              by_cases c60 : x57_53 = true
              ·subst c60
               have H1 : (some false) = some r := by rw [if_pos rfl] at H; first | exact H | (refine Eq.trans ?_ H; simp)
               clear H
               have H := H1
               clear H1
               obtain rfl := Option.some.inj H
               go_wp2
               go_ret
               exact ⟨by first | rfl | (simp [errW_none, errW_some] <;> rfl) | (simp [*, errW_none, errW_some] <;> rfl), by repeat (first | (with_reducible first | exact HB.out | apply below_alloc | apply pw_below_drewN | apply below_drew1 | refine below_set ?_ GE253.out) | exact HB.out)⟩
              ·replace c60 := Bool.eq_false_iff.mpr c60
               subst c60
               have H1 : (if x254001_1.length < 8796093022208 then ((some (x254001_1 ++ [strOfNums (rd_L2 l2 x28_1)] : List ByteArray)).bind fun y268 => (if (strOfNums x7_1).toList = (strOfNums x7_1).toList then ((rowlockref08_Page_Lay.f kj53 a0 y268).bind fun t271 => (if (strOfNums t262).toList = t271.toList then (rowlocklaw08_SlotsPlays.j2 kj53 a1 t262 l2 (l2.length : Int) x28_1 a0 y268) else (some false))) else (some false))) else (none)) = some r := by rw [if_neg (show ¬ (false = true) by decide)] at H; first | exact H | (refine Eq.trans ?_ H; simp)
               clear H
               have H := H1
               clear H1
               by_cases c61 : x254001_1.length < 8796093022208
               ·rw [if_pos c61] at H
                have LMc61 := Aside0.mk c61
                clear c61
                obtain ⟨y268, hy268⟩ : ∃ y_ : List ByteArray, y_ = (x254001_1 ++ [strOfNums (rd_L2 l2 x28_1)]) := ⟨_, rfl⟩
                replace H : (if (strOfNums x7_1).toList = (strOfNums x7_1).toList then ((rowlockref08_Page_Lay.f kj53 a0 y268).bind fun t271 => (if (strOfNums t262).toList = t271.toList then (rowlocklaw08_SlotsPlays.j2 kj53 a1 t262 l2 (l2.length : Int) x28_1 a0 y268) else (some false))) else (some false)) = some r := by first | (rw [hy268]; with_reducible exact H) | (have H2_ := (Option.bind_some _ _).symm.trans H; rw [hy268]; with_reducible exact H2_) | (have H2_ := (Option.bind_some _ _).symm.trans H; with_reducible exact H2_) | with_reducible exact H | (rw [hy268]; exact H) | exact H
                have Ny268 := Aside0.mk hy268
                clear hy268
                by_cases c62 : (strOfNums x7_1).toList = (strOfNums x7_1).toList
                ·rw [if_pos c62] at H
                 have c62b0 : ((strOfNums x7_1).toList == (strOfNums x7_1).toList) = true := beq_iff_eq.mpr c62
                 have c62b1 : ((strOfNums x7_1).toList != (strOfNums x7_1).toList) = false := bne_eq_false_iff_eq.mpr c62
                 clear c62
                 replace H := Option.bind_eq_some_iff.mp H
                 obtain ⟨t271, A630, H⟩ := H
                 replace H : (if (strOfNums t262).toList = t271.toList then (rowlocklaw08_SlotsPlays.j2 kj53 a1 t262 l2 (l2.length : Int) x28_1 a0 y268) else (some false)) = some r := H
                 have A63 := Aside0.mk A630
                 clear A630
                 by_cases c64 : (strOfNums t262).toList = t271.toList
                 ·rw [if_pos c64] at H
                  have c64b0 : ((strOfNums t262).toList == t271.toList) = true := beq_iff_eq.mpr c64
                  have c64b1 : ((strOfNums t262).toList != t271.toList) = false := bne_eq_false_iff_eq.mpr c64
                  clear c64
                  have H' := Aside0.mk H
                  clear H
                  have hcz65_0 : wc.cell? ⟨gb253, 0, none⟩ = some (.int .u32 a0) := (blk_cell BK253.out 0).trans rfl
                  have hcz65_1 : wc.cell? ⟨gb253, 1, none⟩ = some (.slice Ao56 x254001_1.length co56) := (blk_cell BK253.out 1).trans rfl
                  have hfz65_0 := blk_frozen BK253.out 0
                  have hfz65_1 := blk_frozen BK253.out 1
                  have hcv66 := Kd.C_string (P := Try.prog) (A := A254_0) (c := c254_0) Try.underlying26 Try.underlying5 Try.underlying9 (Kd.C_below HR254_0.out HB.out)
                  try go_wp2_with (first | ((with_reducible refine gate_builtin (b := .append) (xs := #[.tmp 59, .tmp 62]) rfl ?_); (try (refine gate_guard (by rfl) ?_; dsimp only)); at_builtin; refine Kd.R_append Kd.string (w0 := w) w.heap.size rfl (.tmp 59) (.tmp 62) 46 9 (.string ⟨#[]⟩) 16 rfl Try.underlying46 info9 rfl (by decide) (by omega) (.slice Ao56 x254001_1.length co56) x254001_1 (strOfNums (rd_L2 l2 x28_1)) [.string (strOfNums (rd_L2 l2 x28_1))] (fun _ => True) (fun _ => False) rfl rfl ?aP (fun _ hk => hk.elim) ?aF ?aO ?aB ?aS ?aL ?_; (case aP => exact rfl); (case aB => exact (by repeat (first | (with_reducible first | exact HB.out | apply below_alloc | apply pw_below_drewN | apply below_drew1 | refine below_set ?_ GE253.out) | exact HB.out))); (case aF => exact (fun _ _ => trivial)); (case aO => exact (by (with_reducible repeat (first | apply Kd.R_alloc | apply Kd.R_drewN | apply Kd.R_drew)); exact HO_254001.out)); (case aS => exact (below_size (by repeat (first | (with_reducible first | exact HB.out | apply below_alloc | apply pw_below_drewN | apply below_drew1 | refine below_set ?_ GE253.out) | exact HB.out)))); (case aL => have := LMc61.out; omega); intro v269 w67 ho hb hg hat; rw [← Ny268.out] at ho; have n0_ := Aside0.mk (Kd.R_over' (by (with_reducible repeat (first | apply Kd.R_alloc | apply Kd.R_drewN | apply Kd.R_drew)); exact HO_7.out) (Kd.R_typed (by (with_reducible repeat (first | apply Kd.R_alloc | apply Kd.R_drewN | apply Kd.R_drew)); exact HO_254001.out)) (by decide) hg); have n1_ := Aside0.mk (Kd.R_over' (by (with_reducible repeat (first | apply Kd.R_alloc | apply Kd.R_drewN | apply Kd.R_drew)); exact HO_13.out) (Kd.R_typed (by (with_reducible repeat (first | apply Kd.R_alloc | apply Kd.R_drewN | apply Kd.R_drew)); exact HO_254001.out)) (by decide) hg); have n2_ := Aside0.mk (blk_grown (g := gb253) (o := .cells #[.int .u32 a0, .slice Ao56 x254001_1.length co56] 89 (0, 0)) (by (with_reducible repeat (first | refine blk_drewN ?_ _ | refine blk_drew ?_ | refine blk_alloc ?_ _)); exact BK253.out) hg (Kd.R_ne HO_254001.out BK253.out (by decide))); have n3_ := Aside0.mk (hb); have n4_ := Aside0.mk (ho); clear HO_7; clear HO_13; clear BK253; clear HB; clear HO_254001; have HO_7 := n0_; have HO_13 := n1_; have BK253 := n2_; have HB := n3_; have HO270 := n4_; clear n0_ n1_ n2_ n3_ n4_; clear ho hb hg hat; obtain ⟨Ao68, co68, eo68⟩ := Kd.R_slice HO270.out; subst eo68; have hcz69_0 : w67.cell? ⟨gb253, 0, none⟩ = some (.int .u32 a0) := (blk_cell BK253.out 0).trans rfl; have hcz69_1 : w67.cell? ⟨gb253, 1, none⟩ = some (.slice Ao56 x254001_1.length co56) := (blk_cell BK253.out 1).trans rfl; have hfz69_0 := blk_frozen BK253.out 0; have hfz69_1 := blk_frozen BK253.out 1))
                  have n0_ : Aside0 (Kd.R (Kd.int .u8) 5 (w67.setCell ⟨gb253, 1, none⟩ (.slice Ao68 y268.length co68)) w.heap.size (fun k_ => some k_ ≠ (v263 : Value).ownBlock) (.slice Ao24 x7_1.length co24) x7_1) := ⟨by (with_reducible repeat (first | apply Kd.R_alloc | apply Kd.R_drewN | apply Kd.R_drew)); exact Kd.R_mono (Kd.R_far (p := ⟨gb253, 1, none⟩) (Kd.R_types HO_7.out BK253.out (by decide)) (fun _ hk => hk.2) (.slice Ao68 y268.length co68)) (fun _ hk => hk.1)⟩
                  have n1_ : Aside0 (Kd.R (Kd.int .u8) 5 (w67.setCell ⟨gb253, 1, none⟩ (.slice Ao68 y268.length co68)) w.heap.size (fun k_ => some k_ ≠ (.slice Ao24 x7_1.length co24 : Value).ownBlock) v263 t262) := ⟨by (with_reducible repeat (first | apply Kd.R_alloc | apply Kd.R_drewN | apply Kd.R_drew)); exact Kd.R_mono (Kd.R_far (p := ⟨gb253, 1, none⟩) (Kd.R_types HO_13.out BK253.out (by decide)) (fun _ hk => hk.2) (.slice Ao68 y268.length co68)) (fun _ hk => hk.1)⟩
                  have n2_ : Aside0 (Kd.R Kd.string 9 (w67.setCell ⟨gb253, 1, none⟩ (.slice Ao68 y268.length co68)) w.heap.size (fun _ => True) (.slice Ao68 y268.length co68) y268) := ⟨by (with_reducible repeat (first | apply Kd.R_alloc | apply Kd.R_drewN | apply Kd.R_drew)); exact Kd.R_mono (Kd.R_far (p := ⟨gb253, 1, none⟩) (Kd.R_types HO270.out BK253.out (by decide)) (fun _ hk => hk.2) (.slice Ao68 y268.length co68)) (fun _ hk => trivial)⟩
                  have n3_ : Aside0 ((w67.setCell ⟨gb253, 1, none⟩ (.slice Ao68 y268.length co68)).heap[gb253]? = some (.cells #[.int .u32 a0, .slice Ao68 y268.length co68] 89 (0, 0))) := ⟨by (with_reducible repeat (first | refine blk_drewN ?_ _ | refine blk_drew ?_ | refine blk_alloc ?_ _)); refine blk_put (cs := #[.int .u32 a0, .slice Ao56 x254001_1.length co56]) ?_ 1 _ rfl; (with_reducible repeat (first | refine blk_drewN ?_ _ | refine blk_drew ?_ | refine blk_alloc ?_ _)); exact BK253.out⟩
                  have n4_ : Aside0 (Below w.heap.size w (w67.setCell ⟨gb253, 1, none⟩ (.slice Ao68 y268.length co68))) := ⟨by repeat (first | (with_reducible first | exact HB.out | apply below_alloc | apply pw_below_drewN | apply below_drew1 | refine below_set ?_ GE253.out) | exact HB.out)⟩
                  (try clear HO_7)
                  (try clear HO_13)
                  (try clear HO270)
                  (try clear BK253)
                  (try clear HB)
                  generalize (w67.setCell ⟨gb253, 1, none⟩ (.slice Ao68 y268.length co68)) = w70 at n0_ n1_ n2_ n3_ n4_ ⊢
                  have HO_7 := n0_
                  have HO_13 := n1_
                  have HO270 := n2_
                  have BK253 := n3_
                  have HB := n4_
                  clear n0_ n1_ n2_ n3_ n4_
                  have n0_ := Aside0.mk (Kd.R_drew HO_7.out)
                  have n1_ := Aside0.mk (Kd.R_drew HO_13.out)
                  have n2_ := Aside0.mk (Kd.R_drew HO270.out)
                  have n3_ := Aside0.mk (blk_drew BK253.out)
                  have n4_ := Aside0.mk (below_drew1 HB.out)
                  clear HO_7
                  clear HO_13
                  clear HO270
                  clear BK253
                  clear HB
                  have HO_7 := n0_
                  have HO_13 := n1_
                  have HO270 := n2_
                  have BK253 := n3_
                  have HB := n4_
                  clear n0_ n1_ n2_ n3_ n4_
                  have hcv72 := own_string (P := Try.prog) Try.underlying26 Try.underlying5 Try.underlying9 (Kd.own_of_R HO_7.out)
                  have hcv73 := own_string (P := Try.prog) Try.underlying26 Try.underlying5 Try.underlying9 (Kd.own_of_R HO_13.out)
                  refine start_ (n := 11) (S := fun w' => w'.cell? ⟨gb253, 0, none⟩ = some (.int .u32 a0) ∧ w'.cell? ⟨gb253, 1, none⟩ = some (.slice Ao68 y268.length co68) ∧ (convert 26 9 (.slice Ao24 x7_1.length co24)).run Try.prog w' = .ok (.string (strOfNums x7_1)) w' ∧ (convert 26 9 (v263)).run Try.prog w' = .ok (.string (strOfNums t262)) w') (ds := []) #[false, false, false, false, false, false, false, false, false, false, false] (by kernel_rfl) rfl rfl ⟨(blk_cell BK253.out 0).trans rfl, (blk_cell BK253.out 1).trans rfl, own_string (P := Try.prog) Try.underlying26 Try.underlying5 Try.underlying9 (Kd.own_of_R HO_7.out), own_string (P := Try.prog) Try.underlying26 Try.underlying5 Try.underlying9 (Kd.own_of_R HO_13.out)⟩ (fun hHeld => ?_); refine with_tabW rowlocklaw08_SlotsPlays.tab17 rowlocklaw08_SlotsPlays.bits17 (fun HT_ HW_ => ?_)
                  generalize w70.drew = w71 at HO_7 HO_13 HO270 BK253 HB hHeld ⊢
                  refine pure_ (i := 0) (N := some 65) (v := ?_) (a' := ?_) #[true, false, false, false, false, false, false, false, false, false, false] rfl rfl (any_of HT_.out (by kernel_rfl)) (fun _ _ _ h => h) (Or.inl ⟨by rfl, ?_⟩) ?_ ?_
                  rotate_left
                  ·intro w'
                   go_simp
                   with_reducible rfl
                  rotate_left
                  ·simp only [Act.put, List.setIfInBounds_toArray, List.set_cons_zero, List.set_cons_succ, i64_w, i32_w]
                   rfl
                  refine take_ (i := 1) (N := some 66) (v := ?_) (a' := ?_) #[true, true, false, false, false, false, false, false, false, false, false] rfl rfl (take_ofW HT_.out HW_.out (by kernel_rfl)) (fun _ _ _ h => h) (Or.inl ⟨by rfl, ?_⟩) hHeld ?_ ?_
                  rotate_left
                  ·rintro w' ⟨s0, s1, s2, s3⟩
                   go_simp
                   with_reducible rfl
                  rotate_left
                  ·simp only [Act.put, List.setIfInBounds_toArray, List.set_cons_zero, List.set_cons_succ, i64_w, i32_w]
                   rfl
                  refine pure_ (i := 2) (N := some 67) (v := ?_) (a' := ?_) #[true, true, true, false, false, false, false, false, false, false, false] rfl rfl (any_of HT_.out (by kernel_rfl)) (fun _ _ _ h => h) (Or.inl ⟨by rfl, ?_⟩) ?_ ?_
                  rotate_left
                  ·intro w'
                   go_simp
                   with_reducible rfl
                  rotate_left
                  ·simp only [Act.put, List.setIfInBounds_toArray, List.set_cons_zero, List.set_cons_succ, i64_w, i32_w]
                   rfl
                  refine pure_ (i := 3) (N := some 68) (v := ?_) (a' := ?_) #[true, true, true, true, false, false, false, false, false, false, false] rfl rfl (any_of HT_.out (by kernel_rfl)) (fun _ _ _ h => h) (Or.inl ⟨by rfl, ?_⟩) ?_ ?_
                  rotate_left
                  ·intro w'
                   go_simp
                   with_reducible rfl
                  rotate_left
                  ·simp only [Act.put, List.setIfInBounds_toArray, List.set_cons_zero, List.set_cons_succ, i64_w, i32_w]
                   rfl
                  refine pure_ (i := 4) (N := some 69) (v := ?_) (a' := ?_) #[true, true, true, true, true, false, false, false, false, false, false] rfl rfl (any_of HT_.out (by kernel_rfl)) (fun _ _ _ h => h) (Or.inl ⟨by rfl, ?_⟩) ?_ ?_
                  rotate_left
                  ·intro w'
                   go_simp
                   with_reducible rfl
                  rotate_left
                  ·simp only [Act.put, List.setIfInBounds_toArray, List.set_cons_zero, List.set_cons_succ, i64_w, i32_w]
                   rfl
                  refine pure_ (i := 5) (N := some 70) (v := ?_) (a' := ?_) #[true, true, true, true, true, true, false, false, false, false, false] rfl rfl (any_of HT_.out (by kernel_rfl)) (fun _ _ _ h => h) (Or.inl ⟨by rfl, ?_⟩) ?_ ?_
                  rotate_left
                  ·intro w'
                   go_simp
                   with_reducible rfl
                  rotate_left
                  ·simp only [Act.put, List.setIfInBounds_toArray, List.set_cons_zero, List.set_cons_succ, i64_w, i32_w]
                   rfl
                  refine take_ (i := 6) (N := some 71) (v := ?_) (a' := ?_) #[true, true, true, true, true, true, true, false, false, false, false] rfl rfl (take_ofW HT_.out HW_.out (by kernel_rfl)) (fun _ _ _ h => h) (Or.inl ⟨by rfl, ?_⟩) hHeld ?_ ?_
                  rotate_left
                  ·rintro w' ⟨s0, s1, s2, s3⟩
                   go_simp
                   with_reducible rfl
                  rotate_left
                  ·simp only [Act.put, List.setIfInBounds_toArray, List.set_cons_zero, List.set_cons_succ, i64_w, i32_w]
                   rfl
                  refine take_ (i := 7) (N := some 72) (v := ?_) (a' := ?_) #[true, true, true, true, true, true, true, true, false, false, false] rfl rfl (take_ofW HT_.out HW_.out (by kernel_rfl)) (fun _ _ _ h => h) (Or.inl ⟨by rfl, ?_⟩) hHeld ?_ ?_
                  rotate_left
                  ·rintro w' ⟨s0, s1, s2, s3⟩
                   go_simp
                   with_reducible rfl
                  rotate_left
                  ·simp only [Act.put, List.setIfInBounds_toArray, List.set_cons_zero, List.set_cons_succ, i64_w, i32_w]
                   rfl
                  refine one_ (i := 8) (N := some 73) #[true, true, true, true, true, true, true, true, true, false, false] rfl rfl (one_of HT_.out (by kernel_rfl)) (by decide) (fun K hK => ?_)
                  refine goes_ Try.func51 (by kernel_rfl) rfl #[.agg #[.int .u32 a0, .slice Ao68 y268.length co68]] (by rfl) rfl rfl (by (try simp only [List.map_toArray, List.map_cons, List.map_nil]); first | done | rfl | (simp only [List.length_drop, List.length_take]; rfl)) ?_
                  with_reducible refine (rowlockref08_Page_Lay.calls kj53 a0 _ _ y268 t271 _ ?side1 ?side2 A63.out).mono ?_
                  (case side1 => repeat (first | exact (Kd.R_reads' HO270.out).2.2 | (with_reducible refine Kd.C_alloc ?_ _) | (with_reducible refine Kd.C_drewN ?_ _) | (with_reducible refine Kd.C_drew ?_)))
                  (case side2 => exact (Kd.R_reads' HO270.out).2.1)
                  rintro e w74 ⟨rfl, hb⟩
                  refine ⟨_, rfl, ?_⟩
                  have n0_ := Aside0.mk (Kd.R_below (by (with_reducible repeat (first | apply Kd.R_alloc | apply Kd.R_drewN | apply Kd.R_drew)); exact HO_7.out) hb)
                  have n1_ := Aside0.mk (Kd.R_below (by (with_reducible repeat (first | apply Kd.R_alloc | apply Kd.R_drewN | apply Kd.R_drew)); exact HO_13.out) hb)
                  have n2_ := Aside0.mk (Kd.R_below (by (with_reducible repeat (first | apply Kd.R_alloc | apply Kd.R_drewN | apply Kd.R_drew)); exact HO270.out) hb)
                  have n3_ := Aside0.mk (blk_below (g := gb253) (o := .cells #[.int .u32 a0, .slice Ao68 y268.length co68] 89 (0, 0)) (by (with_reducible repeat (first | refine blk_drewN ?_ _ | refine blk_drew ?_ | refine blk_alloc ?_ _)); exact BK253.out) hb)
                  have n4_ := Aside0.mk (below_step (by repeat (first | (with_reducible first | exact HB.out | apply below_alloc | apply pw_below_drewN | apply below_drew1 | refine below_set ?_ GE253.out) | exact HB.out)) hb)
                  clear HO_7
                  clear HO_13
                  clear HO270
                  clear BK253
                  clear HB
                  have HO_7 := n0_
                  have HO_13 := n1_
                  have HO270 := n2_
                  have BK253 := n3_
                  have HB := n4_
                  clear n0_ n1_ n2_ n3_ n4_
                  (try clear hb)
                  (try clear hb2)
                  (try clear hk)
                  (try clear hi)
                  refine hK.out _ _ ⟨(blk_cell BK253.out 0).trans rfl, (blk_cell BK253.out 1).trans rfl, own_string (P := Try.prog) Try.underlying26 Try.underlying5 Try.underlying9 (Kd.own_of_R HO_7.out), own_string (P := Try.prog) Try.underlying26 Try.underlying5 Try.underlying9 (Kd.own_of_R HO_13.out)⟩ (fun hHeld => ?_)
                  clear hK K
                  refine norm_ (a' := ?_) ?_ ?_
                  rotate_left
                  ·show Act.put _ (some 73) _ = _
                   simp only [Act.put, List.setIfInBounds_toArray, List.set_cons_zero, List.set_cons_succ, i64_w, i32_w]
                   rfl
                  refine pure_ (i := 9) (N := some 74) (v := ?_) (a' := ?_) #[true, true, true, true, true, true, true, true, true, true, false] rfl rfl (any_of HT_.out (by kernel_rfl)) (fun _ _ _ h => h) (Or.inl ⟨by rfl, ?_⟩) ?_ ?_
                  rotate_left
                  ·intro w'
                   go_simp
                   with_reducible rfl
                  rotate_left
                  ·simp only [Act.put, List.setIfInBounds_toArray, List.set_cons_zero, List.set_cons_succ, i64_w, i32_w]
                   rfl
                  refine pure_ (i := 10) (N := some 75) (v := ?_) (a' := ?_) #[true, true, true, true, true, true, true, true, true, true, true] rfl rfl (any_of HT_.out (by kernel_rfl)) (fun _ _ _ h => h) (Or.inl ⟨by rfl, ?_⟩) ?_ ?_
                  rotate_left
                  ·intro w'
                   go_simp
                   with_reducible rfl
                  rotate_left
                  ·simp only [Act.put, List.setIfInBounds_toArray, List.set_cons_zero, List.set_cons_succ, i64_w, i32_w]
                   rfl
                  refine done_ (done_of HT_.out (by kernel_rfl)) ?_
                  try go_wp2
                  go_meet
                  case rel => exact ⟨_, (t262), (y268), (.slice Ao68 y268.length co68), H', ⟨by have := HK1.out; have := HJ53.out; first | omega | exact Nat.le_refl _⟩, ⟨by (with_reducible repeat (first | apply Kd.R_alloc | apply Kd.R_drewN | apply Kd.R_drew)); exact Kd.R_mono HO_13.out (fun _ hk => trivial)⟩, ⟨by (with_reducible repeat (first | apply Kd.R_alloc | apply Kd.R_drewN | apply Kd.R_drew)); exact HO270.out⟩, ⟨by (with_reducible repeat (first | refine blk_drewN ?_ _ | refine blk_drew ?_ | refine blk_alloc ?_ _)); exact BK253.out⟩, ⟨by repeat (first | (with_reducible first | exact HB.out | apply below_alloc | apply pw_below_drewN | apply below_drew1 | refine below_set ?_ GE253.out) | exact HB.out)⟩⟩
                 ·rw [if_neg c64] at H
                  have c64b0 : ((strOfNums t262).toList == t271.toList) = false := beq_eq_false_iff_ne.mpr c64
                  have c64b1 : ((strOfNums t262).toList != t271.toList) = true := bne_iff_ne.mpr c64
                  obtain rfl := Option.some.inj H
                  have hcz76_0 : wc.cell? ⟨gb253, 0, none⟩ = some (.int .u32 a0) := (blk_cell BK253.out 0).trans rfl
                  have hcz76_1 : wc.cell? ⟨gb253, 1, none⟩ = some (.slice Ao56 x254001_1.length co56) := (blk_cell BK253.out 1).trans rfl
                  have hfz76_0 := blk_frozen BK253.out 0
                  have hfz76_1 := blk_frozen BK253.out 1
                  have hcv77 := Kd.C_string (P := Try.prog) (A := A254_0) (c := c254_0) Try.underlying26 Try.underlying5 Try.underlying9 (Kd.C_below HR254_0.out HB.out)
                  try go_wp2_with (first | ((with_reducible refine gate_builtin (b := .append) (xs := #[.tmp 59, .tmp 62]) rfl ?_); (try (refine gate_guard (by rfl) ?_; dsimp only)); at_builtin; refine Kd.R_append Kd.string (w0 := w) w.heap.size rfl (.tmp 59) (.tmp 62) 46 9 (.string ⟨#[]⟩) 16 rfl Try.underlying46 info9 rfl (by decide) (by omega) (.slice Ao56 x254001_1.length co56) x254001_1 (strOfNums (rd_L2 l2 x28_1)) [.string (strOfNums (rd_L2 l2 x28_1))] (fun _ => True) (fun _ => False) rfl rfl ?aP (fun _ hk => hk.elim) ?aF ?aO ?aB ?aS ?aL ?_; (case aP => exact rfl); (case aB => exact (by repeat (first | (with_reducible first | exact HB.out | apply below_alloc | apply pw_below_drewN | apply below_drew1 | refine below_set ?_ GE253.out) | exact HB.out))); (case aF => exact (fun _ _ => trivial)); (case aO => exact (by (with_reducible repeat (first | apply Kd.R_alloc | apply Kd.R_drewN | apply Kd.R_drew)); exact HO_254001.out)); (case aS => exact (below_size (by repeat (first | (with_reducible first | exact HB.out | apply below_alloc | apply pw_below_drewN | apply below_drew1 | refine below_set ?_ GE253.out) | exact HB.out)))); (case aL => have := LMc61.out; omega); intro v269 w78 ho hb hg hat; rw [← Ny268.out] at ho; have n0_ := Aside0.mk (Kd.R_over' (by (with_reducible repeat (first | apply Kd.R_alloc | apply Kd.R_drewN | apply Kd.R_drew)); exact HO_7.out) (Kd.R_typed (by (with_reducible repeat (first | apply Kd.R_alloc | apply Kd.R_drewN | apply Kd.R_drew)); exact HO_254001.out)) (by decide) hg); have n1_ := Aside0.mk (Kd.R_over' (by (with_reducible repeat (first | apply Kd.R_alloc | apply Kd.R_drewN | apply Kd.R_drew)); exact HO_13.out) (Kd.R_typed (by (with_reducible repeat (first | apply Kd.R_alloc | apply Kd.R_drewN | apply Kd.R_drew)); exact HO_254001.out)) (by decide) hg); have n2_ := Aside0.mk (blk_grown (g := gb253) (o := .cells #[.int .u32 a0, .slice Ao56 x254001_1.length co56] 89 (0, 0)) (by (with_reducible repeat (first | refine blk_drewN ?_ _ | refine blk_drew ?_ | refine blk_alloc ?_ _)); exact BK253.out) hg (Kd.R_ne HO_254001.out BK253.out (by decide))); have n3_ := Aside0.mk (hb); have n4_ := Aside0.mk (ho); clear HO_7; clear HO_13; clear BK253; clear HB; clear HO_254001; have HO_7 := n0_; have HO_13 := n1_; have BK253 := n2_; have HB := n3_; have HO270 := n4_; clear n0_ n1_ n2_ n3_ n4_; clear ho hb hg hat; obtain ⟨Ao79, co79, eo79⟩ := Kd.R_slice HO270.out; subst eo79; have hcz80_0 : w78.cell? ⟨gb253, 0, none⟩ = some (.int .u32 a0) := (blk_cell BK253.out 0).trans rfl; have hcz80_1 : w78.cell? ⟨gb253, 1, none⟩ = some (.slice Ao56 x254001_1.length co56) := (blk_cell BK253.out 1).trans rfl; have hfz80_0 := blk_frozen BK253.out 0; have hfz80_1 := blk_frozen BK253.out 1))
                  have n0_ : Aside0 (Kd.R (Kd.int .u8) 5 (w78.setCell ⟨gb253, 1, none⟩ (.slice Ao79 y268.length co79)) w.heap.size (fun k_ => some k_ ≠ (v263 : Value).ownBlock) (.slice Ao24 x7_1.length co24) x7_1) := ⟨by (with_reducible repeat (first | apply Kd.R_alloc | apply Kd.R_drewN | apply Kd.R_drew)); exact Kd.R_mono (Kd.R_far (p := ⟨gb253, 1, none⟩) (Kd.R_types HO_7.out BK253.out (by decide)) (fun _ hk => hk.2) (.slice Ao79 y268.length co79)) (fun _ hk => hk.1)⟩
                  have n1_ : Aside0 (Kd.R (Kd.int .u8) 5 (w78.setCell ⟨gb253, 1, none⟩ (.slice Ao79 y268.length co79)) w.heap.size (fun k_ => some k_ ≠ (.slice Ao24 x7_1.length co24 : Value).ownBlock) v263 t262) := ⟨by (with_reducible repeat (first | apply Kd.R_alloc | apply Kd.R_drewN | apply Kd.R_drew)); exact Kd.R_mono (Kd.R_far (p := ⟨gb253, 1, none⟩) (Kd.R_types HO_13.out BK253.out (by decide)) (fun _ hk => hk.2) (.slice Ao79 y268.length co79)) (fun _ hk => hk.1)⟩
                  have n2_ : Aside0 (Kd.R Kd.string 9 (w78.setCell ⟨gb253, 1, none⟩ (.slice Ao79 y268.length co79)) w.heap.size (fun _ => True) (.slice Ao79 y268.length co79) y268) := ⟨by (with_reducible repeat (first | apply Kd.R_alloc | apply Kd.R_drewN | apply Kd.R_drew)); exact Kd.R_mono (Kd.R_far (p := ⟨gb253, 1, none⟩) (Kd.R_types HO270.out BK253.out (by decide)) (fun _ hk => hk.2) (.slice Ao79 y268.length co79)) (fun _ hk => trivial)⟩
                  have n3_ : Aside0 ((w78.setCell ⟨gb253, 1, none⟩ (.slice Ao79 y268.length co79)).heap[gb253]? = some (.cells #[.int .u32 a0, .slice Ao79 y268.length co79] 89 (0, 0))) := ⟨by (with_reducible repeat (first | refine blk_drewN ?_ _ | refine blk_drew ?_ | refine blk_alloc ?_ _)); refine blk_put (cs := #[.int .u32 a0, .slice Ao56 x254001_1.length co56]) ?_ 1 _ rfl; (with_reducible repeat (first | refine blk_drewN ?_ _ | refine blk_drew ?_ | refine blk_alloc ?_ _)); exact BK253.out⟩
                  have n4_ : Aside0 (Below w.heap.size w (w78.setCell ⟨gb253, 1, none⟩ (.slice Ao79 y268.length co79))) := ⟨by repeat (first | (with_reducible first | exact HB.out | apply below_alloc | apply pw_below_drewN | apply below_drew1 | refine below_set ?_ GE253.out) | exact HB.out)⟩
                  (try clear HO_7)
                  (try clear HO_13)
                  (try clear HO270)
                  (try clear BK253)
                  (try clear HB)
                  generalize (w78.setCell ⟨gb253, 1, none⟩ (.slice Ao79 y268.length co79)) = w81 at n0_ n1_ n2_ n3_ n4_ ⊢
                  have HO_7 := n0_
                  have HO_13 := n1_
                  have HO270 := n2_
                  have BK253 := n3_
                  have HB := n4_
                  clear n0_ n1_ n2_ n3_ n4_
                  have n0_ := Aside0.mk (Kd.R_drew HO_7.out)
                  have n1_ := Aside0.mk (Kd.R_drew HO_13.out)
                  have n2_ := Aside0.mk (Kd.R_drew HO270.out)
                  have n3_ := Aside0.mk (blk_drew BK253.out)
                  have n4_ := Aside0.mk (below_drew1 HB.out)
                  clear HO_7
                  clear HO_13
                  clear HO270
                  clear BK253
                  clear HB
                  have HO_7 := n0_
                  have HO_13 := n1_
                  have HO270 := n2_
                  have BK253 := n3_
                  have HB := n4_
                  clear n0_ n1_ n2_ n3_ n4_
                  have hcv83 := own_string (P := Try.prog) Try.underlying26 Try.underlying5 Try.underlying9 (Kd.own_of_R HO_7.out)
                  have hcv84 := own_string (P := Try.prog) Try.underlying26 Try.underlying5 Try.underlying9 (Kd.own_of_R HO_13.out)
                  refine start_ (n := 11) (S := fun w' => w'.cell? ⟨gb253, 0, none⟩ = some (.int .u32 a0) ∧ w'.cell? ⟨gb253, 1, none⟩ = some (.slice Ao79 y268.length co79) ∧ (convert 26 9 (.slice Ao24 x7_1.length co24)).run Try.prog w' = .ok (.string (strOfNums x7_1)) w' ∧ (convert 26 9 (v263)).run Try.prog w' = .ok (.string (strOfNums t262)) w') (ds := []) #[false, false, false, false, false, false, false, false, false, false, false] (by kernel_rfl) rfl rfl ⟨(blk_cell BK253.out 0).trans rfl, (blk_cell BK253.out 1).trans rfl, own_string (P := Try.prog) Try.underlying26 Try.underlying5 Try.underlying9 (Kd.own_of_R HO_7.out), own_string (P := Try.prog) Try.underlying26 Try.underlying5 Try.underlying9 (Kd.own_of_R HO_13.out)⟩ (fun hHeld => ?_); refine with_tabW rowlocklaw08_SlotsPlays.tab17 rowlocklaw08_SlotsPlays.bits17 (fun HT_ HW_ => ?_)
                  generalize w81.drew = w82 at HO_7 HO_13 HO270 BK253 HB hHeld ⊢
                  refine pure_ (i := 0) (N := some 65) (v := ?_) (a' := ?_) #[true, false, false, false, false, false, false, false, false, false, false] rfl rfl (any_of HT_.out (by kernel_rfl)) (fun _ _ _ h => h) (Or.inl ⟨by rfl, ?_⟩) ?_ ?_
                  rotate_left
                  ·intro w'
                   go_simp
                   with_reducible rfl
                  rotate_left
                  ·simp only [Act.put, List.setIfInBounds_toArray, List.set_cons_zero, List.set_cons_succ, i64_w, i32_w]
                   rfl
                  refine take_ (i := 1) (N := some 66) (v := ?_) (a' := ?_) #[true, true, false, false, false, false, false, false, false, false, false] rfl rfl (take_ofW HT_.out HW_.out (by kernel_rfl)) (fun _ _ _ h => h) (Or.inl ⟨by rfl, ?_⟩) hHeld ?_ ?_
                  rotate_left
                  ·rintro w' ⟨s0, s1, s2, s3⟩
                   go_simp
                   with_reducible rfl
                  rotate_left
                  ·simp only [Act.put, List.setIfInBounds_toArray, List.set_cons_zero, List.set_cons_succ, i64_w, i32_w]
                   rfl
                  refine pure_ (i := 2) (N := some 67) (v := ?_) (a' := ?_) #[true, true, true, false, false, false, false, false, false, false, false] rfl rfl (any_of HT_.out (by kernel_rfl)) (fun _ _ _ h => h) (Or.inl ⟨by rfl, ?_⟩) ?_ ?_
                  rotate_left
                  ·intro w'
                   go_simp
                   with_reducible rfl
                  rotate_left
                  ·simp only [Act.put, List.setIfInBounds_toArray, List.set_cons_zero, List.set_cons_succ, i64_w, i32_w]
                   rfl
                  refine pure_ (i := 3) (N := some 68) (v := ?_) (a' := ?_) #[true, true, true, true, false, false, false, false, false, false, false] rfl rfl (any_of HT_.out (by kernel_rfl)) (fun _ _ _ h => h) (Or.inl ⟨by rfl, ?_⟩) ?_ ?_
                  rotate_left
                  ·intro w'
                   go_simp
                   with_reducible rfl
                  rotate_left
                  ·simp only [Act.put, List.setIfInBounds_toArray, List.set_cons_zero, List.set_cons_succ, i64_w, i32_w]
                   rfl
                  refine pure_ (i := 4) (N := some 69) (v := ?_) (a' := ?_) #[true, true, true, true, true, false, false, false, false, false, false] rfl rfl (any_of HT_.out (by kernel_rfl)) (fun _ _ _ h => h) (Or.inl ⟨by rfl, ?_⟩) ?_ ?_
                  rotate_left
                  ·intro w'
                   go_simp
                   with_reducible rfl
                  rotate_left
                  ·simp only [Act.put, List.setIfInBounds_toArray, List.set_cons_zero, List.set_cons_succ, i64_w, i32_w]
                   rfl
                  refine pure_ (i := 5) (N := some 70) (v := ?_) (a' := ?_) #[true, true, true, true, true, true, false, false, false, false, false] rfl rfl (any_of HT_.out (by kernel_rfl)) (fun _ _ _ h => h) (Or.inl ⟨by rfl, ?_⟩) ?_ ?_
                  rotate_left
                  ·intro w'
                   go_simp
                   with_reducible rfl
                  rotate_left
                  ·simp only [Act.put, List.setIfInBounds_toArray, List.set_cons_zero, List.set_cons_succ, i64_w, i32_w]
                   rfl
                  refine take_ (i := 6) (N := some 71) (v := ?_) (a' := ?_) #[true, true, true, true, true, true, true, false, false, false, false] rfl rfl (take_ofW HT_.out HW_.out (by kernel_rfl)) (fun _ _ _ h => h) (Or.inl ⟨by rfl, ?_⟩) hHeld ?_ ?_
                  rotate_left
                  ·rintro w' ⟨s0, s1, s2, s3⟩
                   go_simp
                   with_reducible rfl
                  rotate_left
                  ·simp only [Act.put, List.setIfInBounds_toArray, List.set_cons_zero, List.set_cons_succ, i64_w, i32_w]
                   rfl
                  refine take_ (i := 7) (N := some 72) (v := ?_) (a' := ?_) #[true, true, true, true, true, true, true, true, false, false, false] rfl rfl (take_ofW HT_.out HW_.out (by kernel_rfl)) (fun _ _ _ h => h) (Or.inl ⟨by rfl, ?_⟩) hHeld ?_ ?_
                  rotate_left
                  ·rintro w' ⟨s0, s1, s2, s3⟩
                   go_simp
                   with_reducible rfl
                  rotate_left
                  ·simp only [Act.put, List.setIfInBounds_toArray, List.set_cons_zero, List.set_cons_succ, i64_w, i32_w]
                   rfl
                  refine one_ (i := 8) (N := some 73) #[true, true, true, true, true, true, true, true, true, false, false] rfl rfl (one_of HT_.out (by kernel_rfl)) (by decide) (fun K hK => ?_)
                  refine goes_ Try.func51 (by kernel_rfl) rfl #[.agg #[.int .u32 a0, .slice Ao79 y268.length co79]] (by rfl) rfl rfl (by (try simp only [List.map_toArray, List.map_cons, List.map_nil]); first | done | rfl | (simp only [List.length_drop, List.length_take]; rfl)) ?_
                  with_reducible refine (rowlockref08_Page_Lay.calls kj53 a0 _ _ y268 t271 _ ?side1 ?side2 A63.out).mono ?_
                  (case side1 => repeat (first | exact (Kd.R_reads' HO270.out).2.2 | (with_reducible refine Kd.C_alloc ?_ _) | (with_reducible refine Kd.C_drewN ?_ _) | (with_reducible refine Kd.C_drew ?_)))
                  (case side2 => exact (Kd.R_reads' HO270.out).2.1)
                  rintro e w85 ⟨rfl, hb⟩
                  refine ⟨_, rfl, ?_⟩
                  have n0_ := Aside0.mk (Kd.R_below (by (with_reducible repeat (first | apply Kd.R_alloc | apply Kd.R_drewN | apply Kd.R_drew)); exact HO_7.out) hb)
                  have n1_ := Aside0.mk (Kd.R_below (by (with_reducible repeat (first | apply Kd.R_alloc | apply Kd.R_drewN | apply Kd.R_drew)); exact HO_13.out) hb)
                  have n2_ := Aside0.mk (Kd.R_below (by (with_reducible repeat (first | apply Kd.R_alloc | apply Kd.R_drewN | apply Kd.R_drew)); exact HO270.out) hb)
                  have n3_ := Aside0.mk (blk_below (g := gb253) (o := .cells #[.int .u32 a0, .slice Ao79 y268.length co79] 89 (0, 0)) (by (with_reducible repeat (first | refine blk_drewN ?_ _ | refine blk_drew ?_ | refine blk_alloc ?_ _)); exact BK253.out) hb)
                  have n4_ := Aside0.mk (below_step (by repeat (first | (with_reducible first | exact HB.out | apply below_alloc | apply pw_below_drewN | apply below_drew1 | refine below_set ?_ GE253.out) | exact HB.out)) hb)
                  clear HO_7
                  clear HO_13
                  clear HO270
                  clear BK253
                  clear HB
                  have HO_7 := n0_
                  have HO_13 := n1_
                  have HO270 := n2_
                  have BK253 := n3_
                  have HB := n4_
                  clear n0_ n1_ n2_ n3_ n4_
                  (try clear hb)
                  (try clear hb2)
                  (try clear hk)
                  (try clear hi)
                  refine hK.out _ _ ⟨(blk_cell BK253.out 0).trans rfl, (blk_cell BK253.out 1).trans rfl, own_string (P := Try.prog) Try.underlying26 Try.underlying5 Try.underlying9 (Kd.own_of_R HO_7.out), own_string (P := Try.prog) Try.underlying26 Try.underlying5 Try.underlying9 (Kd.own_of_R HO_13.out)⟩ (fun hHeld => ?_)
                  clear hK K
                  refine norm_ (a' := ?_) ?_ ?_
                  rotate_left
                  ·show Act.put _ (some 73) _ = _
                   simp only [Act.put, List.setIfInBounds_toArray, List.set_cons_zero, List.set_cons_succ, i64_w, i32_w]
                   rfl
                  refine pure_ (i := 9) (N := some 74) (v := ?_) (a' := ?_) #[true, true, true, true, true, true, true, true, true, true, false] rfl rfl (any_of HT_.out (by kernel_rfl)) (fun _ _ _ h => h) (Or.inl ⟨by rfl, ?_⟩) ?_ ?_
                  rotate_left
                  ·intro w'
                   go_simp
                   with_reducible rfl
                  rotate_left
                  ·simp only [Act.put, List.setIfInBounds_toArray, List.set_cons_zero, List.set_cons_succ, i64_w, i32_w]
                   rfl
                  refine pure_ (i := 10) (N := some 75) (v := ?_) (a' := ?_) #[true, true, true, true, true, true, true, true, true, true, true] rfl rfl (any_of HT_.out (by kernel_rfl)) (fun _ _ _ h => h) (Or.inl ⟨by rfl, ?_⟩) ?_ ?_
                  rotate_left
                  ·intro w'
                   go_simp
                   with_reducible rfl
                  rotate_left
                  ·simp only [Act.put, List.setIfInBounds_toArray, List.set_cons_zero, List.set_cons_succ, i64_w, i32_w]
                   rfl
                  refine done_ (done_of HT_.out (by kernel_rfl)) ?_
                  try go_wp2
                  go_ret
                  exact ⟨by first | rfl | (simp [errW_none, errW_some] <;> rfl) | (simp [*, errW_none, errW_some] <;> rfl), by repeat (first | (with_reducible first | exact HB.out | apply below_alloc | apply pw_below_drewN | apply below_drew1 | refine below_set ?_ GE253.out) | exact HB.out)⟩
                ·exact absurd rfl c62
               ·rw [if_neg c61] at H
                exact absurd H (by simp)
         case rest =>
          clear HC19
          try clear c1
          try clear c2
          try clear p2
          try clear q2
          try clear hx2
          try clear hcv2
          try clear c3
          try clear c4
          try clear c4b0
          try clear c4b1
          try clear c5
          try clear c6
          try clear hcv6
          try clear hcv7
          try clear hcv8
          try clear hcv9
          try clear c11
          try clear c11b0
          try clear c12
          try clear c12b0
          try clear c13
          try clear c13b0
          try clear c14
          try clear c14b0
          try clear c14b1
          try clear c17
          try clear hcv23
          try clear c25
          try clear p25
          try clear q25
          try clear hx25
          try clear c27
          try clear c27b0
          try clear c27b1
          try clear c27b2
          try clear c28
          try clear c28b0
          try clear c28b1
          try clear c29
          try clear c29b0
          try clear c29b1
          try clear c29b2
          try clear c30
          try clear c30b0
          try clear c30b1
          try clear c35
          try clear c35b0
          try clear c36
          try clear c36b0
          try clear c36b1
          try clear c37
          try clear c37b0
          try clear c37b1
          try clear c37b2
          try clear c38
          try clear c38b0
          try clear c38b1
          try clear c47
          try clear c48
          try clear c49
          try clear c50
          try clear c51
          try clear c58
          try clear c58b0
          try clear c58b1
          try clear c60
          try clear c61
          try clear c62
          try clear c62b0
          try clear c62b1
          try clear c64
          try clear c64b0
          try clear c64b1
          try clear hcv66
          try clear hcv72
          try clear hcv73
          try clear hcv77
          try clear hcv83
          try clear hcv84
          try clear hcv88
          try clear hcv94
          try clear hcz10_0
          try clear hcz10_1
          try clear hcz39_0
          try clear hcz39_1
          try clear hcz43_0
          try clear hcz43_1
          try clear hcz47_0
          try clear hcz47_1
          try clear hcz51_0
          try clear hcz51_1
          try clear hcz55_0
          try clear hcz55_1
          try clear hcz59_0
          try clear hcz59_1
          try clear hcz65_0
          try clear hcz65_1
          try clear hcz69_0
          try clear hcz69_1
          try clear hcz76_0
          try clear hcz76_1
          try clear hcz80_0
          try clear hcz80_1
          try clear hcz87_0
          try clear hcz87_1
          try clear hcz91_0
          try clear hcz91_1
          try clear hfz10_0
          try clear hfz10_1
          try clear hfz39_0
          try clear hfz39_1
          try clear hfz43_0
          try clear hfz43_1
          try clear hfz47_0
          try clear hfz47_1
          try clear hfz51_0
          try clear hfz51_1
          try clear hfz55_0
          try clear hfz55_1
          try clear hfz59_0
          try clear hfz59_1
          try clear hfz65_0
          try clear hfz65_1
          try clear hfz69_0
          try clear hfz69_1
          try clear hfz76_0
          try clear hfz76_1
          try clear hfz80_0
          try clear hfz80_1
          try clear hfz87_0
          try clear hfz87_1
          try clear hfz91_0
          try clear hfz91_1
          try clear hx254_0
          try clear p2
          try clear p25
          try clear p254
          try clear q2
          try clear q25
          try clear q254
          obtain ⟨kq, x7_18, x254001_18, u254001, HA, HJ18, HO_7, HO_254001, BK253, HB⟩ := hcut
          cases kq with
          | zero => exact absurd HA.out (by simp [rowlocklaw08_SlotsPlays.j2])
          | succ kj18 =>
           have H := HA.out
           clear HA
           simp only [rowlocklaw08_SlotsPlays.j2] at H
           replace H := Option.bind_eq_some_iff.mp H
           obtain ⟨t272, A950, H⟩ := H
           replace H : (if t272 = (x254001_18.length : Int) then ((slots_Room.f kj18 x7_18).bind fun t273 => ((rowlockref08_Page_Room.f kj18 a0 x254001_18).bind fun t274 => (if t273 = t274 then (rowlocklaw08_SlotsPlays.l0 kj18 a1 x7_18 l2 (l2.length : Int) (wrap64 (x28_1 + 1)) a0 x254001_18) else (some false)))) else (some false)) = some r := H
           have A95 := Aside0.mk A950
           clear A950
           by_cases c96 : t272 = (x254001_18.length : Int)
           ·rw [if_pos c96] at H
            have c96b0 : (t272 == (x254001_18.length : Int)) = true := beq_iff_eq.mpr c96
            have c96b1 : (t272 != (x254001_18.length : Int)) = false := bne_eq_false_iff_eq.mpr c96
            clear c96
            replace H := Option.bind_eq_some_iff.mp H
            obtain ⟨t273, A970, H⟩ := H
            replace H : ((rowlockref08_Page_Room.f kj18 a0 x254001_18).bind fun t274 => (if t273 = t274 then (rowlocklaw08_SlotsPlays.l0 kj18 a1 x7_18 l2 (l2.length : Int) (wrap64 (x28_1 + 1)) a0 x254001_18) else (some false))) = some r := H
            have A97 := Aside0.mk A970
            clear A970
            replace H := Option.bind_eq_some_iff.mp H
            obtain ⟨t274, A980, H⟩ := H
            replace H : (if t273 = t274 then (rowlocklaw08_SlotsPlays.l0 kj18 a1 x7_18 l2 (l2.length : Int) (wrap64 (x28_1 + 1)) a0 x254001_18) else (some false)) = some r := H
            have A98 := Aside0.mk A980
            clear A980
            by_cases c99 : t273 = t274
            ·rw [if_pos c99] at H
             have c99b0 : (t273 == t274) = true := beq_iff_eq.mpr c99
             have c99b1 : (t273 != t274) = false := bne_eq_false_iff_eq.mpr c99
             clear c99
             have H' := Aside0.mk H
             clear H
             try go_wp2
             have n0_ := Aside0.mk (Kd.R_drew HO_7.out)
             have n1_ := Aside0.mk (Kd.R_drew HO_254001.out)
             have n2_ := Aside0.mk (blk_drew BK253.out)
             have n3_ := Aside0.mk (below_drew1 HB.out)
             clear HO_7
             clear HO_254001
             clear BK253
             clear HB
             have HO_7 := n0_
             have HO_254001 := n1_
             have BK253 := n2_
             have HB := n3_
             clear n0_ n1_ n2_ n3_
             obtain ⟨Ao101, co101, eo101⟩ := Kd.R_slice HO_254001.out
             (first | subst eo101 | (injection eo101 with f1_ f2_ f3_; have f4_ := f1_.symm; have f5_ := f3_.symm; clear f1_ f2_ f3_; subst f4_; subst f5_))
             obtain ⟨Ao102, co102, eo102⟩ := Kd.R_slice HO_7.out
             (first | subst eo102 | (injection eo102 with f1_ f2_ f3_; have f4_ := f1_.symm; have f5_ := f3_.symm; clear f1_ f2_ f3_; subst f4_; subst f5_))
             refine start_ (n := 13) (S := fun w' => w'.cell? ⟨gb253, 0, none⟩ = some (.int .u32 a0) ∧ w'.cell? ⟨gb253, 1, none⟩ = some (.slice Ao101 x254001_18.length co101)) (ds := []) #[false, false, false, false, false, false, false, false, false, false, false, false, false] (by kernel_rfl) rfl rfl ⟨(blk_cell BK253.out 0).trans rfl, (blk_cell BK253.out 1).trans rfl⟩ (fun hHeld => ?_); refine with_tabW rowlocklaw08_SlotsPlays.tab26 rowlocklaw08_SlotsPlays.bits26 (fun HT_ HW_ => ?_)
             generalize wc.drew = w100 at HO_7 HO_254001 BK253 HB hHeld ⊢
             refine pure_ (i := 0) (N := some 109) (v := ?_) (a' := ?_) #[true, false, false, false, false, false, false, false, false, false, false, false, false] rfl rfl (any_of HT_.out (by kernel_rfl)) (fun _ _ _ h => h) (Or.inl ⟨by rfl, ?_⟩) ?_ ?_
             rotate_left
             ·intro w'
              go_simp
              with_reducible rfl
             rotate_left
             ·simp only [Act.put, List.setIfInBounds_toArray, List.set_cons_zero, List.set_cons_succ, i64_w, i32_w]
              rfl
             refine pure_ (i := 2) (N := some 111) (v := ?_) (a' := ?_) #[true, false, true, false, false, false, false, false, false, false, false, false, false] rfl rfl (any_of HT_.out (by kernel_rfl)) (fun _ _ _ h => h) (Or.inl ⟨by rfl, ?_⟩) ?_ ?_
             rotate_left
             ·intro w'
              go_simp
              with_reducible rfl
             rotate_left
             ·simp only [Act.put, List.setIfInBounds_toArray, List.set_cons_zero, List.set_cons_succ, i64_w, i32_w]
              rfl
             refine take_ (i := 3) (N := some 112) (v := ?_) (a' := ?_) #[true, false, true, true, false, false, false, false, false, false, false, false, false] rfl rfl (take_ofW HT_.out HW_.out (by kernel_rfl)) (fun _ _ _ h => h) (Or.inl ⟨by rfl, ?_⟩) hHeld ?_ ?_
             rotate_left
             ·rintro w' ⟨s0, s1⟩
              go_simp
              with_reducible rfl
             rotate_left
             ·simp only [Act.put, List.setIfInBounds_toArray, List.set_cons_zero, List.set_cons_succ, i64_w, i32_w]
              rfl
             refine pure_ (i := 4) (N := some 113) (v := ?_) (a' := ?_) #[true, false, true, true, true, false, false, false, false, false, false, false, false] rfl rfl (any_of HT_.out (by kernel_rfl)) (fun _ _ _ h => h) (Or.inl ⟨by rfl, ?_⟩) ?_ ?_
             rotate_left
             ·intro w'
              go_simp
              with_reducible rfl
             rotate_left
             ·simp only [Act.put, List.setIfInBounds_toArray, List.set_cons_zero, List.set_cons_succ, i64_w, i32_w]
              rfl
             refine one_ (i := 1) (N := some 110) #[true, true, true, true, true, false, false, false, false, false, false, false, false] rfl rfl (one_of HT_.out (by kernel_rfl)) (by decide) (fun K hK => ?_)
             refine goes_ Try.func52 (by kernel_rfl) rfl #[.slice Ao102 x7_18.length co102] (by rfl) rfl rfl (by (try simp only [List.map_toArray, List.map_cons, List.map_nil]); first | done | rfl | (simp only [List.length_drop, List.length_take]; rfl)) ?_
             with_reducible refine (slots_Count.calls kj18 _ _ x7_18 t272 _ ?side1 ?side2 A95.out).mono ?_
             (case side1 => repeat (first | exact (Kd.R_reads' HO_7.out).2.2 | (with_reducible refine Kd.C_alloc ?_ _) | (with_reducible refine Kd.C_drewN ?_ _) | (with_reducible refine Kd.C_drew ?_)))
             (case side2 => exact (Kd.R_reads' HO_7.out).2.1)
             rintro e w103 ⟨rfl, hb⟩
             refine ⟨_, rfl, ?_⟩
             have n0_ := Aside0.mk (Kd.R_below (by (with_reducible repeat (first | apply Kd.R_alloc | apply Kd.R_drewN | apply Kd.R_drew)); exact HO_7.out) hb)
             have n1_ := Aside0.mk (Kd.R_below (by (with_reducible repeat (first | apply Kd.R_alloc | apply Kd.R_drewN | apply Kd.R_drew)); exact HO_254001.out) hb)
             have n2_ := Aside0.mk (blk_below (g := gb253) (o := .cells #[.int .u32 a0, .slice Ao101 x254001_18.length co101] 89 (0, 0)) (by (with_reducible repeat (first | refine blk_drewN ?_ _ | refine blk_drew ?_ | refine blk_alloc ?_ _)); exact BK253.out) hb)
             have n3_ := Aside0.mk (below_step (by repeat (first | (with_reducible first | exact HB.out | apply below_alloc | apply pw_below_drewN | apply below_drew1 | refine below_set ?_ GE253.out) | exact HB.out)) hb)
             clear HO_7
             clear HO_254001
             clear BK253
             clear HB
             have HO_7 := n0_
             have HO_254001 := n1_
             have BK253 := n2_
             have HB := n3_
             clear n0_ n1_ n2_ n3_
             (try clear hb)
             (try clear hb2)
             (try clear hk)
             (try clear hi)
             refine hK.out _ _ ⟨(blk_cell BK253.out 0).trans rfl, (blk_cell BK253.out 1).trans rfl⟩ (fun hHeld => ?_)
             clear hK K
             refine norm_ (a' := ?_) ?_ ?_
             rotate_left
             ·show Act.put _ (some 110) _ = _
              simp only [Act.put, List.setIfInBounds_toArray, List.set_cons_zero, List.set_cons_succ, i64_w, i32_w]
              rfl
             refine pure_ (i := 5) (N := some 114) (v := ?_) (a' := ?_) #[true, true, true, true, true, true, false, false, false, false, false, false, false] rfl rfl (any_of HT_.out (by kernel_rfl)) (fun _ _ _ h => h) (Or.inl ⟨by rfl, ?_⟩) ?_ ?_
             rotate_left
             ·intro w'
              go_simp
              with_reducible rfl
             rotate_left
             ·simp only [Act.put, List.setIfInBounds_toArray, List.set_cons_zero, List.set_cons_succ, i64_w, i32_w]
              rfl
             refine pure_ (i := 6) (N := some 115) (v := ?_) (a' := ?_) #[true, true, true, true, true, true, true, false, false, false, false, false, false] rfl rfl (any_of HT_.out (by kernel_rfl)) (fun _ _ _ h => h) (Or.inl ⟨by rfl, ?_⟩) ?_ ?_
             rotate_left
             ·intro w'
              go_simp
              with_reducible rfl
             rotate_left
             ·simp only [Act.put, List.setIfInBounds_toArray, List.set_cons_zero, List.set_cons_succ, i64_w, i32_w]
              rfl
             refine pure_ (i := 7) (N := some 116) (v := ?_) (a' := ?_) #[true, true, true, true, true, true, true, true, false, false, false, false, false] rfl rfl (any_of HT_.out (by kernel_rfl)) (fun _ _ _ h => h) (Or.inl ⟨by rfl, ?_⟩) ?_ ?_
             rotate_left
             ·intro w'
              go_simp
              with_reducible rfl
             rotate_left
             ·simp only [Act.put, List.setIfInBounds_toArray, List.set_cons_zero, List.set_cons_succ, i64_w, i32_w]
              rfl
             refine take_ (i := 9) (N := some 118) (v := ?_) (a' := ?_) #[true, true, true, true, true, true, true, true, false, true, false, false, false] rfl rfl (take_ofW HT_.out HW_.out (by kernel_rfl)) (fun _ _ _ h => h) (Or.inl ⟨by rfl, ?_⟩) hHeld ?_ ?_
             rotate_left
             ·rintro w' ⟨s0, s1⟩
              go_simp
              with_reducible rfl
             rotate_left
             ·simp only [Act.put, List.setIfInBounds_toArray, List.set_cons_zero, List.set_cons_succ, i64_w, i32_w]
              rfl
             refine one_ (i := 8) (N := some 117) #[true, true, true, true, true, true, true, true, true, true, false, false, false] rfl rfl (one_of HT_.out (by kernel_rfl)) (by decide) (fun K hK => ?_)
             refine goes_ Try.func53 (by kernel_rfl) rfl #[.slice Ao102 x7_18.length co102] (by rfl) rfl rfl (by (try simp only [List.map_toArray, List.map_cons, List.map_nil]); first | done | rfl | (simp only [List.length_drop, List.length_take]; rfl)) ?_
             with_reducible refine (slots_Room.calls kj18 _ _ x7_18 t273 _ ?side1 ?side2 A97.out).mono ?_
             (case side1 => repeat (first | exact (Kd.R_reads' HO_7.out).2.2 | (with_reducible refine Kd.C_alloc ?_ _) | (with_reducible refine Kd.C_drewN ?_ _) | (with_reducible refine Kd.C_drew ?_)))
             (case side2 => exact (Kd.R_reads' HO_7.out).2.1)
             rintro e w104 ⟨rfl, hb⟩
             refine ⟨_, rfl, ?_⟩
             have n0_ := Aside0.mk (Kd.R_below (by (with_reducible repeat (first | apply Kd.R_alloc | apply Kd.R_drewN | apply Kd.R_drew)); exact HO_7.out) hb)
             have n1_ := Aside0.mk (Kd.R_below (by (with_reducible repeat (first | apply Kd.R_alloc | apply Kd.R_drewN | apply Kd.R_drew)); exact HO_254001.out) hb)
             have n2_ := Aside0.mk (blk_below (g := gb253) (o := .cells #[.int .u32 a0, .slice Ao101 x254001_18.length co101] 89 (0, 0)) (by (with_reducible repeat (first | refine blk_drewN ?_ _ | refine blk_drew ?_ | refine blk_alloc ?_ _)); exact BK253.out) hb)
             have n3_ := Aside0.mk (below_step (by repeat (first | (with_reducible first | exact HB.out | apply below_alloc | apply pw_below_drewN | apply below_drew1 | refine below_set ?_ GE253.out) | exact HB.out)) hb)
             clear HO_7
             clear HO_254001
             clear BK253
             clear HB
             have HO_7 := n0_
             have HO_254001 := n1_
             have BK253 := n2_
             have HB := n3_
             clear n0_ n1_ n2_ n3_
             (try clear hb)
             (try clear hb2)
             (try clear hk)
             (try clear hi)
             refine hK.out _ _ ⟨(blk_cell BK253.out 0).trans rfl, (blk_cell BK253.out 1).trans rfl⟩ (fun hHeld => ?_)
             clear hK K
             refine norm_ (a' := ?_) ?_ ?_
             rotate_left
             ·show Act.put _ (some 117) _ = _
              simp only [Act.put, List.setIfInBounds_toArray, List.set_cons_zero, List.set_cons_succ, i64_w, i32_w]
              rfl
             refine one_ (i := 10) (N := some 119) #[true, true, true, true, true, true, true, true, true, true, true, false, false] rfl rfl (one_of HT_.out (by kernel_rfl)) (by decide) (fun K hK => ?_)
             refine goes_ Try.func50 (by kernel_rfl) rfl #[.agg #[.int .u32 a0, .slice Ao101 x254001_18.length co101]] (by rfl) rfl rfl (by (try simp only [List.map_toArray, List.map_cons, List.map_nil]); first | done | rfl | (simp only [List.length_drop, List.length_take]; rfl)) ?_
             with_reducible refine (rowlockref08_Page_Room.calls kj18 a0 _ _ x254001_18 t274 _ ?side1 ?side2 A98.out).mono ?_
             (case side1 => repeat (first | exact (Kd.R_reads' HO_254001.out).2.2 | (with_reducible refine Kd.C_alloc ?_ _) | (with_reducible refine Kd.C_drewN ?_ _) | (with_reducible refine Kd.C_drew ?_)))
             (case side2 => exact (Kd.R_reads' HO_254001.out).2.1)
             rintro e w105 ⟨rfl, hb⟩
             refine ⟨_, rfl, ?_⟩
             have n0_ := Aside0.mk (Kd.R_below (by (with_reducible repeat (first | apply Kd.R_alloc | apply Kd.R_drewN | apply Kd.R_drew)); exact HO_7.out) hb)
             have n1_ := Aside0.mk (Kd.R_below (by (with_reducible repeat (first | apply Kd.R_alloc | apply Kd.R_drewN | apply Kd.R_drew)); exact HO_254001.out) hb)
             have n2_ := Aside0.mk (blk_below (g := gb253) (o := .cells #[.int .u32 a0, .slice Ao101 x254001_18.length co101] 89 (0, 0)) (by (with_reducible repeat (first | refine blk_drewN ?_ _ | refine blk_drew ?_ | refine blk_alloc ?_ _)); exact BK253.out) hb)
             have n3_ := Aside0.mk (below_step (by repeat (first | (with_reducible first | exact HB.out | apply below_alloc | apply pw_below_drewN | apply below_drew1 | refine below_set ?_ GE253.out) | exact HB.out)) hb)
             clear HO_7
             clear HO_254001
             clear BK253
             clear HB
             have HO_7 := n0_
             have HO_254001 := n1_
             have BK253 := n2_
             have HB := n3_
             clear n0_ n1_ n2_ n3_
             (try clear hb)
             (try clear hb2)
             (try clear hk)
             (try clear hi)
             refine hK.out _ _ ⟨(blk_cell BK253.out 0).trans rfl, (blk_cell BK253.out 1).trans rfl⟩ (fun hHeld => ?_)
             clear hK K
             refine norm_ (a' := ?_) ?_ ?_
             rotate_left
             ·show Act.put _ (some 119) _ = _
              simp only [Act.put, List.setIfInBounds_toArray, List.set_cons_zero, List.set_cons_succ, i64_w, i32_w]
              rfl
             refine pure_ (i := 11) (N := some 120) (v := ?_) (a' := ?_) #[true, true, true, true, true, true, true, true, true, true, true, true, false] rfl rfl (any_of HT_.out (by kernel_rfl)) (fun _ _ _ h => h) (Or.inl ⟨by rfl, ?_⟩) ?_ ?_
             rotate_left
             ·intro w'
              go_simp
              with_reducible rfl
             rotate_left
             ·simp only [Act.put, List.setIfInBounds_toArray, List.set_cons_zero, List.set_cons_succ, i64_w, i32_w]
              rfl
             refine pure_ (i := 12) (N := some 121) (v := ?_) (a' := ?_) #[true, true, true, true, true, true, true, true, true, true, true, true, true] rfl rfl (any_of HT_.out (by kernel_rfl)) (fun _ _ _ h => h) (Or.inl ⟨by rfl, ?_⟩) ?_ ?_
             rotate_left
             ·intro w'
              go_simp
              with_reducible rfl
             rotate_left
             ·simp only [Act.put, List.setIfInBounds_toArray, List.set_cons_zero, List.set_cons_succ, i64_w, i32_w]
              rfl
             refine done_ (done_of HT_.out (by kernel_rfl)) ?_
             try go_wp2
             go_roundg kj18
             case measure => have := HK1.out; have := HJ18.out; omega
             case rel => exact ⟨(x7_18), (wrap64 (x28_1 + 1)), (x254001_18), (.slice Ao101 x254001_18.length co101), (by first | rfl | (simp; done) | (simp [*]; done)), H', ⟨by have := HK1.out; have := HJ18.out; omega⟩, ⟨by (with_reducible repeat (first | apply Kd.R_alloc | apply Kd.R_drewN | apply Kd.R_drew)); exact HO_7.out⟩, ⟨by (with_reducible repeat (first | apply Kd.R_alloc | apply Kd.R_drewN | apply Kd.R_drew)); exact HO_254001.out⟩, ⟨by (with_reducible repeat (first | refine blk_drewN ?_ _ | refine blk_drew ?_ | refine blk_alloc ?_ _)); exact BK253.out⟩, ⟨by repeat (first | (with_reducible first | exact HB.out | apply below_alloc | apply pw_below_drewN | apply below_drew1 | refine below_set ?_ GE253.out) | exact HB.out)⟩⟩
            ·rw [if_neg c99] at H
             have c99b0 : (t273 == t274) = false := beq_eq_false_iff_ne.mpr c99
             have c99b1 : (t273 != t274) = true := bne_iff_ne.mpr c99
             obtain rfl := Option.some.inj H
             try go_wp2
             have n0_ := Aside0.mk (Kd.R_drew HO_7.out)
             have n1_ := Aside0.mk (Kd.R_drew HO_254001.out)
             have n2_ := Aside0.mk (blk_drew BK253.out)
             have n3_ := Aside0.mk (below_drew1 HB.out)
             clear HO_7
             clear HO_254001
             clear BK253
             clear HB
             have HO_7 := n0_
             have HO_254001 := n1_
             have BK253 := n2_
             have HB := n3_
             clear n0_ n1_ n2_ n3_
             obtain ⟨Ao107, co107, eo107⟩ := Kd.R_slice HO_254001.out
             (first | subst eo107 | (injection eo107 with f1_ f2_ f3_; have f4_ := f1_.symm; have f5_ := f3_.symm; clear f1_ f2_ f3_; subst f4_; subst f5_))
             obtain ⟨Ao108, co108, eo108⟩ := Kd.R_slice HO_7.out
             (first | subst eo108 | (injection eo108 with f1_ f2_ f3_; have f4_ := f1_.symm; have f5_ := f3_.symm; clear f1_ f2_ f3_; subst f4_; subst f5_))
             refine start_ (n := 13) (S := fun w' => w'.cell? ⟨gb253, 0, none⟩ = some (.int .u32 a0) ∧ w'.cell? ⟨gb253, 1, none⟩ = some (.slice Ao107 x254001_18.length co107)) (ds := []) #[false, false, false, false, false, false, false, false, false, false, false, false, false] (by kernel_rfl) rfl rfl ⟨(blk_cell BK253.out 0).trans rfl, (blk_cell BK253.out 1).trans rfl⟩ (fun hHeld => ?_); refine with_tabW rowlocklaw08_SlotsPlays.tab26 rowlocklaw08_SlotsPlays.bits26 (fun HT_ HW_ => ?_)
             generalize wc.drew = w106 at HO_7 HO_254001 BK253 HB hHeld ⊢
             refine pure_ (i := 0) (N := some 109) (v := ?_) (a' := ?_) #[true, false, false, false, false, false, false, false, false, false, false, false, false] rfl rfl (any_of HT_.out (by kernel_rfl)) (fun _ _ _ h => h) (Or.inl ⟨by rfl, ?_⟩) ?_ ?_
             rotate_left
             ·intro w'
              go_simp
              with_reducible rfl
             rotate_left
             ·simp only [Act.put, List.setIfInBounds_toArray, List.set_cons_zero, List.set_cons_succ, i64_w, i32_w]
              rfl
             refine pure_ (i := 2) (N := some 111) (v := ?_) (a' := ?_) #[true, false, true, false, false, false, false, false, false, false, false, false, false] rfl rfl (any_of HT_.out (by kernel_rfl)) (fun _ _ _ h => h) (Or.inl ⟨by rfl, ?_⟩) ?_ ?_
             rotate_left
             ·intro w'
              go_simp
              with_reducible rfl
             rotate_left
             ·simp only [Act.put, List.setIfInBounds_toArray, List.set_cons_zero, List.set_cons_succ, i64_w, i32_w]
              rfl
             refine take_ (i := 3) (N := some 112) (v := ?_) (a' := ?_) #[true, false, true, true, false, false, false, false, false, false, false, false, false] rfl rfl (take_ofW HT_.out HW_.out (by kernel_rfl)) (fun _ _ _ h => h) (Or.inl ⟨by rfl, ?_⟩) hHeld ?_ ?_
             rotate_left
             ·rintro w' ⟨s0, s1⟩
              go_simp
              with_reducible rfl
             rotate_left
             ·simp only [Act.put, List.setIfInBounds_toArray, List.set_cons_zero, List.set_cons_succ, i64_w, i32_w]
              rfl
             refine pure_ (i := 4) (N := some 113) (v := ?_) (a' := ?_) #[true, false, true, true, true, false, false, false, false, false, false, false, false] rfl rfl (any_of HT_.out (by kernel_rfl)) (fun _ _ _ h => h) (Or.inl ⟨by rfl, ?_⟩) ?_ ?_
             rotate_left
             ·intro w'
              go_simp
              with_reducible rfl
             rotate_left
             ·simp only [Act.put, List.setIfInBounds_toArray, List.set_cons_zero, List.set_cons_succ, i64_w, i32_w]
              rfl
             refine one_ (i := 1) (N := some 110) #[true, true, true, true, true, false, false, false, false, false, false, false, false] rfl rfl (one_of HT_.out (by kernel_rfl)) (by decide) (fun K hK => ?_)
             refine goes_ Try.func52 (by kernel_rfl) rfl #[.slice Ao108 x7_18.length co108] (by rfl) rfl rfl (by (try simp only [List.map_toArray, List.map_cons, List.map_nil]); first | done | rfl | (simp only [List.length_drop, List.length_take]; rfl)) ?_
             with_reducible refine (slots_Count.calls kj18 _ _ x7_18 t272 _ ?side1 ?side2 A95.out).mono ?_
             (case side1 => repeat (first | exact (Kd.R_reads' HO_7.out).2.2 | (with_reducible refine Kd.C_alloc ?_ _) | (with_reducible refine Kd.C_drewN ?_ _) | (with_reducible refine Kd.C_drew ?_)))
             (case side2 => exact (Kd.R_reads' HO_7.out).2.1)
             rintro e w109 ⟨rfl, hb⟩
             refine ⟨_, rfl, ?_⟩
             have n0_ := Aside0.mk (Kd.R_below (by (with_reducible repeat (first | apply Kd.R_alloc | apply Kd.R_drewN | apply Kd.R_drew)); exact HO_7.out) hb)
             have n1_ := Aside0.mk (Kd.R_below (by (with_reducible repeat (first | apply Kd.R_alloc | apply Kd.R_drewN | apply Kd.R_drew)); exact HO_254001.out) hb)
             have n2_ := Aside0.mk (blk_below (g := gb253) (o := .cells #[.int .u32 a0, .slice Ao107 x254001_18.length co107] 89 (0, 0)) (by (with_reducible repeat (first | refine blk_drewN ?_ _ | refine blk_drew ?_ | refine blk_alloc ?_ _)); exact BK253.out) hb)
             have n3_ := Aside0.mk (below_step (by repeat (first | (with_reducible first | exact HB.out | apply below_alloc | apply pw_below_drewN | apply below_drew1 | refine below_set ?_ GE253.out) | exact HB.out)) hb)
             clear HO_7
             clear HO_254001
             clear BK253
             clear HB
             have HO_7 := n0_
             have HO_254001 := n1_
             have BK253 := n2_
             have HB := n3_
             clear n0_ n1_ n2_ n3_
             (try clear hb)
             (try clear hb2)
             (try clear hk)
             (try clear hi)
             refine hK.out _ _ ⟨(blk_cell BK253.out 0).trans rfl, (blk_cell BK253.out 1).trans rfl⟩ (fun hHeld => ?_)
             clear hK K
             refine norm_ (a' := ?_) ?_ ?_
             rotate_left
             ·show Act.put _ (some 110) _ = _
              simp only [Act.put, List.setIfInBounds_toArray, List.set_cons_zero, List.set_cons_succ, i64_w, i32_w]
              rfl
             refine pure_ (i := 5) (N := some 114) (v := ?_) (a' := ?_) #[true, true, true, true, true, true, false, false, false, false, false, false, false] rfl rfl (any_of HT_.out (by kernel_rfl)) (fun _ _ _ h => h) (Or.inl ⟨by rfl, ?_⟩) ?_ ?_
             rotate_left
             ·intro w'
              go_simp
              with_reducible rfl
             rotate_left
             ·simp only [Act.put, List.setIfInBounds_toArray, List.set_cons_zero, List.set_cons_succ, i64_w, i32_w]
              rfl
             refine pure_ (i := 6) (N := some 115) (v := ?_) (a' := ?_) #[true, true, true, true, true, true, true, false, false, false, false, false, false] rfl rfl (any_of HT_.out (by kernel_rfl)) (fun _ _ _ h => h) (Or.inl ⟨by rfl, ?_⟩) ?_ ?_
             rotate_left
             ·intro w'
              go_simp
              with_reducible rfl
             rotate_left
             ·simp only [Act.put, List.setIfInBounds_toArray, List.set_cons_zero, List.set_cons_succ, i64_w, i32_w]
              rfl
             refine pure_ (i := 7) (N := some 116) (v := ?_) (a' := ?_) #[true, true, true, true, true, true, true, true, false, false, false, false, false] rfl rfl (any_of HT_.out (by kernel_rfl)) (fun _ _ _ h => h) (Or.inl ⟨by rfl, ?_⟩) ?_ ?_
             rotate_left
             ·intro w'
              go_simp
              with_reducible rfl
             rotate_left
             ·simp only [Act.put, List.setIfInBounds_toArray, List.set_cons_zero, List.set_cons_succ, i64_w, i32_w]
              rfl
             refine take_ (i := 9) (N := some 118) (v := ?_) (a' := ?_) #[true, true, true, true, true, true, true, true, false, true, false, false, false] rfl rfl (take_ofW HT_.out HW_.out (by kernel_rfl)) (fun _ _ _ h => h) (Or.inl ⟨by rfl, ?_⟩) hHeld ?_ ?_
             rotate_left
             ·rintro w' ⟨s0, s1⟩
              go_simp
              with_reducible rfl
             rotate_left
             ·simp only [Act.put, List.setIfInBounds_toArray, List.set_cons_zero, List.set_cons_succ, i64_w, i32_w]
              rfl
             refine one_ (i := 8) (N := some 117) #[true, true, true, true, true, true, true, true, true, true, false, false, false] rfl rfl (one_of HT_.out (by kernel_rfl)) (by decide) (fun K hK => ?_)
             refine goes_ Try.func53 (by kernel_rfl) rfl #[.slice Ao108 x7_18.length co108] (by rfl) rfl rfl (by (try simp only [List.map_toArray, List.map_cons, List.map_nil]); first | done | rfl | (simp only [List.length_drop, List.length_take]; rfl)) ?_
             with_reducible refine (slots_Room.calls kj18 _ _ x7_18 t273 _ ?side1 ?side2 A97.out).mono ?_
             (case side1 => repeat (first | exact (Kd.R_reads' HO_7.out).2.2 | (with_reducible refine Kd.C_alloc ?_ _) | (with_reducible refine Kd.C_drewN ?_ _) | (with_reducible refine Kd.C_drew ?_)))
             (case side2 => exact (Kd.R_reads' HO_7.out).2.1)
             rintro e w110 ⟨rfl, hb⟩
             refine ⟨_, rfl, ?_⟩
             have n0_ := Aside0.mk (Kd.R_below (by (with_reducible repeat (first | apply Kd.R_alloc | apply Kd.R_drewN | apply Kd.R_drew)); exact HO_7.out) hb)
             have n1_ := Aside0.mk (Kd.R_below (by (with_reducible repeat (first | apply Kd.R_alloc | apply Kd.R_drewN | apply Kd.R_drew)); exact HO_254001.out) hb)
             have n2_ := Aside0.mk (blk_below (g := gb253) (o := .cells #[.int .u32 a0, .slice Ao107 x254001_18.length co107] 89 (0, 0)) (by (with_reducible repeat (first | refine blk_drewN ?_ _ | refine blk_drew ?_ | refine blk_alloc ?_ _)); exact BK253.out) hb)
             have n3_ := Aside0.mk (below_step (by repeat (first | (with_reducible first | exact HB.out | apply below_alloc | apply pw_below_drewN | apply below_drew1 | refine below_set ?_ GE253.out) | exact HB.out)) hb)
             clear HO_7
             clear HO_254001
             clear BK253
             clear HB
             have HO_7 := n0_
             have HO_254001 := n1_
             have BK253 := n2_
             have HB := n3_
             clear n0_ n1_ n2_ n3_
             (try clear hb)
             (try clear hb2)
             (try clear hk)
             (try clear hi)
             refine hK.out _ _ ⟨(blk_cell BK253.out 0).trans rfl, (blk_cell BK253.out 1).trans rfl⟩ (fun hHeld => ?_)
             clear hK K
             refine norm_ (a' := ?_) ?_ ?_
             rotate_left
             ·show Act.put _ (some 117) _ = _
              simp only [Act.put, List.setIfInBounds_toArray, List.set_cons_zero, List.set_cons_succ, i64_w, i32_w]
              rfl
             refine one_ (i := 10) (N := some 119) #[true, true, true, true, true, true, true, true, true, true, true, false, false] rfl rfl (one_of HT_.out (by kernel_rfl)) (by decide) (fun K hK => ?_)
             refine goes_ Try.func50 (by kernel_rfl) rfl #[.agg #[.int .u32 a0, .slice Ao107 x254001_18.length co107]] (by rfl) rfl rfl (by (try simp only [List.map_toArray, List.map_cons, List.map_nil]); first | done | rfl | (simp only [List.length_drop, List.length_take]; rfl)) ?_
             with_reducible refine (rowlockref08_Page_Room.calls kj18 a0 _ _ x254001_18 t274 _ ?side1 ?side2 A98.out).mono ?_
             (case side1 => repeat (first | exact (Kd.R_reads' HO_254001.out).2.2 | (with_reducible refine Kd.C_alloc ?_ _) | (with_reducible refine Kd.C_drewN ?_ _) | (with_reducible refine Kd.C_drew ?_)))
             (case side2 => exact (Kd.R_reads' HO_254001.out).2.1)
             rintro e w111 ⟨rfl, hb⟩
             refine ⟨_, rfl, ?_⟩
             have n0_ := Aside0.mk (Kd.R_below (by (with_reducible repeat (first | apply Kd.R_alloc | apply Kd.R_drewN | apply Kd.R_drew)); exact HO_7.out) hb)
             have n1_ := Aside0.mk (Kd.R_below (by (with_reducible repeat (first | apply Kd.R_alloc | apply Kd.R_drewN | apply Kd.R_drew)); exact HO_254001.out) hb)
             have n2_ := Aside0.mk (blk_below (g := gb253) (o := .cells #[.int .u32 a0, .slice Ao107 x254001_18.length co107] 89 (0, 0)) (by (with_reducible repeat (first | refine blk_drewN ?_ _ | refine blk_drew ?_ | refine blk_alloc ?_ _)); exact BK253.out) hb)
             have n3_ := Aside0.mk (below_step (by repeat (first | (with_reducible first | exact HB.out | apply below_alloc | apply pw_below_drewN | apply below_drew1 | refine below_set ?_ GE253.out) | exact HB.out)) hb)
             clear HO_7
             clear HO_254001
             clear BK253
             clear HB
             have HO_7 := n0_
             have HO_254001 := n1_
             have BK253 := n2_
             have HB := n3_
             clear n0_ n1_ n2_ n3_
             (try clear hb)
             (try clear hb2)
             (try clear hk)
             (try clear hi)
             refine hK.out _ _ ⟨(blk_cell BK253.out 0).trans rfl, (blk_cell BK253.out 1).trans rfl⟩ (fun hHeld => ?_)
             clear hK K
             refine norm_ (a' := ?_) ?_ ?_
             rotate_left
             ·show Act.put _ (some 119) _ = _
              simp only [Act.put, List.setIfInBounds_toArray, List.set_cons_zero, List.set_cons_succ, i64_w, i32_w]
              rfl
             refine pure_ (i := 11) (N := some 120) (v := ?_) (a' := ?_) #[true, true, true, true, true, true, true, true, true, true, true, true, false] rfl rfl (any_of HT_.out (by kernel_rfl)) (fun _ _ _ h => h) (Or.inl ⟨by rfl, ?_⟩) ?_ ?_
             rotate_left
             ·intro w'
              go_simp
              with_reducible rfl
             rotate_left
             ·simp only [Act.put, List.setIfInBounds_toArray, List.set_cons_zero, List.set_cons_succ, i64_w, i32_w]
              rfl
             refine pure_ (i := 12) (N := some 121) (v := ?_) (a' := ?_) #[true, true, true, true, true, true, true, true, true, true, true, true, true] rfl rfl (any_of HT_.out (by kernel_rfl)) (fun _ _ _ h => h) (Or.inl ⟨by rfl, ?_⟩) ?_ ?_
             rotate_left
             ·intro w'
              go_simp
              with_reducible rfl
             rotate_left
             ·simp only [Act.put, List.setIfInBounds_toArray, List.set_cons_zero, List.set_cons_succ, i64_w, i32_w]
              rfl
             refine done_ (done_of HT_.out (by kernel_rfl)) ?_
             try go_wp2
             go_ret
             exact ⟨by first | rfl | (simp [errW_none, errW_some] <;> rfl) | (simp [*, errW_none, errW_some] <;> rfl), by repeat (first | (with_reducible first | exact HB.out | apply below_alloc | apply pw_below_drewN | apply below_drew1 | refine below_set ?_ GE253.out) | exact HB.out)⟩
           ·rw [if_neg c96] at H
            have c96b0 : (t272 == (x254001_18.length : Int)) = false := beq_eq_false_iff_ne.mpr c96
            have c96b1 : (t272 != (x254001_18.length : Int)) = true := bne_iff_ne.mpr c96
            obtain rfl := Option.some.inj H
            try go_wp2
            have n0_ := Aside0.mk (Kd.R_drew HO_7.out)
            have n1_ := Aside0.mk (Kd.R_drew HO_254001.out)
            have n2_ := Aside0.mk (blk_drew BK253.out)
            have n3_ := Aside0.mk (below_drew1 HB.out)
            clear HO_7
            clear HO_254001
            clear BK253
            clear HB
            have HO_7 := n0_
            have HO_254001 := n1_
            have BK253 := n2_
            have HB := n3_
            clear n0_ n1_ n2_ n3_
            obtain ⟨Ao113, co113, eo113⟩ := Kd.R_slice HO_254001.out
            (first | subst eo113 | (injection eo113 with f1_ f2_ f3_; have f4_ := f1_.symm; have f5_ := f3_.symm; clear f1_ f2_ f3_; subst f4_; subst f5_))
            obtain ⟨Ao114, co114, eo114⟩ := Kd.R_slice HO_7.out
            (first | subst eo114 | (injection eo114 with f1_ f2_ f3_; have f4_ := f1_.symm; have f5_ := f3_.symm; clear f1_ f2_ f3_; subst f4_; subst f5_))
            refine start_ (n := 13) (S := fun w' => w'.cell? ⟨gb253, 0, none⟩ = some (.int .u32 a0) ∧ w'.cell? ⟨gb253, 1, none⟩ = some (.slice Ao113 x254001_18.length co113)) (ds := []) #[false, false, false, false, false, false, false, false, false, false, false, false, false] (by kernel_rfl) rfl rfl ⟨(blk_cell BK253.out 0).trans rfl, (blk_cell BK253.out 1).trans rfl⟩ (fun hHeld => ?_); refine with_tabW rowlocklaw08_SlotsPlays.tab26 rowlocklaw08_SlotsPlays.bits26 (fun HT_ HW_ => ?_)
            generalize wc.drew = w112 at HO_7 HO_254001 BK253 HB hHeld ⊢
            refine pure_ (i := 0) (N := some 109) (v := ?_) (a' := ?_) #[true, false, false, false, false, false, false, false, false, false, false, false, false] rfl rfl (any_of HT_.out (by kernel_rfl)) (fun _ _ _ h => h) (Or.inl ⟨by rfl, ?_⟩) ?_ ?_
            rotate_left
            ·intro w'
             go_simp
             with_reducible rfl
            rotate_left
            ·simp only [Act.put, List.setIfInBounds_toArray, List.set_cons_zero, List.set_cons_succ, i64_w, i32_w]
             rfl
            refine pure_ (i := 2) (N := some 111) (v := ?_) (a' := ?_) #[true, false, true, false, false, false, false, false, false, false, false, false, false] rfl rfl (any_of HT_.out (by kernel_rfl)) (fun _ _ _ h => h) (Or.inl ⟨by rfl, ?_⟩) ?_ ?_
            rotate_left
            ·intro w'
             go_simp
             with_reducible rfl
            rotate_left
            ·simp only [Act.put, List.setIfInBounds_toArray, List.set_cons_zero, List.set_cons_succ, i64_w, i32_w]
             rfl
            refine take_ (i := 3) (N := some 112) (v := ?_) (a' := ?_) #[true, false, true, true, false, false, false, false, false, false, false, false, false] rfl rfl (take_ofW HT_.out HW_.out (by kernel_rfl)) (fun _ _ _ h => h) (Or.inl ⟨by rfl, ?_⟩) hHeld ?_ ?_
            rotate_left
            ·rintro w' ⟨s0, s1⟩
             go_simp
             with_reducible rfl
            rotate_left
            ·simp only [Act.put, List.setIfInBounds_toArray, List.set_cons_zero, List.set_cons_succ, i64_w, i32_w]
             rfl
            refine pure_ (i := 4) (N := some 113) (v := ?_) (a' := ?_) #[true, false, true, true, true, false, false, false, false, false, false, false, false] rfl rfl (any_of HT_.out (by kernel_rfl)) (fun _ _ _ h => h) (Or.inl ⟨by rfl, ?_⟩) ?_ ?_
            rotate_left
            ·intro w'
             go_simp
             with_reducible rfl
            rotate_left
            ·simp only [Act.put, List.setIfInBounds_toArray, List.set_cons_zero, List.set_cons_succ, i64_w, i32_w]
             rfl
            refine one_ (i := 1) (N := some 110) #[true, true, true, true, true, false, false, false, false, false, false, false, false] rfl rfl (one_of HT_.out (by kernel_rfl)) (by decide) (fun K hK => ?_)
            refine goes_ Try.func52 (by kernel_rfl) rfl #[.slice Ao114 x7_18.length co114] (by rfl) rfl rfl (by (try simp only [List.map_toArray, List.map_cons, List.map_nil]); first | done | rfl | (simp only [List.length_drop, List.length_take]; rfl)) ?_
            with_reducible refine (slots_Count.calls kj18 _ _ x7_18 t272 _ ?side1 ?side2 A95.out).mono ?_
            (case side1 => repeat (first | exact (Kd.R_reads' HO_7.out).2.2 | (with_reducible refine Kd.C_alloc ?_ _) | (with_reducible refine Kd.C_drewN ?_ _) | (with_reducible refine Kd.C_drew ?_)))
            (case side2 => exact (Kd.R_reads' HO_7.out).2.1)
            rintro e w115 ⟨rfl, hb⟩
            refine ⟨_, rfl, ?_⟩
            have n0_ := Aside0.mk (Kd.R_below (by (with_reducible repeat (first | apply Kd.R_alloc | apply Kd.R_drewN | apply Kd.R_drew)); exact HO_7.out) hb)
            have n1_ := Aside0.mk (Kd.R_below (by (with_reducible repeat (first | apply Kd.R_alloc | apply Kd.R_drewN | apply Kd.R_drew)); exact HO_254001.out) hb)
            have n2_ := Aside0.mk (blk_below (g := gb253) (o := .cells #[.int .u32 a0, .slice Ao113 x254001_18.length co113] 89 (0, 0)) (by (with_reducible repeat (first | refine blk_drewN ?_ _ | refine blk_drew ?_ | refine blk_alloc ?_ _)); exact BK253.out) hb)
            have n3_ := Aside0.mk (below_step (by repeat (first | (with_reducible first | exact HB.out | apply below_alloc | apply pw_below_drewN | apply below_drew1 | refine below_set ?_ GE253.out) | exact HB.out)) hb)
            clear HO_7
            clear HO_254001
            clear BK253
            clear HB
            have HO_7 := n0_
            have HO_254001 := n1_
            have BK253 := n2_
            have HB := n3_
            clear n0_ n1_ n2_ n3_
            (try clear hb)
            (try clear hb2)
            (try clear hk)
            (try clear hi)
            refine hK.out _ _ ⟨(blk_cell BK253.out 0).trans rfl, (blk_cell BK253.out 1).trans rfl⟩ (fun hHeld => ?_)
            clear hK K
            refine norm_ (a' := ?_) ?_ ?_
            rotate_left
            ·show Act.put _ (some 110) _ = _
             simp only [Act.put, List.setIfInBounds_toArray, List.set_cons_zero, List.set_cons_succ, i64_w, i32_w]
             rfl
            refine pure_ (i := 5) (N := some 114) (v := ?_) (a' := ?_) #[true, true, true, true, true, true, false, false, false, false, false, false, false] rfl rfl (any_of HT_.out (by kernel_rfl)) (fun _ _ _ h => h) (Or.inl ⟨by rfl, ?_⟩) ?_ ?_
            rotate_left
            ·intro w'
             go_simp
             with_reducible rfl
            rotate_left
            ·simp only [Act.put, List.setIfInBounds_toArray, List.set_cons_zero, List.set_cons_succ, i64_w, i32_w]
             rfl
            refine pure_ (i := 6) (N := some 115) (v := ?_) (a' := ?_) #[true, true, true, true, true, true, true, false, false, false, false, false, false] rfl rfl (any_of HT_.out (by kernel_rfl)) (fun _ _ _ h => h) (Or.inl ⟨by rfl, ?_⟩) ?_ ?_
            rotate_left
            ·intro w'
             go_simp
             with_reducible rfl
            rotate_left
            ·simp only [Act.put, List.setIfInBounds_toArray, List.set_cons_zero, List.set_cons_succ, i64_w, i32_w]
             rfl
            refine pure_ (i := 7) (N := some 116) (v := undef) (a' := ?_) #[true, true, true, true, true, true, true, true, false, false, false, false, false] rfl rfl (any_of HT_.out (by kernel_rfl)) (fun _ _ _ h => h) (Or.inr ⟨by rfl, rfl⟩) ?_ ?_
            rotate_left
            ·simp only [Act.put, List.setIfInBounds_toArray, List.set_cons_zero, List.set_cons_succ, i64_w, i32_w]
             rfl
            refine pure_ (i := 8) (N := some 117) (v := undef) (a' := ?_) #[true, true, true, true, true, true, true, true, true, false, false, false, false] rfl rfl (any_of HT_.out (by kernel_rfl)) (fun _ _ _ h => h) (Or.inr ⟨by rfl, rfl⟩) ?_ ?_
            rotate_left
            ·simp only [Act.put, List.setIfInBounds_toArray, List.set_cons_zero, List.set_cons_succ, i64_w, i32_w]
             rfl
            refine pure_ (i := 9) (N := some 118) (v := undef) (a' := ?_) #[true, true, true, true, true, true, true, true, true, true, false, false, false] rfl rfl (any_of HT_.out (by kernel_rfl)) (fun _ _ _ h => h) (Or.inr ⟨by rfl, rfl⟩) ?_ ?_
            rotate_left
            ·simp only [Act.put, List.setIfInBounds_toArray, List.set_cons_zero, List.set_cons_succ, i64_w, i32_w]
             rfl
            refine pure_ (i := 10) (N := some 119) (v := undef) (a' := ?_) #[true, true, true, true, true, true, true, true, true, true, true, false, false] rfl rfl (any_of HT_.out (by kernel_rfl)) (fun _ _ _ h => h) (Or.inr ⟨by rfl, rfl⟩) ?_ ?_
            rotate_left
            ·simp only [Act.put, List.setIfInBounds_toArray, List.set_cons_zero, List.set_cons_succ, i64_w, i32_w]
             rfl
            refine pure_ (i := 11) (N := some 120) (v := undef) (a' := ?_) #[true, true, true, true, true, true, true, true, true, true, true, true, false] rfl rfl (any_of HT_.out (by kernel_rfl)) (fun _ _ _ h => h) (Or.inr ⟨by rfl, rfl⟩) ?_ ?_
            rotate_left
            ·simp only [Act.put, List.setIfInBounds_toArray, List.set_cons_zero, List.set_cons_succ, i64_w, i32_w]
             rfl
            refine pure_ (i := 12) (N := some 121) (v := ?_) (a' := ?_) #[true, true, true, true, true, true, true, true, true, true, true, true, true] rfl rfl (any_of HT_.out (by kernel_rfl)) (fun _ _ _ h => h) (Or.inl ⟨by rfl, ?_⟩) ?_ ?_
            rotate_left
            ·intro w'
             go_simp
             with_reducible rfl
            rotate_left
            ·simp only [Act.put, List.setIfInBounds_toArray, List.set_cons_zero, List.set_cons_succ, i64_w, i32_w]
             rfl
            refine done_ (done_of HT_.out (by kernel_rfl)) ?_
            try go_wp2
            go_ret
            exact ⟨by first | rfl | (simp [errW_none, errW_some] <;> rfl) | (simp [*, errW_none, errW_some] <;> rfl), by repeat (first | (with_reducible first | exact HB.out | apply below_alloc | apply pw_below_drewN | apply below_drew1 | refine below_set ?_ GE253.out) | exact HB.out)⟩
        ·rw [if_neg c17] at H
         exact absurd H (by simp)
      ·rw [if_neg c13] at H
       exact absurd H (by simp)
     ·rw [if_neg c12] at H
      exact absurd H (by simp)
    ·rw [if_neg c11] at H
     have c11b0 : decide (x28_1 < (l2.length : Int)) = false := decide_eq_false c11
     clear c11
     replace H := Option.bind_eq_some_iff.mp H
     obtain ⟨⟨t275, t276⟩, A1160, H⟩ := H
     replace H : ((rowlocklaw08_fixed.f k1).bind fun t279 => (if t279 = true then (if t276 = 0 then ((rowlockref08_Page_Lay.f k1 a1 x254001_1).bind fun t280 => (if (strOfNums t275).toList = t280.toList then ((rowlocklaw08_same.f k1 t275 a1 x254001_1).bind fun t281 => (some t281)) else (some false))) else (some false)) else (some false))) = some r := H
     have A116 := Aside0.mk A1160
     clear A1160
     replace H := Option.bind_eq_some_iff.mp H
     obtain ⟨t279, A1170, H⟩ := H
     replace H : (if t279 = true then (if t276 = 0 then ((rowlockref08_Page_Lay.f k1 a1 x254001_1).bind fun t280 => (if (strOfNums t275).toList = t280.toList then ((rowlocklaw08_same.f k1 t275 a1 x254001_1).bind fun t281 => (some t281)) else (some false))) else (some false)) else (some false)) = some r := H
     have A117 := Aside0.mk A1170
     clear A1170
     by_cases c118 : t279 = true
     ·subst c118
      have H1 : (if t276 = 0 then ((rowlockref08_Page_Lay.f k1 a1 x254001_1).bind fun t280 => (if (strOfNums t275).toList = t280.toList then ((rowlocklaw08_same.f k1 t275 a1 x254001_1).bind fun t281 => (some t281)) else (some false))) else (some false)) = some r := by rw [if_pos rfl] at H; first | exact H | (refine Eq.trans ?_ H; simp)
      clear H
      have H := H1
      clear H1
      by_cases c119 : t276 = 0
      ·rw [if_pos c119] at H
       have c119b0 : (t276 == 0) = true := beq_iff_eq.mpr c119
       have c119b1 : (t276 != 0) = false := bne_eq_false_iff_eq.mpr c119
       clear c119
       replace H := Option.bind_eq_some_iff.mp H
       obtain ⟨t280, A1200, H⟩ := H
       replace H : (if (strOfNums t275).toList = t280.toList then ((rowlocklaw08_same.f k1 t275 a1 x254001_1).bind fun t281 => (some t281)) else (some false)) = some r := H
       have A120 := Aside0.mk A1200
       clear A1200
       by_cases c121 : (strOfNums t275).toList = t280.toList
       ·rw [if_pos c121] at H
        have c121b0 : ((strOfNums t275).toList == t280.toList) = true := beq_iff_eq.mpr c121
        have c121b1 : ((strOfNums t275).toList != t280.toList) = false := bne_eq_false_iff_eq.mpr c121
        clear c121
        replace H := Option.bind_eq_some_iff.mp H
        obtain ⟨t281, A1220, H⟩ := H
        replace H : (some t281) = some r := H
        have A122 := Aside0.mk A1220
        clear A1220
        obtain rfl := Option.some.inj H
        obtain ⟨Ao123, co123, eo123⟩ := Kd.R_slice HO_7.out
        subst eo123
        try go_wp2_with (first | ((with_reducible refine gate_callee (f := 54) rfl ?_); refine goesL_ (some 126) rfl rfl Try.func54 (by kernel_rfl) rfl #[.slice Ao123 x7_1.length co123, .int .u32 a1] rfl (by (try simp only [List.map_toArray, List.map_cons, List.map_nil]); first | done | rfl | (simp only [List.length_drop, List.length_take]; rfl)) ?_; (with_reducible refine (slots_Link.calls k1 _ _ x7_1 a1 t275 t276 _ ?side1 ?side2 A116.out).mono ?_); (case side1 => repeat (first | exact (Kd.R_reads' HO_7.out).2.2 | (with_reducible refine Kd.C_alloc ?_ _) | (with_reducible refine Kd.C_drewN ?_ _) | (with_reducible refine Kd.C_drew ?_))); (case side2 => exact (Kd.R_reads' HO_7.out).2.1); rintro e w124 ⟨v277, rfl, ho0, hb⟩; refine ⟨_, rfl, ?_⟩; have n0_ := Aside0.mk (Kd.R_elder' (by (with_reducible repeat (first | apply Kd.R_alloc | apply Kd.R_drewN | apply Kd.R_drew)); exact HO_7.out) (Kd.R_base ho0) hb); have n1_ := Aside0.mk (Kd.R_below (by (with_reducible repeat (first | apply Kd.R_alloc | apply Kd.R_drewN | apply Kd.R_drew)); exact HO_254001.out) hb); have n2_ := Aside0.mk (Kd.R_lower (Kd.R_new' ho0 (Kd.R_lt (by (with_reducible repeat (first | apply Kd.R_alloc | apply Kd.R_drewN | apply Kd.R_drew)); exact HO_7.out))) (below_size (by repeat (first | (with_reducible first | exact HB.out | apply below_alloc | apply pw_below_drewN | apply below_drew1 | refine below_set ?_ GE253.out) | exact HB.out)))); have n3_ := Aside0.mk (blk_below (g := gb253) (o := .cells #[.int .u32 a0, u254001] 89 (0, 0)) (by (with_reducible repeat (first | refine blk_drewN ?_ _ | refine blk_drew ?_ | refine blk_alloc ?_ _)); exact BK253.out) hb); have n4_ := Aside0.mk (below_step (by repeat (first | (with_reducible first | exact HB.out | apply below_alloc | apply pw_below_drewN | apply below_drew1 | refine below_set ?_ GE253.out) | exact HB.out)) hb); clear HO_7; clear HO_254001; clear BK253; clear HB; have HO_7 := n0_; have HO_254001 := n1_; have HO278 := n2_; have BK253 := n3_; have HB := n4_; clear n0_ n1_ n2_ n3_ n4_; (try clear hb); (try clear hb2); (try clear hk); (try clear hi); (try clear ho0); have hcz125_0 : w124.cell? ⟨gb253, 0, none⟩ = some (.int .u32 a0) := (blk_cell BK253.out 0).trans rfl; have hcz125_1 : w124.cell? ⟨gb253, 1, none⟩ = some (u254001) := (blk_cell BK253.out 1).trans rfl; have hfz125_0 := blk_frozen BK253.out 0; have hfz125_1 := blk_frozen BK253.out 1; obtain ⟨Ao126, co126, eo126⟩ := Kd.R_slice HO_254001.out; subst eo126; obtain ⟨Ao127, co127, eo127⟩ := Kd.R_slice HO278.out; subst eo127))
        have n0_ : Aside0 (Kd.R (Kd.int .u8) 5 (w124.setCell ⟨gb253, 0, none⟩ (.int .u32 a1)) w.heap.size (fun k_ => some k_ ≠ (.slice Ao127 t275.length co127 : Value).ownBlock) (.slice Ao123 x7_1.length co123) x7_1) := ⟨by (with_reducible repeat (first | apply Kd.R_alloc | apply Kd.R_drewN | apply Kd.R_drew)); exact Kd.R_mono (Kd.R_far (p := ⟨gb253, 0, none⟩) (Kd.R_types HO_7.out BK253.out (by decide)) (fun _ hk => hk.2) (.int .u32 a1)) (fun _ hk => hk.1.2)⟩
        have n1_ : Aside0 (Kd.R Kd.string 9 (w124.setCell ⟨gb253, 0, none⟩ (.int .u32 a1)) w.heap.size (fun _ => True) (.slice Ao126 x254001_1.length co126) x254001_1) := ⟨by (with_reducible repeat (first | apply Kd.R_alloc | apply Kd.R_drewN | apply Kd.R_drew)); exact Kd.R_mono (Kd.R_far (p := ⟨gb253, 0, none⟩) (Kd.R_types HO_254001.out BK253.out (by decide)) (fun _ hk => hk.2) (.int .u32 a1)) (fun _ hk => trivial)⟩
        have n2_ : Aside0 (Kd.R (Kd.int .u8) 5 (w124.setCell ⟨gb253, 0, none⟩ (.int .u32 a1)) w.heap.size (fun k_ => some k_ ≠ (.slice Ao123 x7_1.length co123 : Value).ownBlock) (.slice Ao127 t275.length co127) t275) := ⟨by (with_reducible repeat (first | apply Kd.R_alloc | apply Kd.R_drewN | apply Kd.R_drew)); exact Kd.R_mono (Kd.R_far (p := ⟨gb253, 0, none⟩) (Kd.R_types HO278.out BK253.out (by decide)) (fun _ hk => hk.2) (.int .u32 a1)) (fun _ hk => hk.1.2)⟩
        have n3_ : Aside0 ((w124.setCell ⟨gb253, 0, none⟩ (.int .u32 a1)).heap[gb253]? = some (.cells #[.int .u32 a1, .slice Ao126 x254001_1.length co126] 89 (0, 0))) := ⟨by (with_reducible repeat (first | refine blk_drewN ?_ _ | refine blk_drew ?_ | refine blk_alloc ?_ _)); refine blk_put (cs := #[.int .u32 a0, .slice Ao126 x254001_1.length co126]) ?_ 0 _ rfl; (with_reducible repeat (first | refine blk_drewN ?_ _ | refine blk_drew ?_ | refine blk_alloc ?_ _)); exact BK253.out⟩
        have n4_ : Aside0 (Below w.heap.size w (w124.setCell ⟨gb253, 0, none⟩ (.int .u32 a1))) := ⟨by repeat (first | (with_reducible first | exact HB.out | apply below_alloc | apply pw_below_drewN | apply below_drew1 | refine below_set ?_ GE253.out) | exact HB.out)⟩
        (try clear HO_7)
        (try clear HO_254001)
        (try clear HO278)
        (try clear BK253)
        (try clear HB)
        generalize (w124.setCell ⟨gb253, 0, none⟩ (.int .u32 a1)) = w128 at n0_ n1_ n2_ n3_ n4_ ⊢
        have HO_7 := n0_
        have HO_254001 := n1_
        have HO278 := n2_
        have BK253 := n3_
        have HB := n4_
        clear n0_ n1_ n2_ n3_ n4_
        have n0_ := Aside0.mk (Kd.R_drew HO_7.out)
        have n1_ := Aside0.mk (Kd.R_drew HO_254001.out)
        have n2_ := Aside0.mk (Kd.R_drew HO278.out)
        have n3_ := Aside0.mk (blk_drew BK253.out)
        have n4_ := Aside0.mk (below_drew1 HB.out)
        clear HO_7
        clear HO_254001
        clear HO278
        clear BK253
        clear HB
        have HO_7 := n0_
        have HO_254001 := n1_
        have HO278 := n2_
        have BK253 := n3_
        have HB := n4_
        clear n0_ n1_ n2_ n3_ n4_
        refine start_ (n := 18) (S := fun w' => w'.cell? ⟨gb253, 0, none⟩ = some (.int .u32 a1) ∧ w'.cell? ⟨gb253, 1, none⟩ = some (.slice Ao126 x254001_1.length co126) ∧ (convert 26 9 (.slice Ao127 t275.length co127)).run Try.prog w' = .ok (.string (strOfNums t275)) w') (ds := []) #[false, false, false, false, false, false, false, false, false, false, false, false, false, false, false, false, false, false] (by kernel_rfl) rfl rfl ⟨(blk_cell BK253.out 0).trans rfl, (blk_cell BK253.out 1).trans rfl, own_string (P := Try.prog) Try.underlying26 Try.underlying5 Try.underlying9 (Kd.own_of_R HO278.out)⟩ (fun hHeld => ?_); refine with_tabW rowlocklaw08_SlotsPlays.tab31 rowlocklaw08_SlotsPlays.bits31 (fun HT_ HW_ => ?_)
        generalize w128.drew = w129 at HO_7 HO_254001 HO278 BK253 HB hHeld ⊢
        refine one_ (i := 0) (N := some 131) #[true, false, false, false, false, false, false, false, false, false, false, false, false, false, false, false, false, false] rfl rfl (one_of HT_.out (by kernel_rfl)) (by decide) (fun K hK => ?_)
        refine goes_ Try.func47 (by kernel_rfl) rfl #[] (by rfl) rfl rfl (by (try simp only [List.map_toArray, List.map_cons, List.map_nil]); first | done | rfl | (simp only [List.length_drop, List.length_take]; rfl)) ?_
        with_reducible refine (rowlocklaw08_fixed.calls k1  true _ A117.out).mono ?_
        rintro e w130 ⟨rfl, hb⟩
        refine ⟨_, rfl, ?_⟩
        have n0_ := Aside0.mk (Kd.R_below (by (with_reducible repeat (first | apply Kd.R_alloc | apply Kd.R_drewN | apply Kd.R_drew)); exact HO_7.out) hb)
        have n1_ := Aside0.mk (Kd.R_below (by (with_reducible repeat (first | apply Kd.R_alloc | apply Kd.R_drewN | apply Kd.R_drew)); exact HO_254001.out) hb)
        have n2_ := Aside0.mk (Kd.R_below (by (with_reducible repeat (first | apply Kd.R_alloc | apply Kd.R_drewN | apply Kd.R_drew)); exact HO278.out) hb)
        have n3_ := Aside0.mk (blk_below (g := gb253) (o := .cells #[.int .u32 a1, .slice Ao126 x254001_1.length co126] 89 (0, 0)) (by (with_reducible repeat (first | refine blk_drewN ?_ _ | refine blk_drew ?_ | refine blk_alloc ?_ _)); exact BK253.out) hb)
        have n4_ := Aside0.mk (below_step (by repeat (first | (with_reducible first | exact HB.out | apply below_alloc | apply pw_below_drewN | apply below_drew1 | refine below_set ?_ GE253.out) | exact HB.out)) hb)
        clear HO_7
        clear HO_254001
        clear HO278
        clear BK253
        clear HB
        have HO_7 := n0_
        have HO_254001 := n1_
        have HO278 := n2_
        have BK253 := n3_
        have HB := n4_
        clear n0_ n1_ n2_ n3_ n4_
        (try clear hb)
        (try clear hb2)
        (try clear hk)
        (try clear hi)
        have hcv131 := own_string (P := Try.prog) Try.underlying26 Try.underlying5 Try.underlying9 (Kd.own_of_R HO278.out)
        refine hK.out _ _ ⟨(blk_cell BK253.out 0).trans rfl, (blk_cell BK253.out 1).trans rfl, own_string (P := Try.prog) Try.underlying26 Try.underlying5 Try.underlying9 (Kd.own_of_R HO278.out)⟩ (fun hHeld => ?_)
        clear hK K
        refine norm_ (a' := ?_) ?_ ?_
        rotate_left
        ·show Act.put _ (some 131) _ = _
         simp only [Act.put, List.setIfInBounds_toArray, List.set_cons_zero, List.set_cons_succ, i64_w, i32_w]
         rfl
        refine pure_ (i := 1) (N := some 132) (v := ?_) (a' := ?_) #[true, true, false, false, false, false, false, false, false, false, false, false, false, false, false, false, false, false] rfl rfl (any_of HT_.out (by kernel_rfl)) (fun _ _ _ h => h) (Or.inl ⟨by rfl, ?_⟩) ?_ ?_
        rotate_left
        ·intro w'
         go_simp
         with_reducible rfl
        rotate_left
        ·simp only [Act.put, List.setIfInBounds_toArray, List.set_cons_zero, List.set_cons_succ, i64_w, i32_w]
         rfl
        refine pure_ (i := 2) (N := some 133) (v := ?_) (a' := ?_) #[true, true, true, false, false, false, false, false, false, false, false, false, false, false, false, false, false, false] rfl rfl (any_of HT_.out (by kernel_rfl)) (fun _ _ _ h => h) (Or.inl ⟨by rfl, ?_⟩) ?_ ?_
        rotate_left
        ·intro w'
         go_simp
         with_reducible rfl
        rotate_left
        ·simp only [Act.put, List.setIfInBounds_toArray, List.set_cons_zero, List.set_cons_succ, i64_w, i32_w]
         rfl
        refine pure_ (i := 3) (N := some 134) (v := ?_) (a' := ?_) #[true, true, true, true, false, false, false, false, false, false, false, false, false, false, false, false, false, false] rfl rfl (any_of HT_.out (by kernel_rfl)) (fun _ _ _ h => h) (Or.inl ⟨by rfl, ?_⟩) ?_ ?_
        rotate_left
        ·intro w'
         go_simp
         with_reducible rfl
        rotate_left
        ·simp only [Act.put, List.setIfInBounds_toArray, List.set_cons_zero, List.set_cons_succ, i64_w, i32_w]
         rfl
        refine pure_ (i := 4) (N := some 135) (v := ?_) (a' := ?_) #[true, true, true, true, true, false, false, false, false, false, false, false, false, false, false, false, false, false] rfl rfl (any_of HT_.out (by kernel_rfl)) (fun _ _ _ h => h) (Or.inl ⟨by rfl, ?_⟩) ?_ ?_
        rotate_left
        ·intro w'
         go_simp
         with_reducible rfl
        rotate_left
        ·simp only [Act.put, List.setIfInBounds_toArray, List.set_cons_zero, List.set_cons_succ, i64_w, i32_w]
         rfl
        refine pure_ (i := 5) (N := some 136) (v := ?_) (a' := ?_) #[true, true, true, true, true, true, false, false, false, false, false, false, false, false, false, false, false, false] rfl rfl (any_of HT_.out (by kernel_rfl)) (fun _ _ _ h => h) (Or.inl ⟨by rfl, ?_⟩) ?_ ?_
        rotate_left
        ·intro w'
         go_simp
         with_reducible rfl
        rotate_left
        ·simp only [Act.put, List.setIfInBounds_toArray, List.set_cons_zero, List.set_cons_succ, i64_w, i32_w]
         rfl
        refine pure_ (i := 6) (N := some 137) (v := ?_) (a' := ?_) #[true, true, true, true, true, true, true, false, false, false, false, false, false, false, false, false, false, false] rfl rfl (any_of HT_.out (by kernel_rfl)) (fun _ _ _ h => h) (Or.inl ⟨by rfl, ?_⟩) ?_ ?_
        rotate_left
        ·intro w'
         go_simp
         with_reducible rfl
        rotate_left
        ·simp only [Act.put, List.setIfInBounds_toArray, List.set_cons_zero, List.set_cons_succ, i64_w, i32_w]
         rfl
        refine take_ (i := 7) (N := some 138) (v := ?_) (a' := ?_) #[true, true, true, true, true, true, true, true, false, false, false, false, false, false, false, false, false, false] rfl rfl (take_ofW HT_.out HW_.out (by kernel_rfl)) (fun _ _ _ h => h) (Or.inl ⟨by rfl, ?_⟩) hHeld ?_ ?_
        rotate_left
        ·rintro w' ⟨s0, s1, s2⟩
         go_simp
         with_reducible rfl
        rotate_left
        ·simp only [Act.put, List.setIfInBounds_toArray, List.set_cons_zero, List.set_cons_succ, i64_w, i32_w]
         rfl
        refine take_ (i := 8) (N := some 139) (v := ?_) (a' := ?_) #[true, true, true, true, true, true, true, true, true, false, false, false, false, false, false, false, false, false] rfl rfl (take_ofW HT_.out HW_.out (by kernel_rfl)) (fun _ _ _ h => h) (Or.inl ⟨by rfl, ?_⟩) hHeld ?_ ?_
        rotate_left
        ·rintro w' ⟨s0, s1, s2⟩
         go_simp
         with_reducible rfl
        rotate_left
        ·simp only [Act.put, List.setIfInBounds_toArray, List.set_cons_zero, List.set_cons_succ, i64_w, i32_w]
         rfl
        refine one_ (i := 9) (N := some 140) #[true, true, true, true, true, true, true, true, true, true, false, false, false, false, false, false, false, false] rfl rfl (one_of HT_.out (by kernel_rfl)) (by decide) (fun K hK => ?_)
        refine goes_ Try.func51 (by kernel_rfl) rfl #[.agg #[.int .u32 a1, .slice Ao126 x254001_1.length co126]] (by rfl) rfl rfl (by (try simp only [List.map_toArray, List.map_cons, List.map_nil]); first | done | rfl | (simp only [List.length_drop, List.length_take]; rfl)) ?_
        with_reducible refine (rowlockref08_Page_Lay.calls k1 a1 _ _ x254001_1 t280 _ ?side1 ?side2 A120.out).mono ?_
        (case side1 => repeat (first | exact (Kd.R_reads' HO_254001.out).2.2 | (with_reducible refine Kd.C_alloc ?_ _) | (with_reducible refine Kd.C_drewN ?_ _) | (with_reducible refine Kd.C_drew ?_)))
        (case side2 => exact (Kd.R_reads' HO_254001.out).2.1)
        rintro e w132 ⟨rfl, hb⟩
        refine ⟨_, rfl, ?_⟩
        have n0_ := Aside0.mk (Kd.R_below (by (with_reducible repeat (first | apply Kd.R_alloc | apply Kd.R_drewN | apply Kd.R_drew)); exact HO_7.out) hb)
        have n1_ := Aside0.mk (Kd.R_below (by (with_reducible repeat (first | apply Kd.R_alloc | apply Kd.R_drewN | apply Kd.R_drew)); exact HO_254001.out) hb)
        have n2_ := Aside0.mk (Kd.R_below (by (with_reducible repeat (first | apply Kd.R_alloc | apply Kd.R_drewN | apply Kd.R_drew)); exact HO278.out) hb)
        have n3_ := Aside0.mk (blk_below (g := gb253) (o := .cells #[.int .u32 a1, .slice Ao126 x254001_1.length co126] 89 (0, 0)) (by (with_reducible repeat (first | refine blk_drewN ?_ _ | refine blk_drew ?_ | refine blk_alloc ?_ _)); exact BK253.out) hb)
        have n4_ := Aside0.mk (below_step (by repeat (first | (with_reducible first | exact HB.out | apply below_alloc | apply pw_below_drewN | apply below_drew1 | refine below_set ?_ GE253.out) | exact HB.out)) hb)
        clear HO_7
        clear HO_254001
        clear HO278
        clear BK253
        clear HB
        have HO_7 := n0_
        have HO_254001 := n1_
        have HO278 := n2_
        have BK253 := n3_
        have HB := n4_
        clear n0_ n1_ n2_ n3_ n4_
        (try clear hb)
        (try clear hb2)
        (try clear hk)
        (try clear hi)
        refine hK.out _ _ ⟨(blk_cell BK253.out 0).trans rfl, (blk_cell BK253.out 1).trans rfl, own_string (P := Try.prog) Try.underlying26 Try.underlying5 Try.underlying9 (Kd.own_of_R HO278.out)⟩ (fun hHeld => ?_)
        clear hK K
        refine norm_ (a' := ?_) ?_ ?_
        rotate_left
        ·show Act.put _ (some 140) _ = _
         simp only [Act.put, List.setIfInBounds_toArray, List.set_cons_zero, List.set_cons_succ, i64_w, i32_w]
         rfl
        refine pure_ (i := 10) (N := some 141) (v := ?_) (a' := ?_) #[true, true, true, true, true, true, true, true, true, true, true, false, false, false, false, false, false, false] rfl rfl (any_of HT_.out (by kernel_rfl)) (fun _ _ _ h => h) (Or.inl ⟨by rfl, ?_⟩) ?_ ?_
        rotate_left
        ·intro w'
         go_simp
         with_reducible rfl
        rotate_left
        ·simp only [Act.put, List.setIfInBounds_toArray, List.set_cons_zero, List.set_cons_succ, i64_w, i32_w]
         rfl
        refine pure_ (i := 11) (N := some 142) (v := ?_) (a' := ?_) #[true, true, true, true, true, true, true, true, true, true, true, true, false, false, false, false, false, false] rfl rfl (any_of HT_.out (by kernel_rfl)) (fun _ _ _ h => h) (Or.inl ⟨by rfl, ?_⟩) ?_ ?_
        rotate_left
        ·intro w'
         go_simp
         with_reducible rfl
        rotate_left
        ·simp only [Act.put, List.setIfInBounds_toArray, List.set_cons_zero, List.set_cons_succ, i64_w, i32_w]
         rfl
        refine pure_ (i := 12) (N := some 143) (v := ?_) (a' := ?_) #[true, true, true, true, true, true, true, true, true, true, true, true, true, false, false, false, false, false] rfl rfl (any_of HT_.out (by kernel_rfl)) (fun _ _ _ h => h) (Or.inl ⟨by rfl, ?_⟩) ?_ ?_
        rotate_left
        ·intro w'
         go_simp
         with_reducible rfl
        rotate_left
        ·simp only [Act.put, List.setIfInBounds_toArray, List.set_cons_zero, List.set_cons_succ, i64_w, i32_w]
         rfl
        refine pure_ (i := 13) (N := some 144) (v := ?_) (a' := ?_) #[true, true, true, true, true, true, true, true, true, true, true, true, true, true, false, false, false, false] rfl rfl (any_of HT_.out (by kernel_rfl)) (fun _ _ _ h => h) (Or.inl ⟨by rfl, ?_⟩) ?_ ?_
        rotate_left
        ·intro w'
         go_simp
         with_reducible rfl
        rotate_left
        ·simp only [Act.put, List.setIfInBounds_toArray, List.set_cons_zero, List.set_cons_succ, i64_w, i32_w]
         rfl
        refine take_ (i := 14) (N := some 145) (v := ?_) (a' := ?_) #[true, true, true, true, true, true, true, true, true, true, true, true, true, true, true, false, false, false] rfl rfl (take_ofW HT_.out HW_.out (by kernel_rfl)) (fun _ _ _ h => h) (Or.inl ⟨by rfl, ?_⟩) hHeld ?_ ?_
        rotate_left
        ·rintro w' ⟨s0, s1, s2⟩
         go_simp
         with_reducible rfl
        rotate_left
        ·simp only [Act.put, List.setIfInBounds_toArray, List.set_cons_zero, List.set_cons_succ, i64_w, i32_w]
         rfl
        refine one_ (i := 15) (N := some 146) #[true, true, true, true, true, true, true, true, true, true, true, true, true, true, true, true, false, false] rfl rfl (one_of HT_.out (by kernel_rfl)) (by decide) (fun K hK => ?_)
        refine goes_ Try.func55 (by kernel_rfl) rfl #[.slice Ao127 t275.length co127, .agg #[.int .u32 a1, .slice Ao126 x254001_1.length co126]] (by rfl) rfl rfl (by (try simp only [List.map_toArray, List.map_cons, List.map_nil]); first | done | rfl | (simp only [List.length_drop, List.length_take]; rfl)) ?_
        with_reducible refine (rowlocklaw08_same.calls k1 _ _ t275 a1 _ _ x254001_1 t281 _ ?side1 ?side2 ?side3 ?side4 A122.out).mono ?_
        (case side1 => repeat (first | exact (Kd.R_reads' HO278.out).2.2 | (with_reducible refine Kd.C_alloc ?_ _) | (with_reducible refine Kd.C_drewN ?_ _) | (with_reducible refine Kd.C_drew ?_)))
        (case side2 => exact (Kd.R_reads' HO278.out).2.1)
        (case side3 => repeat (first | exact (Kd.R_reads' HO_254001.out).2.2 | (with_reducible refine Kd.C_alloc ?_ _) | (with_reducible refine Kd.C_drewN ?_ _) | (with_reducible refine Kd.C_drew ?_)))
        (case side4 => exact (Kd.R_reads' HO_254001.out).2.1)
        rintro e w134 ⟨rfl, hb⟩
        refine ⟨_, rfl, ?_⟩
        have n0_ := Aside0.mk (Kd.R_below (by (with_reducible repeat (first | apply Kd.R_alloc | apply Kd.R_drewN | apply Kd.R_drew)); exact HO_7.out) hb)
        have n1_ := Aside0.mk (Kd.R_below (by (with_reducible repeat (first | apply Kd.R_alloc | apply Kd.R_drewN | apply Kd.R_drew)); exact HO_254001.out) hb)
        have n2_ := Aside0.mk (Kd.R_below (by (with_reducible repeat (first | apply Kd.R_alloc | apply Kd.R_drewN | apply Kd.R_drew)); exact HO278.out) hb)
        have n3_ := Aside0.mk (blk_below (g := gb253) (o := .cells #[.int .u32 a1, .slice Ao126 x254001_1.length co126] 89 (0, 0)) (by (with_reducible repeat (first | refine blk_drewN ?_ _ | refine blk_drew ?_ | refine blk_alloc ?_ _)); exact BK253.out) hb)
        have n4_ := Aside0.mk (below_step (by repeat (first | (with_reducible first | exact HB.out | apply below_alloc | apply pw_below_drewN | apply below_drew1 | refine below_set ?_ GE253.out) | exact HB.out)) hb)
        clear HO_7
        clear HO_254001
        clear HO278
        clear BK253
        clear HB
        have HO_7 := n0_
        have HO_254001 := n1_
        have HO278 := n2_
        have BK253 := n3_
        have HB := n4_
        clear n0_ n1_ n2_ n3_ n4_
        (try clear hb)
        (try clear hb2)
        (try clear hk)
        (try clear hi)
        refine hK.out _ _ ⟨(blk_cell BK253.out 0).trans rfl, (blk_cell BK253.out 1).trans rfl, own_string (P := Try.prog) Try.underlying26 Try.underlying5 Try.underlying9 (Kd.own_of_R HO278.out)⟩ (fun hHeld => ?_)
        clear hK K
        refine norm_ (a' := ?_) ?_ ?_
        rotate_left
        ·show Act.put _ (some 146) _ = _
         simp only [Act.put, List.setIfInBounds_toArray, List.set_cons_zero, List.set_cons_succ, i64_w, i32_w]
         rfl
        refine pure_ (i := 16) (N := some 147) (v := ?_) (a' := ?_) #[true, true, true, true, true, true, true, true, true, true, true, true, true, true, true, true, true, false] rfl rfl (any_of HT_.out (by kernel_rfl)) (fun _ _ _ h => h) (Or.inl ⟨by rfl, ?_⟩) ?_ ?_
        rotate_left
        ·intro w'
         go_simp
         with_reducible rfl
        rotate_left
        ·simp only [Act.put, List.setIfInBounds_toArray, List.set_cons_zero, List.set_cons_succ, i64_w, i32_w]
         rfl
        refine pure_ (i := 17) (N := some 6) (v := ?_) (a' := ?_) #[true, true, true, true, true, true, true, true, true, true, true, true, true, true, true, true, true, true] rfl rfl (any_of HT_.out (by kernel_rfl)) (fun _ _ _ h => h) (Or.inl ⟨by rfl, ?_⟩) ?_ ?_
        rotate_left
        ·intro w'
         go_simp
         with_reducible rfl
        rotate_left
        ·simp only [Act.put, List.setIfInBounds_toArray, List.set_cons_zero, List.set_cons_succ, i64_w, i32_w]
         rfl
        refine done_ (done_of HT_.out (by kernel_rfl)) ?_
        try go_wp2
        go_ret
        exact ⟨by first | rfl | (simp [errW_none, errW_some] <;> rfl) | (simp [*, errW_none, errW_some] <;> rfl), by repeat (first | (with_reducible first | exact HB.out | apply below_alloc | apply pw_below_drewN | apply below_drew1 | refine below_set ?_ GE253.out) | exact HB.out)⟩
       ·rw [if_neg c121] at H
        have c121b0 : ((strOfNums t275).toList == t280.toList) = false := beq_eq_false_iff_ne.mpr c121
        have c121b1 : ((strOfNums t275).toList != t280.toList) = true := bne_iff_ne.mpr c121
        obtain rfl := Option.some.inj H
        obtain ⟨Ao135, co135, eo135⟩ := Kd.R_slice HO_7.out
        subst eo135
        try go_wp2_with (first | ((with_reducible refine gate_callee (f := 54) rfl ?_); refine goesL_ (some 126) rfl rfl Try.func54 (by kernel_rfl) rfl #[.slice Ao135 x7_1.length co135, .int .u32 a1] rfl (by (try simp only [List.map_toArray, List.map_cons, List.map_nil]); first | done | rfl | (simp only [List.length_drop, List.length_take]; rfl)) ?_; (with_reducible refine (slots_Link.calls k1 _ _ x7_1 a1 t275 t276 _ ?side1 ?side2 A116.out).mono ?_); (case side1 => repeat (first | exact (Kd.R_reads' HO_7.out).2.2 | (with_reducible refine Kd.C_alloc ?_ _) | (with_reducible refine Kd.C_drewN ?_ _) | (with_reducible refine Kd.C_drew ?_))); (case side2 => exact (Kd.R_reads' HO_7.out).2.1); rintro e w136 ⟨v277, rfl, ho0, hb⟩; refine ⟨_, rfl, ?_⟩; have n0_ := Aside0.mk (Kd.R_elder' (by (with_reducible repeat (first | apply Kd.R_alloc | apply Kd.R_drewN | apply Kd.R_drew)); exact HO_7.out) (Kd.R_base ho0) hb); have n1_ := Aside0.mk (Kd.R_below (by (with_reducible repeat (first | apply Kd.R_alloc | apply Kd.R_drewN | apply Kd.R_drew)); exact HO_254001.out) hb); have n2_ := Aside0.mk (Kd.R_lower (Kd.R_new' ho0 (Kd.R_lt (by (with_reducible repeat (first | apply Kd.R_alloc | apply Kd.R_drewN | apply Kd.R_drew)); exact HO_7.out))) (below_size (by repeat (first | (with_reducible first | exact HB.out | apply below_alloc | apply pw_below_drewN | apply below_drew1 | refine below_set ?_ GE253.out) | exact HB.out)))); have n3_ := Aside0.mk (blk_below (g := gb253) (o := .cells #[.int .u32 a0, u254001] 89 (0, 0)) (by (with_reducible repeat (first | refine blk_drewN ?_ _ | refine blk_drew ?_ | refine blk_alloc ?_ _)); exact BK253.out) hb); have n4_ := Aside0.mk (below_step (by repeat (first | (with_reducible first | exact HB.out | apply below_alloc | apply pw_below_drewN | apply below_drew1 | refine below_set ?_ GE253.out) | exact HB.out)) hb); clear HO_7; clear HO_254001; clear BK253; clear HB; have HO_7 := n0_; have HO_254001 := n1_; have HO278 := n2_; have BK253 := n3_; have HB := n4_; clear n0_ n1_ n2_ n3_ n4_; (try clear hb); (try clear hb2); (try clear hk); (try clear hi); (try clear ho0); have hcz137_0 : w136.cell? ⟨gb253, 0, none⟩ = some (.int .u32 a0) := (blk_cell BK253.out 0).trans rfl; have hcz137_1 : w136.cell? ⟨gb253, 1, none⟩ = some (u254001) := (blk_cell BK253.out 1).trans rfl; have hfz137_0 := blk_frozen BK253.out 0; have hfz137_1 := blk_frozen BK253.out 1; obtain ⟨Ao138, co138, eo138⟩ := Kd.R_slice HO_254001.out; subst eo138))
        have n0_ : Aside0 (Kd.R (Kd.int .u8) 5 (w136.setCell ⟨gb253, 0, none⟩ (.int .u32 a1)) w.heap.size (fun k_ => some k_ ≠ (v277 : Value).ownBlock) (.slice Ao135 x7_1.length co135) x7_1) := ⟨by (with_reducible repeat (first | apply Kd.R_alloc | apply Kd.R_drewN | apply Kd.R_drew)); exact Kd.R_mono (Kd.R_far (p := ⟨gb253, 0, none⟩) (Kd.R_types HO_7.out BK253.out (by decide)) (fun _ hk => hk.2) (.int .u32 a1)) (fun _ hk => hk.1.2)⟩
        have n1_ : Aside0 (Kd.R Kd.string 9 (w136.setCell ⟨gb253, 0, none⟩ (.int .u32 a1)) w.heap.size (fun _ => True) (.slice Ao138 x254001_1.length co138) x254001_1) := ⟨by (with_reducible repeat (first | apply Kd.R_alloc | apply Kd.R_drewN | apply Kd.R_drew)); exact Kd.R_mono (Kd.R_far (p := ⟨gb253, 0, none⟩) (Kd.R_types HO_254001.out BK253.out (by decide)) (fun _ hk => hk.2) (.int .u32 a1)) (fun _ hk => trivial)⟩
        have n2_ : Aside0 (Kd.R (Kd.int .u8) 5 (w136.setCell ⟨gb253, 0, none⟩ (.int .u32 a1)) w.heap.size (fun k_ => some k_ ≠ (.slice Ao135 x7_1.length co135 : Value).ownBlock) v277 t275) := ⟨by (with_reducible repeat (first | apply Kd.R_alloc | apply Kd.R_drewN | apply Kd.R_drew)); exact Kd.R_mono (Kd.R_far (p := ⟨gb253, 0, none⟩) (Kd.R_types HO278.out BK253.out (by decide)) (fun _ hk => hk.2) (.int .u32 a1)) (fun _ hk => hk.1.2)⟩
        have n3_ : Aside0 ((w136.setCell ⟨gb253, 0, none⟩ (.int .u32 a1)).heap[gb253]? = some (.cells #[.int .u32 a1, .slice Ao138 x254001_1.length co138] 89 (0, 0))) := ⟨by (with_reducible repeat (first | refine blk_drewN ?_ _ | refine blk_drew ?_ | refine blk_alloc ?_ _)); refine blk_put (cs := #[.int .u32 a0, .slice Ao138 x254001_1.length co138]) ?_ 0 _ rfl; (with_reducible repeat (first | refine blk_drewN ?_ _ | refine blk_drew ?_ | refine blk_alloc ?_ _)); exact BK253.out⟩
        have n4_ : Aside0 (Below w.heap.size w (w136.setCell ⟨gb253, 0, none⟩ (.int .u32 a1))) := ⟨by repeat (first | (with_reducible first | exact HB.out | apply below_alloc | apply pw_below_drewN | apply below_drew1 | refine below_set ?_ GE253.out) | exact HB.out)⟩
        (try clear HO_7)
        (try clear HO_254001)
        (try clear HO278)
        (try clear BK253)
        (try clear HB)
        generalize (w136.setCell ⟨gb253, 0, none⟩ (.int .u32 a1)) = w139 at n0_ n1_ n2_ n3_ n4_ ⊢
        have HO_7 := n0_
        have HO_254001 := n1_
        have HO278 := n2_
        have BK253 := n3_
        have HB := n4_
        clear n0_ n1_ n2_ n3_ n4_
        have n0_ := Aside0.mk (Kd.R_drew HO_7.out)
        have n1_ := Aside0.mk (Kd.R_drew HO_254001.out)
        have n2_ := Aside0.mk (Kd.R_drew HO278.out)
        have n3_ := Aside0.mk (blk_drew BK253.out)
        have n4_ := Aside0.mk (below_drew1 HB.out)
        clear HO_7
        clear HO_254001
        clear HO278
        clear BK253
        clear HB
        have HO_7 := n0_
        have HO_254001 := n1_
        have HO278 := n2_
        have BK253 := n3_
        have HB := n4_
        clear n0_ n1_ n2_ n3_ n4_
        refine start_ (n := 18) (S := fun w' => w'.cell? ⟨gb253, 0, none⟩ = some (.int .u32 a1) ∧ w'.cell? ⟨gb253, 1, none⟩ = some (.slice Ao138 x254001_1.length co138) ∧ (convert 26 9 (v277)).run Try.prog w' = .ok (.string (strOfNums t275)) w') (ds := []) #[false, false, false, false, false, false, false, false, false, false, false, false, false, false, false, false, false, false] (by kernel_rfl) rfl rfl ⟨(blk_cell BK253.out 0).trans rfl, (blk_cell BK253.out 1).trans rfl, own_string (P := Try.prog) Try.underlying26 Try.underlying5 Try.underlying9 (Kd.own_of_R HO278.out)⟩ (fun hHeld => ?_); refine with_tabW rowlocklaw08_SlotsPlays.tab31 rowlocklaw08_SlotsPlays.bits31 (fun HT_ HW_ => ?_)
        generalize w139.drew = w140 at HO_7 HO_254001 HO278 BK253 HB hHeld ⊢
        refine one_ (i := 0) (N := some 131) #[true, false, false, false, false, false, false, false, false, false, false, false, false, false, false, false, false, false] rfl rfl (one_of HT_.out (by kernel_rfl)) (by decide) (fun K hK => ?_)
        refine goes_ Try.func47 (by kernel_rfl) rfl #[] (by rfl) rfl rfl (by (try simp only [List.map_toArray, List.map_cons, List.map_nil]); first | done | rfl | (simp only [List.length_drop, List.length_take]; rfl)) ?_
        with_reducible refine (rowlocklaw08_fixed.calls k1  true _ A117.out).mono ?_
        rintro e w141 ⟨rfl, hb⟩
        refine ⟨_, rfl, ?_⟩
        have n0_ := Aside0.mk (Kd.R_below (by (with_reducible repeat (first | apply Kd.R_alloc | apply Kd.R_drewN | apply Kd.R_drew)); exact HO_7.out) hb)
        have n1_ := Aside0.mk (Kd.R_below (by (with_reducible repeat (first | apply Kd.R_alloc | apply Kd.R_drewN | apply Kd.R_drew)); exact HO_254001.out) hb)
        have n2_ := Aside0.mk (Kd.R_below (by (with_reducible repeat (first | apply Kd.R_alloc | apply Kd.R_drewN | apply Kd.R_drew)); exact HO278.out) hb)
        have n3_ := Aside0.mk (blk_below (g := gb253) (o := .cells #[.int .u32 a1, .slice Ao138 x254001_1.length co138] 89 (0, 0)) (by (with_reducible repeat (first | refine blk_drewN ?_ _ | refine blk_drew ?_ | refine blk_alloc ?_ _)); exact BK253.out) hb)
        have n4_ := Aside0.mk (below_step (by repeat (first | (with_reducible first | exact HB.out | apply below_alloc | apply pw_below_drewN | apply below_drew1 | refine below_set ?_ GE253.out) | exact HB.out)) hb)
        clear HO_7
        clear HO_254001
        clear HO278
        clear BK253
        clear HB
        have HO_7 := n0_
        have HO_254001 := n1_
        have HO278 := n2_
        have BK253 := n3_
        have HB := n4_
        clear n0_ n1_ n2_ n3_ n4_
        (try clear hb)
        (try clear hb2)
        (try clear hk)
        (try clear hi)
        have hcv142 := own_string (P := Try.prog) Try.underlying26 Try.underlying5 Try.underlying9 (Kd.own_of_R HO278.out)
        refine hK.out _ _ ⟨(blk_cell BK253.out 0).trans rfl, (blk_cell BK253.out 1).trans rfl, own_string (P := Try.prog) Try.underlying26 Try.underlying5 Try.underlying9 (Kd.own_of_R HO278.out)⟩ (fun hHeld => ?_)
        clear hK K
        refine norm_ (a' := ?_) ?_ ?_
        rotate_left
        ·show Act.put _ (some 131) _ = _
         simp only [Act.put, List.setIfInBounds_toArray, List.set_cons_zero, List.set_cons_succ, i64_w, i32_w]
         rfl
        refine pure_ (i := 1) (N := some 132) (v := ?_) (a' := ?_) #[true, true, false, false, false, false, false, false, false, false, false, false, false, false, false, false, false, false] rfl rfl (any_of HT_.out (by kernel_rfl)) (fun _ _ _ h => h) (Or.inl ⟨by rfl, ?_⟩) ?_ ?_
        rotate_left
        ·intro w'
         go_simp
         with_reducible rfl
        rotate_left
        ·simp only [Act.put, List.setIfInBounds_toArray, List.set_cons_zero, List.set_cons_succ, i64_w, i32_w]
         rfl
        refine pure_ (i := 2) (N := some 133) (v := ?_) (a' := ?_) #[true, true, true, false, false, false, false, false, false, false, false, false, false, false, false, false, false, false] rfl rfl (any_of HT_.out (by kernel_rfl)) (fun _ _ _ h => h) (Or.inl ⟨by rfl, ?_⟩) ?_ ?_
        rotate_left
        ·intro w'
         go_simp
         with_reducible rfl
        rotate_left
        ·simp only [Act.put, List.setIfInBounds_toArray, List.set_cons_zero, List.set_cons_succ, i64_w, i32_w]
         rfl
        refine pure_ (i := 3) (N := some 134) (v := ?_) (a' := ?_) #[true, true, true, true, false, false, false, false, false, false, false, false, false, false, false, false, false, false] rfl rfl (any_of HT_.out (by kernel_rfl)) (fun _ _ _ h => h) (Or.inl ⟨by rfl, ?_⟩) ?_ ?_
        rotate_left
        ·intro w'
         go_simp
         with_reducible rfl
        rotate_left
        ·simp only [Act.put, List.setIfInBounds_toArray, List.set_cons_zero, List.set_cons_succ, i64_w, i32_w]
         rfl
        refine pure_ (i := 4) (N := some 135) (v := ?_) (a' := ?_) #[true, true, true, true, true, false, false, false, false, false, false, false, false, false, false, false, false, false] rfl rfl (any_of HT_.out (by kernel_rfl)) (fun _ _ _ h => h) (Or.inl ⟨by rfl, ?_⟩) ?_ ?_
        rotate_left
        ·intro w'
         go_simp
         with_reducible rfl
        rotate_left
        ·simp only [Act.put, List.setIfInBounds_toArray, List.set_cons_zero, List.set_cons_succ, i64_w, i32_w]
         rfl
        refine pure_ (i := 5) (N := some 136) (v := ?_) (a' := ?_) #[true, true, true, true, true, true, false, false, false, false, false, false, false, false, false, false, false, false] rfl rfl (any_of HT_.out (by kernel_rfl)) (fun _ _ _ h => h) (Or.inl ⟨by rfl, ?_⟩) ?_ ?_
        rotate_left
        ·intro w'
         go_simp
         with_reducible rfl
        rotate_left
        ·simp only [Act.put, List.setIfInBounds_toArray, List.set_cons_zero, List.set_cons_succ, i64_w, i32_w]
         rfl
        refine pure_ (i := 6) (N := some 137) (v := ?_) (a' := ?_) #[true, true, true, true, true, true, true, false, false, false, false, false, false, false, false, false, false, false] rfl rfl (any_of HT_.out (by kernel_rfl)) (fun _ _ _ h => h) (Or.inl ⟨by rfl, ?_⟩) ?_ ?_
        rotate_left
        ·intro w'
         go_simp
         with_reducible rfl
        rotate_left
        ·simp only [Act.put, List.setIfInBounds_toArray, List.set_cons_zero, List.set_cons_succ, i64_w, i32_w]
         rfl
        refine take_ (i := 7) (N := some 138) (v := ?_) (a' := ?_) #[true, true, true, true, true, true, true, true, false, false, false, false, false, false, false, false, false, false] rfl rfl (take_ofW HT_.out HW_.out (by kernel_rfl)) (fun _ _ _ h => h) (Or.inl ⟨by rfl, ?_⟩) hHeld ?_ ?_
        rotate_left
        ·rintro w' ⟨s0, s1, s2⟩
         go_simp
         with_reducible rfl
        rotate_left
        ·simp only [Act.put, List.setIfInBounds_toArray, List.set_cons_zero, List.set_cons_succ, i64_w, i32_w]
         rfl
        refine take_ (i := 8) (N := some 139) (v := ?_) (a' := ?_) #[true, true, true, true, true, true, true, true, true, false, false, false, false, false, false, false, false, false] rfl rfl (take_ofW HT_.out HW_.out (by kernel_rfl)) (fun _ _ _ h => h) (Or.inl ⟨by rfl, ?_⟩) hHeld ?_ ?_
        rotate_left
        ·rintro w' ⟨s0, s1, s2⟩
         go_simp
         with_reducible rfl
        rotate_left
        ·simp only [Act.put, List.setIfInBounds_toArray, List.set_cons_zero, List.set_cons_succ, i64_w, i32_w]
         rfl
        refine one_ (i := 9) (N := some 140) #[true, true, true, true, true, true, true, true, true, true, false, false, false, false, false, false, false, false] rfl rfl (one_of HT_.out (by kernel_rfl)) (by decide) (fun K hK => ?_)
        refine goes_ Try.func51 (by kernel_rfl) rfl #[.agg #[.int .u32 a1, .slice Ao138 x254001_1.length co138]] (by rfl) rfl rfl (by (try simp only [List.map_toArray, List.map_cons, List.map_nil]); first | done | rfl | (simp only [List.length_drop, List.length_take]; rfl)) ?_
        with_reducible refine (rowlockref08_Page_Lay.calls k1 a1 _ _ x254001_1 t280 _ ?side1 ?side2 A120.out).mono ?_
        (case side1 => repeat (first | exact (Kd.R_reads' HO_254001.out).2.2 | (with_reducible refine Kd.C_alloc ?_ _) | (with_reducible refine Kd.C_drewN ?_ _) | (with_reducible refine Kd.C_drew ?_)))
        (case side2 => exact (Kd.R_reads' HO_254001.out).2.1)
        rintro e w143 ⟨rfl, hb⟩
        refine ⟨_, rfl, ?_⟩
        have n0_ := Aside0.mk (Kd.R_below (by (with_reducible repeat (first | apply Kd.R_alloc | apply Kd.R_drewN | apply Kd.R_drew)); exact HO_7.out) hb)
        have n1_ := Aside0.mk (Kd.R_below (by (with_reducible repeat (first | apply Kd.R_alloc | apply Kd.R_drewN | apply Kd.R_drew)); exact HO_254001.out) hb)
        have n2_ := Aside0.mk (Kd.R_below (by (with_reducible repeat (first | apply Kd.R_alloc | apply Kd.R_drewN | apply Kd.R_drew)); exact HO278.out) hb)
        have n3_ := Aside0.mk (blk_below (g := gb253) (o := .cells #[.int .u32 a1, .slice Ao138 x254001_1.length co138] 89 (0, 0)) (by (with_reducible repeat (first | refine blk_drewN ?_ _ | refine blk_drew ?_ | refine blk_alloc ?_ _)); exact BK253.out) hb)
        have n4_ := Aside0.mk (below_step (by repeat (first | (with_reducible first | exact HB.out | apply below_alloc | apply pw_below_drewN | apply below_drew1 | refine below_set ?_ GE253.out) | exact HB.out)) hb)
        clear HO_7
        clear HO_254001
        clear HO278
        clear BK253
        clear HB
        have HO_7 := n0_
        have HO_254001 := n1_
        have HO278 := n2_
        have BK253 := n3_
        have HB := n4_
        clear n0_ n1_ n2_ n3_ n4_
        (try clear hb)
        (try clear hb2)
        (try clear hk)
        (try clear hi)
        refine hK.out _ _ ⟨(blk_cell BK253.out 0).trans rfl, (blk_cell BK253.out 1).trans rfl, own_string (P := Try.prog) Try.underlying26 Try.underlying5 Try.underlying9 (Kd.own_of_R HO278.out)⟩ (fun hHeld => ?_)
        clear hK K
        refine norm_ (a' := ?_) ?_ ?_
        rotate_left
        ·show Act.put _ (some 140) _ = _
         simp only [Act.put, List.setIfInBounds_toArray, List.set_cons_zero, List.set_cons_succ, i64_w, i32_w]
         rfl
        refine pure_ (i := 10) (N := some 141) (v := ?_) (a' := ?_) #[true, true, true, true, true, true, true, true, true, true, true, false, false, false, false, false, false, false] rfl rfl (any_of HT_.out (by kernel_rfl)) (fun _ _ _ h => h) (Or.inl ⟨by rfl, ?_⟩) ?_ ?_
        rotate_left
        ·intro w'
         go_simp
         with_reducible rfl
        rotate_left
        ·simp only [Act.put, List.setIfInBounds_toArray, List.set_cons_zero, List.set_cons_succ, i64_w, i32_w]
         rfl
        refine pure_ (i := 11) (N := some 142) (v := ?_) (a' := ?_) #[true, true, true, true, true, true, true, true, true, true, true, true, false, false, false, false, false, false] rfl rfl (any_of HT_.out (by kernel_rfl)) (fun _ _ _ h => h) (Or.inl ⟨by rfl, ?_⟩) ?_ ?_
        rotate_left
        ·intro w'
         go_simp
         with_reducible rfl
        rotate_left
        ·simp only [Act.put, List.setIfInBounds_toArray, List.set_cons_zero, List.set_cons_succ, i64_w, i32_w]
         rfl
        refine pure_ (i := 12) (N := some 143) (v := ?_) (a' := ?_) #[true, true, true, true, true, true, true, true, true, true, true, true, true, false, false, false, false, false] rfl rfl (any_of HT_.out (by kernel_rfl)) (fun _ _ _ h => h) (Or.inl ⟨by rfl, ?_⟩) ?_ ?_
        rotate_left
        ·intro w'
         go_simp
         with_reducible rfl
        rotate_left
        ·simp only [Act.put, List.setIfInBounds_toArray, List.set_cons_zero, List.set_cons_succ, i64_w, i32_w]
         rfl
        refine pure_ (i := 13) (N := some 144) (v := undef) (a' := ?_) #[true, true, true, true, true, true, true, true, true, true, true, true, true, true, false, false, false, false] rfl rfl (any_of HT_.out (by kernel_rfl)) (fun _ _ _ h => h) (Or.inr ⟨by rfl, rfl⟩) ?_ ?_
        rotate_left
        ·simp only [Act.put, List.setIfInBounds_toArray, List.set_cons_zero, List.set_cons_succ, i64_w, i32_w]
         rfl
        refine pure_ (i := 14) (N := some 145) (v := undef) (a' := ?_) #[true, true, true, true, true, true, true, true, true, true, true, true, true, true, true, false, false, false] rfl rfl (any_of HT_.out (by kernel_rfl)) (fun _ _ _ h => h) (Or.inr ⟨by rfl, rfl⟩) ?_ ?_
        rotate_left
        ·simp only [Act.put, List.setIfInBounds_toArray, List.set_cons_zero, List.set_cons_succ, i64_w, i32_w]
         rfl
        refine pure_ (i := 15) (N := some 146) (v := undef) (a' := ?_) #[true, true, true, true, true, true, true, true, true, true, true, true, true, true, true, true, false, false] rfl rfl (any_of HT_.out (by kernel_rfl)) (fun _ _ _ h => h) (Or.inr ⟨by rfl, rfl⟩) ?_ ?_
        rotate_left
        ·simp only [Act.put, List.setIfInBounds_toArray, List.set_cons_zero, List.set_cons_succ, i64_w, i32_w]
         rfl
        refine pure_ (i := 16) (N := some 147) (v := ?_) (a' := ?_) #[true, true, true, true, true, true, true, true, true, true, true, true, true, true, true, true, true, false] rfl rfl (any_of HT_.out (by kernel_rfl)) (fun _ _ _ h => h) (Or.inl ⟨by rfl, ?_⟩) ?_ ?_
        rotate_left
        ·intro w'
         go_simp
         with_reducible rfl
        rotate_left
        ·simp only [Act.put, List.setIfInBounds_toArray, List.set_cons_zero, List.set_cons_succ, i64_w, i32_w]
         rfl
        refine pure_ (i := 17) (N := some 6) (v := ?_) (a' := ?_) #[true, true, true, true, true, true, true, true, true, true, true, true, true, true, true, true, true, true] rfl rfl (any_of HT_.out (by kernel_rfl)) (fun _ _ _ h => h) (Or.inl ⟨by rfl, ?_⟩) ?_ ?_
        rotate_left
        ·intro w'
         go_simp
         with_reducible rfl
        rotate_left
        ·simp only [Act.put, List.setIfInBounds_toArray, List.set_cons_zero, List.set_cons_succ, i64_w, i32_w]
         rfl
        refine done_ (done_of HT_.out (by kernel_rfl)) ?_
        try go_wp2
        go_ret
        exact ⟨by first | rfl | (simp [errW_none, errW_some] <;> rfl) | (simp [*, errW_none, errW_some] <;> rfl), by repeat (first | (with_reducible first | exact HB.out | apply below_alloc | apply pw_below_drewN | apply below_drew1 | refine below_set ?_ GE253.out) | exact HB.out)⟩
      ·rw [if_neg c119] at H
       have c119b0 : (t276 == 0) = false := beq_eq_false_iff_ne.mpr c119
       have c119b1 : (t276 != 0) = true := bne_iff_ne.mpr c119
       obtain rfl := Option.some.inj H
       obtain ⟨Ao145, co145, eo145⟩ := Kd.R_slice HO_7.out
       subst eo145
       try go_wp2_with (first | ((with_reducible refine gate_callee (f := 54) rfl ?_); refine goesL_ (some 126) rfl rfl Try.func54 (by kernel_rfl) rfl #[.slice Ao145 x7_1.length co145, .int .u32 a1] rfl (by (try simp only [List.map_toArray, List.map_cons, List.map_nil]); first | done | rfl | (simp only [List.length_drop, List.length_take]; rfl)) ?_; (with_reducible refine (slots_Link.calls k1 _ _ x7_1 a1 t275 t276 _ ?side1 ?side2 A116.out).mono ?_); (case side1 => repeat (first | exact (Kd.R_reads' HO_7.out).2.2 | (with_reducible refine Kd.C_alloc ?_ _) | (with_reducible refine Kd.C_drewN ?_ _) | (with_reducible refine Kd.C_drew ?_))); (case side2 => exact (Kd.R_reads' HO_7.out).2.1); rintro e w146 ⟨v277, rfl, ho0, hb⟩; refine ⟨_, rfl, ?_⟩; have n0_ := Aside0.mk (Kd.R_elder' (by (with_reducible repeat (first | apply Kd.R_alloc | apply Kd.R_drewN | apply Kd.R_drew)); exact HO_7.out) (Kd.R_base ho0) hb); have n1_ := Aside0.mk (Kd.R_below (by (with_reducible repeat (first | apply Kd.R_alloc | apply Kd.R_drewN | apply Kd.R_drew)); exact HO_254001.out) hb); have n2_ := Aside0.mk (Kd.R_lower (Kd.R_new' ho0 (Kd.R_lt (by (with_reducible repeat (first | apply Kd.R_alloc | apply Kd.R_drewN | apply Kd.R_drew)); exact HO_7.out))) (below_size (by repeat (first | (with_reducible first | exact HB.out | apply below_alloc | apply pw_below_drewN | apply below_drew1 | refine below_set ?_ GE253.out) | exact HB.out)))); have n3_ := Aside0.mk (blk_below (g := gb253) (o := .cells #[.int .u32 a0, u254001] 89 (0, 0)) (by (with_reducible repeat (first | refine blk_drewN ?_ _ | refine blk_drew ?_ | refine blk_alloc ?_ _)); exact BK253.out) hb); have n4_ := Aside0.mk (below_step (by repeat (first | (with_reducible first | exact HB.out | apply below_alloc | apply pw_below_drewN | apply below_drew1 | refine below_set ?_ GE253.out) | exact HB.out)) hb); clear HO_7; clear HO_254001; clear BK253; clear HB; have HO_7 := n0_; have HO_254001 := n1_; have HO278 := n2_; have BK253 := n3_; have HB := n4_; clear n0_ n1_ n2_ n3_ n4_; (try clear hb); (try clear hb2); (try clear hk); (try clear hi); (try clear ho0); have hcz147_0 : w146.cell? ⟨gb253, 0, none⟩ = some (.int .u32 a0) := (blk_cell BK253.out 0).trans rfl; have hcz147_1 : w146.cell? ⟨gb253, 1, none⟩ = some (u254001) := (blk_cell BK253.out 1).trans rfl; have hfz147_0 := blk_frozen BK253.out 0; have hfz147_1 := blk_frozen BK253.out 1))
       have n0_ : Aside0 (Kd.R (Kd.int .u8) 5 (w146.setCell ⟨gb253, 0, none⟩ (.int .u32 a1)) w.heap.size (fun k_ => some k_ ≠ (v277 : Value).ownBlock) (.slice Ao145 x7_1.length co145) x7_1) := ⟨by (with_reducible repeat (first | apply Kd.R_alloc | apply Kd.R_drewN | apply Kd.R_drew)); exact Kd.R_mono (Kd.R_far (p := ⟨gb253, 0, none⟩) (Kd.R_types HO_7.out BK253.out (by decide)) (fun _ hk => hk.2) (.int .u32 a1)) (fun _ hk => hk.1.2)⟩
       have n1_ : Aside0 (Kd.R Kd.string 9 (w146.setCell ⟨gb253, 0, none⟩ (.int .u32 a1)) w.heap.size (fun _ => True) u254001 x254001_1) := ⟨by (with_reducible repeat (first | apply Kd.R_alloc | apply Kd.R_drewN | apply Kd.R_drew)); exact Kd.R_mono (Kd.R_far (p := ⟨gb253, 0, none⟩) (Kd.R_types HO_254001.out BK253.out (by decide)) (fun _ hk => hk.2) (.int .u32 a1)) (fun _ hk => trivial)⟩
       have n2_ : Aside0 (Kd.R (Kd.int .u8) 5 (w146.setCell ⟨gb253, 0, none⟩ (.int .u32 a1)) w.heap.size (fun k_ => some k_ ≠ (.slice Ao145 x7_1.length co145 : Value).ownBlock) v277 t275) := ⟨by (with_reducible repeat (first | apply Kd.R_alloc | apply Kd.R_drewN | apply Kd.R_drew)); exact Kd.R_mono (Kd.R_far (p := ⟨gb253, 0, none⟩) (Kd.R_types HO278.out BK253.out (by decide)) (fun _ hk => hk.2) (.int .u32 a1)) (fun _ hk => hk.1.2)⟩
       have n3_ : Aside0 ((w146.setCell ⟨gb253, 0, none⟩ (.int .u32 a1)).heap[gb253]? = some (.cells #[.int .u32 a1, u254001] 89 (0, 0))) := ⟨by (with_reducible repeat (first | refine blk_drewN ?_ _ | refine blk_drew ?_ | refine blk_alloc ?_ _)); refine blk_put (cs := #[.int .u32 a0, u254001]) ?_ 0 _ rfl; (with_reducible repeat (first | refine blk_drewN ?_ _ | refine blk_drew ?_ | refine blk_alloc ?_ _)); exact BK253.out⟩
       have n4_ : Aside0 (Below w.heap.size w (w146.setCell ⟨gb253, 0, none⟩ (.int .u32 a1))) := ⟨by repeat (first | (with_reducible first | exact HB.out | apply below_alloc | apply pw_below_drewN | apply below_drew1 | refine below_set ?_ GE253.out) | exact HB.out)⟩
       (try clear HO_7)
       (try clear HO_254001)
       (try clear HO278)
       (try clear BK253)
       (try clear HB)
       generalize (w146.setCell ⟨gb253, 0, none⟩ (.int .u32 a1)) = w148 at n0_ n1_ n2_ n3_ n4_ ⊢
       have HO_7 := n0_
       have HO_254001 := n1_
       have HO278 := n2_
       have BK253 := n3_
       have HB := n4_
       clear n0_ n1_ n2_ n3_ n4_
       have n0_ := Aside0.mk (Kd.R_drew HO_7.out)
       have n1_ := Aside0.mk (Kd.R_drew HO_254001.out)
       have n2_ := Aside0.mk (Kd.R_drew HO278.out)
       have n3_ := Aside0.mk (blk_drew BK253.out)
       have n4_ := Aside0.mk (below_drew1 HB.out)
       clear HO_7
       clear HO_254001
       clear HO278
       clear BK253
       clear HB
       have HO_7 := n0_
       have HO_254001 := n1_
       have HO278 := n2_
       have BK253 := n3_
       have HB := n4_
       clear n0_ n1_ n2_ n3_ n4_
       refine start_ (n := 18) (S := fun w' => True) (ds := []) #[false, false, false, false, false, false, false, false, false, false, false, false, false, false, false, false, false, false] (by kernel_rfl) rfl rfl trivial (fun hHeld => ?_); refine with_tabW rowlocklaw08_SlotsPlays.tab31 rowlocklaw08_SlotsPlays.bits31 (fun HT_ HW_ => ?_)
       generalize w148.drew = w149 at HO_7 HO_254001 HO278 BK253 HB hHeld ⊢
       refine one_ (i := 0) (N := some 131) #[true, false, false, false, false, false, false, false, false, false, false, false, false, false, false, false, false, false] rfl rfl (one_of HT_.out (by kernel_rfl)) (by decide) (fun K hK => ?_)
       refine goes_ Try.func47 (by kernel_rfl) rfl #[] (by rfl) rfl rfl (by (try simp only [List.map_toArray, List.map_cons, List.map_nil]); first | done | rfl | (simp only [List.length_drop, List.length_take]; rfl)) ?_
       with_reducible refine (rowlocklaw08_fixed.calls k1  true _ A117.out).mono ?_
       rintro e w150 ⟨rfl, hb⟩
       refine ⟨_, rfl, ?_⟩
       have n0_ := Aside0.mk (Kd.R_below (by (with_reducible repeat (first | apply Kd.R_alloc | apply Kd.R_drewN | apply Kd.R_drew)); exact HO_7.out) hb)
       have n1_ := Aside0.mk (Kd.R_below (by (with_reducible repeat (first | apply Kd.R_alloc | apply Kd.R_drewN | apply Kd.R_drew)); exact HO_254001.out) hb)
       have n2_ := Aside0.mk (Kd.R_below (by (with_reducible repeat (first | apply Kd.R_alloc | apply Kd.R_drewN | apply Kd.R_drew)); exact HO278.out) hb)
       have n3_ := Aside0.mk (blk_below (g := gb253) (o := .cells #[.int .u32 a1, u254001] 89 (0, 0)) (by (with_reducible repeat (first | refine blk_drewN ?_ _ | refine blk_drew ?_ | refine blk_alloc ?_ _)); exact BK253.out) hb)
       have n4_ := Aside0.mk (below_step (by repeat (first | (with_reducible first | exact HB.out | apply below_alloc | apply pw_below_drewN | apply below_drew1 | refine below_set ?_ GE253.out) | exact HB.out)) hb)
       clear HO_7
       clear HO_254001
       clear HO278
       clear BK253
       clear HB
       have HO_7 := n0_
       have HO_254001 := n1_
       have HO278 := n2_
       have BK253 := n3_
       have HB := n4_
       clear n0_ n1_ n2_ n3_ n4_
       (try clear hb)
       (try clear hb2)
       (try clear hk)
       (try clear hi)
       refine hK.out _ _ trivial (fun hHeld => ?_)
       clear hK K
       refine norm_ (a' := ?_) ?_ ?_
       rotate_left
       ·show Act.put _ (some 131) _ = _
        simp only [Act.put, List.setIfInBounds_toArray, List.set_cons_zero, List.set_cons_succ, i64_w, i32_w]
        rfl
       refine pure_ (i := 1) (N := some 132) (v := ?_) (a' := ?_) #[true, true, false, false, false, false, false, false, false, false, false, false, false, false, false, false, false, false] rfl rfl (any_of HT_.out (by kernel_rfl)) (fun _ _ _ h => h) (Or.inl ⟨by rfl, ?_⟩) ?_ ?_
       rotate_left
       ·intro w'
        go_simp
        with_reducible rfl
       rotate_left
       ·simp only [Act.put, List.setIfInBounds_toArray, List.set_cons_zero, List.set_cons_succ, i64_w, i32_w]
        rfl
       refine pure_ (i := 2) (N := some 133) (v := ?_) (a' := ?_) #[true, true, true, false, false, false, false, false, false, false, false, false, false, false, false, false, false, false] rfl rfl (any_of HT_.out (by kernel_rfl)) (fun _ _ _ h => h) (Or.inl ⟨by rfl, ?_⟩) ?_ ?_
       rotate_left
       ·intro w'
        go_simp
        with_reducible rfl
       rotate_left
       ·simp only [Act.put, List.setIfInBounds_toArray, List.set_cons_zero, List.set_cons_succ, i64_w, i32_w]
        rfl
       refine pure_ (i := 3) (N := some 134) (v := ?_) (a' := ?_) #[true, true, true, true, false, false, false, false, false, false, false, false, false, false, false, false, false, false] rfl rfl (any_of HT_.out (by kernel_rfl)) (fun _ _ _ h => h) (Or.inl ⟨by rfl, ?_⟩) ?_ ?_
       rotate_left
       ·intro w'
        go_simp
        with_reducible rfl
       rotate_left
       ·simp only [Act.put, List.setIfInBounds_toArray, List.set_cons_zero, List.set_cons_succ, i64_w, i32_w]
        rfl
       refine pure_ (i := 4) (N := some 135) (v := ?_) (a' := ?_) #[true, true, true, true, true, false, false, false, false, false, false, false, false, false, false, false, false, false] rfl rfl (any_of HT_.out (by kernel_rfl)) (fun _ _ _ h => h) (Or.inl ⟨by rfl, ?_⟩) ?_ ?_
       rotate_left
       ·intro w'
        go_simp
        with_reducible rfl
       rotate_left
       ·simp only [Act.put, List.setIfInBounds_toArray, List.set_cons_zero, List.set_cons_succ, i64_w, i32_w]
        rfl
       refine pure_ (i := 5) (N := some 136) (v := ?_) (a' := ?_) #[true, true, true, true, true, true, false, false, false, false, false, false, false, false, false, false, false, false] rfl rfl (any_of HT_.out (by kernel_rfl)) (fun _ _ _ h => h) (Or.inl ⟨by rfl, ?_⟩) ?_ ?_
       rotate_left
       ·intro w'
        go_simp
        with_reducible rfl
       rotate_left
       ·simp only [Act.put, List.setIfInBounds_toArray, List.set_cons_zero, List.set_cons_succ, i64_w, i32_w]
        rfl
       refine pure_ (i := 6) (N := some 137) (v := undef) (a' := ?_) #[true, true, true, true, true, true, true, false, false, false, false, false, false, false, false, false, false, false] rfl rfl (any_of HT_.out (by kernel_rfl)) (fun _ _ _ h => h) (Or.inr ⟨by rfl, rfl⟩) ?_ ?_
       rotate_left
       ·simp only [Act.put, List.setIfInBounds_toArray, List.set_cons_zero, List.set_cons_succ, i64_w, i32_w]
        rfl
       refine pure_ (i := 7) (N := some 138) (v := undef) (a' := ?_) #[true, true, true, true, true, true, true, true, false, false, false, false, false, false, false, false, false, false] rfl rfl (any_of HT_.out (by kernel_rfl)) (fun _ _ _ h => h) (Or.inr ⟨by rfl, rfl⟩) ?_ ?_
       rotate_left
       ·simp only [Act.put, List.setIfInBounds_toArray, List.set_cons_zero, List.set_cons_succ, i64_w, i32_w]
        rfl
       refine pure_ (i := 8) (N := some 139) (v := undef) (a' := ?_) #[true, true, true, true, true, true, true, true, true, false, false, false, false, false, false, false, false, false] rfl rfl (any_of HT_.out (by kernel_rfl)) (fun _ _ _ h => h) (Or.inr ⟨by rfl, rfl⟩) ?_ ?_
       rotate_left
       ·simp only [Act.put, List.setIfInBounds_toArray, List.set_cons_zero, List.set_cons_succ, i64_w, i32_w]
        rfl
       refine pure_ (i := 9) (N := some 140) (v := undef) (a' := ?_) #[true, true, true, true, true, true, true, true, true, true, false, false, false, false, false, false, false, false] rfl rfl (any_of HT_.out (by kernel_rfl)) (fun _ _ _ h => h) (Or.inr ⟨by rfl, rfl⟩) ?_ ?_
       rotate_left
       ·simp only [Act.put, List.setIfInBounds_toArray, List.set_cons_zero, List.set_cons_succ, i64_w, i32_w]
        rfl
       refine pure_ (i := 10) (N := some 141) (v := undef) (a' := ?_) #[true, true, true, true, true, true, true, true, true, true, true, false, false, false, false, false, false, false] rfl rfl (any_of HT_.out (by kernel_rfl)) (fun _ _ _ h => h) (Or.inr ⟨by rfl, rfl⟩) ?_ ?_
       rotate_left
       ·simp only [Act.put, List.setIfInBounds_toArray, List.set_cons_zero, List.set_cons_succ, i64_w, i32_w]
        rfl
       refine pure_ (i := 11) (N := some 142) (v := ?_) (a' := ?_) #[true, true, true, true, true, true, true, true, true, true, true, true, false, false, false, false, false, false] rfl rfl (any_of HT_.out (by kernel_rfl)) (fun _ _ _ h => h) (Or.inl ⟨by rfl, ?_⟩) ?_ ?_
       rotate_left
       ·intro w'
        go_simp
        with_reducible rfl
       rotate_left
       ·simp only [Act.put, List.setIfInBounds_toArray, List.set_cons_zero, List.set_cons_succ, i64_w, i32_w]
        rfl
       refine pure_ (i := 12) (N := some 143) (v := ?_) (a' := ?_) #[true, true, true, true, true, true, true, true, true, true, true, true, true, false, false, false, false, false] rfl rfl (any_of HT_.out (by kernel_rfl)) (fun _ _ _ h => h) (Or.inl ⟨by rfl, ?_⟩) ?_ ?_
       rotate_left
       ·intro w'
        go_simp
        with_reducible rfl
       rotate_left
       ·simp only [Act.put, List.setIfInBounds_toArray, List.set_cons_zero, List.set_cons_succ, i64_w, i32_w]
        rfl
       refine pure_ (i := 13) (N := some 144) (v := undef) (a' := ?_) #[true, true, true, true, true, true, true, true, true, true, true, true, true, true, false, false, false, false] rfl rfl (any_of HT_.out (by kernel_rfl)) (fun _ _ _ h => h) (Or.inr ⟨by rfl, rfl⟩) ?_ ?_
       rotate_left
       ·simp only [Act.put, List.setIfInBounds_toArray, List.set_cons_zero, List.set_cons_succ, i64_w, i32_w]
        rfl
       refine pure_ (i := 14) (N := some 145) (v := undef) (a' := ?_) #[true, true, true, true, true, true, true, true, true, true, true, true, true, true, true, false, false, false] rfl rfl (any_of HT_.out (by kernel_rfl)) (fun _ _ _ h => h) (Or.inr ⟨by rfl, rfl⟩) ?_ ?_
       rotate_left
       ·simp only [Act.put, List.setIfInBounds_toArray, List.set_cons_zero, List.set_cons_succ, i64_w, i32_w]
        rfl
       refine pure_ (i := 15) (N := some 146) (v := undef) (a' := ?_) #[true, true, true, true, true, true, true, true, true, true, true, true, true, true, true, true, false, false] rfl rfl (any_of HT_.out (by kernel_rfl)) (fun _ _ _ h => h) (Or.inr ⟨by rfl, rfl⟩) ?_ ?_
       rotate_left
       ·simp only [Act.put, List.setIfInBounds_toArray, List.set_cons_zero, List.set_cons_succ, i64_w, i32_w]
        rfl
       refine pure_ (i := 16) (N := some 147) (v := ?_) (a' := ?_) #[true, true, true, true, true, true, true, true, true, true, true, true, true, true, true, true, true, false] rfl rfl (any_of HT_.out (by kernel_rfl)) (fun _ _ _ h => h) (Or.inl ⟨by rfl, ?_⟩) ?_ ?_
       rotate_left
       ·intro w'
        go_simp
        with_reducible rfl
       rotate_left
       ·simp only [Act.put, List.setIfInBounds_toArray, List.set_cons_zero, List.set_cons_succ, i64_w, i32_w]
        rfl
       refine pure_ (i := 17) (N := some 6) (v := ?_) (a' := ?_) #[true, true, true, true, true, true, true, true, true, true, true, true, true, true, true, true, true, true] rfl rfl (any_of HT_.out (by kernel_rfl)) (fun _ _ _ h => h) (Or.inl ⟨by rfl, ?_⟩) ?_ ?_
       rotate_left
       ·intro w'
        go_simp
        with_reducible rfl
       rotate_left
       ·simp only [Act.put, List.setIfInBounds_toArray, List.set_cons_zero, List.set_cons_succ, i64_w, i32_w]
        rfl
       refine done_ (done_of HT_.out (by kernel_rfl)) ?_
       try go_wp2
       go_ret
       exact ⟨by first | rfl | (simp [errW_none, errW_some] <;> rfl) | (simp [*, errW_none, errW_some] <;> rfl), by repeat (first | (with_reducible first | exact HB.out | apply below_alloc | apply pw_below_drewN | apply below_drew1 | refine below_set ?_ GE253.out) | exact HB.out)⟩
     ·replace c118 := Bool.eq_false_iff.mpr c118
      subst c118
      have H1 : (some false) = some r := by rw [if_neg (show ¬ (false = true) by decide)] at H; first | exact H | (refine Eq.trans ?_ H; simp)
      clear H
      have H := H1
      clear H1
      obtain rfl := Option.some.inj H
      obtain ⟨Ao151, co151, eo151⟩ := Kd.R_slice HO_7.out
      subst eo151
      try go_wp2_with (first | ((with_reducible refine gate_callee (f := 54) rfl ?_); refine goesL_ (some 126) rfl rfl Try.func54 (by kernel_rfl) rfl #[.slice Ao151 x7_1.length co151, .int .u32 a1] rfl (by (try simp only [List.map_toArray, List.map_cons, List.map_nil]); first | done | rfl | (simp only [List.length_drop, List.length_take]; rfl)) ?_; (with_reducible refine (slots_Link.calls k1 _ _ x7_1 a1 t275 t276 _ ?side1 ?side2 A116.out).mono ?_); (case side1 => repeat (first | exact (Kd.R_reads' HO_7.out).2.2 | (with_reducible refine Kd.C_alloc ?_ _) | (with_reducible refine Kd.C_drewN ?_ _) | (with_reducible refine Kd.C_drew ?_))); (case side2 => exact (Kd.R_reads' HO_7.out).2.1); rintro e w152 ⟨v277, rfl, ho0, hb⟩; refine ⟨_, rfl, ?_⟩; have n0_ := Aside0.mk (Kd.R_elder' (by (with_reducible repeat (first | apply Kd.R_alloc | apply Kd.R_drewN | apply Kd.R_drew)); exact HO_7.out) (Kd.R_base ho0) hb); have n1_ := Aside0.mk (Kd.R_below (by (with_reducible repeat (first | apply Kd.R_alloc | apply Kd.R_drewN | apply Kd.R_drew)); exact HO_254001.out) hb); have n2_ := Aside0.mk (Kd.R_lower (Kd.R_new' ho0 (Kd.R_lt (by (with_reducible repeat (first | apply Kd.R_alloc | apply Kd.R_drewN | apply Kd.R_drew)); exact HO_7.out))) (below_size (by repeat (first | (with_reducible first | exact HB.out | apply below_alloc | apply pw_below_drewN | apply below_drew1 | refine below_set ?_ GE253.out) | exact HB.out)))); have n3_ := Aside0.mk (blk_below (g := gb253) (o := .cells #[.int .u32 a0, u254001] 89 (0, 0)) (by (with_reducible repeat (first | refine blk_drewN ?_ _ | refine blk_drew ?_ | refine blk_alloc ?_ _)); exact BK253.out) hb); have n4_ := Aside0.mk (below_step (by repeat (first | (with_reducible first | exact HB.out | apply below_alloc | apply pw_below_drewN | apply below_drew1 | refine below_set ?_ GE253.out) | exact HB.out)) hb); clear HO_7; clear HO_254001; clear BK253; clear HB; have HO_7 := n0_; have HO_254001 := n1_; have HO278 := n2_; have BK253 := n3_; have HB := n4_; clear n0_ n1_ n2_ n3_ n4_; (try clear hb); (try clear hb2); (try clear hk); (try clear hi); (try clear ho0); have hcz153_0 : w152.cell? ⟨gb253, 0, none⟩ = some (.int .u32 a0) := (blk_cell BK253.out 0).trans rfl; have hcz153_1 : w152.cell? ⟨gb253, 1, none⟩ = some (u254001) := (blk_cell BK253.out 1).trans rfl; have hfz153_0 := blk_frozen BK253.out 0; have hfz153_1 := blk_frozen BK253.out 1))
      have n0_ : Aside0 (Kd.R (Kd.int .u8) 5 (w152.setCell ⟨gb253, 0, none⟩ (.int .u32 a1)) w.heap.size (fun k_ => some k_ ≠ (v277 : Value).ownBlock) (.slice Ao151 x7_1.length co151) x7_1) := ⟨by (with_reducible repeat (first | apply Kd.R_alloc | apply Kd.R_drewN | apply Kd.R_drew)); exact Kd.R_mono (Kd.R_far (p := ⟨gb253, 0, none⟩) (Kd.R_types HO_7.out BK253.out (by decide)) (fun _ hk => hk.2) (.int .u32 a1)) (fun _ hk => hk.1.2)⟩
      have n1_ : Aside0 (Kd.R Kd.string 9 (w152.setCell ⟨gb253, 0, none⟩ (.int .u32 a1)) w.heap.size (fun _ => True) u254001 x254001_1) := ⟨by (with_reducible repeat (first | apply Kd.R_alloc | apply Kd.R_drewN | apply Kd.R_drew)); exact Kd.R_mono (Kd.R_far (p := ⟨gb253, 0, none⟩) (Kd.R_types HO_254001.out BK253.out (by decide)) (fun _ hk => hk.2) (.int .u32 a1)) (fun _ hk => trivial)⟩
      have n2_ : Aside0 (Kd.R (Kd.int .u8) 5 (w152.setCell ⟨gb253, 0, none⟩ (.int .u32 a1)) w.heap.size (fun k_ => some k_ ≠ (.slice Ao151 x7_1.length co151 : Value).ownBlock) v277 t275) := ⟨by (with_reducible repeat (first | apply Kd.R_alloc | apply Kd.R_drewN | apply Kd.R_drew)); exact Kd.R_mono (Kd.R_far (p := ⟨gb253, 0, none⟩) (Kd.R_types HO278.out BK253.out (by decide)) (fun _ hk => hk.2) (.int .u32 a1)) (fun _ hk => hk.1.2)⟩
      have n3_ : Aside0 ((w152.setCell ⟨gb253, 0, none⟩ (.int .u32 a1)).heap[gb253]? = some (.cells #[.int .u32 a1, u254001] 89 (0, 0))) := ⟨by (with_reducible repeat (first | refine blk_drewN ?_ _ | refine blk_drew ?_ | refine blk_alloc ?_ _)); refine blk_put (cs := #[.int .u32 a0, u254001]) ?_ 0 _ rfl; (with_reducible repeat (first | refine blk_drewN ?_ _ | refine blk_drew ?_ | refine blk_alloc ?_ _)); exact BK253.out⟩
      have n4_ : Aside0 (Below w.heap.size w (w152.setCell ⟨gb253, 0, none⟩ (.int .u32 a1))) := ⟨by repeat (first | (with_reducible first | exact HB.out | apply below_alloc | apply pw_below_drewN | apply below_drew1 | refine below_set ?_ GE253.out) | exact HB.out)⟩
      (try clear HO_7)
      (try clear HO_254001)
      (try clear HO278)
      (try clear BK253)
      (try clear HB)
      generalize (w152.setCell ⟨gb253, 0, none⟩ (.int .u32 a1)) = w154 at n0_ n1_ n2_ n3_ n4_ ⊢
      have HO_7 := n0_
      have HO_254001 := n1_
      have HO278 := n2_
      have BK253 := n3_
      have HB := n4_
      clear n0_ n1_ n2_ n3_ n4_
      have n0_ := Aside0.mk (Kd.R_drew HO_7.out)
      have n1_ := Aside0.mk (Kd.R_drew HO_254001.out)
      have n2_ := Aside0.mk (Kd.R_drew HO278.out)
      have n3_ := Aside0.mk (blk_drew BK253.out)
      have n4_ := Aside0.mk (below_drew1 HB.out)
      clear HO_7
      clear HO_254001
      clear HO278
      clear BK253
      clear HB
      have HO_7 := n0_
      have HO_254001 := n1_
      have HO278 := n2_
      have BK253 := n3_
      have HB := n4_
      clear n0_ n1_ n2_ n3_ n4_
      refine start_ (n := 18) (S := fun w' => True) (ds := []) #[false, false, false, false, false, false, false, false, false, false, false, false, false, false, false, false, false, false] (by kernel_rfl) rfl rfl trivial (fun hHeld => ?_); refine with_tabW rowlocklaw08_SlotsPlays.tab31 rowlocklaw08_SlotsPlays.bits31 (fun HT_ HW_ => ?_)
      generalize w154.drew = w155 at HO_7 HO_254001 HO278 BK253 HB hHeld ⊢
      refine one_ (i := 0) (N := some 131) #[true, false, false, false, false, false, false, false, false, false, false, false, false, false, false, false, false, false] rfl rfl (one_of HT_.out (by kernel_rfl)) (by decide) (fun K hK => ?_)
      refine goes_ Try.func47 (by kernel_rfl) rfl #[] (by rfl) rfl rfl (by (try simp only [List.map_toArray, List.map_cons, List.map_nil]); first | done | rfl | (simp only [List.length_drop, List.length_take]; rfl)) ?_
      with_reducible refine (rowlocklaw08_fixed.calls k1  false _ A117.out).mono ?_
      rintro e w156 ⟨rfl, hb⟩
      refine ⟨_, rfl, ?_⟩
      have n0_ := Aside0.mk (Kd.R_below (by (with_reducible repeat (first | apply Kd.R_alloc | apply Kd.R_drewN | apply Kd.R_drew)); exact HO_7.out) hb)
      have n1_ := Aside0.mk (Kd.R_below (by (with_reducible repeat (first | apply Kd.R_alloc | apply Kd.R_drewN | apply Kd.R_drew)); exact HO_254001.out) hb)
      have n2_ := Aside0.mk (Kd.R_below (by (with_reducible repeat (first | apply Kd.R_alloc | apply Kd.R_drewN | apply Kd.R_drew)); exact HO278.out) hb)
      have n3_ := Aside0.mk (blk_below (g := gb253) (o := .cells #[.int .u32 a1, u254001] 89 (0, 0)) (by (with_reducible repeat (first | refine blk_drewN ?_ _ | refine blk_drew ?_ | refine blk_alloc ?_ _)); exact BK253.out) hb)
      have n4_ := Aside0.mk (below_step (by repeat (first | (with_reducible first | exact HB.out | apply below_alloc | apply pw_below_drewN | apply below_drew1 | refine below_set ?_ GE253.out) | exact HB.out)) hb)
      clear HO_7
      clear HO_254001
      clear HO278
      clear BK253
      clear HB
      have HO_7 := n0_
      have HO_254001 := n1_
      have HO278 := n2_
      have BK253 := n3_
      have HB := n4_
      clear n0_ n1_ n2_ n3_ n4_
      (try clear hb)
      (try clear hb2)
      (try clear hk)
      (try clear hi)
      refine hK.out _ _ trivial (fun hHeld => ?_)
      clear hK K
      refine norm_ (a' := ?_) ?_ ?_
      rotate_left
      ·show Act.put _ (some 131) _ = _
       simp only [Act.put, List.setIfInBounds_toArray, List.set_cons_zero, List.set_cons_succ, i64_w, i32_w]
       rfl
      refine pure_ (i := 1) (N := some 132) (v := ?_) (a' := ?_) #[true, true, false, false, false, false, false, false, false, false, false, false, false, false, false, false, false, false] rfl rfl (any_of HT_.out (by kernel_rfl)) (fun _ _ _ h => h) (Or.inl ⟨by rfl, ?_⟩) ?_ ?_
      rotate_left
      ·intro w'
       go_simp
       with_reducible rfl
      rotate_left
      ·simp only [Act.put, List.setIfInBounds_toArray, List.set_cons_zero, List.set_cons_succ, i64_w, i32_w]
       rfl
      refine pure_ (i := 2) (N := some 133) (v := undef) (a' := ?_) #[true, true, true, false, false, false, false, false, false, false, false, false, false, false, false, false, false, false] rfl rfl (any_of HT_.out (by kernel_rfl)) (fun _ _ _ h => h) (Or.inr ⟨by rfl, rfl⟩) ?_ ?_
      rotate_left
      ·simp only [Act.put, List.setIfInBounds_toArray, List.set_cons_zero, List.set_cons_succ, i64_w, i32_w]
       rfl
      refine pure_ (i := 3) (N := some 134) (v := undef) (a' := ?_) #[true, true, true, true, false, false, false, false, false, false, false, false, false, false, false, false, false, false] rfl rfl (any_of HT_.out (by kernel_rfl)) (fun _ _ _ h => h) (Or.inr ⟨by rfl, rfl⟩) ?_ ?_
      rotate_left
      ·simp only [Act.put, List.setIfInBounds_toArray, List.set_cons_zero, List.set_cons_succ, i64_w, i32_w]
       rfl
      refine pure_ (i := 4) (N := some 135) (v := ?_) (a' := ?_) #[true, true, true, true, true, false, false, false, false, false, false, false, false, false, false, false, false, false] rfl rfl (any_of HT_.out (by kernel_rfl)) (fun _ _ _ h => h) (Or.inl ⟨by rfl, ?_⟩) ?_ ?_
      rotate_left
      ·intro w'
       go_simp
       with_reducible rfl
      rotate_left
      ·simp only [Act.put, List.setIfInBounds_toArray, List.set_cons_zero, List.set_cons_succ, i64_w, i32_w]
       rfl
      refine pure_ (i := 5) (N := some 136) (v := ?_) (a' := ?_) #[true, true, true, true, true, true, false, false, false, false, false, false, false, false, false, false, false, false] rfl rfl (any_of HT_.out (by kernel_rfl)) (fun _ _ _ h => h) (Or.inl ⟨by rfl, ?_⟩) ?_ ?_
      rotate_left
      ·intro w'
       go_simp
       with_reducible rfl
      rotate_left
      ·simp only [Act.put, List.setIfInBounds_toArray, List.set_cons_zero, List.set_cons_succ, i64_w, i32_w]
       rfl
      refine pure_ (i := 6) (N := some 137) (v := undef) (a' := ?_) #[true, true, true, true, true, true, true, false, false, false, false, false, false, false, false, false, false, false] rfl rfl (any_of HT_.out (by kernel_rfl)) (fun _ _ _ h => h) (Or.inr ⟨by rfl, rfl⟩) ?_ ?_
      rotate_left
      ·simp only [Act.put, List.setIfInBounds_toArray, List.set_cons_zero, List.set_cons_succ, i64_w, i32_w]
       rfl
      refine pure_ (i := 7) (N := some 138) (v := undef) (a' := ?_) #[true, true, true, true, true, true, true, true, false, false, false, false, false, false, false, false, false, false] rfl rfl (any_of HT_.out (by kernel_rfl)) (fun _ _ _ h => h) (Or.inr ⟨by rfl, rfl⟩) ?_ ?_
      rotate_left
      ·simp only [Act.put, List.setIfInBounds_toArray, List.set_cons_zero, List.set_cons_succ, i64_w, i32_w]
       rfl
      refine pure_ (i := 8) (N := some 139) (v := undef) (a' := ?_) #[true, true, true, true, true, true, true, true, true, false, false, false, false, false, false, false, false, false] rfl rfl (any_of HT_.out (by kernel_rfl)) (fun _ _ _ h => h) (Or.inr ⟨by rfl, rfl⟩) ?_ ?_
      rotate_left
      ·simp only [Act.put, List.setIfInBounds_toArray, List.set_cons_zero, List.set_cons_succ, i64_w, i32_w]
       rfl
      refine pure_ (i := 9) (N := some 140) (v := undef) (a' := ?_) #[true, true, true, true, true, true, true, true, true, true, false, false, false, false, false, false, false, false] rfl rfl (any_of HT_.out (by kernel_rfl)) (fun _ _ _ h => h) (Or.inr ⟨by rfl, rfl⟩) ?_ ?_
      rotate_left
      ·simp only [Act.put, List.setIfInBounds_toArray, List.set_cons_zero, List.set_cons_succ, i64_w, i32_w]
       rfl
      refine pure_ (i := 10) (N := some 141) (v := undef) (a' := ?_) #[true, true, true, true, true, true, true, true, true, true, true, false, false, false, false, false, false, false] rfl rfl (any_of HT_.out (by kernel_rfl)) (fun _ _ _ h => h) (Or.inr ⟨by rfl, rfl⟩) ?_ ?_
      rotate_left
      ·simp only [Act.put, List.setIfInBounds_toArray, List.set_cons_zero, List.set_cons_succ, i64_w, i32_w]
       rfl
      refine pure_ (i := 11) (N := some 142) (v := ?_) (a' := ?_) #[true, true, true, true, true, true, true, true, true, true, true, true, false, false, false, false, false, false] rfl rfl (any_of HT_.out (by kernel_rfl)) (fun _ _ _ h => h) (Or.inl ⟨by rfl, ?_⟩) ?_ ?_
      rotate_left
      ·intro w'
       go_simp
       with_reducible rfl
      rotate_left
      ·simp only [Act.put, List.setIfInBounds_toArray, List.set_cons_zero, List.set_cons_succ, i64_w, i32_w]
       rfl
      refine pure_ (i := 12) (N := some 143) (v := ?_) (a' := ?_) #[true, true, true, true, true, true, true, true, true, true, true, true, true, false, false, false, false, false] rfl rfl (any_of HT_.out (by kernel_rfl)) (fun _ _ _ h => h) (Or.inl ⟨by rfl, ?_⟩) ?_ ?_
      rotate_left
      ·intro w'
       go_simp
       with_reducible rfl
      rotate_left
      ·simp only [Act.put, List.setIfInBounds_toArray, List.set_cons_zero, List.set_cons_succ, i64_w, i32_w]
       rfl
      refine pure_ (i := 13) (N := some 144) (v := undef) (a' := ?_) #[true, true, true, true, true, true, true, true, true, true, true, true, true, true, false, false, false, false] rfl rfl (any_of HT_.out (by kernel_rfl)) (fun _ _ _ h => h) (Or.inr ⟨by rfl, rfl⟩) ?_ ?_
      rotate_left
      ·simp only [Act.put, List.setIfInBounds_toArray, List.set_cons_zero, List.set_cons_succ, i64_w, i32_w]
       rfl
      refine pure_ (i := 14) (N := some 145) (v := undef) (a' := ?_) #[true, true, true, true, true, true, true, true, true, true, true, true, true, true, true, false, false, false] rfl rfl (any_of HT_.out (by kernel_rfl)) (fun _ _ _ h => h) (Or.inr ⟨by rfl, rfl⟩) ?_ ?_
      rotate_left
      ·simp only [Act.put, List.setIfInBounds_toArray, List.set_cons_zero, List.set_cons_succ, i64_w, i32_w]
       rfl
      refine pure_ (i := 15) (N := some 146) (v := undef) (a' := ?_) #[true, true, true, true, true, true, true, true, true, true, true, true, true, true, true, true, false, false] rfl rfl (any_of HT_.out (by kernel_rfl)) (fun _ _ _ h => h) (Or.inr ⟨by rfl, rfl⟩) ?_ ?_
      rotate_left
      ·simp only [Act.put, List.setIfInBounds_toArray, List.set_cons_zero, List.set_cons_succ, i64_w, i32_w]
       rfl
      refine pure_ (i := 16) (N := some 147) (v := ?_) (a' := ?_) #[true, true, true, true, true, true, true, true, true, true, true, true, true, true, true, true, true, false] rfl rfl (any_of HT_.out (by kernel_rfl)) (fun _ _ _ h => h) (Or.inl ⟨by rfl, ?_⟩) ?_ ?_
      rotate_left
      ·intro w'
       go_simp
       with_reducible rfl
      rotate_left
      ·simp only [Act.put, List.setIfInBounds_toArray, List.set_cons_zero, List.set_cons_succ, i64_w, i32_w]
       rfl
      refine pure_ (i := 17) (N := some 6) (v := ?_) (a' := ?_) #[true, true, true, true, true, true, true, true, true, true, true, true, true, true, true, true, true, true] rfl rfl (any_of HT_.out (by kernel_rfl)) (fun _ _ _ h => h) (Or.inl ⟨by rfl, ?_⟩) ?_ ?_
      rotate_left
      ·intro w'
       go_simp
       with_reducible rfl
      rotate_left
      ·simp only [Act.put, List.setIfInBounds_toArray, List.set_cons_zero, List.set_cons_succ, i64_w, i32_w]
       rfl
      refine done_ (done_of HT_.out (by kernel_rfl)) ?_
      try go_wp2
      go_ret
      exact ⟨by first | rfl | (simp [errW_none, errW_some] <;> rfl) | (simp [*, errW_none, errW_some] <;> rfl), by repeat (first | (with_reducible first | exact HB.out | apply below_alloc | apply pw_below_drewN | apply below_drew1 | refine below_set ?_ GE253.out) | exact HB.out)⟩

end Go.Proofs.Ytolgcohmmghehaa.XSlotsPlays
