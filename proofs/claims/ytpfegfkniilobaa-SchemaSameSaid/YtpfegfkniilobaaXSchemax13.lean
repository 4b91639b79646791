-- Written by this session's own program (wip/own_print.py) over the kit's print, with this session's hand-proved contracts in their places; Lean checks it.
import Derived.Test.YtpfegfkniilobaaXSchemax0
import Derived.Test.YtpfegfkniilobaaXSchemax12
namespace Go.Proofs.Ytpfegfkniilobaa.XSchema
open Go.RowKit Go.Proofs.YtpfegfkniilobaaW.PrintWords Go.Proofs.YtpfegfkniilobaaW.PrintLast Go.Proofs.YtpfegfkniilobaaW.PrintMore
attribute [local go_sem] max2_int min2_int max_two min_two max_three min_three max_four min_four   -- for this text's walks alone
set_option linter.unusedVariables false
set_option linter.unusedSimpArgs false

/-! ### rowlockref12_Put: function 32 -/
mutual
def rowlockref12_Put.l0 : Nat → ByteArray → Int → Int → List (S84) → List (S135) → Option (ByteArray)
 | 0, _, _, _, _, _ => none
 | k + 1, x3, x18, x19, x234000, x234001 => if x19 < x18 then (if 0 ≤ x19 then (if x19 < (x234000.length : Int) then ((rowlockref12_text.f k ((rd_T84 x234000 x19).f0)).bind fun t237 => (if x3.size + t237.size ≤ 9223372036854775807 then ((rowlockref12_one.f k (((rd_T84 x234000 x19).f1).length : Int)).bind fun t238 => (if (x3 ++ t237).size + t238.size ≤ 9223372036854775807 then (rowlockref12_Put.l1 k ((x3 ++ t237) ++ t238) x18 x19 (((rd_T84 x234000 x19).f1).length : Int) 0 x234000 x234001 ((rd_T84 x234000 x19).f0) ((rd_T84 x234000 x19).f1) ((rd_T84 x234000 x19).f2) ((rd_T84 x234000 x19).f3) ((rd_T84 x234000 x19).f4)) else (none))) else (none))) else (none)) else (none)) else ((rowlockref12_one.f k (x234001.length : Int)).bind fun t248 => (if x3.size + t248.size ≤ 9223372036854775807 then (rowlockref12_Put.l2 k (x3 ++ t248) (x234001.length : Int) 0 x234000 x234001) else (none)))
def rowlockref12_Put.l1 : Nat → ByteArray → Int → Int → Int → Int → List (S84) → List (S135) → ByteArray → List (S87) → Int → Int → Int → Option (ByteArray)
 | 0, _, _, _, _, _, _, _, _, _, _, _, _ => none
 | k + 1, x3, x18, x19, x39, x40, x234000, x234001, x237000, x237001, x237002, x237003, x237004 => if x40 < x39 then (if 0 ≤ x40 then (if x40 < (x237001.length : Int) then ((rowlockref12_text.f k ((rd_T87 x237001 x40).f0)).bind fun t244 => (if x3.size + t244.size ≤ 9223372036854775807 then ((rowlockref12_one.f k (wrap64 ((rd_T87 x237001 x40).f1))).bind fun t245 => (if (x3 ++ t244).size + t245.size ≤ 9223372036854775807 then ((rowlockref12_four.f k ((rd_T87 x237001 x40).f2)).bind fun t246 => (if ((x3 ++ t244) ++ t245).size + t246.size ≤ 9223372036854775807 then ((rowlockref12_four.f k ((rd_T87 x237001 x40).f3)).bind fun t247 => (if (((x3 ++ t244) ++ t245) ++ t246).size + t247.size ≤ 9223372036854775807 then (rowlockref12_Put.l1 k ((((x3 ++ t244) ++ t245) ++ t246) ++ t247) x18 x19 x39 (wrap64 (x40 + 1)) x234000 x234001 x237000 x237001 x237002 x237003 x237004) else (none))) else (none))) else (none))) else (none))) else (none)) else (none)) else ((rowlockref12_four.f k (wrap64 (x237002))).bind fun t239 => (if x3.size + t239.size ≤ 9223372036854775807 then ((rowlockref12_four.f k x237003).bind fun t240 => (if (x3 ++ t239).size + t240.size ≤ 9223372036854775807 then ((rowlockref12_four.f k x237004).bind fun t241 => (if ((x3 ++ t239) ++ t240).size + t241.size ≤ 9223372036854775807 then (rowlockref12_Put.l0 k (((x3 ++ t239) ++ t240) ++ t241) x18 (wrap64 (x19 + 1)) x234000 x234001) else (none))) else (none))) else (none)))
def rowlockref12_Put.l2 : Nat → ByteArray → Int → Int → List (S84) → List (S135) → Option (ByteArray)
 | 0, _, _, _, _, _ => none
 | k + 1, x3, x90, x91, x234000, x234001 => if x91 < x90 then (if 0 ≤ x91 then (if x91 < (x234001.length : Int) then ((rowlockref12_text.f k ((rd_T135 x234001 x91).f0)).bind fun t251 => (if x3.size + t251.size ≤ 9223372036854775807 then ((rowlockref12_one.f k ((rd_T135 x234001 x91).f1)).bind fun t252 => (if (x3 ++ t251).size + t252.size ≤ 9223372036854775807 then ((rowlockref12_one.f k (((rd_T135 x234001 x91).f2).length : Int)).bind fun t253 => (if ((x3 ++ t251) ++ t252).size + t253.size ≤ 9223372036854775807 then (rowlockref12_Put.l3 k (((x3 ++ t251) ++ t252) ++ t253) x90 x91 (((rd_T135 x234001 x91).f2).length : Int) 0 x234000 x234001 ((rd_T135 x234001 x91).f0) ((rd_T135 x234001 x91).f1) ((rd_T135 x234001 x91).f2) ((rd_T135 x234001 x91).f3) ((rd_T135 x234001 x91).f4) ((rd_T135 x234001 x91).f5) ((rd_T135 x234001 x91).f6)) else (none))) else (none))) else (none))) else (none)) else (none)) else (some x3)
def rowlockref12_Put.l3 : Nat → ByteArray → Int → Int → Int → Int → List (S84) → List (S135) → ByteArray → Int → List Int → Int → Int → Int → List Int → Option (ByteArray)
 | 0, _, _, _, _, _, _, _, _, _, _, _, _, _, _ => none
 | k + 1, x3, x90, x91, x115, x116, x234000, x234001, x251000, x251001, x251002, x251003, x251004, x251005, x251006 => if x116 < x115 then (if 0 ≤ x116 then (if x116 < (x251002.length : Int) then ((rowlockref12_one.f k (rd x251002 x116)).bind fun t255 => (if x3.size + t255.size ≤ 9223372036854775807 then (rowlockref12_Put.l3 k (x3 ++ t255) x90 x91 x115 (wrap64 (x116 + 1)) x234000 x234001 x251000 x251001 x251002 x251003 x251004 x251005 x251006) else (none))) else (none)) else (none)) else ((rowlockref12_four.f k (wrap64 (x251003))).bind fun t256 => (if x3.size + t256.size ≤ 9223372036854775807 then ((rowlockref12_four.f k x251004).bind fun t257 => (if (x3 ++ t256).size + t257.size ≤ 9223372036854775807 then ((rowlockref12_four.f k x251005).bind fun t258 => (if ((x3 ++ t256) ++ t257).size + t258.size ≤ 9223372036854775807 then (rowlockref12_Put.l4 k (((x3 ++ t256) ++ t257) ++ t258) x90 x91 (x251006.length : Int) 0 x234000 x234001 x251000 x251001 x251002 x251003 x251004 x251005 x251006) else (none))) else (none))) else (none)))
def rowlockref12_Put.l4 : Nat → ByteArray → Int → Int → Int → Int → List (S84) → List (S135) → ByteArray → Int → List Int → Int → Int → Int → List Int → Option (ByteArray)
 | 0, _, _, _, _, _, _, _, _, _, _, _, _, _, _ => none
 | k + 1, x3, x90, x91, x144, x145, x234000, x234001, x251000, x251001, x251002, x251003, x251004, x251005, x251006 => if x145 < x144 then (if 0 ≤ x145 then (if x145 < (x251006.length : Int) then ((rowlockref12_four.f k (rd x251006 x145)).bind fun t260 => (if x3.size + t260.size ≤ 9223372036854775807 then (rowlockref12_Put.l4 k (x3 ++ t260) x90 x91 x144 (wrap64 (x145 + 1)) x234000 x234001 x251000 x251001 x251002 x251003 x251004 x251005 x251006) else (none))) else (none)) else (none)) else (rowlockref12_Put.l2 k x3 x90 (wrap64 (x91 + 1)) x234000 x234001)
end
def rowlockref12_Put.f (k : Nat) (l0_0 : List (S84)) (l0_1 : List (S135)) : Option (ByteArray) := (rowlockref12_one.f k (l0_0.length : Int)).bind fun t234 => (rowlockref12_Put.l0 k t234 (l0_0.length : Int) 0 l0_0 l0_1)
theorem rowlockref12_Put.mono_l : ∀ k, (∀ y0 y1 y2 y3 y4, LeO (rowlockref12_Put.l0 k y0 y1 y2 y3 y4) (rowlockref12_Put.l0 (k + 1) y0 y1 y2 y3 y4)) ∧ (∀ y0 y1 y2 y3 y4 y5 y6 y7 y8 y9 y10 y11, LeO (rowlockref12_Put.l1 k y0 y1 y2 y3 y4 y5 y6 y7 y8 y9 y10 y11) (rowlockref12_Put.l1 (k + 1) y0 y1 y2 y3 y4 y5 y6 y7 y8 y9 y10 y11)) ∧ (∀ y0 y1 y2 y3 y4, LeO (rowlockref12_Put.l2 k y0 y1 y2 y3 y4) (rowlockref12_Put.l2 (k + 1) y0 y1 y2 y3 y4)) ∧ (∀ y0 y1 y2 y3 y4 y5 y6 y7 y8 y9 y10 y11 y12 y13, LeO (rowlockref12_Put.l3 k y0 y1 y2 y3 y4 y5 y6 y7 y8 y9 y10 y11 y12 y13) (rowlockref12_Put.l3 (k + 1) y0 y1 y2 y3 y4 y5 y6 y7 y8 y9 y10 y11 y12 y13)) ∧ (∀ y0 y1 y2 y3 y4 y5 y6 y7 y8 y9 y10 y11 y12 y13, LeO (rowlockref12_Put.l4 k y0 y1 y2 y3 y4 y5 y6 y7 y8 y9 y10 y11 y12 y13) (rowlockref12_Put.l4 (k + 1) y0 y1 y2 y3 y4 y5 y6 y7 y8 y9 y10 y11 y12 y13))
 | 0 => ⟨fun _ _ _ _ _ r h => by simp [rowlockref12_Put.l0] at h, fun _ _ _ _ _ _ _ _ _ _ _ _ r h => by simp [rowlockref12_Put.l1] at h, fun _ _ _ _ _ r h => by simp [rowlockref12_Put.l2] at h, fun _ _ _ _ _ _ _ _ _ _ _ _ _ _ r h => by simp [rowlockref12_Put.l3] at h, fun _ _ _ _ _ _ _ _ _ _ _ _ _ _ r h => by simp [rowlockref12_Put.l4] at h⟩
 | k + 1 => by
  obtain ⟨ih0, ih1, ih2, ih3, ih4⟩ := rowlockref12_Put.mono_l k
  refine ⟨?_, ?_, ?_, ?_, ?_⟩
  ·intro y0 y1 y2 y3 y4
   unfold rowlockref12_Put.l0
   repeat' first
   | (with_reducible exact ih0 _ _ _ _ _)
   | (with_reducible exact ih1 _ _ _ _ _ _ _ _ _ _ _ _)
   | (with_reducible exact ih2 _ _ _ _ _)
   | (with_reducible exact ih3 _ _ _ _ _ _ _ _ _ _ _ _ _ _)
   | (with_reducible exact ih4 _ _ _ _ _ _ _ _ _ _ _ _ _ _)
   | (with_reducible exact rowlockref12_four.mono _ _)
   | (with_reducible exact rowlockref12_one.mono _ _)
   | (with_reducible exact rowlockref12_text.mono _ _)
   | (with_reducible exact LeO.refl _)
   | (with_reducible exact LeO.none _)
   | (with_reducible refine LeO.ite ?_ ?_)
   | (with_reducible refine LeO.bind ?_ (fun _ => ?_))
   | exact ih0 _ _ _ _ _
   | exact ih1 _ _ _ _ _ _ _ _ _ _ _ _
   | exact ih2 _ _ _ _ _
   | exact ih3 _ _ _ _ _ _ _ _ _ _ _ _ _ _
   | exact ih4 _ _ _ _ _ _ _ _ _ _ _ _ _ _
   | exact rowlockref12_four.mono _ _
   | exact rowlockref12_one.mono _ _
   | exact rowlockref12_text.mono _ _
   | exact LeO.none _
   | refine LeO.ite ?_ ?_
   | refine LeO.bind ?_ (fun _ => ?_)
  ·intro y0 y1 y2 y3 y4 y5 y6 y7 y8 y9 y10 y11
   unfold rowlockref12_Put.l1
   repeat' first
   | (with_reducible exact ih0 _ _ _ _ _)
   | (with_reducible exact ih1 _ _ _ _ _ _ _ _ _ _ _ _)
   | (with_reducible exact ih2 _ _ _ _ _)
   | (with_reducible exact ih3 _ _ _ _ _ _ _ _ _ _ _ _ _ _)
   | (with_reducible exact ih4 _ _ _ _ _ _ _ _ _ _ _ _ _ _)
   | (with_reducible exact rowlockref12_four.mono _ _)
   | (with_reducible exact rowlockref12_one.mono _ _)
   | (with_reducible exact rowlockref12_text.mono _ _)
   | (with_reducible exact LeO.refl _)
   | (with_reducible exact LeO.none _)
   | (with_reducible refine LeO.ite ?_ ?_)
   | (with_reducible refine LeO.bind ?_ (fun _ => ?_))
   | exact ih0 _ _ _ _ _
   | exact ih1 _ _ _ _ _ _ _ _ _ _ _ _
   | exact ih2 _ _ _ _ _
   | exact ih3 _ _ _ _ _ _ _ _ _ _ _ _ _ _
   | exact ih4 _ _ _ _ _ _ _ _ _ _ _ _ _ _
   | exact rowlockref12_four.mono _ _
   | exact rowlockref12_one.mono _ _
   | exact rowlockref12_text.mono _ _
   | exact LeO.none _
   | refine LeO.ite ?_ ?_
   | refine LeO.bind ?_ (fun _ => ?_)
  ·intro y0 y1 y2 y3 y4
   unfold rowlockref12_Put.l2
   repeat' first
   | (with_reducible exact ih0 _ _ _ _ _)
   | (with_reducible exact ih1 _ _ _ _ _ _ _ _ _ _ _ _)
   | (with_reducible exact ih2 _ _ _ _ _)
   | (with_reducible exact ih3 _ _ _ _ _ _ _ _ _ _ _ _ _ _)
   | (with_reducible exact ih4 _ _ _ _ _ _ _ _ _ _ _ _ _ _)
   | (with_reducible exact rowlockref12_four.mono _ _)
   | (with_reducible exact rowlockref12_one.mono _ _)
   | (with_reducible exact rowlockref12_text.mono _ _)
   | (with_reducible exact LeO.refl _)
   | (with_reducible exact LeO.none _)
   | (with_reducible refine LeO.ite ?_ ?_)
   | (with_reducible refine LeO.bind ?_ (fun _ => ?_))
   | exact ih0 _ _ _ _ _
   | exact ih1 _ _ _ _ _ _ _ _ _ _ _ _
   | exact ih2 _ _ _ _ _
   | exact ih3 _ _ _ _ _ _ _ _ _ _ _ _ _ _
   | exact ih4 _ _ _ _ _ _ _ _ _ _ _ _ _ _
   | exact rowlockref12_four.mono _ _
   | exact rowlockref12_one.mono _ _
   | exact rowlockref12_text.mono _ _
   | exact LeO.none _
   | refine LeO.ite ?_ ?_
   | refine LeO.bind ?_ (fun _ => ?_)
  ·intro y0 y1 y2 y3 y4 y5 y6 y7 y8 y9 y10 y11 y12 y13
   unfold rowlockref12_Put.l3
   repeat' first
   | (with_reducible exact ih0 _ _ _ _ _)
   | (with_reducible exact ih1 _ _ _ _ _ _ _ _ _ _ _ _)
   | (with_reducible exact ih2 _ _ _ _ _)
   | (with_reducible exact ih3 _ _ _ _ _ _ _ _ _ _ _ _ _ _)
   | (with_reducible exact ih4 _ _ _ _ _ _ _ _ _ _ _ _ _ _)
   | (with_reducible exact rowlockref12_four.mono _ _)
   | (with_reducible exact rowlockref12_one.mono _ _)
   | (with_reducible exact rowlockref12_text.mono _ _)
   | (with_reducible exact LeO.refl _)
   | (with_reducible exact LeO.none _)
   | (with_reducible refine LeO.ite ?_ ?_)
   | (with_reducible refine LeO.bind ?_ (fun _ => ?_))
   | exact ih0 _ _ _ _ _
   | exact ih1 _ _ _ _ _ _ _ _ _ _ _ _
   | exact ih2 _ _ _ _ _
   | exact ih3 _ _ _ _ _ _ _ _ _ _ _ _ _ _
   | exact ih4 _ _ _ _ _ _ _ _ _ _ _ _ _ _
   | exact rowlockref12_four.mono _ _
   | exact rowlockref12_one.mono _ _
   | exact rowlockref12_text.mono _ _
   | exact LeO.none _
   | refine LeO.ite ?_ ?_
   | refine LeO.bind ?_ (fun _ => ?_)
  ·intro y0 y1 y2 y3 y4 y5 y6 y7 y8 y9 y10 y11 y12 y13
   unfold rowlockref12_Put.l4
   repeat' first
   | (with_reducible exact ih0 _ _ _ _ _)
   | (with_reducible exact ih1 _ _ _ _ _ _ _ _ _ _ _ _)
   | (with_reducible exact ih2 _ _ _ _ _)
   | (with_reducible exact ih3 _ _ _ _ _ _ _ _ _ _ _ _ _ _)
   | (with_reducible exact ih4 _ _ _ _ _ _ _ _ _ _ _ _ _ _)
   | (with_reducible exact rowlockref12_four.mono _ _)
   | (with_reducible exact rowlockref12_one.mono _ _)
   | (with_reducible exact rowlockref12_text.mono _ _)
   | (with_reducible exact LeO.refl _)
   | (with_reducible exact LeO.none _)
   | (with_reducible refine LeO.ite ?_ ?_)
   | (with_reducible refine LeO.bind ?_ (fun _ => ?_))
   | exact ih0 _ _ _ _ _
   | exact ih1 _ _ _ _ _ _ _ _ _ _ _ _
   | exact ih2 _ _ _ _ _
   | exact ih3 _ _ _ _ _ _ _ _ _ _ _ _ _ _
   | exact ih4 _ _ _ _ _ _ _ _ _ _ _ _ _ _
   | exact rowlockref12_four.mono _ _
   | exact rowlockref12_one.mono _ _
   | exact rowlockref12_text.mono _ _
   | exact LeO.none _
   | refine LeO.ite ?_ ?_
   | refine LeO.bind ?_ (fun _ => ?_)
theorem rowlockref12_Put.mono : ∀ a0 a1 k, LeO (rowlockref12_Put.f k a0 a1) (rowlockref12_Put.f (k + 1) a0 a1) := by
 intro a0 a1 k
 obtain ⟨ih0, ih1, ih2, ih3, ih4⟩ := rowlockref12_Put.mono_l k
 unfold rowlockref12_Put.f
 repeat' first
   | (with_reducible exact ih0 _ _ _ _ _)
   | (with_reducible exact ih1 _ _ _ _ _ _ _ _ _ _ _ _)
   | (with_reducible exact ih2 _ _ _ _ _)
   | (with_reducible exact ih3 _ _ _ _ _ _ _ _ _ _ _ _ _ _)
   | (with_reducible exact ih4 _ _ _ _ _ _ _ _ _ _ _ _ _ _)
   | (with_reducible exact rowlockref12_four.mono _ _)
   | (with_reducible exact rowlockref12_one.mono _ _)
   | (with_reducible exact rowlockref12_text.mono _ _)
   | (with_reducible exact LeO.refl _)
   | (with_reducible exact LeO.none _)
   | (with_reducible refine LeO.ite ?_ ?_)
   | (with_reducible refine LeO.bind ?_ (fun _ => ?_))
   | exact ih0 _ _ _ _ _
   | exact ih1 _ _ _ _ _ _ _ _ _ _ _ _
   | exact ih2 _ _ _ _ _
   | exact ih3 _ _ _ _ _ _ _ _ _ _ _ _ _ _
   | exact ih4 _ _ _ _ _ _ _ _ _ _ _ _ _ _
   | exact rowlockref12_four.mono _ _
   | exact rowlockref12_one.mono _ _
   | exact rowlockref12_text.mono _ _
   | exact LeO.none _
   | refine LeO.ite ?_ ?_
   | refine LeO.bind ?_ (fun _ => ?_)
def rowlockref12_Put.T6 : Bool × List (List Nat × List Nat) := (true, [([], []), ([], []), ([1], [1]), ([2], [2]), ([0, 3], [0, 3]), ([], []), ([5], [5]), ([6], [6]), ([7, 3], [7]), ([4, 8], [4, 8]), ([9, 8, 0, 1, 2, 3, 4, 5, 6, 7, 8, 9], [0, 9])])
def rowlockref12_Put.B6 : List Nat := [0, 0, 2, 6, 15, 0, 32, 96, 238, 511, 1023]
theorem rowlockref12_Put.tab6 : rtab .any (opsOf Try.f32 6) = rowlockref12_Put.T6 := by kernel_rfl
theorem rowlockref12_Put.bits6 : waitsOk rowlockref12_Put.T6.2 rowlockref12_Put.B6 = true := by kernel_rfl
def rowlockref12_Put.T11 : Bool × List (List Nat × List Nat) := (true, [([], []), ([], []), ([1], [1]), ([2], [2]), ([0, 3], [0, 3]), ([], []), ([5], [5]), ([6], [6]), ([7, 3], [7]), ([4, 8], [4, 8]), ([], []), ([10], [10]), ([11, 8], [11]), ([9, 12], [9, 12]), ([], []), ([14], [14]), ([15, 12], [15]), ([13, 16], [13, 16]), ([17, 16, 0, 1, 2, 3, 4, 5, 6, 7, 8, 9, 10, 11, 12, 13, 14, 15, 16, 17], [0, 17])])
def rowlockref12_Put.B11 : List Nat := [0, 0, 2, 6, 15, 0, 32, 96, 238, 511, 0, 1024, 3566, 8191, 0, 16384, 56814, 131071, 262143]
theorem rowlockref12_Put.tab11 : rtab .any (opsOf Try.f32 11) = rowlockref12_Put.T11 := by kernel_rfl
theorem rowlockref12_Put.bits11 : waitsOk rowlockref12_Put.T11.2 rowlockref12_Put.B11 = true := by kernel_rfl
def rowlockref12_Put.T13 : Bool × List (List Nat × List Nat) := (true, [([], []), ([], []), ([1], [1]), ([2], [2]), ([3], [3]), ([0, 4], [0, 4]), ([], []), ([6], [6]), ([7, 4], [7]), ([5, 8], [5, 8]), ([], []), ([10], [10]), ([11, 8], [11]), ([9, 12], [9, 12]), ([13, 12, 0, 1, 2, 3, 4, 5, 6, 7, 8, 9, 10, 11, 12, 13], [0, 13])])
def rowlockref12_Put.B13 : List Nat := [0, 0, 2, 6, 14, 31, 0, 64, 222, 511, 0, 1024, 3550, 8191, 16383]
theorem rowlockref12_Put.tab13 : rtab .any (opsOf Try.f32 13) = rowlockref12_Put.T13 := by kernel_rfl
theorem rowlockref12_Put.bits13 : waitsOk rowlockref12_Put.T13.2 rowlockref12_Put.B13 = true := by kernel_rfl
def rowlockref12_Put.T20 : Bool × List (List Nat × List Nat) := (true, [([], []), ([], []), ([1], [1]), ([2], [2]), ([0, 3], [0, 3]), ([], []), ([5], [5]), ([6, 3], [6]), ([4, 7], [4, 7]), ([], []), ([9], [9]), ([10], [10]), ([11, 7], [11]), ([8, 12], [8, 12]), ([13, 12, 0, 1, 2, 3, 4, 5, 6, 7, 8, 9, 10, 11, 12, 13], [0, 13])])
def rowlockref12_Put.B20 : List Nat := [0, 0, 2, 6, 15, 0, 32, 110, 255, 0, 512, 1536, 3822, 8191, 16383]
theorem rowlockref12_Put.tab20 : rtab .any (opsOf Try.f32 20) = rowlockref12_Put.T20 := by kernel_rfl
theorem rowlockref12_Put.bits20 : waitsOk rowlockref12_Put.T20.2 rowlockref12_Put.B20 = true := by kernel_rfl
def rowlockref12_Put.T26 : Bool × List (List Nat × List Nat) := (true, [([], []), ([], []), ([1], [1]), ([2], [2]), ([3], [3]), ([0, 4], [0, 4]), ([], []), ([6], [6]), ([7, 4], [7]), ([5, 8], [5, 8]), ([], []), ([10], [10]), ([11, 8], [11]), ([9, 12], [9, 12]), ([13, 12, 0, 1, 2, 3, 4, 5, 6, 7, 8, 9, 10, 11, 12, 13], [0, 13])])
def rowlockref12_Put.B26 : List Nat := [0, 0, 2, 6, 14, 31, 0, 64, 222, 511, 0, 1024, 3550, 8191, 16383]
theorem rowlockref12_Put.tab26 : rtab .any (opsOf Try.f32 26) = rowlockref12_Put.T26 := by kernel_rfl
theorem rowlockref12_Put.bits26 : waitsOk rowlockref12_Put.T26.2 rowlockref12_Put.B26 = true := by kernel_rfl
set_option maxHeartbeats 8000000 in
set_option maxRecDepth 100000 in
theorem rowlockref12_Put.calls (k : Nat) (A0_0 : Option Addr) (c0_0 : Nat) (l0_0 : List (S84)) (A0_1 : Option Addr) (c0_1 : Nat) (l0_1 : List (S135)) (r : ByteArray) (w : World) (hr0_0 : Kd.C k84 w A0_0 l0_0.length l0_0) (hc0_0 : l0_0.length ≤ c0_0) (hr0_1 : Kd.C k135 w A0_1 l0_1.length l0_1) (hc0_1 : l0_1.length ≤ c0_1) (h : rowlockref12_Put.f k l0_0 l0_1 = some r) :
  Calls Try.prog 32 #[.agg #[.slice A0_0 l0_0.length c0_0, .slice A0_1 l0_1.length c0_1]] w fun e w' => e = .returned (.string r) ∧ Below w.heap.size w w' := by
 have hu80 := Try.underlying80
 have hu84 := Try.underlying84
 have hu87 := Try.underlying87
 have hu135 := Try.underlying135
 have HR0_0 := Aside0.mk hr0_0
 have HC0_0 := Aside0.mk hc0_0
 clear hr0_0 hc0_0
 have HR0_1 := Aside0.mk hr0_1
 have HC0_1 := Aside0.mk hc0_1
 clear hr0_1 hc0_1
 have HB := Aside0.mk (Below.refl w.heap.size w)
 have H : ((rowlockref12_one.f k (l0_0.length : Int)).bind fun t234 => (rowlockref12_Put.l0 k t234 (l0_0.length : Int) 0 l0_0 l0_1)) = some r := h
 clear h
 replace H := Option.bind_eq_some_iff.mp H
 obtain ⟨t234, A20, H⟩ := H
 replace H : (rowlockref12_Put.l0 k t234 (l0_0.length : Int) 0 l0_0 l0_1) = some r := H
 have A2 := Aside0.mk A20
 clear A20
 have H' := Aside0.mk H
 clear H
 go_enter Try.func32, Try.ntmps32
 go_wp2_with (first | ((with_reducible refine gate_dst (N := 1) rfl ?_); refine box_event ?hg (N := 1) ?hd (cs := #[.slice A0_0 l0_0.length c0_0, .slice A0_1 l0_1.length c0_1]) (t := 80) ?hr ?_; (case hd => rfl); (case hg => rfl); (case hr => first | (go_simp; done) | (go_simp; rfl)); intro gb233 hg w3 hbox hb; have n0_ := Aside0.mk (below_step (by repeat (first | (with_reducible first | exact HB.out | apply below_alloc | apply pw_below_drewN | apply below_drew1) | exact HB.out)) hb); have n1_ := Aside0.mk (hbox); have n2_ := Aside0.mk ((by rw [hg]; exact (below_size (by repeat (first | (with_reducible first | exact HB.out | apply below_alloc | apply pw_below_drewN | apply below_drew1) | exact HB.out))) : w.heap.size ≤ gb233)); have n3_ := Aside0.mk ((by rw [hg]; exact (below_size (by repeat (first | (with_reducible first | exact HB.out | apply below_alloc | apply pw_below_drewN | apply below_drew1) | exact HB.out))) : w.heap.size ≤ gb233)); clear HB; have HB := n0_; have BK233 := n1_; have GW233 := n2_; have GE233 := n3_; clear n0_ n1_ n2_ n3_; clear hb hbox hg; have hcz4_0 : w3.cell? ⟨gb233, 0, none⟩ = some (.slice A0_0 l0_0.length c0_0) := (blk_cell BK233.out 0).trans rfl; have hcz4_1 : w3.cell? ⟨gb233, 1, none⟩ = some (.slice A0_1 l0_1.length c0_1) := (blk_cell BK233.out 1).trans rfl; have hfz4_0 := blk_frozen BK233.out 0; have hfz4_1 := blk_frozen BK233.out 1) | ((with_reducible refine gate_callee (f := 65) rfl ?_); refine goesL_ (some 15) rfl rfl Try.func65 (by kernel_rfl) rfl #[.int .i64 (l0_0.length : Int)] rfl (by (try simp only [List.map_toArray, List.map_cons, List.map_nil]); first | done | rfl | (simp only [List.length_drop, List.length_take]; rfl)) ?_; (with_reducible refine (rowlockref12_one.calls k (l0_0.length : Int) t234 _ A2.out).mono ?_); rintro e w5 ⟨rfl, hb⟩; refine ⟨_, rfl, ?_⟩; have n0_ := Aside0.mk (blk_below (g := gb233) (o := .cells #[.slice A0_0 l0_0.length c0_0, .slice A0_1 l0_1.length c0_1] 80 (0, 0)) (by (with_reducible repeat (first | refine blk_drewN ?_ _ | refine blk_drew ?_ | refine blk_alloc ?_ _)); exact BK233.out) hb); have n1_ := Aside0.mk (below_step (by repeat (first | (with_reducible first | exact HB.out | apply below_alloc | apply pw_below_drewN | apply below_drew1 | refine below_set ?_ GE233.out) | exact HB.out)) hb); clear BK233; clear HB; have BK233 := n0_; have HB := n1_; clear n0_ n1_; (try clear hb); (try clear hb2); (try clear hk); (try clear hi); have hcz6_0 : w5.cell? ⟨gb233, 0, none⟩ = some (.slice A0_0 l0_0.length c0_0) := (blk_cell BK233.out 0).trans rfl; have hcz6_1 : w5.cell? ⟨gb233, 1, none⟩ = some (.slice A0_1 l0_1.length c0_1) := (blk_cell BK233.out 1).trans rfl; have hfz6_0 := blk_frozen BK233.out 0; have hfz6_1 := blk_frozen BK233.out 1))
 go_loopg [3, 19] k (fun kq v3 v19 w' => ∃ (x3_1 : ByteArray) (x19_1 : Int), v3 = .string x3_1 ∧ v19 = .int .i64 x19_1 ∧ Aside0 (rowlockref12_Put.l0 kq x3_1 (l0_0.length : Int) x19_1 l0_0 l0_1 = some r) ∧ Aside0 (kq ≤ k) ∧ Aside0 (w'.heap[gb233]? = some (.cells #[(.slice A0_0 l0_0.length c0_0), (.slice A0_1 l0_1.length c0_1)] 80 (0, 0))) ∧ Aside0 (Below w.heap.size w w'))
 case atStart => exact ⟨(t234), (0), (by first | rfl | (simp; done) | (simp [*]; done)), (by first | rfl | (simp; done) | (simp [*]; done)), H', ⟨Nat.le_refl _⟩, ⟨by (with_reducible repeat (first | refine blk_drewN ?_ _ | refine blk_drew ?_ | refine blk_alloc ?_ _)); exact BK233.out⟩, ⟨by repeat (first | (with_reducible first | exact HB.out | apply below_alloc | apply pw_below_drewN | apply below_drew1 | refine below_set ?_ GE233.out) | exact HB.out)⟩⟩
 case round =>
  clear H'
  try clear p2
  try clear c3
  try clear c6
  try clear hcz4_0
  try clear hcz4_1
  try clear hcz6_0
  try clear hcz6_1
  try clear hfz4_0
  try clear hfz4_1
  try clear hfz6_0
  try clear hfz6_1
  obtain ⟨x3_1, x19_1, rfl, rfl, HA, HK1, BK233, HB⟩ := hrel
  cases gk with
  | zero => exact absurd HA.out (by simp [rowlockref12_Put.l0])
  | succ k1 =>
   have H := HA.out
   clear HA
   simp only [rowlockref12_Put.l0] at H
   by_cases c7 : x19_1 < (l0_0.length : Int)
   ·rw [if_pos c7] at H
    have c7b0 : decide (x19_1 < (l0_0.length : Int)) = true := decide_eq_true c7
    clear c7
    by_cases c8 : 0 ≤ x19_1
    ·rw [if_pos c8] at H
     have c8b0 : decide (0 ≤ x19_1) = true := decide_eq_true c8
     clear c8
     by_cases c9 : x19_1 < (l0_0.length : Int)
     ·rw [if_pos c9] at H
      have c9b0 : decide (x19_1 < (l0_0.length : Int)) = true := decide_eq_true c9
      clear c9
      replace H := Option.bind_eq_some_iff.mp H
      obtain ⟨t237, A100, H⟩ := H
      replace H : (if x3_1.size + t237.size ≤ 9223372036854775807 then ((rowlockref12_one.f k1 (((rd_T84 l0_0 x19_1).f1).length : Int)).bind fun t238 => (if (x3_1 ++ t237).size + t238.size ≤ 9223372036854775807 then (rowlockref12_Put.l1 k1 ((x3_1 ++ t237) ++ t238) (l0_0.length : Int) x19_1 (((rd_T84 l0_0 x19_1).f1).length : Int) 0 l0_0 l0_1 ((rd_T84 l0_0 x19_1).f0) ((rd_T84 l0_0 x19_1).f1) ((rd_T84 l0_0 x19_1).f2) ((rd_T84 l0_0 x19_1).f3) ((rd_T84 l0_0 x19_1).f4)) else (none))) else (none)) = some r := H
      have A10 := Aside0.mk A100
      clear A100
      by_cases c11 : x3_1.size + t237.size ≤ 9223372036854775807
      ·rw [if_pos c11] at H
       have c11b0 := eq_true c11
       have c11b1 : decide (x3_1.size + t237.size ≤ 9223372036854775807) = true := decide_eq_true c11
       try have c11b2 : (9223372036854775807 < x3_1.size + t237.size) = False := eq_false (Nat.not_lt.2 c11)
       replace H := Option.bind_eq_some_iff.mp H
       obtain ⟨t238, A120, H⟩ := H
       replace H : (if (x3_1 ++ t237).size + t238.size ≤ 9223372036854775807 then (rowlockref12_Put.l1 k1 ((x3_1 ++ t237) ++ t238) (l0_0.length : Int) x19_1 (((rd_T84 l0_0 x19_1).f1).length : Int) 0 l0_0 l0_1 ((rd_T84 l0_0 x19_1).f0) ((rd_T84 l0_0 x19_1).f1) ((rd_T84 l0_0 x19_1).f2) ((rd_T84 l0_0 x19_1).f3) ((rd_T84 l0_0 x19_1).f4)) else (none)) = some r := H
       have A12 := Aside0.mk A120
       clear A120
       by_cases c13 : (x3_1 ++ t237).size + t238.size ≤ 9223372036854775807
       ·rw [if_pos c13] at H
        have c13b0 := eq_true c13
        have c13b1 : decide ((x3_1 ++ t237).size + t238.size ≤ 9223372036854775807) = true := decide_eq_true c13
        try have c13b2 : (9223372036854775807 < (x3_1 ++ t237).size + t238.size) = False := eq_false (Nat.not_lt.2 c13)
        try have c13b3 := c13b2
        try simp only [ByteArray.size_append] at c13b3
        have H' := Aside0.mk H
        clear H
        have hcz14_0 : wr.cell? ⟨gb233, 0, none⟩ = some (.slice A0_0 l0_0.length c0_0) := (blk_cell BK233.out 0).trans rfl
        have hcz14_1 : wr.cell? ⟨gb233, 1, none⟩ = some (.slice A0_1 l0_1.length c0_1) := (blk_cell BK233.out 1).trans rfl
        have hfz14_0 := blk_frozen BK233.out 0
        have hfz14_1 := blk_frozen BK233.out 1
        have p235 : 0 ≤ (x19_1 : Int) := of_decide_eq_true (by first | (with_reducible assumption) | assumption)
        have q235 : x19_1 < (l0_0.length : Int) := of_decide_eq_true (by first | (with_reducible assumption) | assumption)
        obtain ⟨ad235, A235_1, c235_1, e235, hx235_0, hx235_1, hx235_2, hx235_3, hx235_4, hl235_1, hi235_1⟩ := at_T84 HR0_0.out x19_1 p235 q235
        cases e235
        replace hx235_0 := (HB.out.cell (World.block_lt_of_cell? w _ hx235_0)).trans hx235_0
        replace hx235_1 := (HB.out.cell (World.block_lt_of_cell? w _ hx235_1)).trans hx235_1
        replace hx235_2 := (HB.out.cell (World.block_lt_of_cell? w _ hx235_2)).trans hx235_2
        replace hx235_3 := (HB.out.cell (World.block_lt_of_cell? w _ hx235_3)).trans hx235_3
        replace hx235_4 := (HB.out.cell (World.block_lt_of_cell? w _ hx235_4)).trans hx235_4
        have HR235_1 := Aside0.mk hi235_1
        have HC235_1 := Aside0.mk hl235_1
        clear hi235_1 hl235_1
        replace p235 := eq_true p235
        have p235D := p235; try simp only [List.length_drop, List.length_take] at p235D
        replace q235 := eq_true q235
        have q235D := q235; try simp only [List.length_drop, List.length_take] at q235D
        try go_wp2_with (first | ((with_reducible refine gate_dst (N := 5) rfl ?_); refine box_event ?hg (N := 5) ?hd (cs := #[.string (⟨#[]⟩ : ByteArray), .slice none 0 0, .int .u32 0, .int .i64 0, .int .i64 0]) (t := 84) ?hr ?_; (case hd => rfl); (case hg => rfl); (case hr => first | (go_simp; done) | (go_simp; rfl)); intro gb236 hg w15 hbox hb; have n0_ := Aside0.mk (blk_below (g := gb233) (o := .cells #[.slice (some ad235) l0_0.length c0_0, .slice A0_1 l0_1.length c0_1] 80 (0, 0)) (by (with_reducible repeat (first | refine blk_drewN ?_ _ | refine blk_drew ?_ | refine blk_alloc ?_ _)); exact BK233.out) hb); have n1_ := Aside0.mk (below_step (by repeat (first | (with_reducible first | exact HB.out | apply below_alloc | apply pw_below_drewN | apply below_drew1 | refine below_set ?_ GE233.out) | exact HB.out)) hb); have n2_ := Aside0.mk (hbox); have n3_ := Aside0.mk ((by rw [hg]; exact (below_size (by repeat (first | (with_reducible first | exact HB.out | apply below_alloc | apply pw_below_drewN | apply below_drew1 | refine below_set ?_ GE233.out) | exact HB.out))) : w.heap.size ≤ gb236)); have n4_ := Aside0.mk ((by rw [hg]; exact (below_size (by repeat (first | (with_reducible first | exact HB.out | apply below_alloc | apply pw_below_drewN | apply below_drew1 | refine below_set ?_ GE233.out) | exact HB.out))) : w.heap.size ≤ gb236)); have n5_ := Aside0.mk ((by rw [hg]; exact Nat.ne_of_lt (blk_lt (g := gb233) (o := .cells #[.slice (some ad235) l0_0.length c0_0, .slice A0_1 l0_1.length c0_1] 80 (0, 0)) (by (with_reducible repeat (first | refine blk_drewN ?_ _ | refine blk_drew ?_ | refine blk_alloc ?_ _)); exact BK233.out)) : gb233 ≠ gb236)); have n6_ := Aside0.mk ((by rw [hg]; exact Nat.ne_of_gt (blk_lt (g := gb233) (o := .cells #[.slice (some ad235) l0_0.length c0_0, .slice A0_1 l0_1.length c0_1] 80 (0, 0)) (by (with_reducible repeat (first | refine blk_drewN ?_ _ | refine blk_drew ?_ | refine blk_alloc ?_ _)); exact BK233.out)) : gb236 ≠ gb233)); clear BK233; clear HB; have BK233 := n0_; have HB := n1_; have BK236 := n2_; have GW236 := n3_; have GE236 := n4_; have NB233_236 := n5_; have NB236_233 := n6_; clear n0_ n1_ n2_ n3_ n4_ n5_ n6_; clear hb hbox hg; have hnb16 := NB236_233.out; have hnc16 := NB233_236.out; have hcz17_0 : w15.cell? ⟨gb236, 0, none⟩ = some (.string (⟨#[]⟩ : ByteArray)) := (blk_cell BK236.out 0).trans rfl; have hcz17_1 : w15.cell? ⟨gb236, 1, none⟩ = some (.slice none 0 0) := (blk_cell BK236.out 1).trans rfl; have hcz17_2 : w15.cell? ⟨gb236, 2, none⟩ = some (.int .u32 0) := (blk_cell BK236.out 2).trans rfl; have hcz17_3 : w15.cell? ⟨gb236, 3, none⟩ = some (.int .i64 0) := (blk_cell BK236.out 3).trans rfl; have hcz17_4 : w15.cell? ⟨gb236, 4, none⟩ = some (.int .i64 0) := (blk_cell BK236.out 4).trans rfl; have hfz17_0 := blk_frozen BK236.out 0; have hfz17_1 := blk_frozen BK236.out 1; have hfz17_2 := blk_frozen BK236.out 2; have hfz17_3 := blk_frozen BK236.out 3; have hfz17_4 := blk_frozen BK236.out 4))
        have n0_ : Aside0 ((((((w15.setCell ⟨gb236, 0, none⟩ (.string ((rd_T84 l0_0 x19_1).f0))).setCell ⟨gb236, 1, none⟩ (.slice A235_1 ((rd_T84 l0_0 x19_1).f1).length c235_1)).setCell ⟨gb236, 2, none⟩ (.int .u32 ((rd_T84 l0_0 x19_1).f2))).setCell ⟨gb236, 3, none⟩ (.int .i64 ((rd_T84 l0_0 x19_1).f3))).setCell ⟨gb236, 4, none⟩ (.int .i64 ((rd_T84 l0_0 x19_1).f4))).heap[gb233]? = some (.cells #[.slice (some ad235) l0_0.length c0_0, .slice A0_1 l0_1.length c0_1] 80 (0, 0))) := ⟨by (with_reducible repeat (first | refine blk_drewN ?_ _ | refine blk_drew ?_ | refine blk_alloc ?_ _)); refine blk_far ?_ NB233_236.out _; (with_reducible repeat (first | refine blk_drewN ?_ _ | refine blk_drew ?_ | refine blk_alloc ?_ _)); refine blk_far ?_ NB233_236.out _; (with_reducible repeat (first | refine blk_drewN ?_ _ | refine blk_drew ?_ | refine blk_alloc ?_ _)); refine blk_far ?_ NB233_236.out _; (with_reducible repeat (first | refine blk_drewN ?_ _ | refine blk_drew ?_ | refine blk_alloc ?_ _)); refine blk_far ?_ NB233_236.out _; (with_reducible repeat (first | refine blk_drewN ?_ _ | refine blk_drew ?_ | refine blk_alloc ?_ _)); refine blk_far ?_ NB233_236.out _; (with_reducible repeat (first | refine blk_drewN ?_ _ | refine blk_drew ?_ | refine blk_alloc ?_ _)); exact BK233.out⟩
        have n1_ : Aside0 ((((((w15.setCell ⟨gb236, 0, none⟩ (.string ((rd_T84 l0_0 x19_1).f0))).setCell ⟨gb236, 1, none⟩ (.slice A235_1 ((rd_T84 l0_0 x19_1).f1).length c235_1)).setCell ⟨gb236, 2, none⟩ (.int .u32 ((rd_T84 l0_0 x19_1).f2))).setCell ⟨gb236, 3, none⟩ (.int .i64 ((rd_T84 l0_0 x19_1).f3))).setCell ⟨gb236, 4, none⟩ (.int .i64 ((rd_T84 l0_0 x19_1).f4))).heap[gb236]? = some (.cells #[.string ((rd_T84 l0_0 x19_1).f0), .slice A235_1 ((rd_T84 l0_0 x19_1).f1).length c235_1, .int .u32 ((rd_T84 l0_0 x19_1).f2), .int .i64 ((rd_T84 l0_0 x19_1).f3), .int .i64 ((rd_T84 l0_0 x19_1).f4)] 84 (0, 0))) := ⟨by (with_reducible repeat (first | refine blk_drewN ?_ _ | refine blk_drew ?_ | refine blk_alloc ?_ _)); refine blk_put (cs := #[.string ((rd_T84 l0_0 x19_1).f0), .slice A235_1 ((rd_T84 l0_0 x19_1).f1).length c235_1, .int .u32 ((rd_T84 l0_0 x19_1).f2), .int .i64 ((rd_T84 l0_0 x19_1).f3), .int .i64 0]) ?_ 4 _ rfl; (with_reducible repeat (first | refine blk_drewN ?_ _ | refine blk_drew ?_ | refine blk_alloc ?_ _)); refine blk_put (cs := #[.string ((rd_T84 l0_0 x19_1).f0), .slice A235_1 ((rd_T84 l0_0 x19_1).f1).length c235_1, .int .u32 ((rd_T84 l0_0 x19_1).f2), .int .i64 0, .int .i64 0]) ?_ 3 _ rfl; (with_reducible repeat (first | refine blk_drewN ?_ _ | refine blk_drew ?_ | refine blk_alloc ?_ _)); refine blk_put (cs := #[.string ((rd_T84 l0_0 x19_1).f0), .slice A235_1 ((rd_T84 l0_0 x19_1).f1).length c235_1, .int .u32 0, .int .i64 0, .int .i64 0]) ?_ 2 _ rfl; (with_reducible repeat (first | refine blk_drewN ?_ _ | refine blk_drew ?_ | refine blk_alloc ?_ _)); refine blk_put (cs := #[.string ((rd_T84 l0_0 x19_1).f0), .slice none 0 0, .int .u32 0, .int .i64 0, .int .i64 0]) ?_ 1 _ rfl; (with_reducible repeat (first | refine blk_drewN ?_ _ | refine blk_drew ?_ | refine blk_alloc ?_ _)); refine blk_put (cs := #[.string (⟨#[]⟩ : ByteArray), .slice none 0 0, .int .u32 0, .int .i64 0, .int .i64 0]) ?_ 0 _ rfl; (with_reducible repeat (first | refine blk_drewN ?_ _ | refine blk_drew ?_ | refine blk_alloc ?_ _)); exact BK236.out⟩
        have n2_ : Aside0 (Below w.heap.size w (((((w15.setCell ⟨gb236, 0, none⟩ (.string ((rd_T84 l0_0 x19_1).f0))).setCell ⟨gb236, 1, none⟩ (.slice A235_1 ((rd_T84 l0_0 x19_1).f1).length c235_1)).setCell ⟨gb236, 2, none⟩ (.int .u32 ((rd_T84 l0_0 x19_1).f2))).setCell ⟨gb236, 3, none⟩ (.int .i64 ((rd_T84 l0_0 x19_1).f3))).setCell ⟨gb236, 4, none⟩ (.int .i64 ((rd_T84 l0_0 x19_1).f4)))) := ⟨by repeat (first | (with_reducible first | exact HB.out | apply below_alloc | apply pw_below_drewN | apply below_drew1 | refine below_set ?_ GE233.out | refine below_set ?_ GE236.out) | exact HB.out)⟩
        (try clear BK233)
        (try clear BK236)
        (try clear HB)
        generalize (((((w15.setCell ⟨gb236, 0, none⟩ (.string ((rd_T84 l0_0 x19_1).f0))).setCell ⟨gb236, 1, none⟩ (.slice A235_1 ((rd_T84 l0_0 x19_1).f1).length c235_1)).setCell ⟨gb236, 2, none⟩ (.int .u32 ((rd_T84 l0_0 x19_1).f2))).setCell ⟨gb236, 3, none⟩ (.int .i64 ((rd_T84 l0_0 x19_1).f3))).setCell ⟨gb236, 4, none⟩ (.int .i64 ((rd_T84 l0_0 x19_1).f4))) = w18 at n0_ n1_ n2_ ⊢
        have BK233 := n0_
        have BK236 := n1_
        have HB := n2_
        clear n0_ n1_ n2_
        have n0_ := Aside0.mk (blk_drew BK233.out)
        have n1_ := Aside0.mk (blk_drew BK236.out)
        have n2_ := Aside0.mk (below_drew1 HB.out)
        clear BK233
        clear BK236
        clear HB
        have BK233 := n0_
        have BK236 := n1_
        have HB := n2_
        clear n0_ n1_ n2_
        refine start_ (n := 11) (S := fun w' => w'.cell? ⟨gb236, 0, none⟩ = some (.string ((rd_T84 l0_0 x19_1).f0)) ∧ w'.cell? ⟨gb236, 1, none⟩ = some (.slice A235_1 ((rd_T84 l0_0 x19_1).f1).length c235_1) ∧ w'.cell? ⟨gb236, 2, none⟩ = some (.int .u32 ((rd_T84 l0_0 x19_1).f2)) ∧ w'.cell? ⟨gb236, 3, none⟩ = some (.int .i64 ((rd_T84 l0_0 x19_1).f3)) ∧ w'.cell? ⟨gb236, 4, none⟩ = some (.int .i64 ((rd_T84 l0_0 x19_1).f4))) (ds := []) #[false, false, false, false, false, false, false, false, false, false, false] (by kernel_rfl) rfl rfl ⟨(blk_cell BK236.out 0).trans rfl, (blk_cell BK236.out 1).trans rfl, (blk_cell BK236.out 2).trans rfl, (blk_cell BK236.out 3).trans rfl, (blk_cell BK236.out 4).trans rfl⟩ (fun hHeld => ?_); refine with_tabW rowlockref12_Put.tab6 rowlockref12_Put.bits6 (fun HT_ HW_ => ?_)
        generalize w18.drew = w19 at BK233 BK236 HB hHeld ⊢
        refine pure_ (i := 0) (N := some 27) (v := ?_) (a' := ?_) #[true, false, false, false, false, false, false, false, false, false, false] rfl rfl (any_of HT_.out (by kernel_rfl)) (fun _ _ _ h => h) (Or.inl ⟨by rfl, ?_⟩) ?_ ?_
        rotate_left
        ·intro w'
         go_simp
         with_reducible rfl
        rotate_left
        ·simp only [Act.put, List.setIfInBounds_toArray, List.set_cons_zero, List.set_cons_succ, i64_w, i32_w]
         rfl
        refine pure_ (i := 1) (N := some 28) (v := ?_) (a' := ?_) #[true, true, false, false, false, false, false, false, false, false, false] rfl rfl (any_of HT_.out (by kernel_rfl)) (fun _ _ _ h => h) (Or.inl ⟨by rfl, ?_⟩) ?_ ?_
        rotate_left
        ·intro w'
         go_simp
         with_reducible rfl
        rotate_left
        ·simp only [Act.put, List.setIfInBounds_toArray, List.set_cons_zero, List.set_cons_succ, i64_w, i32_w]
         rfl
        refine pure_ (i := 5) (N := some 32) (v := ?_) (a' := ?_) #[true, true, false, false, false, true, false, false, false, false, false] rfl rfl (any_of HT_.out (by kernel_rfl)) (fun _ _ _ h => h) (Or.inl ⟨by rfl, ?_⟩) ?_ ?_
        rotate_left
        ·intro w'
         go_simp
         with_reducible rfl
        rotate_left
        ·simp only [Act.put, List.setIfInBounds_toArray, List.set_cons_zero, List.set_cons_succ, i64_w, i32_w]
         rfl
        refine take_ (i := 2) (N := some 29) (v := ?_) (a' := ?_) #[true, true, true, false, false, true, false, false, false, false, false] rfl rfl (take_ofW HT_.out HW_.out (by kernel_rfl)) (fun _ _ _ h => h) (Or.inl ⟨by rfl, ?_⟩) hHeld ?_ ?_
        rotate_left
        ·rintro w' ⟨s0, s1, s2, s3, s4⟩
         go_simp
         with_reducible rfl
        rotate_left
        ·simp only [Act.put, List.setIfInBounds_toArray, List.set_cons_zero, List.set_cons_succ, i64_w, i32_w]
         rfl
        refine take_ (i := 6) (N := some 33) (v := ?_) (a' := ?_) #[true, true, true, false, false, true, true, false, false, false, false] rfl rfl (take_ofW HT_.out HW_.out (by kernel_rfl)) (fun _ _ _ h => h) (Or.inl ⟨by rfl, ?_⟩) hHeld ?_ ?_
        rotate_left
        ·rintro w' ⟨s0, s1, s2, s3, s4⟩
         go_simp
         with_reducible rfl
        rotate_left
        ·simp only [Act.put, List.setIfInBounds_toArray, List.set_cons_zero, List.set_cons_succ, i64_w, i32_w]
         rfl
        refine pure_ (i := 7) (N := some 34) (v := ?_) (a' := ?_) #[true, true, true, false, false, true, true, true, false, false, false] rfl rfl (any_of HT_.out (by kernel_rfl)) (fun _ _ _ h => h) (Or.inl ⟨by rfl, ?_⟩) ?_ ?_
        rotate_left
        ·intro w'
         go_simp
         with_reducible rfl
        rotate_left
        ·simp only [Act.put, List.setIfInBounds_toArray, List.set_cons_zero, List.set_cons_succ, i64_w, i32_w]
         rfl
        refine one_ (i := 3) (N := some 30) #[true, true, true, true, false, true, true, true, false, false, false] rfl rfl (one_of HT_.out (by kernel_rfl)) (by decide) (fun K hK => ?_)
        refine goes_ Try.func66 (by kernel_rfl) rfl #[.string ((rd_T84 l0_0 x19_1).f0)] (by rfl) rfl rfl (by (try simp only [List.map_toArray, List.map_cons, List.map_nil]); first | done | rfl | (simp only [List.length_drop, List.length_take]; rfl)) ?_
        with_reducible refine (rowlockref12_text.calls k1 ((rd_T84 l0_0 x19_1).f0) t237 _ A10.out).mono ?_
        rintro e w20 ⟨rfl, hb⟩
        refine ⟨_, rfl, ?_⟩
        have n0_ := Aside0.mk (blk_below (g := gb233) (o := .cells #[.slice (some ad235) l0_0.length c0_0, .slice A0_1 l0_1.length c0_1] 80 (0, 0)) (by (with_reducible repeat (first | refine blk_drewN ?_ _ | refine blk_drew ?_ | refine blk_alloc ?_ _)); exact BK233.out) hb)
        have n1_ := Aside0.mk (blk_below (g := gb236) (o := .cells #[.string ((rd_T84 l0_0 x19_1).f0), .slice A235_1 ((rd_T84 l0_0 x19_1).f1).length c235_1, .int .u32 ((rd_T84 l0_0 x19_1).f2), .int .i64 ((rd_T84 l0_0 x19_1).f3), .int .i64 ((rd_T84 l0_0 x19_1).f4)] 84 (0, 0)) (by (with_reducible repeat (first | refine blk_drewN ?_ _ | refine blk_drew ?_ | refine blk_alloc ?_ _)); exact BK236.out) hb)
        have n2_ := Aside0.mk (below_step (by repeat (first | (with_reducible first | exact HB.out | apply below_alloc | apply pw_below_drewN | apply below_drew1 | refine below_set ?_ GE233.out | refine below_set ?_ GE236.out) | exact HB.out)) hb)
        clear BK233
        clear BK236
        clear HB
        have BK233 := n0_
        have BK236 := n1_
        have HB := n2_
        clear n0_ n1_ n2_
        (try clear hb)
        (try clear hb2)
        (try clear hk)
        (try clear hi)
        refine hK.out _ _ ⟨(blk_cell BK236.out 0).trans rfl, (blk_cell BK236.out 1).trans rfl, (blk_cell BK236.out 2).trans rfl, (blk_cell BK236.out 3).trans rfl, (blk_cell BK236.out 4).trans rfl⟩ (fun hHeld => ?_)
        clear hK K
        refine norm_ (a' := ?_) ?_ ?_
        rotate_left
        ·show Act.put _ (some 30) _ = _
         simp only [Act.put, List.setIfInBounds_toArray, List.set_cons_zero, List.set_cons_succ, i64_w, i32_w]
         rfl
        refine pure_ (i := 4) (N := some 31) (v := ?_) (a' := ?_) #[true, true, true, true, true, true, true, true, false, false, false] rfl rfl (any_of HT_.out (by kernel_rfl)) (fun _ _ _ h => h) (Or.inl ⟨by rfl, ?_⟩) ?_ ?_
        rotate_left
        ·intro w'
         go_simp
         with_reducible rfl
        rotate_left
        ·simp only [Act.put, List.setIfInBounds_toArray, List.set_cons_zero, List.set_cons_succ, i64_w, i32_w]
         rfl
        refine one_ (i := 8) (N := some 35) #[true, true, true, true, true, true, true, true, true, false, false] rfl rfl (one_of HT_.out (by kernel_rfl)) (by decide) (fun K hK => ?_)
        refine goes_ Try.func65 (by kernel_rfl) rfl #[.int .i64 (((rd_T84 l0_0 x19_1).f1).length : Int)] (by rfl) rfl rfl (by (try simp only [List.map_toArray, List.map_cons, List.map_nil]); first | done | rfl | (simp only [List.length_drop, List.length_take]; rfl)) ?_
        with_reducible refine (rowlockref12_one.calls k1 (((rd_T84 l0_0 x19_1).f1).length : Int) t238 _ A12.out).mono ?_
        rintro e w21 ⟨rfl, hb⟩
        refine ⟨_, rfl, ?_⟩
        have n0_ := Aside0.mk (blk_below (g := gb233) (o := .cells #[.slice (some ad235) l0_0.length c0_0, .slice A0_1 l0_1.length c0_1] 80 (0, 0)) (by (with_reducible repeat (first | refine blk_drewN ?_ _ | refine blk_drew ?_ | refine blk_alloc ?_ _)); exact BK233.out) hb)
        have n1_ := Aside0.mk (blk_below (g := gb236) (o := .cells #[.string ((rd_T84 l0_0 x19_1).f0), .slice A235_1 ((rd_T84 l0_0 x19_1).f1).length c235_1, .int .u32 ((rd_T84 l0_0 x19_1).f2), .int .i64 ((rd_T84 l0_0 x19_1).f3), .int .i64 ((rd_T84 l0_0 x19_1).f4)] 84 (0, 0)) (by (with_reducible repeat (first | refine blk_drewN ?_ _ | refine blk_drew ?_ | refine blk_alloc ?_ _)); exact BK236.out) hb)
        have n2_ := Aside0.mk (below_step (by repeat (first | (with_reducible first | exact HB.out | apply below_alloc | apply pw_below_drewN | apply below_drew1 | refine below_set ?_ GE233.out | refine below_set ?_ GE236.out) | exact HB.out)) hb)
        clear BK233
        clear BK236
        clear HB
        have BK233 := n0_
        have BK236 := n1_
        have HB := n2_
        clear n0_ n1_ n2_
        (try clear hb)
        (try clear hb2)
        (try clear hk)
        (try clear hi)
        refine hK.out _ _ ⟨(blk_cell BK236.out 0).trans rfl, (blk_cell BK236.out 1).trans rfl, (blk_cell BK236.out 2).trans rfl, (blk_cell BK236.out 3).trans rfl, (blk_cell BK236.out 4).trans rfl⟩ (fun hHeld => ?_)
        clear hK K
        refine norm_ (a' := ?_) ?_ ?_
        rotate_left
        ·show Act.put _ (some 35) _ = _
         simp only [Act.put, List.setIfInBounds_toArray, List.set_cons_zero, List.set_cons_succ, i64_w, i32_w]
         rfl
        refine pure_ (i := 9) (N := some 36) (v := ?_) (a' := ?_) #[true, true, true, true, true, true, true, true, true, true, false] rfl rfl (any_of HT_.out (by kernel_rfl)) (fun _ _ _ h => h) (Or.inl ⟨by rfl, ?_⟩) ?_ ?_
        rotate_left
        ·intro w'
         go_simp
         with_reducible rfl
        rotate_left
        ·simp only [Act.put, List.setIfInBounds_toArray, List.set_cons_zero, List.set_cons_succ, i64_w, i32_w]
         rfl
        refine pure_ (i := 10) (N := some 3) (v := ?_) (a' := ?_) #[true, true, true, true, true, true, true, true, true, true, true] rfl rfl (any_of HT_.out (by kernel_rfl)) (fun _ _ _ h => h) (Or.inl ⟨by rfl, ?_⟩) ?_ ?_
        rotate_left
        ·intro w'
         go_simp
         with_reducible rfl
        rotate_left
        ·simp only [Act.put, List.setIfInBounds_toArray, List.set_cons_zero, List.set_cons_succ, i64_w, i32_w]
         rfl
        refine done_ (done_of HT_.out (by kernel_rfl)) ?_
        have hcz22_0 : w21.cell? ⟨gb236, 0, none⟩ = some (.string ((rd_T84 l0_0 x19_1).f0)) := (blk_cell BK236.out 0).trans rfl
        have hcz22_1 : w21.cell? ⟨gb236, 1, none⟩ = some (.slice A235_1 ((rd_T84 l0_0 x19_1).f1).length c235_1) := (blk_cell BK236.out 1).trans rfl
        have hcz22_2 : w21.cell? ⟨gb236, 2, none⟩ = some (.int .u32 ((rd_T84 l0_0 x19_1).f2)) := (blk_cell BK236.out 2).trans rfl
        have hcz22_3 : w21.cell? ⟨gb236, 3, none⟩ = some (.int .i64 ((rd_T84 l0_0 x19_1).f3)) := (blk_cell BK236.out 3).trans rfl
        have hcz22_4 : w21.cell? ⟨gb236, 4, none⟩ = some (.int .i64 ((rd_T84 l0_0 x19_1).f4)) := (blk_cell BK236.out 4).trans rfl
        have hfz22_0 := blk_frozen BK236.out 0
        have hfz22_1 := blk_frozen BK236.out 1
        have hfz22_2 := blk_frozen BK236.out 2
        have hfz22_3 := blk_frozen BK236.out 3
        have hfz22_4 := blk_frozen BK236.out 4
        try go_wp2
        go_loopg [3, 40] k1 (fun kq v3 v40 w' => ∃ (x3_2 : ByteArray) (x40_2 : Int), v3 = .string x3_2 ∧ v40 = .int .i64 x40_2 ∧ Aside0 (rowlockref12_Put.l1 kq x3_2 (l0_0.length : Int) x19_1 (((rd_T84 l0_0 x19_1).f1).length : Int) x40_2 l0_0 l0_1 ((rd_T84 l0_0 x19_1).f0) ((rd_T84 l0_0 x19_1).f1) ((rd_T84 l0_0 x19_1).f2) ((rd_T84 l0_0 x19_1).f3) ((rd_T84 l0_0 x19_1).f4) = some r) ∧ Aside0 (kq ≤ k1) ∧ Aside0 (w'.heap[gb233]? = some (.cells #[(.slice (some ad235) l0_0.length c0_0), (.slice A0_1 l0_1.length c0_1)] 80 (0, 0))) ∧ Aside0 (w'.heap[gb236]? = some (.cells #[.string ((rd_T84 l0_0 x19_1).f0), (.slice A235_1 ((rd_T84 l0_0 x19_1).f1).length c235_1), .int .u32 ((rd_T84 l0_0 x19_1).f2), .int .i64 ((rd_T84 l0_0 x19_1).f3), .int .i64 ((rd_T84 l0_0 x19_1).f4)] 84 (0, 0))) ∧ Aside0 (Below w.heap.size w w'))
        case atStart => exact ⟨((x3_1 ++ t237) ++ t238), (0), (by first | rfl | (simp; done) | (simp [*]; done)), (by first | rfl | (simp; done) | (simp [*]; done)), H', ⟨Nat.le_refl _⟩, ⟨by (with_reducible repeat (first | refine blk_drewN ?_ _ | refine blk_drew ?_ | refine blk_alloc ?_ _)); exact BK233.out⟩, ⟨by (with_reducible repeat (first | refine blk_drewN ?_ _ | refine blk_drew ?_ | refine blk_alloc ?_ _)); exact BK236.out⟩, ⟨by repeat (first | (with_reducible first | exact HB.out | apply below_alloc | apply pw_below_drewN | apply below_drew1 | refine below_set ?_ GE233.out | refine below_set ?_ GE236.out) | exact HB.out)⟩⟩
        case round =>
         clear H'
         try clear c1
         try clear c2
         try clear p2
         try clear q2
         try clear hx2
         try clear c3
         try clear c6
         try clear c7
         try clear c7b0
         try clear c8
         try clear c8b0
         try clear c9
         try clear c9b0
         try clear c11
         try clear c11b0
         try clear c11b1
         try clear c11b2
         try clear c13
         try clear c13b0
         try clear c13b1
         try clear c13b2
         try clear c16
         try clear hcz14_0
         try clear hcz14_1
         try clear hcz17_0
         try clear hcz17_1
         try clear hcz17_2
         try clear hcz17_3
         try clear hcz17_4
         try clear hcz22_0
         try clear hcz22_1
         try clear hcz22_2
         try clear hcz22_3
         try clear hcz22_4
         try clear hcz4_0
         try clear hcz4_1
         try clear hcz6_0
         try clear hcz6_1
         try clear hfz14_0
         try clear hfz14_1
         try clear hfz17_0
         try clear hfz17_1
         try clear hfz17_2
         try clear hfz17_3
         try clear hfz17_4
         try clear hfz22_0
         try clear hfz22_1
         try clear hfz22_2
         try clear hfz22_3
         try clear hfz22_4
         try clear hfz4_0
         try clear hfz4_1
         try clear hfz6_0
         try clear hfz6_1
         try clear hx235_0
         try clear hx235_1
         try clear hx235_2
         try clear hx235_3
         try clear hx235_4
         try clear p2
         try clear p235
         try clear q235
         obtain ⟨x3_2, x40_2, rfl, rfl, HA, HK2, BK233, BK236, HB⟩ := hrel
         cases gk with
         | zero => exact absurd HA.out (by simp [rowlockref12_Put.l1])
         | succ k2 =>
          have H := HA.out
          clear HA
          simp only [rowlockref12_Put.l1] at H
          by_cases c23 : x40_2 < (((rd_T84 l0_0 x19_1).f1).length : Int)
          ·rw [if_pos c23] at H
           have c23b0 : decide (x40_2 < (((rd_T84 l0_0 x19_1).f1).length : Int)) = true := decide_eq_true c23
           clear c23
           by_cases c24 : 0 ≤ x40_2
           ·rw [if_pos c24] at H
            have c24b0 : decide (0 ≤ x40_2) = true := decide_eq_true c24
            clear c24
            by_cases c25 : x40_2 < (((rd_T84 l0_0 x19_1).f1).length : Int)
            ·rw [if_pos c25] at H
             have c25b0 : decide (x40_2 < (((rd_T84 l0_0 x19_1).f1).length : Int)) = true := decide_eq_true c25
             clear c25
             replace H := Option.bind_eq_some_iff.mp H
             obtain ⟨t244, A260, H⟩ := H
             replace H : (if x3_2.size + t244.size ≤ 9223372036854775807 then ((rowlockref12_one.f k2 (wrap64 ((rd_T87 ((rd_T84 l0_0 x19_1).f1) x40_2).f1))).bind fun t245 => (if (x3_2 ++ t244).size + t245.size ≤ 9223372036854775807 then ((rowlockref12_four.f k2 ((rd_T87 ((rd_T84 l0_0 x19_1).f1) x40_2).f2)).bind fun t246 => (if ((x3_2 ++ t244) ++ t245).size + t246.size ≤ 9223372036854775807 then ((rowlockref12_four.f k2 ((rd_T87 ((rd_T84 l0_0 x19_1).f1) x40_2).f3)).bind fun t247 => (if (((x3_2 ++ t244) ++ t245) ++ t246).size + t247.size ≤ 9223372036854775807 then (rowlockref12_Put.l1 k2 ((((x3_2 ++ t244) ++ t245) ++ t246) ++ t247) (l0_0.length : Int) x19_1 (((rd_T84 l0_0 x19_1).f1).length : Int) (wrap64 (x40_2 + 1)) l0_0 l0_1 ((rd_T84 l0_0 x19_1).f0) ((rd_T84 l0_0 x19_1).f1) ((rd_T84 l0_0 x19_1).f2) ((rd_T84 l0_0 x19_1).f3) ((rd_T84 l0_0 x19_1).f4)) else (none))) else (none))) else (none))) else (none)) = some r := H
             have A26 := Aside0.mk A260
             clear A260
             by_cases c27 : x3_2.size + t244.size ≤ 9223372036854775807
             ·rw [if_pos c27] at H
              have c27b0 := eq_true c27
              have c27b1 : decide (x3_2.size + t244.size ≤ 9223372036854775807) = true := decide_eq_true c27
              try have c27b2 : (9223372036854775807 < x3_2.size + t244.size) = False := eq_false (Nat.not_lt.2 c27)
              replace H := Option.bind_eq_some_iff.mp H
              obtain ⟨t245, A280, H⟩ := H
              replace H : (if (x3_2 ++ t244).size + t245.size ≤ 9223372036854775807 then ((rowlockref12_four.f k2 ((rd_T87 ((rd_T84 l0_0 x19_1).f1) x40_2).f2)).bind fun t246 => (if ((x3_2 ++ t244) ++ t245).size + t246.size ≤ 9223372036854775807 then ((rowlockref12_four.f k2 ((rd_T87 ((rd_T84 l0_0 x19_1).f1) x40_2).f3)).bind fun t247 => (if (((x3_2 ++ t244) ++ t245) ++ t246).size + t247.size ≤ 9223372036854775807 then (rowlockref12_Put.l1 k2 ((((x3_2 ++ t244) ++ t245) ++ t246) ++ t247) (l0_0.length : Int) x19_1 (((rd_T84 l0_0 x19_1).f1).length : Int) (wrap64 (x40_2 + 1)) l0_0 l0_1 ((rd_T84 l0_0 x19_1).f0) ((rd_T84 l0_0 x19_1).f1) ((rd_T84 l0_0 x19_1).f2) ((rd_T84 l0_0 x19_1).f3) ((rd_T84 l0_0 x19_1).f4)) else (none))) else (none))) else (none)) = some r := H
              have A28 := Aside0.mk A280
              clear A280
              by_cases c29 : (x3_2 ++ t244).size + t245.size ≤ 9223372036854775807
              ·rw [if_pos c29] at H
               have c29b0 := eq_true c29
               have c29b1 : decide ((x3_2 ++ t244).size + t245.size ≤ 9223372036854775807) = true := decide_eq_true c29
               try have c29b2 : (9223372036854775807 < (x3_2 ++ t244).size + t245.size) = False := eq_false (Nat.not_lt.2 c29)
               try have c29b3 := c29b2
               try simp only [ByteArray.size_append] at c29b3
               replace H := Option.bind_eq_some_iff.mp H
               obtain ⟨t246, A300, H⟩ := H
               replace H : (if ((x3_2 ++ t244) ++ t245).size + t246.size ≤ 9223372036854775807 then ((rowlockref12_four.f k2 ((rd_T87 ((rd_T84 l0_0 x19_1).f1) x40_2).f3)).bind fun t247 => (if (((x3_2 ++ t244) ++ t245) ++ t246).size + t247.size ≤ 9223372036854775807 then (rowlockref12_Put.l1 k2 ((((x3_2 ++ t244) ++ t245) ++ t246) ++ t247) (l0_0.length : Int) x19_1 (((rd_T84 l0_0 x19_1).f1).length : Int) (wrap64 (x40_2 + 1)) l0_0 l0_1 ((rd_T84 l0_0 x19_1).f0) ((rd_T84 l0_0 x19_1).f1) ((rd_T84 l0_0 x19_1).f2) ((rd_T84 l0_0 x19_1).f3) ((rd_T84 l0_0 x19_1).f4)) else (none))) else (none)) = some r := H
               have A30 := Aside0.mk A300
               clear A300
               by_cases c31 : ((x3_2 ++ t244) ++ t245).size + t246.size ≤ 9223372036854775807
               ·rw [if_pos c31] at H
                have c31b0 := eq_true c31
                have c31b1 : decide (((x3_2 ++ t244) ++ t245).size + t246.size ≤ 9223372036854775807) = true := decide_eq_true c31
                try have c31b2 : (9223372036854775807 < ((x3_2 ++ t244) ++ t245).size + t246.size) = False := eq_false (Nat.not_lt.2 c31)
                try have c31b3 := c31b2
                try simp only [ByteArray.size_append] at c31b3
                replace H := Option.bind_eq_some_iff.mp H
                obtain ⟨t247, A320, H⟩ := H
                replace H : (if (((x3_2 ++ t244) ++ t245) ++ t246).size + t247.size ≤ 9223372036854775807 then (rowlockref12_Put.l1 k2 ((((x3_2 ++ t244) ++ t245) ++ t246) ++ t247) (l0_0.length : Int) x19_1 (((rd_T84 l0_0 x19_1).f1).length : Int) (wrap64 (x40_2 + 1)) l0_0 l0_1 ((rd_T84 l0_0 x19_1).f0) ((rd_T84 l0_0 x19_1).f1) ((rd_T84 l0_0 x19_1).f2) ((rd_T84 l0_0 x19_1).f3) ((rd_T84 l0_0 x19_1).f4)) else (none)) = some r := H
                have A32 := Aside0.mk A320
                clear A320
                by_cases c33 : (((x3_2 ++ t244) ++ t245) ++ t246).size + t247.size ≤ 9223372036854775807
                ·rw [if_pos c33] at H
                 have c33b0 := eq_true c33
                 have c33b1 : decide ((((x3_2 ++ t244) ++ t245) ++ t246).size + t247.size ≤ 9223372036854775807) = true := decide_eq_true c33
                 try have c33b2 : (9223372036854775807 < (((x3_2 ++ t244) ++ t245) ++ t246).size + t247.size) = False := eq_false (Nat.not_lt.2 c33)
                 try have c33b3 := c33b2
                 try simp only [ByteArray.size_append] at c33b3
                 have H' := Aside0.mk H
                 clear H
                 have hnb34 := NB236_233.out
                 have hnc34 := NB233_236.out
                 have hcz35_0 : wr.cell? ⟨gb236, 0, none⟩ = some (.string ((rd_T84 l0_0 x19_1).f0)) := (blk_cell BK236.out 0).trans rfl
                 have hcz35_1 : wr.cell? ⟨gb236, 1, none⟩ = some (.slice A235_1 ((rd_T84 l0_0 x19_1).f1).length c235_1) := (blk_cell BK236.out 1).trans rfl
                 have hcz35_2 : wr.cell? ⟨gb236, 2, none⟩ = some (.int .u32 ((rd_T84 l0_0 x19_1).f2)) := (blk_cell BK236.out 2).trans rfl
                 have hcz35_3 : wr.cell? ⟨gb236, 3, none⟩ = some (.int .i64 ((rd_T84 l0_0 x19_1).f3)) := (blk_cell BK236.out 3).trans rfl
                 have hcz35_4 : wr.cell? ⟨gb236, 4, none⟩ = some (.int .i64 ((rd_T84 l0_0 x19_1).f4)) := (blk_cell BK236.out 4).trans rfl
                 have hfz35_0 := blk_frozen BK236.out 0
                 have hfz35_1 := blk_frozen BK236.out 1
                 have hfz35_2 := blk_frozen BK236.out 2
                 have hfz35_3 := blk_frozen BK236.out 3
                 have hfz35_4 := blk_frozen BK236.out 4
                 have p242 : 0 ≤ (x40_2 : Int) := of_decide_eq_true (by first | (with_reducible assumption) | assumption)
                 have q242 : x40_2 < (((rd_T84 l0_0 x19_1).f1).length : Int) := of_decide_eq_true (by first | (with_reducible assumption) | assumption)
                 obtain ⟨ad242, e242, hx242_0, hx242_1, hx242_2, hx242_3⟩ := at_T87 HR235_1.out x40_2 p242 q242
                 cases e242
                 replace hx242_0 := (HB.out.cell (World.block_lt_of_cell? w _ hx242_0)).trans hx242_0
                 replace hx242_1 := (HB.out.cell (World.block_lt_of_cell? w _ hx242_1)).trans hx242_1
                 replace hx242_2 := (HB.out.cell (World.block_lt_of_cell? w _ hx242_2)).trans hx242_2
                 replace hx242_3 := (HB.out.cell (World.block_lt_of_cell? w _ hx242_3)).trans hx242_3
                 replace p242 := eq_true p242
                 have p242D := p242; try simp only [List.length_drop, List.length_take] at p242D
                 replace q242 := eq_true q242
                 have q242D := q242; try simp only [List.length_drop, List.length_take] at q242D
                 try go_wp2_with (first | ((with_reducible refine gate_dst (N := 7) rfl ?_); refine box_event ?hg (N := 7) ?hd (cs := #[.string (⟨#[]⟩ : ByteArray), .int .u8 0, .int .i64 0, .int .i64 0]) (t := 87) ?hr ?_; (case hd => rfl); (case hg => rfl); (case hr => first | (go_simp; done) | (go_simp; rfl)); intro gb243 hg w36 hbox hb; have n0_ := Aside0.mk (blk_below (g := gb233) (o := .cells #[.slice (some ad235) l0_0.length c0_0, .slice A0_1 l0_1.length c0_1] 80 (0, 0)) (by (with_reducible repeat (first | refine blk_drewN ?_ _ | refine blk_drew ?_ | refine blk_alloc ?_ _)); exact BK233.out) hb); have n1_ := Aside0.mk (blk_below (g := gb236) (o := .cells #[.string ((rd_T84 l0_0 x19_1).f0), .slice (some ad242) ((rd_T84 l0_0 x19_1).f1).length c235_1, .int .u32 ((rd_T84 l0_0 x19_1).f2), .int .i64 ((rd_T84 l0_0 x19_1).f3), .int .i64 ((rd_T84 l0_0 x19_1).f4)] 84 (0, 0)) (by (with_reducible repeat (first | refine blk_drewN ?_ _ | refine blk_drew ?_ | refine blk_alloc ?_ _)); exact BK236.out) hb); have n2_ := Aside0.mk (below_step (by repeat (first | (with_reducible first | exact HB.out | apply below_alloc | apply pw_below_drewN | apply below_drew1 | refine below_set ?_ GE233.out | refine below_set ?_ GE236.out) | exact HB.out)) hb); have n3_ := Aside0.mk (hbox); have n4_ := Aside0.mk ((by rw [hg]; exact (below_size (by repeat (first | (with_reducible first | exact HB.out | apply below_alloc | apply pw_below_drewN | apply below_drew1 | refine below_set ?_ GE233.out | refine below_set ?_ GE236.out) | exact HB.out))) : w.heap.size ≤ gb243)); have n5_ := Aside0.mk ((by rw [hg]; exact (below_size (by repeat (first | (with_reducible first | exact HB.out | apply below_alloc | apply pw_below_drewN | apply below_drew1 | refine below_set ?_ GE233.out | refine below_set ?_ GE236.out) | exact HB.out))) : w.heap.size ≤ gb243)); have n6_ := Aside0.mk ((by rw [hg]; exact Nat.ne_of_lt (blk_lt (g := gb233) (o := .cells #[.slice (some ad235) l0_0.length c0_0, .slice A0_1 l0_1.length c0_1] 80 (0, 0)) (by (with_reducible repeat (first | refine blk_drewN ?_ _ | refine blk_drew ?_ | refine blk_alloc ?_ _)); exact BK233.out)) : gb233 ≠ gb243)); have n7_ := Aside0.mk ((by rw [hg]; exact Nat.ne_of_gt (blk_lt (g := gb233) (o := .cells #[.slice (some ad235) l0_0.length c0_0, .slice A0_1 l0_1.length c0_1] 80 (0, 0)) (by (with_reducible repeat (first | refine blk_drewN ?_ _ | refine blk_drew ?_ | refine blk_alloc ?_ _)); exact BK233.out)) : gb243 ≠ gb233)); have n8_ := Aside0.mk ((by rw [hg]; exact Nat.ne_of_lt (blk_lt (g := gb236) (o := .cells #[.string ((rd_T84 l0_0 x19_1).f0), .slice (some ad242) ((rd_T84 l0_0 x19_1).f1).length c235_1, .int .u32 ((rd_T84 l0_0 x19_1).f2), .int .i64 ((rd_T84 l0_0 x19_1).f3), .int .i64 ((rd_T84 l0_0 x19_1).f4)] 84 (0, 0)) (by (with_reducible repeat (first | refine blk_drewN ?_ _ | refine blk_drew ?_ | refine blk_alloc ?_ _)); exact BK236.out)) : gb236 ≠ gb243)); have n9_ := Aside0.mk ((by rw [hg]; exact Nat.ne_of_gt (blk_lt (g := gb236) (o := .cells #[.string ((rd_T84 l0_0 x19_1).f0), .slice (some ad242) ((rd_T84 l0_0 x19_1).f1).length c235_1, .int .u32 ((rd_T84 l0_0 x19_1).f2), .int .i64 ((rd_T84 l0_0 x19_1).f3), .int .i64 ((rd_T84 l0_0 x19_1).f4)] 84 (0, 0)) (by (with_reducible repeat (first | refine blk_drewN ?_ _ | refine blk_drew ?_ | refine blk_alloc ?_ _)); exact BK236.out)) : gb243 ≠ gb236)); clear BK233; clear BK236; clear HB; have BK233 := n0_; have BK236 := n1_; have HB := n2_; have BK243 := n3_; have GW243 := n4_; have GE243 := n5_; have NB233_243 := n6_; have NB243_233 := n7_; have NB236_243 := n8_; have NB243_236 := n9_; clear n0_ n1_ n2_ n3_ n4_ n5_ n6_ n7_ n8_ n9_; clear hb hbox hg; have hnb37 := NB243_233.out; have hnc37 := NB233_243.out; have hnb38 := NB243_236.out; have hnc38 := NB236_243.out; have hcz39_0 : w36.cell? ⟨gb243, 0, none⟩ = some (.string (⟨#[]⟩ : ByteArray)) := (blk_cell BK243.out 0).trans rfl; have hcz39_1 : w36.cell? ⟨gb243, 1, none⟩ = some (.int .u8 0) := (blk_cell BK243.out 1).trans rfl; have hcz39_2 : w36.cell? ⟨gb243, 2, none⟩ = some (.int .i64 0) := (blk_cell BK243.out 2).trans rfl; have hcz39_3 : w36.cell? ⟨gb243, 3, none⟩ = some (.int .i64 0) := (blk_cell BK243.out 3).trans rfl; have hfz39_0 := blk_frozen BK243.out 0; have hfz39_1 := blk_frozen BK243.out 1; have hfz39_2 := blk_frozen BK243.out 2; have hfz39_3 := blk_frozen BK243.out 3))
                 have n0_ : Aside0 (((((w36.setCell ⟨gb243, 0, none⟩ (.string ((rd_T87 ((rd_T84 l0_0 x19_1).f1) x40_2).f0))).setCell ⟨gb243, 1, none⟩ (.int .u8 ((rd_T87 ((rd_T84 l0_0 x19_1).f1) x40_2).f1))).setCell ⟨gb243, 2, none⟩ (.int .i64 ((rd_T87 ((rd_T84 l0_0 x19_1).f1) x40_2).f2))).setCell ⟨gb243, 3, none⟩ (.int .i64 ((rd_T87 ((rd_T84 l0_0 x19_1).f1) x40_2).f3))).heap[gb233]? = some (.cells #[.slice (some ad235) l0_0.length c0_0, .slice A0_1 l0_1.length c0_1] 80 (0, 0))) := ⟨by (with_reducible repeat (first | refine blk_drewN ?_ _ | refine blk_drew ?_ | refine blk_alloc ?_ _)); refine blk_far ?_ NB233_243.out _; (with_reducible repeat (first | refine blk_drewN ?_ _ | refine blk_drew ?_ | refine blk_alloc ?_ _)); refine blk_far ?_ NB233_243.out _; (with_reducible repeat (first | refine blk_drewN ?_ _ | refine blk_drew ?_ | refine blk_alloc ?_ _)); refine blk_far ?_ NB233_243.out _; (with_reducible repeat (first | refine blk_drewN ?_ _ | refine blk_drew ?_ | refine blk_alloc ?_ _)); refine blk_far ?_ NB233_243.out _; (with_reducible repeat (first | refine blk_drewN ?_ _ | refine blk_drew ?_ | refine blk_alloc ?_ _)); exact BK233.out⟩
                 have n1_ : Aside0 (((((w36.setCell ⟨gb243, 0, none⟩ (.string ((rd_T87 ((rd_T84 l0_0 x19_1).f1) x40_2).f0))).setCell ⟨gb243, 1, none⟩ (.int .u8 ((rd_T87 ((rd_T84 l0_0 x19_1).f1) x40_2).f1))).setCell ⟨gb243, 2, none⟩ (.int .i64 ((rd_T87 ((rd_T84 l0_0 x19_1).f1) x40_2).f2))).setCell ⟨gb243, 3, none⟩ (.int .i64 ((rd_T87 ((rd_T84 l0_0 x19_1).f1) x40_2).f3))).heap[gb236]? = some (.cells #[.string ((rd_T84 l0_0 x19_1).f0), .slice (some ad242) ((rd_T84 l0_0 x19_1).f1).length c235_1, .int .u32 ((rd_T84 l0_0 x19_1).f2), .int .i64 ((rd_T84 l0_0 x19_1).f3), .int .i64 ((rd_T84 l0_0 x19_1).f4)] 84 (0, 0))) := ⟨by (with_reducible repeat (first | refine blk_drewN ?_ _ | refine blk_drew ?_ | refine blk_alloc ?_ _)); refine blk_far ?_ NB236_243.out _; (with_reducible repeat (first | refine blk_drewN ?_ _ | refine blk_drew ?_ | refine blk_alloc ?_ _)); refine blk_far ?_ NB236_243.out _; (with_reducible repeat (first | refine blk_drewN ?_ _ | refine blk_drew ?_ | refine blk_alloc ?_ _)); refine blk_far ?_ NB236_243.out _; (with_reducible repeat (first | refine blk_drewN ?_ _ | refine blk_drew ?_ | refine blk_alloc ?_ _)); refine blk_far ?_ NB236_243.out _; (with_reducible repeat (first | refine blk_drewN ?_ _ | refine blk_drew ?_ | refine blk_alloc ?_ _)); exact BK236.out⟩
                 have n2_ : Aside0 (((((w36.setCell ⟨gb243, 0, none⟩ (.string ((rd_T87 ((rd_T84 l0_0 x19_1).f1) x40_2).f0))).setCell ⟨gb243, 1, none⟩ (.int .u8 ((rd_T87 ((rd_T84 l0_0 x19_1).f1) x40_2).f1))).setCell ⟨gb243, 2, none⟩ (.int .i64 ((rd_T87 ((rd_T84 l0_0 x19_1).f1) x40_2).f2))).setCell ⟨gb243, 3, none⟩ (.int .i64 ((rd_T87 ((rd_T84 l0_0 x19_1).f1) x40_2).f3))).heap[gb243]? = some (.cells #[.string ((rd_T87 ((rd_T84 l0_0 x19_1).f1) x40_2).f0), .int .u8 ((rd_T87 ((rd_T84 l0_0 x19_1).f1) x40_2).f1), .int .i64 ((rd_T87 ((rd_T84 l0_0 x19_1).f1) x40_2).f2), .int .i64 ((rd_T87 ((rd_T84 l0_0 x19_1).f1) x40_2).f3)] 87 (0, 0))) := ⟨by (with_reducible repeat (first | refine blk_drewN ?_ _ | refine blk_drew ?_ | refine blk_alloc ?_ _)); refine blk_put (cs := #[.string ((rd_T87 ((rd_T84 l0_0 x19_1).f1) x40_2).f0), .int .u8 ((rd_T87 ((rd_T84 l0_0 x19_1).f1) x40_2).f1), .int .i64 ((rd_T87 ((rd_T84 l0_0 x19_1).f1) x40_2).f2), .int .i64 0]) ?_ 3 _ rfl; (with_reducible repeat (first | refine blk_drewN ?_ _ | refine blk_drew ?_ | refine blk_alloc ?_ _)); refine blk_put (cs := #[.string ((rd_T87 ((rd_T84 l0_0 x19_1).f1) x40_2).f0), .int .u8 ((rd_T87 ((rd_T84 l0_0 x19_1).f1) x40_2).f1), .int .i64 0, .int .i64 0]) ?_ 2 _ rfl; (with_reducible repeat (first | refine blk_drewN ?_ _ | refine blk_drew ?_ | refine blk_alloc ?_ _)); refine blk_put (cs := #[.string ((rd_T87 ((rd_T84 l0_0 x19_1).f1) x40_2).f0), .int .u8 0, .int .i64 0, .int .i64 0]) ?_ 1 _ rfl; (with_reducible repeat (first | refine blk_drewN ?_ _ | refine blk_drew ?_ | refine blk_alloc ?_ _)); refine blk_put (cs := #[.string (⟨#[]⟩ : ByteArray), .int .u8 0, .int .i64 0, .int .i64 0]) ?_ 0 _ rfl; (with_reducible repeat (first | refine blk_drewN ?_ _ | refine blk_drew ?_ | refine blk_alloc ?_ _)); exact BK243.out⟩
                 have n3_ : Aside0 (Below w.heap.size w ((((w36.setCell ⟨gb243, 0, none⟩ (.string ((rd_T87 ((rd_T84 l0_0 x19_1).f1) x40_2).f0))).setCell ⟨gb243, 1, none⟩ (.int .u8 ((rd_T87 ((rd_T84 l0_0 x19_1).f1) x40_2).f1))).setCell ⟨gb243, 2, none⟩ (.int .i64 ((rd_T87 ((rd_T84 l0_0 x19_1).f1) x40_2).f2))).setCell ⟨gb243, 3, none⟩ (.int .i64 ((rd_T87 ((rd_T84 l0_0 x19_1).f1) x40_2).f3)))) := ⟨by repeat (first | (with_reducible first | exact HB.out | apply below_alloc | apply pw_below_drewN | apply below_drew1 | refine below_set ?_ GE233.out | refine below_set ?_ GE236.out | refine below_set ?_ GE243.out) | exact HB.out)⟩
                 (try clear BK233)
                 (try clear BK236)
                 (try clear BK243)
                 (try clear HB)
                 generalize ((((w36.setCell ⟨gb243, 0, none⟩ (.string ((rd_T87 ((rd_T84 l0_0 x19_1).f1) x40_2).f0))).setCell ⟨gb243, 1, none⟩ (.int .u8 ((rd_T87 ((rd_T84 l0_0 x19_1).f1) x40_2).f1))).setCell ⟨gb243, 2, none⟩ (.int .i64 ((rd_T87 ((rd_T84 l0_0 x19_1).f1) x40_2).f2))).setCell ⟨gb243, 3, none⟩ (.int .i64 ((rd_T87 ((rd_T84 l0_0 x19_1).f1) x40_2).f3))) = w40 at n0_ n1_ n2_ n3_ ⊢
                 have BK233 := n0_
                 have BK236 := n1_
                 have BK243 := n2_
                 have HB := n3_
                 clear n0_ n1_ n2_ n3_
                 have n0_ := Aside0.mk (blk_drew BK233.out)
                 have n1_ := Aside0.mk (blk_drew BK236.out)
                 have n2_ := Aside0.mk (blk_drew BK243.out)
                 have n3_ := Aside0.mk (below_drew1 HB.out)
                 clear BK233
                 clear BK236
                 clear BK243
                 clear HB
                 have BK233 := n0_
                 have BK236 := n1_
                 have BK243 := n2_
                 have HB := n3_
                 clear n0_ n1_ n2_ n3_
                 refine start_ (n := 19) (S := fun w' => w'.cell? ⟨gb243, 0, none⟩ = some (.string ((rd_T87 ((rd_T84 l0_0 x19_1).f1) x40_2).f0)) ∧ w'.cell? ⟨gb243, 1, none⟩ = some (.int .u8 ((rd_T87 ((rd_T84 l0_0 x19_1).f1) x40_2).f1)) ∧ w'.cell? ⟨gb243, 2, none⟩ = some (.int .i64 ((rd_T87 ((rd_T84 l0_0 x19_1).f1) x40_2).f2)) ∧ w'.cell? ⟨gb243, 3, none⟩ = some (.int .i64 ((rd_T87 ((rd_T84 l0_0 x19_1).f1) x40_2).f3))) (ds := []) #[false, false, false, false, false, false, false, false, false, false, false, false, false, false, false, false, false, false, false] (by kernel_rfl) rfl rfl ⟨(blk_cell BK243.out 0).trans rfl, (blk_cell BK243.out 1).trans rfl, (blk_cell BK243.out 2).trans rfl, (blk_cell BK243.out 3).trans rfl⟩ (fun hHeld => ?_); refine with_tabW rowlockref12_Put.tab11 rowlockref12_Put.bits11 (fun HT_ HW_ => ?_)
                 generalize w40.drew = w41 at BK233 BK236 BK243 HB hHeld ⊢
                 refine pure_ (i := 0) (N := some 48) (v := ?_) (a' := ?_) #[true, false, false, false, false, false, false, false, false, false, false, false, false, false, false, false, false, false, false] rfl rfl (any_of HT_.out (by kernel_rfl)) (fun _ _ _ h => h) (Or.inl ⟨by rfl, ?_⟩) ?_ ?_
                 rotate_left
                 ·intro w'
                  go_simp
                  with_reducible rfl
                 rotate_left
                 ·simp only [Act.put, List.setIfInBounds_toArray, List.set_cons_zero, List.set_cons_succ, i64_w, i32_w]
                  rfl
                 refine pure_ (i := 1) (N := some 49) (v := ?_) (a' := ?_) #[true, true, false, false, false, false, false, false, false, false, false, false, false, false, false, false, false, false, false] rfl rfl (any_of HT_.out (by kernel_rfl)) (fun _ _ _ h => h) (Or.inl ⟨by rfl, ?_⟩) ?_ ?_
                 rotate_left
                 ·intro w'
                  go_simp
                  with_reducible rfl
                 rotate_left
                 ·simp only [Act.put, List.setIfInBounds_toArray, List.set_cons_zero, List.set_cons_succ, i64_w, i32_w]
                  rfl
                 refine pure_ (i := 5) (N := some 53) (v := ?_) (a' := ?_) #[true, true, false, false, false, true, false, false, false, false, false, false, false, false, false, false, false, false, false] rfl rfl (any_of HT_.out (by kernel_rfl)) (fun _ _ _ h => h) (Or.inl ⟨by rfl, ?_⟩) ?_ ?_
                 rotate_left
                 ·intro w'
                  go_simp
                  with_reducible rfl
                 rotate_left
                 ·simp only [Act.put, List.setIfInBounds_toArray, List.set_cons_zero, List.set_cons_succ, i64_w, i32_w]
                  rfl
                 refine pure_ (i := 10) (N := some 58) (v := ?_) (a' := ?_) #[true, true, false, false, false, true, false, false, false, false, true, false, false, false, false, false, false, false, false] rfl rfl (any_of HT_.out (by kernel_rfl)) (fun _ _ _ h => h) (Or.inl ⟨by rfl, ?_⟩) ?_ ?_
                 rotate_left
                 ·intro w'
                  go_simp
                  with_reducible rfl
                 rotate_left
                 ·simp only [Act.put, List.setIfInBounds_toArray, List.set_cons_zero, List.set_cons_succ, i64_w, i32_w]
                  rfl
                 refine pure_ (i := 14) (N := some 62) (v := ?_) (a' := ?_) #[true, true, false, false, false, true, false, false, false, false, true, false, false, false, true, false, false, false, false] rfl rfl (any_of HT_.out (by kernel_rfl)) (fun _ _ _ h => h) (Or.inl ⟨by rfl, ?_⟩) ?_ ?_
                 rotate_left
                 ·intro w'
                  go_simp
                  with_reducible rfl
                 rotate_left
                 ·simp only [Act.put, List.setIfInBounds_toArray, List.set_cons_zero, List.set_cons_succ, i64_w, i32_w]
                  rfl
                 refine take_ (i := 2) (N := some 50) (v := ?_) (a' := ?_) #[true, true, true, false, false, true, false, false, false, false, true, false, false, false, true, false, false, false, false] rfl rfl (take_ofW HT_.out HW_.out (by kernel_rfl)) (fun _ _ _ h => h) (Or.inl ⟨by rfl, ?_⟩) hHeld ?_ ?_
                 rotate_left
                 ·rintro w' ⟨s0, s1, s2, s3⟩
                  go_simp
                  with_reducible rfl
                 rotate_left
                 ·simp only [Act.put, List.setIfInBounds_toArray, List.set_cons_zero, List.set_cons_succ, i64_w, i32_w]
                  rfl
                 refine take_ (i := 6) (N := some 54) (v := ?_) (a' := ?_) #[true, true, true, false, false, true, true, false, false, false, true, false, false, false, true, false, false, false, false] rfl rfl (take_ofW HT_.out HW_.out (by kernel_rfl)) (fun _ _ _ h => h) (Or.inl ⟨by rfl, ?_⟩) hHeld ?_ ?_
                 rotate_left
                 ·rintro w' ⟨s0, s1, s2, s3⟩
                  go_simp
                  with_reducible rfl
                 rotate_left
                 ·simp only [Act.put, List.setIfInBounds_toArray, List.set_cons_zero, List.set_cons_succ, i64_w, i32_w]
                  rfl
                 refine pure_ (i := 7) (N := some 55) (v := ?_) (a' := ?_) #[true, true, true, false, false, true, true, true, false, false, true, false, false, false, true, false, false, false, false] rfl rfl (any_of HT_.out (by kernel_rfl)) (fun _ _ _ h => h) (Or.inl ⟨by rfl, ?_⟩) ?_ ?_
                 rotate_left
                 ·intro w'
                  go_simp
                  with_reducible rfl
                 rotate_left
                 ·simp only [Act.put, List.setIfInBounds_toArray, List.set_cons_zero, List.set_cons_succ, i64_w, i32_w]
                  rfl
                 refine take_ (i := 11) (N := some 59) (v := ?_) (a' := ?_) #[true, true, true, false, false, true, true, true, false, false, true, true, false, false, true, false, false, false, false] rfl rfl (take_ofW HT_.out HW_.out (by kernel_rfl)) (fun _ _ _ h => h) (Or.inl ⟨by rfl, ?_⟩) hHeld ?_ ?_
                 rotate_left
                 ·rintro w' ⟨s0, s1, s2, s3⟩
                  go_simp
                  with_reducible rfl
                 rotate_left
                 ·simp only [Act.put, List.setIfInBounds_toArray, List.set_cons_zero, List.set_cons_succ, i64_w, i32_w]
                  rfl
                 refine take_ (i := 15) (N := some 63) (v := ?_) (a' := ?_) #[true, true, true, false, false, true, true, true, false, false, true, true, false, false, true, true, false, false, false] rfl rfl (take_ofW HT_.out HW_.out (by kernel_rfl)) (fun _ _ _ h => h) (Or.inl ⟨by rfl, ?_⟩) hHeld ?_ ?_
                 rotate_left
                 ·rintro w' ⟨s0, s1, s2, s3⟩
                  go_simp
                  with_reducible rfl
                 rotate_left
                 ·simp only [Act.put, List.setIfInBounds_toArray, List.set_cons_zero, List.set_cons_succ, i64_w, i32_w]
                  rfl
                 refine one_ (i := 3) (N := some 51) #[true, true, true, true, false, true, true, true, false, false, true, true, false, false, true, true, false, false, false] rfl rfl (one_of HT_.out (by kernel_rfl)) (by decide) (fun K hK => ?_)
                 refine goes_ Try.func66 (by kernel_rfl) rfl #[.string ((rd_T87 ((rd_T84 l0_0 x19_1).f1) x40_2).f0)] (by rfl) rfl rfl (by (try simp only [List.map_toArray, List.map_cons, List.map_nil]); first | done | rfl | (simp only [List.length_drop, List.length_take]; rfl)) ?_
                 with_reducible refine (rowlockref12_text.calls k2 ((rd_T87 ((rd_T84 l0_0 x19_1).f1) x40_2).f0) t244 _ A26.out).mono ?_
                 rintro e w42 ⟨rfl, hb⟩
                 refine ⟨_, rfl, ?_⟩
                 have n0_ := Aside0.mk (blk_below (g := gb233) (o := .cells #[.slice (some ad235) l0_0.length c0_0, .slice A0_1 l0_1.length c0_1] 80 (0, 0)) (by (with_reducible repeat (first | refine blk_drewN ?_ _ | refine blk_drew ?_ | refine blk_alloc ?_ _)); exact BK233.out) hb)
                 have n1_ := Aside0.mk (blk_below (g := gb236) (o := .cells #[.string ((rd_T84 l0_0 x19_1).f0), .slice (some ad242) ((rd_T84 l0_0 x19_1).f1).length c235_1, .int .u32 ((rd_T84 l0_0 x19_1).f2), .int .i64 ((rd_T84 l0_0 x19_1).f3), .int .i64 ((rd_T84 l0_0 x19_1).f4)] 84 (0, 0)) (by (with_reducible repeat (first | refine blk_drewN ?_ _ | refine blk_drew ?_ | refine blk_alloc ?_ _)); exact BK236.out) hb)
                 have n2_ := Aside0.mk (blk_below (g := gb243) (o := .cells #[.string ((rd_T87 ((rd_T84 l0_0 x19_1).f1) x40_2).f0), .int .u8 ((rd_T87 ((rd_T84 l0_0 x19_1).f1) x40_2).f1), .int .i64 ((rd_T87 ((rd_T84 l0_0 x19_1).f1) x40_2).f2), .int .i64 ((rd_T87 ((rd_T84 l0_0 x19_1).f1) x40_2).f3)] 87 (0, 0)) (by (with_reducible repeat (first | refine blk_drewN ?_ _ | refine blk_drew ?_ | refine blk_alloc ?_ _)); exact BK243.out) hb)
                 have n3_ := Aside0.mk (below_step (by repeat (first | (with_reducible first | exact HB.out | apply below_alloc | apply pw_below_drewN | apply below_drew1 | refine below_set ?_ GE233.out | refine below_set ?_ GE236.out | refine below_set ?_ GE243.out) | exact HB.out)) hb)
                 clear BK233
                 clear BK236
                 clear BK243
                 clear HB
                 have BK233 := n0_
                 have BK236 := n1_
                 have BK243 := n2_
                 have HB := n3_
                 clear n0_ n1_ n2_ n3_
                 (try clear hb)
                 (try clear hb2)
                 (try clear hk)
                 (try clear hi)
                 refine hK.out _ _ ⟨(blk_cell BK243.out 0).trans rfl, (blk_cell BK243.out 1).trans rfl, (blk_cell BK243.out 2).trans rfl, (blk_cell BK243.out 3).trans rfl⟩ (fun hHeld => ?_)
                 clear hK K
                 refine norm_ (a' := ?_) ?_ ?_
                 rotate_left
                 ·show Act.put _ (some 51) _ = _
                  simp only [Act.put, List.setIfInBounds_toArray, List.set_cons_zero, List.set_cons_succ, i64_w, i32_w]
                  rfl
                 refine pure_ (i := 4) (N := some 52) (v := ?_) (a' := ?_) #[true, true, true, true, true, true, true, true, false, false, true, true, false, false, true, true, false, false, false] rfl rfl (any_of HT_.out (by kernel_rfl)) (fun _ _ _ h => h) (Or.inl ⟨by rfl, ?_⟩) ?_ ?_
                 rotate_left
                 ·intro w'
                  go_simp
                  with_reducible rfl
                 rotate_left
                 ·simp only [Act.put, List.setIfInBounds_toArray, List.set_cons_zero, List.set_cons_succ, i64_w, i32_w]
                  rfl
                 refine one_ (i := 8) (N := some 56) #[true, true, true, true, true, true, true, true, true, false, true, true, false, false, true, true, false, false, false] rfl rfl (one_of HT_.out (by kernel_rfl)) (by decide) (fun K hK => ?_)
                 refine goes_ Try.func65 (by kernel_rfl) rfl #[.int .i64 (wrap64 ((rd_T87 ((rd_T84 l0_0 x19_1).f1) x40_2).f1))] (by rfl) rfl rfl (by (try simp only [List.map_toArray, List.map_cons, List.map_nil]); first | done | rfl | (simp only [List.length_drop, List.length_take]; rfl)) ?_
                 with_reducible refine (rowlockref12_one.calls k2 (wrap64 ((rd_T87 ((rd_T84 l0_0 x19_1).f1) x40_2).f1)) t245 _ A28.out).mono ?_
                 rintro e w43 ⟨rfl, hb⟩
                 refine ⟨_, rfl, ?_⟩
                 have n0_ := Aside0.mk (blk_below (g := gb233) (o := .cells #[.slice (some ad235) l0_0.length c0_0, .slice A0_1 l0_1.length c0_1] 80 (0, 0)) (by (with_reducible repeat (first | refine blk_drewN ?_ _ | refine blk_drew ?_ | refine blk_alloc ?_ _)); exact BK233.out) hb)
                 have n1_ := Aside0.mk (blk_below (g := gb236) (o := .cells #[.string ((rd_T84 l0_0 x19_1).f0), .slice (some ad242) ((rd_T84 l0_0 x19_1).f1).length c235_1, .int .u32 ((rd_T84 l0_0 x19_1).f2), .int .i64 ((rd_T84 l0_0 x19_1).f3), .int .i64 ((rd_T84 l0_0 x19_1).f4)] 84 (0, 0)) (by (with_reducible repeat (first | refine blk_drewN ?_ _ | refine blk_drew ?_ | refine blk_alloc ?_ _)); exact BK236.out) hb)
                 have n2_ := Aside0.mk (blk_below (g := gb243) (o := .cells #[.string ((rd_T87 ((rd_T84 l0_0 x19_1).f1) x40_2).f0), .int .u8 ((rd_T87 ((rd_T84 l0_0 x19_1).f1) x40_2).f1), .int .i64 ((rd_T87 ((rd_T84 l0_0 x19_1).f1) x40_2).f2), .int .i64 ((rd_T87 ((rd_T84 l0_0 x19_1).f1) x40_2).f3)] 87 (0, 0)) (by (with_reducible repeat (first | refine blk_drewN ?_ _ | refine blk_drew ?_ | refine blk_alloc ?_ _)); exact BK243.out) hb)
                 have n3_ := Aside0.mk (below_step (by repeat (first | (with_reducible first | exact HB.out | apply below_alloc | apply pw_below_drewN | apply below_drew1 | refine below_set ?_ GE233.out | refine below_set ?_ GE236.out | refine below_set ?_ GE243.out) | exact HB.out)) hb)
                 clear BK233
                 clear BK236
                 clear BK243
                 clear HB
                 have BK233 := n0_
                 have BK236 := n1_
                 have BK243 := n2_
                 have HB := n3_
                 clear n0_ n1_ n2_ n3_
                 (try clear hb)
                 (try clear hb2)
                 (try clear hk)
                 (try clear hi)
                 refine hK.out _ _ ⟨(blk_cell BK243.out 0).trans rfl, (blk_cell BK243.out 1).trans rfl, (blk_cell BK243.out 2).trans rfl, (blk_cell BK243.out 3).trans rfl⟩ (fun hHeld => ?_)
                 clear hK K
                 refine norm_ (a' := ?_) ?_ ?_
                 rotate_left
                 ·show Act.put _ (some 56) _ = _
                  simp only [Act.put, List.setIfInBounds_toArray, List.set_cons_zero, List.set_cons_succ, i64_w, i32_w]
                  rfl
                 refine pure_ (i := 9) (N := some 57) (v := ?_) (a' := ?_) #[true, true, true, true, true, true, true, true, true, true, true, true, false, false, true, true, false, false, false] rfl rfl (any_of HT_.out (by kernel_rfl)) (fun _ _ _ h => h) (Or.inl ⟨by rfl, ?_⟩) ?_ ?_
                 rotate_left
                 ·intro w'
                  go_simp
                  with_reducible rfl
                 rotate_left
                 ·simp only [Act.put, List.setIfInBounds_toArray, List.set_cons_zero, List.set_cons_succ, i64_w, i32_w]
                  rfl
                 refine one_ (i := 12) (N := some 60) #[true, true, true, true, true, true, true, true, true, true, true, true, true, false, true, true, false, false, false] rfl rfl (one_of HT_.out (by kernel_rfl)) (by decide) (fun K hK => ?_)
                 refine goes_ Try.func67 (by kernel_rfl) rfl #[.int .i64 ((rd_T87 ((rd_T84 l0_0 x19_1).f1) x40_2).f2)] (by rfl) rfl rfl (by (try simp only [List.map_toArray, List.map_cons, List.map_nil]); first | done | rfl | (simp only [List.length_drop, List.length_take]; rfl)) ?_
                 with_reducible refine (rowlockref12_four.calls k2 ((rd_T87 ((rd_T84 l0_0 x19_1).f1) x40_2).f2) t246 _ A30.out).mono ?_
                 rintro e w44 ⟨rfl, hb⟩
                 refine ⟨_, rfl, ?_⟩
                 have n0_ := Aside0.mk (blk_below (g := gb233) (o := .cells #[.slice (some ad235) l0_0.length c0_0, .slice A0_1 l0_1.length c0_1] 80 (0, 0)) (by (with_reducible repeat (first | refine blk_drewN ?_ _ | refine blk_drew ?_ | refine blk_alloc ?_ _)); exact BK233.out) hb)
                 have n1_ := Aside0.mk (blk_below (g := gb236) (o := .cells #[.string ((rd_T84 l0_0 x19_1).f0), .slice (some ad242) ((rd_T84 l0_0 x19_1).f1).length c235_1, .int .u32 ((rd_T84 l0_0 x19_1).f2), .int .i64 ((rd_T84 l0_0 x19_1).f3), .int .i64 ((rd_T84 l0_0 x19_1).f4)] 84 (0, 0)) (by (with_reducible repeat (first | refine blk_drewN ?_ _ | refine blk_drew ?_ | refine blk_alloc ?_ _)); exact BK236.out) hb)
                 have n2_ := Aside0.mk (blk_below (g := gb243) (o := .cells #[.string ((rd_T87 ((rd_T84 l0_0 x19_1).f1) x40_2).f0), .int .u8 ((rd_T87 ((rd_T84 l0_0 x19_1).f1) x40_2).f1), .int .i64 ((rd_T87 ((rd_T84 l0_0 x19_1).f1) x40_2).f2), .int .i64 ((rd_T87 ((rd_T84 l0_0 x19_1).f1) x40_2).f3)] 87 (0, 0)) (by (with_reducible repeat (first | refine blk_drewN ?_ _ | refine blk_drew ?_ | refine blk_alloc ?_ _)); exact BK243.out) hb)
                 have n3_ := Aside0.mk (below_step (by repeat (first | (with_reducible first | exact HB.out | apply below_alloc | apply pw_below_drewN | apply below_drew1 | refine below_set ?_ GE233.out | refine below_set ?_ GE236.out | refine below_set ?_ GE243.out) | exact HB.out)) hb)
                 clear BK233
                 clear BK236
                 clear BK243
                 clear HB
                 have BK233 := n0_
                 have BK236 := n1_
                 have BK243 := n2_
                 have HB := n3_
                 clear n0_ n1_ n2_ n3_
                 (try clear hb)
                 (try clear hb2)
                 (try clear hk)
                 (try clear hi)
                 refine hK.out _ _ ⟨(blk_cell BK243.out 0).trans rfl, (blk_cell BK243.out 1).trans rfl, (blk_cell BK243.out 2).trans rfl, (blk_cell BK243.out 3).trans rfl⟩ (fun hHeld => ?_)
                 clear hK K
                 refine norm_ (a' := ?_) ?_ ?_
                 rotate_left
                 ·show Act.put _ (some 60) _ = _
                  simp only [Act.put, List.setIfInBounds_toArray, List.set_cons_zero, List.set_cons_succ, i64_w, i32_w]
                  rfl
                 refine pure_ (i := 13) (N := some 61) (v := ?_) (a' := ?_) #[true, true, true, true, true, true, true, true, true, true, true, true, true, true, true, true, false, false, false] rfl rfl (any_of HT_.out (by kernel_rfl)) (fun _ _ _ h => h) (Or.inl ⟨by rfl, ?_⟩) ?_ ?_
                 rotate_left
                 ·intro w'
                  go_simp
                  with_reducible rfl
                 rotate_left
                 ·simp only [Act.put, List.setIfInBounds_toArray, List.set_cons_zero, List.set_cons_succ, i64_w, i32_w]
                  rfl
                 refine one_ (i := 16) (N := some 64) #[true, true, true, true, true, true, true, true, true, true, true, true, true, true, true, true, true, false, false] rfl rfl (one_of HT_.out (by kernel_rfl)) (by decide) (fun K hK => ?_)
                 refine goes_ Try.func67 (by kernel_rfl) rfl #[.int .i64 ((rd_T87 ((rd_T84 l0_0 x19_1).f1) x40_2).f3)] (by rfl) rfl rfl (by (try simp only [List.map_toArray, List.map_cons, List.map_nil]); first | done | rfl | (simp only [List.length_drop, List.length_take]; rfl)) ?_
                 with_reducible refine (rowlockref12_four.calls k2 ((rd_T87 ((rd_T84 l0_0 x19_1).f1) x40_2).f3) t247 _ A32.out).mono ?_
                 rintro e w45 ⟨rfl, hb⟩
                 refine ⟨_, rfl, ?_⟩
                 have n0_ := Aside0.mk (blk_below (g := gb233) (o := .cells #[.slice (some ad235) l0_0.length c0_0, .slice A0_1 l0_1.length c0_1] 80 (0, 0)) (by (with_reducible repeat (first | refine blk_drewN ?_ _ | refine blk_drew ?_ | refine blk_alloc ?_ _)); exact BK233.out) hb)
                 have n1_ := Aside0.mk (blk_below (g := gb236) (o := .cells #[.string ((rd_T84 l0_0 x19_1).f0), .slice (some ad242) ((rd_T84 l0_0 x19_1).f1).length c235_1, .int .u32 ((rd_T84 l0_0 x19_1).f2), .int .i64 ((rd_T84 l0_0 x19_1).f3), .int .i64 ((rd_T84 l0_0 x19_1).f4)] 84 (0, 0)) (by (with_reducible repeat (first | refine blk_drewN ?_ _ | refine blk_drew ?_ | refine blk_alloc ?_ _)); exact BK236.out) hb)
                 have n2_ := Aside0.mk (blk_below (g := gb243) (o := .cells #[.string ((rd_T87 ((rd_T84 l0_0 x19_1).f1) x40_2).f0), .int .u8 ((rd_T87 ((rd_T84 l0_0 x19_1).f1) x40_2).f1), .int .i64 ((rd_T87 ((rd_T84 l0_0 x19_1).f1) x40_2).f2), .int .i64 ((rd_T87 ((rd_T84 l0_0 x19_1).f1) x40_2).f3)] 87 (0, 0)) (by (with_reducible repeat (first | refine blk_drewN ?_ _ | refine blk_drew ?_ | refine blk_alloc ?_ _)); exact BK243.out) hb)
                 have n3_ := Aside0.mk (below_step (by repeat (first | (with_reducible first | exact HB.out | apply below_alloc | apply pw_below_drewN | apply below_drew1 | refine below_set ?_ GE233.out | refine below_set ?_ GE236.out | refine below_set ?_ GE243.out) | exact HB.out)) hb)
                 clear BK233
                 clear BK236
                 clear BK243
                 clear HB
                 have BK233 := n0_
                 have BK236 := n1_
                 have BK243 := n2_
                 have HB := n3_
                 clear n0_ n1_ n2_ n3_
                 (try clear hb)
                 (try clear hb2)
                 (try clear hk)
                 (try clear hi)
                 refine hK.out _ _ ⟨(blk_cell BK243.out 0).trans rfl, (blk_cell BK243.out 1).trans rfl, (blk_cell BK243.out 2).trans rfl, (blk_cell BK243.out 3).trans rfl⟩ (fun hHeld => ?_)
                 clear hK K
                 refine norm_ (a' := ?_) ?_ ?_
                 rotate_left
                 ·show Act.put _ (some 64) _ = _
                  simp only [Act.put, List.setIfInBounds_toArray, List.set_cons_zero, List.set_cons_succ, i64_w, i32_w]
                  rfl
                 refine pure_ (i := 17) (N := some 65) (v := ?_) (a' := ?_) #[true, true, true, true, true, true, true, true, true, true, true, true, true, true, true, true, true, true, false] rfl rfl (any_of HT_.out (by kernel_rfl)) (fun _ _ _ h => h) (Or.inl ⟨by rfl, ?_⟩) ?_ ?_
                 rotate_left
                 ·intro w'
                  go_simp
                  with_reducible rfl
                 rotate_left
                 ·simp only [Act.put, List.setIfInBounds_toArray, List.set_cons_zero, List.set_cons_succ, i64_w, i32_w]
                  rfl
                 refine pure_ (i := 18) (N := some 3) (v := ?_) (a' := ?_) #[true, true, true, true, true, true, true, true, true, true, true, true, true, true, true, true, true, true, true] rfl rfl (any_of HT_.out (by kernel_rfl)) (fun _ _ _ h => h) (Or.inl ⟨by rfl, ?_⟩) ?_ ?_
                 rotate_left
                 ·intro w'
                  go_simp
                  with_reducible rfl
                 rotate_left
                 ·simp only [Act.put, List.setIfInBounds_toArray, List.set_cons_zero, List.set_cons_succ, i64_w, i32_w]
                  rfl
                 refine done_ (done_of HT_.out (by kernel_rfl)) ?_
                 try go_wp2
                 go_roundg k2
                 case measure => have := HK1.out; have := HK2.out; omega
                 case rel => exact ⟨((((x3_2 ++ t244) ++ t245) ++ t246) ++ t247), (wrap64 (x40_2 + 1)), (by first | rfl | (simp; done) | (simp [*]; done)), (by first | rfl | (simp; done) | (simp [*]; done)), H', ⟨by have := HK1.out; have := HK2.out; omega⟩, ⟨by (with_reducible repeat (first | refine blk_drewN ?_ _ | refine blk_drew ?_ | refine blk_alloc ?_ _)); exact BK233.out⟩, ⟨by (with_reducible repeat (first | refine blk_drewN ?_ _ | refine blk_drew ?_ | refine blk_alloc ?_ _)); exact BK236.out⟩, ⟨by repeat (first | (with_reducible first | exact HB.out | apply below_alloc | apply pw_below_drewN | apply below_drew1 | refine below_set ?_ GE233.out | refine below_set ?_ GE236.out | refine below_set ?_ GE243.out) | exact HB.out)⟩⟩
                ·rw [if_neg c33] at H
                 exact absurd H (by simp)
               ·rw [if_neg c31] at H
                exact absurd H (by simp)
              ·rw [if_neg c29] at H
               exact absurd H (by simp)
             ·rw [if_neg c27] at H
              exact absurd H (by simp)
            ·rw [if_neg c25] at H
             exact absurd H (by simp)
           ·rw [if_neg c24] at H
            exact absurd H (by simp)
          ·rw [if_neg c23] at H
           have c23b0 : decide (x40_2 < (((rd_T84 l0_0 x19_1).f1).length : Int)) = false := decide_eq_false c23
           clear c23
           replace H := Option.bind_eq_some_iff.mp H
           obtain ⟨t239, A460, H⟩ := H
           replace H : (if x3_2.size + t239.size ≤ 9223372036854775807 then ((rowlockref12_four.f k2 ((rd_T84 l0_0 x19_1).f3)).bind fun t240 => (if (x3_2 ++ t239).size + t240.size ≤ 9223372036854775807 then ((rowlockref12_four.f k2 ((rd_T84 l0_0 x19_1).f4)).bind fun t241 => (if ((x3_2 ++ t239) ++ t240).size + t241.size ≤ 9223372036854775807 then (rowlockref12_Put.l0 k2 (((x3_2 ++ t239) ++ t240) ++ t241) (l0_0.length : Int) (wrap64 (x19_1 + 1)) l0_0 l0_1) else (none))) else (none))) else (none)) = some r := H
           have A46 := Aside0.mk A460
           clear A460
           by_cases c47 : x3_2.size + t239.size ≤ 9223372036854775807
           ·rw [if_pos c47] at H
            have c47b0 := eq_true c47
            have c47b1 : decide (x3_2.size + t239.size ≤ 9223372036854775807) = true := decide_eq_true c47
            try have c47b2 : (9223372036854775807 < x3_2.size + t239.size) = False := eq_false (Nat.not_lt.2 c47)
            replace H := Option.bind_eq_some_iff.mp H
            obtain ⟨t240, A480, H⟩ := H
            replace H : (if (x3_2 ++ t239).size + t240.size ≤ 9223372036854775807 then ((rowlockref12_four.f k2 ((rd_T84 l0_0 x19_1).f4)).bind fun t241 => (if ((x3_2 ++ t239) ++ t240).size + t241.size ≤ 9223372036854775807 then (rowlockref12_Put.l0 k2 (((x3_2 ++ t239) ++ t240) ++ t241) (l0_0.length : Int) (wrap64 (x19_1 + 1)) l0_0 l0_1) else (none))) else (none)) = some r := H
            have A48 := Aside0.mk A480
            clear A480
            by_cases c49 : (x3_2 ++ t239).size + t240.size ≤ 9223372036854775807
            ·rw [if_pos c49] at H
             have c49b0 := eq_true c49
             have c49b1 : decide ((x3_2 ++ t239).size + t240.size ≤ 9223372036854775807) = true := decide_eq_true c49
             try have c49b2 : (9223372036854775807 < (x3_2 ++ t239).size + t240.size) = False := eq_false (Nat.not_lt.2 c49)
             try have c49b3 := c49b2
             try simp only [ByteArray.size_append] at c49b3
             replace H := Option.bind_eq_some_iff.mp H
             obtain ⟨t241, A500, H⟩ := H
             replace H : (if ((x3_2 ++ t239) ++ t240).size + t241.size ≤ 9223372036854775807 then (rowlockref12_Put.l0 k2 (((x3_2 ++ t239) ++ t240) ++ t241) (l0_0.length : Int) (wrap64 (x19_1 + 1)) l0_0 l0_1) else (none)) = some r := H
             have A50 := Aside0.mk A500
             clear A500
             by_cases c51 : ((x3_2 ++ t239) ++ t240).size + t241.size ≤ 9223372036854775807
             ·rw [if_pos c51] at H
              have c51b0 := eq_true c51
              have c51b1 : decide (((x3_2 ++ t239) ++ t240).size + t241.size ≤ 9223372036854775807) = true := decide_eq_true c51
              try have c51b2 : (9223372036854775807 < ((x3_2 ++ t239) ++ t240).size + t241.size) = False := eq_false (Nat.not_lt.2 c51)
              try have c51b3 := c51b2
              try simp only [ByteArray.size_append] at c51b3
              have H' := Aside0.mk H
              clear H
              try go_wp2
              have n0_ := Aside0.mk (blk_drew BK233.out)
              have n1_ := Aside0.mk (blk_drew BK236.out)
              have n2_ := Aside0.mk (below_drew1 HB.out)
              clear BK233
              clear BK236
              clear HB
              have BK233 := n0_
              have BK236 := n1_
              have HB := n2_
              clear n0_ n1_ n2_
              refine start_ (n := 15) (S := fun w' => w'.cell? ⟨gb236, 0, none⟩ = some (.string ((rd_T84 l0_0 x19_1).f0)) ∧ w'.cell? ⟨gb236, 1, none⟩ = some (.slice A235_1 ((rd_T84 l0_0 x19_1).f1).length c235_1) ∧ w'.cell? ⟨gb236, 2, none⟩ = some (.int .u32 ((rd_T84 l0_0 x19_1).f2)) ∧ w'.cell? ⟨gb236, 3, none⟩ = some (.int .i64 ((rd_T84 l0_0 x19_1).f3)) ∧ w'.cell? ⟨gb236, 4, none⟩ = some (.int .i64 ((rd_T84 l0_0 x19_1).f4))) (ds := []) #[false, false, false, false, false, false, false, false, false, false, false, false, false, false, false] (by kernel_rfl) rfl rfl ⟨(blk_cell BK236.out 0).trans rfl, (blk_cell BK236.out 1).trans rfl, (blk_cell BK236.out 2).trans rfl, (blk_cell BK236.out 3).trans rfl, (blk_cell BK236.out 4).trans rfl⟩ (fun hHeld => ?_); refine with_tabW rowlockref12_Put.tab13 rowlockref12_Put.bits13 (fun HT_ HW_ => ?_)
              generalize wr.drew = w52 at BK233 BK236 HB hHeld ⊢
              refine pure_ (i := 0) (N := some 67) (v := ?_) (a' := ?_) #[true, false, false, false, false, false, false, false, false, false, false, false, false, false, false] rfl rfl (any_of HT_.out (by kernel_rfl)) (fun _ _ _ h => h) (Or.inl ⟨by rfl, ?_⟩) ?_ ?_
              rotate_left
              ·intro w'
               go_simp
               with_reducible rfl
              rotate_left
              ·simp only [Act.put, List.setIfInBounds_toArray, List.set_cons_zero, List.set_cons_succ, i64_w, i32_w]
               rfl
              refine pure_ (i := 1) (N := some 68) (v := ?_) (a' := ?_) #[true, true, false, false, false, false, false, false, false, false, false, false, false, false, false] rfl rfl (any_of HT_.out (by kernel_rfl)) (fun _ _ _ h => h) (Or.inl ⟨by rfl, ?_⟩) ?_ ?_
              rotate_left
              ·intro w'
               go_simp
               with_reducible rfl
              rotate_left
              ·simp only [Act.put, List.setIfInBounds_toArray, List.set_cons_zero, List.set_cons_succ, i64_w, i32_w]
               rfl
              refine pure_ (i := 6) (N := some 73) (v := ?_) (a' := ?_) #[true, true, false, false, false, false, true, false, false, false, false, false, false, false, false] rfl rfl (any_of HT_.out (by kernel_rfl)) (fun _ _ _ h => h) (Or.inl ⟨by rfl, ?_⟩) ?_ ?_
              rotate_left
              ·intro w'
               go_simp
               with_reducible rfl
              rotate_left
              ·simp only [Act.put, List.setIfInBounds_toArray, List.set_cons_zero, List.set_cons_succ, i64_w, i32_w]
               rfl
              refine pure_ (i := 10) (N := some 77) (v := ?_) (a' := ?_) #[true, true, false, false, false, false, true, false, false, false, true, false, false, false, false] rfl rfl (any_of HT_.out (by kernel_rfl)) (fun _ _ _ h => h) (Or.inl ⟨by rfl, ?_⟩) ?_ ?_
              rotate_left
              ·intro w'
               go_simp
               with_reducible rfl
              rotate_left
              ·simp only [Act.put, List.setIfInBounds_toArray, List.set_cons_zero, List.set_cons_succ, i64_w, i32_w]
               rfl
              refine take_ (i := 2) (N := some 69) (v := ?_) (a' := ?_) #[true, true, true, false, false, false, true, false, false, false, true, false, false, false, false] rfl rfl (take_ofW HT_.out HW_.out (by kernel_rfl)) (fun _ _ _ h => h) (Or.inl ⟨by rfl, ?_⟩) hHeld ?_ ?_
              rotate_left
              ·rintro w' ⟨s0, s1, s2, s3, s4⟩
               go_simp
               with_reducible rfl
              rotate_left
              ·simp only [Act.put, List.setIfInBounds_toArray, List.set_cons_zero, List.set_cons_succ, i64_w, i32_w]
               rfl
              refine pure_ (i := 3) (N := some 70) (v := ?_) (a' := ?_) #[true, true, true, true, false, false, true, false, false, false, true, false, false, false, false] rfl rfl (any_of HT_.out (by kernel_rfl)) (fun _ _ _ h => h) (Or.inl ⟨by rfl, ?_⟩) ?_ ?_
              rotate_left
              ·intro w'
               go_simp
               with_reducible rfl
              rotate_left
              ·simp only [Act.put, List.setIfInBounds_toArray, List.set_cons_zero, List.set_cons_succ, i64_w, i32_w]
               rfl
              refine take_ (i := 7) (N := some 74) (v := ?_) (a' := ?_) #[true, true, true, true, false, false, true, true, false, false, true, false, false, false, false] rfl rfl (take_ofW HT_.out HW_.out (by kernel_rfl)) (fun _ _ _ h => h) (Or.inl ⟨by rfl, ?_⟩) hHeld ?_ ?_
              rotate_left
              ·rintro w' ⟨s0, s1, s2, s3, s4⟩
               go_simp
               with_reducible rfl
              rotate_left
              ·simp only [Act.put, List.setIfInBounds_toArray, List.set_cons_zero, List.set_cons_succ, i64_w, i32_w]
               rfl
              refine take_ (i := 11) (N := some 78) (v := ?_) (a' := ?_) #[true, true, true, true, false, false, true, true, false, false, true, true, false, false, false] rfl rfl (take_ofW HT_.out HW_.out (by kernel_rfl)) (fun _ _ _ h => h) (Or.inl ⟨by rfl, ?_⟩) hHeld ?_ ?_
              rotate_left
              ·rintro w' ⟨s0, s1, s2, s3, s4⟩
               go_simp
               with_reducible rfl
              rotate_left
              ·simp only [Act.put, List.setIfInBounds_toArray, List.set_cons_zero, List.set_cons_succ, i64_w, i32_w]
               rfl
              refine one_ (i := 4) (N := some 71) #[true, true, true, true, true, false, true, true, false, false, true, true, false, false, false] rfl rfl (one_of HT_.out (by kernel_rfl)) (by decide) (fun K hK => ?_)
              refine goes_ Try.func67 (by kernel_rfl) rfl #[.int .i64 (wrap64 (((rd_T84 l0_0 x19_1).f2)))] (by rfl) rfl rfl (by (try simp only [List.map_toArray, List.map_cons, List.map_nil]); first | done | rfl | (simp only [List.length_drop, List.length_take]; rfl)) ?_
              with_reducible refine (rowlockref12_four.calls k2 (wrap64 (((rd_T84 l0_0 x19_1).f2))) t239 _ A46.out).mono ?_
              rintro e w53 ⟨rfl, hb⟩
              refine ⟨_, rfl, ?_⟩
              have n0_ := Aside0.mk (blk_below (g := gb233) (o := .cells #[.slice (some ad235) l0_0.length c0_0, .slice A0_1 l0_1.length c0_1] 80 (0, 0)) (by (with_reducible repeat (first | refine blk_drewN ?_ _ | refine blk_drew ?_ | refine blk_alloc ?_ _)); exact BK233.out) hb)
              have n1_ := Aside0.mk (blk_below (g := gb236) (o := .cells #[.string ((rd_T84 l0_0 x19_1).f0), .slice A235_1 ((rd_T84 l0_0 x19_1).f1).length c235_1, .int .u32 ((rd_T84 l0_0 x19_1).f2), .int .i64 ((rd_T84 l0_0 x19_1).f3), .int .i64 ((rd_T84 l0_0 x19_1).f4)] 84 (0, 0)) (by (with_reducible repeat (first | refine blk_drewN ?_ _ | refine blk_drew ?_ | refine blk_alloc ?_ _)); exact BK236.out) hb)
              have n2_ := Aside0.mk (below_step (by repeat (first | (with_reducible first | exact HB.out | apply below_alloc | apply pw_below_drewN | apply below_drew1 | refine below_set ?_ GE233.out | refine below_set ?_ GE236.out) | exact HB.out)) hb)
              clear BK233
              clear BK236
              clear HB
              have BK233 := n0_
              have BK236 := n1_
              have HB := n2_
              clear n0_ n1_ n2_
              (try clear hb)
              (try clear hb2)
              (try clear hk)
              (try clear hi)
              refine hK.out _ _ ⟨(blk_cell BK236.out 0).trans rfl, (blk_cell BK236.out 1).trans rfl, (blk_cell BK236.out 2).trans rfl, (blk_cell BK236.out 3).trans rfl, (blk_cell BK236.out 4).trans rfl⟩ (fun hHeld => ?_)
              clear hK K
              refine norm_ (a' := ?_) ?_ ?_
              rotate_left
              ·show Act.put _ (some 71) _ = _
               simp only [Act.put, List.setIfInBounds_toArray, List.set_cons_zero, List.set_cons_succ, i64_w, i32_w]
               rfl
              refine pure_ (i := 5) (N := some 72) (v := ?_) (a' := ?_) #[true, true, true, true, true, true, true, true, false, false, true, true, false, false, false] rfl rfl (any_of HT_.out (by kernel_rfl)) (fun _ _ _ h => h) (Or.inl ⟨by rfl, ?_⟩) ?_ ?_
              rotate_left
              ·intro w'
               go_simp
               with_reducible rfl
              rotate_left
              ·simp only [Act.put, List.setIfInBounds_toArray, List.set_cons_zero, List.set_cons_succ, i64_w, i32_w]
               rfl
              refine one_ (i := 8) (N := some 75) #[true, true, true, true, true, true, true, true, true, false, true, true, false, false, false] rfl rfl (one_of HT_.out (by kernel_rfl)) (by decide) (fun K hK => ?_)
              refine goes_ Try.func67 (by kernel_rfl) rfl #[.int .i64 ((rd_T84 l0_0 x19_1).f3)] (by rfl) rfl rfl (by (try simp only [List.map_toArray, List.map_cons, List.map_nil]); first | done | rfl | (simp only [List.length_drop, List.length_take]; rfl)) ?_
              with_reducible refine (rowlockref12_four.calls k2 ((rd_T84 l0_0 x19_1).f3) t240 _ A48.out).mono ?_
              rintro e w54 ⟨rfl, hb⟩
              refine ⟨_, rfl, ?_⟩
              have n0_ := Aside0.mk (blk_below (g := gb233) (o := .cells #[.slice (some ad235) l0_0.length c0_0, .slice A0_1 l0_1.length c0_1] 80 (0, 0)) (by (with_reducible repeat (first | refine blk_drewN ?_ _ | refine blk_drew ?_ | refine blk_alloc ?_ _)); exact BK233.out) hb)
              have n1_ := Aside0.mk (blk_below (g := gb236) (o := .cells #[.string ((rd_T84 l0_0 x19_1).f0), .slice A235_1 ((rd_T84 l0_0 x19_1).f1).length c235_1, .int .u32 ((rd_T84 l0_0 x19_1).f2), .int .i64 ((rd_T84 l0_0 x19_1).f3), .int .i64 ((rd_T84 l0_0 x19_1).f4)] 84 (0, 0)) (by (with_reducible repeat (first | refine blk_drewN ?_ _ | refine blk_drew ?_ | refine blk_alloc ?_ _)); exact BK236.out) hb)
              have n2_ := Aside0.mk (below_step (by repeat (first | (with_reducible first | exact HB.out | apply below_alloc | apply pw_below_drewN | apply below_drew1 | refine below_set ?_ GE233.out | refine below_set ?_ GE236.out) | exact HB.out)) hb)
              clear BK233
              clear BK236
              clear HB
              have BK233 := n0_
              have BK236 := n1_
              have HB := n2_
              clear n0_ n1_ n2_
              (try clear hb)
              (try clear hb2)
              (try clear hk)
              (try clear hi)
              refine hK.out _ _ ⟨(blk_cell BK236.out 0).trans rfl, (blk_cell BK236.out 1).trans rfl, (blk_cell BK236.out 2).trans rfl, (blk_cell BK236.out 3).trans rfl, (blk_cell BK236.out 4).trans rfl⟩ (fun hHeld => ?_)
              clear hK K
              refine norm_ (a' := ?_) ?_ ?_
              rotate_left
              ·show Act.put _ (some 75) _ = _
               simp only [Act.put, List.setIfInBounds_toArray, List.set_cons_zero, List.set_cons_succ, i64_w, i32_w]
               rfl
              refine pure_ (i := 9) (N := some 76) (v := ?_) (a' := ?_) #[true, true, true, true, true, true, true, true, true, true, true, true, false, false, false] rfl rfl (any_of HT_.out (by kernel_rfl)) (fun _ _ _ h => h) (Or.inl ⟨by rfl, ?_⟩) ?_ ?_
              rotate_left
              ·intro w'
               go_simp
               with_reducible rfl
              rotate_left
              ·simp only [Act.put, List.setIfInBounds_toArray, List.set_cons_zero, List.set_cons_succ, i64_w, i32_w]
               rfl
              refine one_ (i := 12) (N := some 79) #[true, true, true, true, true, true, true, true, true, true, true, true, true, false, false] rfl rfl (one_of HT_.out (by kernel_rfl)) (by decide) (fun K hK => ?_)
              refine goes_ Try.func67 (by kernel_rfl) rfl #[.int .i64 ((rd_T84 l0_0 x19_1).f4)] (by rfl) rfl rfl (by (try simp only [List.map_toArray, List.map_cons, List.map_nil]); first | done | rfl | (simp only [List.length_drop, List.length_take]; rfl)) ?_
              with_reducible refine (rowlockref12_four.calls k2 ((rd_T84 l0_0 x19_1).f4) t241 _ A50.out).mono ?_
              rintro e w55 ⟨rfl, hb⟩
              refine ⟨_, rfl, ?_⟩
              have n0_ := Aside0.mk (blk_below (g := gb233) (o := .cells #[.slice (some ad235) l0_0.length c0_0, .slice A0_1 l0_1.length c0_1] 80 (0, 0)) (by (with_reducible repeat (first | refine blk_drewN ?_ _ | refine blk_drew ?_ | refine blk_alloc ?_ _)); exact BK233.out) hb)
              have n1_ := Aside0.mk (blk_below (g := gb236) (o := .cells #[.string ((rd_T84 l0_0 x19_1).f0), .slice A235_1 ((rd_T84 l0_0 x19_1).f1).length c235_1, .int .u32 ((rd_T84 l0_0 x19_1).f2), .int .i64 ((rd_T84 l0_0 x19_1).f3), .int .i64 ((rd_T84 l0_0 x19_1).f4)] 84 (0, 0)) (by (with_reducible repeat (first | refine blk_drewN ?_ _ | refine blk_drew ?_ | refine blk_alloc ?_ _)); exact BK236.out) hb)
              have n2_ := Aside0.mk (below_step (by repeat (first | (with_reducible first | exact HB.out | apply below_alloc | apply pw_below_drewN | apply below_drew1 | refine below_set ?_ GE233.out | refine below_set ?_ GE236.out) | exact HB.out)) hb)
              clear BK233
              clear BK236
              clear HB
              have BK233 := n0_
              have BK236 := n1_
              have HB := n2_
              clear n0_ n1_ n2_
              (try clear hb)
              (try clear hb2)
              (try clear hk)
              (try clear hi)
              refine hK.out _ _ ⟨(blk_cell BK236.out 0).trans rfl, (blk_cell BK236.out 1).trans rfl, (blk_cell BK236.out 2).trans rfl, (blk_cell BK236.out 3).trans rfl, (blk_cell BK236.out 4).trans rfl⟩ (fun hHeld => ?_)
              clear hK K
              refine norm_ (a' := ?_) ?_ ?_
              rotate_left
              ·show Act.put _ (some 79) _ = _
               simp only [Act.put, List.setIfInBounds_toArray, List.set_cons_zero, List.set_cons_succ, i64_w, i32_w]
               rfl
              refine pure_ (i := 13) (N := some 80) (v := ?_) (a' := ?_) #[true, true, true, true, true, true, true, true, true, true, true, true, true, true, false] rfl rfl (any_of HT_.out (by kernel_rfl)) (fun _ _ _ h => h) (Or.inl ⟨by rfl, ?_⟩) ?_ ?_
              rotate_left
              ·intro w'
               go_simp
               with_reducible rfl
              rotate_left
              ·simp only [Act.put, List.setIfInBounds_toArray, List.set_cons_zero, List.set_cons_succ, i64_w, i32_w]
               rfl
              refine pure_ (i := 14) (N := some 3) (v := ?_) (a' := ?_) #[true, true, true, true, true, true, true, true, true, true, true, true, true, true, true] rfl rfl (any_of HT_.out (by kernel_rfl)) (fun _ _ _ h => h) (Or.inl ⟨by rfl, ?_⟩) ?_ ?_
              rotate_left
              ·intro w'
               go_simp
               with_reducible rfl
              rotate_left
              ·simp only [Act.put, List.setIfInBounds_toArray, List.set_cons_zero, List.set_cons_succ, i64_w, i32_w]
               rfl
              refine done_ (done_of HT_.out (by kernel_rfl)) ?_
              try go_wp2
              go_roundg k2
              case measure => have := HK1.out; have := HK2.out; omega
              case rel => exact ⟨(((x3_2 ++ t239) ++ t240) ++ t241), (wrap64 (x19_1 + 1)), (by first | rfl | (simp; done) | (simp [*]; done)), (by first | rfl | (simp; done) | (simp [*]; done)), H', ⟨by have := HK1.out; have := HK2.out; omega⟩, ⟨by (with_reducible repeat (first | refine blk_drewN ?_ _ | refine blk_drew ?_ | refine blk_alloc ?_ _)); exact BK233.out⟩, ⟨by repeat (first | (with_reducible first | exact HB.out | apply below_alloc | apply pw_below_drewN | apply below_drew1 | refine below_set ?_ GE233.out | refine below_set ?_ GE236.out) | exact HB.out)⟩⟩
             ·rw [if_neg c51] at H
              exact absurd H (by simp)
            ·rw [if_neg c49] at H
             exact absurd H (by simp)
           ·rw [if_neg c47] at H
            exact absurd H (by simp)
       ·rw [if_neg c13] at H
        exact absurd H (by simp)
      ·rw [if_neg c11] at H
       exact absurd H (by simp)
     ·rw [if_neg c9] at H
      exact absurd H (by simp)
    ·rw [if_neg c8] at H
     exact absurd H (by simp)
   ·rw [if_neg c7] at H
    have c7b0 : decide (x19_1 < (l0_0.length : Int)) = false := decide_eq_false c7
    clear c7
    replace H := Option.bind_eq_some_iff.mp H
    obtain ⟨t248, A560, H⟩ := H
    replace H : (if x3_1.size + t248.size ≤ 9223372036854775807 then (rowlockref12_Put.l2 k1 (x3_1 ++ t248) (l0_1.length : Int) 0 l0_0 l0_1) else (none)) = some r := H
    have A56 := Aside0.mk A560
    clear A560
    by_cases c57 : x3_1.size + t248.size ≤ 9223372036854775807
    ·rw [if_pos c57] at H
     have c57b0 := eq_true c57
     have c57b1 : decide (x3_1.size + t248.size ≤ 9223372036854775807) = true := decide_eq_true c57
     try have c57b2 : (9223372036854775807 < x3_1.size + t248.size) = False := eq_false (Nat.not_lt.2 c57)
     have H' := Aside0.mk H
     clear H
     have hcz58_0 : wr.cell? ⟨gb233, 0, none⟩ = some (.slice A0_0 l0_0.length c0_0) := (blk_cell BK233.out 0).trans rfl
     have hcz58_1 : wr.cell? ⟨gb233, 1, none⟩ = some (.slice A0_1 l0_1.length c0_1) := (blk_cell BK233.out 1).trans rfl
     have hfz58_0 := blk_frozen BK233.out 0
     have hfz58_1 := blk_frozen BK233.out 1
     go_wp2_with (first | ((with_reducible refine gate_callee (f := 65) rfl ?_); refine goesL_ (some 86) rfl rfl Try.func65 (by kernel_rfl) rfl #[.int .i64 (l0_1.length : Int)] rfl (by (try simp only [List.map_toArray, List.map_cons, List.map_nil]); first | done | rfl | (simp only [List.length_drop, List.length_take]; rfl)) ?_; (with_reducible refine (rowlockref12_one.calls k1 (l0_1.length : Int) t248 _ A56.out).mono ?_); rintro e w59 ⟨rfl, hb⟩; refine ⟨_, rfl, ?_⟩; have n0_ := Aside0.mk (blk_below (g := gb233) (o := .cells #[.slice A0_0 l0_0.length c0_0, .slice A0_1 l0_1.length c0_1] 80 (0, 0)) (by (with_reducible repeat (first | refine blk_drewN ?_ _ | refine blk_drew ?_ | refine blk_alloc ?_ _)); exact BK233.out) hb); have n1_ := Aside0.mk (below_step (by repeat (first | (with_reducible first | exact HB.out | apply below_alloc | apply pw_below_drewN | apply below_drew1 | refine below_set ?_ GE233.out) | exact HB.out)) hb); clear BK233; clear HB; have BK233 := n0_; have HB := n1_; clear n0_ n1_; (try clear hb); (try clear hb2); (try clear hk); (try clear hi); have hcz60_0 : w59.cell? ⟨gb233, 0, none⟩ = some (.slice A0_0 l0_0.length c0_0) := (blk_cell BK233.out 0).trans rfl; have hcz60_1 : w59.cell? ⟨gb233, 1, none⟩ = some (.slice A0_1 l0_1.length c0_1) := (blk_cell BK233.out 1).trans rfl; have hfz60_0 := blk_frozen BK233.out 0; have hfz60_1 := blk_frozen BK233.out 1))
     go_loopg [3, 91] k1 (fun kq v3 v91 w' => ∃ (x3_2 : ByteArray) (x91_2 : Int), v3 = .string x3_2 ∧ v91 = .int .i64 x91_2 ∧ Aside0 (rowlockref12_Put.l2 kq x3_2 (l0_1.length : Int) x91_2 l0_0 l0_1 = some r) ∧ Aside0 (kq ≤ k1) ∧ Aside0 (w'.heap[gb233]? = some (.cells #[(.slice A0_0 l0_0.length c0_0), (.slice A0_1 l0_1.length c0_1)] 80 (0, 0))) ∧ Aside0 (Below w.heap.size w w'))
     case atStart => exact ⟨(x3_1 ++ t248), (0), (by first | rfl | (simp; done) | (simp [*]; done)), (by first | rfl | (simp; done) | (simp [*]; done)), H', ⟨Nat.le_refl _⟩, ⟨by (with_reducible repeat (first | refine blk_drewN ?_ _ | refine blk_drew ?_ | refine blk_alloc ?_ _)); exact BK233.out⟩, ⟨by repeat (first | (with_reducible first | exact HB.out | apply below_alloc | apply pw_below_drewN | apply below_drew1 | refine below_set ?_ GE233.out) | exact HB.out)⟩⟩
     case round =>
      clear H'
      try clear c1
      try clear c2
      try clear p2
      try clear q2
      try clear hx2
      try clear c3
      try clear c4
      try clear c5
      try clear c6
      try clear p6
      try clear c7
      try clear c7b0
      try clear c8
      try clear c9
      try clear c11
      try clear c13
      try clear c23
      try clear c23b0
      try clear c24
      try clear p24
      try clear q24
      try clear hx24
      try clear c25
      try clear c27
      try clear c29
      try clear c29b0
      try clear c29b1
      try clear c29b2
      try clear c31
      try clear c31b0
      try clear c31b1
      try clear c31b2
      try clear c33
      try clear c33b0
      try clear c33b1
      try clear c33b2
      try clear c34
      try clear c37
      try clear c38
      try clear c47
      try clear c47b0
      try clear c47b1
      try clear c47b2
      try clear c49
      try clear c49b0
      try clear c49b1
      try clear c49b2
      try clear c51
      try clear c51b0
      try clear c51b1
      try clear c51b2
      try clear c57
      try clear c57b0
      try clear c57b1
      try clear c57b2
      try clear hcz35_0
      try clear hcz35_1
      try clear hcz35_2
      try clear hcz35_3
      try clear hcz35_4
      try clear hcz39_0
      try clear hcz39_1
      try clear hcz39_2
      try clear hcz39_3
      try clear hcz58_0
      try clear hcz58_1
      try clear hcz60_0
      try clear hcz60_1
      try clear hfz35_0
      try clear hfz35_1
      try clear hfz35_2
      try clear hfz35_3
      try clear hfz35_4
      try clear hfz39_0
      try clear hfz39_1
      try clear hfz39_2
      try clear hfz39_3
      try clear hfz58_0
      try clear hfz58_1
      try clear hfz60_0
      try clear hfz60_1
      try clear hx242_0
      try clear hx242_1
      try clear hx242_2
      try clear hx242_3
      try clear p242
      try clear q242
      obtain ⟨x3_2, x91_2, rfl, rfl, HA, HK2, BK233, HB⟩ := hrel
      cases gk with
      | zero => exact absurd HA.out (by simp [rowlockref12_Put.l2])
      | succ k2 =>
       have H := HA.out
       clear HA
       simp only [rowlockref12_Put.l2] at H
       by_cases c61 : x91_2 < (l0_1.length : Int)
       ·rw [if_pos c61] at H
        have c61b0 : decide (x91_2 < (l0_1.length : Int)) = true := decide_eq_true c61
        clear c61
        by_cases c62 : 0 ≤ x91_2
        ·rw [if_pos c62] at H
         have c62b0 : decide (0 ≤ x91_2) = true := decide_eq_true c62
         clear c62
         by_cases c63 : x91_2 < (l0_1.length : Int)
         ·rw [if_pos c63] at H
          have c63b0 : decide (x91_2 < (l0_1.length : Int)) = true := decide_eq_true c63
          clear c63
          replace H := Option.bind_eq_some_iff.mp H
          obtain ⟨t251, A640, H⟩ := H
          replace H : (if x3_2.size + t251.size ≤ 9223372036854775807 then ((rowlockref12_one.f k2 ((rd_T135 l0_1 x91_2).f1)).bind fun t252 => (if (x3_2 ++ t251).size + t252.size ≤ 9223372036854775807 then ((rowlockref12_one.f k2 (((rd_T135 l0_1 x91_2).f2).length : Int)).bind fun t253 => (if ((x3_2 ++ t251) ++ t252).size + t253.size ≤ 9223372036854775807 then (rowlockref12_Put.l3 k2 (((x3_2 ++ t251) ++ t252) ++ t253) (l0_1.length : Int) x91_2 (((rd_T135 l0_1 x91_2).f2).length : Int) 0 l0_0 l0_1 ((rd_T135 l0_1 x91_2).f0) ((rd_T135 l0_1 x91_2).f1) ((rd_T135 l0_1 x91_2).f2) ((rd_T135 l0_1 x91_2).f3) ((rd_T135 l0_1 x91_2).f4) ((rd_T135 l0_1 x91_2).f5) ((rd_T135 l0_1 x91_2).f6)) else (none))) else (none))) else (none)) = some r := H
          have A64 := Aside0.mk A640
          clear A640
          by_cases c65 : x3_2.size + t251.size ≤ 9223372036854775807
          ·rw [if_pos c65] at H
           have c65b0 := eq_true c65
           have c65b1 : decide (x3_2.size + t251.size ≤ 9223372036854775807) = true := decide_eq_true c65
           try have c65b2 : (9223372036854775807 < x3_2.size + t251.size) = False := eq_false (Nat.not_lt.2 c65)
           replace H := Option.bind_eq_some_iff.mp H
           obtain ⟨t252, A660, H⟩ := H
           replace H : (if (x3_2 ++ t251).size + t252.size ≤ 9223372036854775807 then ((rowlockref12_one.f k2 (((rd_T135 l0_1 x91_2).f2).length : Int)).bind fun t253 => (if ((x3_2 ++ t251) ++ t252).size + t253.size ≤ 9223372036854775807 then (rowlockref12_Put.l3 k2 (((x3_2 ++ t251) ++ t252) ++ t253) (l0_1.length : Int) x91_2 (((rd_T135 l0_1 x91_2).f2).length : Int) 0 l0_0 l0_1 ((rd_T135 l0_1 x91_2).f0) ((rd_T135 l0_1 x91_2).f1) ((rd_T135 l0_1 x91_2).f2) ((rd_T135 l0_1 x91_2).f3) ((rd_T135 l0_1 x91_2).f4) ((rd_T135 l0_1 x91_2).f5) ((rd_T135 l0_1 x91_2).f6)) else (none))) else (none)) = some r := H
           have A66 := Aside0.mk A660
           clear A660
           by_cases c67 : (x3_2 ++ t251).size + t252.size ≤ 9223372036854775807
           ·rw [if_pos c67] at H
            have c67b0 := eq_true c67
            have c67b1 : decide ((x3_2 ++ t251).size + t252.size ≤ 9223372036854775807) = true := decide_eq_true c67
            try have c67b2 : (9223372036854775807 < (x3_2 ++ t251).size + t252.size) = False := eq_false (Nat.not_lt.2 c67)
            try have c67b3 := c67b2
            try simp only [ByteArray.size_append] at c67b3
            replace H := Option.bind_eq_some_iff.mp H
            obtain ⟨t253, A680, H⟩ := H
            replace H : (if ((x3_2 ++ t251) ++ t252).size + t253.size ≤ 9223372036854775807 then (rowlockref12_Put.l3 k2 (((x3_2 ++ t251) ++ t252) ++ t253) (l0_1.length : Int) x91_2 (((rd_T135 l0_1 x91_2).f2).length : Int) 0 l0_0 l0_1 ((rd_T135 l0_1 x91_2).f0) ((rd_T135 l0_1 x91_2).f1) ((rd_T135 l0_1 x91_2).f2) ((rd_T135 l0_1 x91_2).f3) ((rd_T135 l0_1 x91_2).f4) ((rd_T135 l0_1 x91_2).f5) ((rd_T135 l0_1 x91_2).f6)) else (none)) = some r := H
            have A68 := Aside0.mk A680
            clear A680
            by_cases c69 : ((x3_2 ++ t251) ++ t252).size + t253.size ≤ 9223372036854775807
            ·rw [if_pos c69] at H
             have c69b0 := eq_true c69
             have c69b1 : decide (((x3_2 ++ t251) ++ t252).size + t253.size ≤ 9223372036854775807) = true := decide_eq_true c69
             try have c69b2 : (9223372036854775807 < ((x3_2 ++ t251) ++ t252).size + t253.size) = False := eq_false (Nat.not_lt.2 c69)
             try have c69b3 := c69b2
             try simp only [ByteArray.size_append] at c69b3
             have H' := Aside0.mk H
             clear H
             have hcz70_0 : wr.cell? ⟨gb233, 0, none⟩ = some (.slice A0_0 l0_0.length c0_0) := (blk_cell BK233.out 0).trans rfl
             have hcz70_1 : wr.cell? ⟨gb233, 1, none⟩ = some (.slice A0_1 l0_1.length c0_1) := (blk_cell BK233.out 1).trans rfl
             have hfz70_0 := blk_frozen BK233.out 0
             have hfz70_1 := blk_frozen BK233.out 1
             have p249 : 0 ≤ (x91_2 : Int) := of_decide_eq_true (by first | (with_reducible assumption) | assumption)
             have q249 : x91_2 < (l0_1.length : Int) := of_decide_eq_true (by first | (with_reducible assumption) | assumption)
             obtain ⟨ad249, A249_2, c249_2, A249_6, c249_6, e249, hx249_0, hx249_1, hx249_2, hx249_3, hx249_4, hx249_5, hx249_6, hl249_2, hi249_2, hl249_6, hi249_6⟩ := at_T135 HR0_1.out x91_2 p249 q249
             cases e249
             replace hx249_0 := (HB.out.cell (World.block_lt_of_cell? w _ hx249_0)).trans hx249_0
             replace hx249_1 := (HB.out.cell (World.block_lt_of_cell? w _ hx249_1)).trans hx249_1
             replace hx249_2 := (HB.out.cell (World.block_lt_of_cell? w _ hx249_2)).trans hx249_2
             replace hx249_3 := (HB.out.cell (World.block_lt_of_cell? w _ hx249_3)).trans hx249_3
             replace hx249_4 := (HB.out.cell (World.block_lt_of_cell? w _ hx249_4)).trans hx249_4
             replace hx249_5 := (HB.out.cell (World.block_lt_of_cell? w _ hx249_5)).trans hx249_5
             replace hx249_6 := (HB.out.cell (World.block_lt_of_cell? w _ hx249_6)).trans hx249_6
             have HR249_2 := Aside0.mk hi249_2
             have HC249_2 := Aside0.mk hl249_2
             clear hi249_2 hl249_2
             have HR249_6 := Aside0.mk hi249_6
             have HC249_6 := Aside0.mk hl249_6
             clear hi249_6 hl249_6
             replace p249 := eq_true p249
             have p249D := p249; try simp only [List.length_drop, List.length_take] at p249D
             replace q249 := eq_true q249
             have q249D := q249; try simp only [List.length_drop, List.length_take] at q249D
             try go_wp2_with (first | ((with_reducible refine gate_dst (N := 9) rfl ?_); refine box_event ?hg (N := 9) ?hd (cs := #[.string (⟨#[]⟩ : ByteArray), .int .i64 0, .slice none 0 0, .int .u32 0, .int .i64 0, .int .i64 0, .slice none 0 0]) (t := 135) ?hr ?_; (case hd => rfl); (case hg => rfl); (case hr => first | (go_simp; done) | (go_simp; rfl)); intro gb250 hg w71 hbox hb; have n0_ := Aside0.mk (blk_below (g := gb233) (o := .cells #[.slice A0_0 l0_0.length c0_0, .slice (some ad249) l0_1.length c0_1] 80 (0, 0)) (by (with_reducible repeat (first | refine blk_drewN ?_ _ | refine blk_drew ?_ | refine blk_alloc ?_ _)); exact BK233.out) hb); have n1_ := Aside0.mk (below_step (by repeat (first | (with_reducible first | exact HB.out | apply below_alloc | apply pw_below_drewN | apply below_drew1 | refine below_set ?_ GE233.out) | exact HB.out)) hb); have n2_ := Aside0.mk (hbox); have n3_ := Aside0.mk ((by rw [hg]; exact (below_size (by repeat (first | (with_reducible first | exact HB.out | apply below_alloc | apply pw_below_drewN | apply below_drew1 | refine below_set ?_ GE233.out) | exact HB.out))) : w.heap.size ≤ gb250)); have n4_ := Aside0.mk ((by rw [hg]; exact (below_size (by repeat (first | (with_reducible first | exact HB.out | apply below_alloc | apply pw_below_drewN | apply below_drew1 | refine below_set ?_ GE233.out) | exact HB.out))) : w.heap.size ≤ gb250)); have n5_ := Aside0.mk ((by rw [hg]; exact Nat.ne_of_lt (blk_lt (g := gb233) (o := .cells #[.slice A0_0 l0_0.length c0_0, .slice (some ad249) l0_1.length c0_1] 80 (0, 0)) (by (with_reducible repeat (first | refine blk_drewN ?_ _ | refine blk_drew ?_ | refine blk_alloc ?_ _)); exact BK233.out)) : gb233 ≠ gb250)); have n6_ := Aside0.mk ((by rw [hg]; exact Nat.ne_of_gt (blk_lt (g := gb233) (o := .cells #[.slice A0_0 l0_0.length c0_0, .slice (some ad249) l0_1.length c0_1] 80 (0, 0)) (by (with_reducible repeat (first | refine blk_drewN ?_ _ | refine blk_drew ?_ | refine blk_alloc ?_ _)); exact BK233.out)) : gb250 ≠ gb233)); clear BK233; clear HB; have BK233 := n0_; have HB := n1_; have BK250 := n2_; have GW250 := n3_; have GE250 := n4_; have NB233_250 := n5_; have NB250_233 := n6_; clear n0_ n1_ n2_ n3_ n4_ n5_ n6_; clear hb hbox hg; have hnb72 := NB250_233.out; have hnc72 := NB233_250.out; have hcz73_0 : w71.cell? ⟨gb250, 0, none⟩ = some (.string (⟨#[]⟩ : ByteArray)) := (blk_cell BK250.out 0).trans rfl; have hcz73_1 : w71.cell? ⟨gb250, 1, none⟩ = some (.int .i64 0) := (blk_cell BK250.out 1).trans rfl; have hcz73_2 : w71.cell? ⟨gb250, 2, none⟩ = some (.slice none 0 0) := (blk_cell BK250.out 2).trans rfl; have hcz73_3 : w71.cell? ⟨gb250, 3, none⟩ = some (.int .u32 0) := (blk_cell BK250.out 3).trans rfl; have hcz73_4 : w71.cell? ⟨gb250, 4, none⟩ = some (.int .i64 0) := (blk_cell BK250.out 4).trans rfl; have hcz73_5 : w71.cell? ⟨gb250, 5, none⟩ = some (.int .i64 0) := (blk_cell BK250.out 5).trans rfl; have hcz73_6 : w71.cell? ⟨gb250, 6, none⟩ = some (.slice none 0 0) := (blk_cell BK250.out 6).trans rfl; have hfz73_0 := blk_frozen BK250.out 0; have hfz73_1 := blk_frozen BK250.out 1; have hfz73_2 := blk_frozen BK250.out 2; have hfz73_3 := blk_frozen BK250.out 3; have hfz73_4 := blk_frozen BK250.out 4; have hfz73_5 := blk_frozen BK250.out 5; have hfz73_6 := blk_frozen BK250.out 6))
             have n0_ : Aside0 ((((((((w71.setCell ⟨gb250, 0, none⟩ (.string ((rd_T135 l0_1 x91_2).f0))).setCell ⟨gb250, 1, none⟩ (.int .i64 ((rd_T135 l0_1 x91_2).f1))).setCell ⟨gb250, 2, none⟩ (.slice A249_2 ((rd_T135 l0_1 x91_2).f2).length c249_2)).setCell ⟨gb250, 3, none⟩ (.int .u32 ((rd_T135 l0_1 x91_2).f3))).setCell ⟨gb250, 4, none⟩ (.int .i64 ((rd_T135 l0_1 x91_2).f4))).setCell ⟨gb250, 5, none⟩ (.int .i64 ((rd_T135 l0_1 x91_2).f5))).setCell ⟨gb250, 6, none⟩ (.slice A249_6 ((rd_T135 l0_1 x91_2).f6).length c249_6)).heap[gb233]? = some (.cells #[.slice A0_0 l0_0.length c0_0, .slice (some ad249) l0_1.length c0_1] 80 (0, 0))) := ⟨by (with_reducible repeat (first | refine blk_drewN ?_ _ | refine blk_drew ?_ | refine blk_alloc ?_ _)); refine blk_far ?_ NB233_250.out _; (with_reducible repeat (first | refine blk_drewN ?_ _ | refine blk_drew ?_ | refine blk_alloc ?_ _)); refine blk_far ?_ NB233_250.out _; (with_reducible repeat (first | refine blk_drewN ?_ _ | refine blk_drew ?_ | refine blk_alloc ?_ _)); refine blk_far ?_ NB233_250.out _; (with_reducible repeat (first | refine blk_drewN ?_ _ | refine blk_drew ?_ | refine blk_alloc ?_ _)); refine blk_far ?_ NB233_250.out _; (with_reducible repeat (first | refine blk_drewN ?_ _ | refine blk_drew ?_ | refine blk_alloc ?_ _)); refine blk_far ?_ NB233_250.out _; (with_reducible repeat (first | refine blk_drewN ?_ _ | refine blk_drew ?_ | refine blk_alloc ?_ _)); refine blk_far ?_ NB233_250.out _; (with_reducible repeat (first | refine blk_drewN ?_ _ | refine blk_drew ?_ | refine blk_alloc ?_ _)); refine blk_far ?_ NB233_250.out _; (with_reducible repeat (first | refine blk_drewN ?_ _ | refine blk_drew ?_ | refine blk_alloc ?_ _)); exact BK233.out⟩
             have n1_ : Aside0 ((((((((w71.setCell ⟨gb250, 0, none⟩ (.string ((rd_T135 l0_1 x91_2).f0))).setCell ⟨gb250, 1, none⟩ (.int .i64 ((rd_T135 l0_1 x91_2).f1))).setCell ⟨gb250, 2, none⟩ (.slice A249_2 ((rd_T135 l0_1 x91_2).f2).length c249_2)).setCell ⟨gb250, 3, none⟩ (.int .u32 ((rd_T135 l0_1 x91_2).f3))).setCell ⟨gb250, 4, none⟩ (.int .i64 ((rd_T135 l0_1 x91_2).f4))).setCell ⟨gb250, 5, none⟩ (.int .i64 ((rd_T135 l0_1 x91_2).f5))).setCell ⟨gb250, 6, none⟩ (.slice A249_6 ((rd_T135 l0_1 x91_2).f6).length c249_6)).heap[gb250]? = some (.cells #[.string ((rd_T135 l0_1 x91_2).f0), .int .i64 ((rd_T135 l0_1 x91_2).f1), .slice A249_2 ((rd_T135 l0_1 x91_2).f2).length c249_2, .int .u32 ((rd_T135 l0_1 x91_2).f3), .int .i64 ((rd_T135 l0_1 x91_2).f4), .int .i64 ((rd_T135 l0_1 x91_2).f5), .slice A249_6 ((rd_T135 l0_1 x91_2).f6).length c249_6] 135 (0, 0))) := ⟨by (with_reducible repeat (first | refine blk_drewN ?_ _ | refine blk_drew ?_ | refine blk_alloc ?_ _)); refine blk_put (cs := #[.string ((rd_T135 l0_1 x91_2).f0), .int .i64 ((rd_T135 l0_1 x91_2).f1), .slice A249_2 ((rd_T135 l0_1 x91_2).f2).length c249_2, .int .u32 ((rd_T135 l0_1 x91_2).f3), .int .i64 ((rd_T135 l0_1 x91_2).f4), .int .i64 ((rd_T135 l0_1 x91_2).f5), .slice none 0 0]) ?_ 6 _ rfl; (with_reducible repeat (first | refine blk_drewN ?_ _ | refine blk_drew ?_ | refine blk_alloc ?_ _)); refine blk_put (cs := #[.string ((rd_T135 l0_1 x91_2).f0), .int .i64 ((rd_T135 l0_1 x91_2).f1), .slice A249_2 ((rd_T135 l0_1 x91_2).f2).length c249_2, .int .u32 ((rd_T135 l0_1 x91_2).f3), .int .i64 ((rd_T135 l0_1 x91_2).f4), .int .i64 0, .slice none 0 0]) ?_ 5 _ rfl; (with_reducible repeat (first | refine blk_drewN ?_ _ | refine blk_drew ?_ | refine blk_alloc ?_ _)); refine blk_put (cs := #[.string ((rd_T135 l0_1 x91_2).f0), .int .i64 ((rd_T135 l0_1 x91_2).f1), .slice A249_2 ((rd_T135 l0_1 x91_2).f2).length c249_2, .int .u32 ((rd_T135 l0_1 x91_2).f3), .int .i64 0, .int .i64 0, .slice none 0 0]) ?_ 4 _ rfl; (with_reducible repeat (first | refine blk_drewN ?_ _ | refine blk_drew ?_ | refine blk_alloc ?_ _)); refine blk_put (cs := #[.string ((rd_T135 l0_1 x91_2).f0), .int .i64 ((rd_T135 l0_1 x91_2).f1), .slice A249_2 ((rd_T135 l0_1 x91_2).f2).length c249_2, .int .u32 0, .int .i64 0, .int .i64 0, .slice none 0 0]) ?_ 3 _ rfl; (with_reducible repeat (first | refine blk_drewN ?_ _ | refine blk_drew ?_ | refine blk_alloc ?_ _)); refine blk_put (cs := #[.string ((rd_T135 l0_1 x91_2).f0), .int .i64 ((rd_T135 l0_1 x91_2).f1), .slice none 0 0, .int .u32 0, .int .i64 0, .int .i64 0, .slice none 0 0]) ?_ 2 _ rfl; (with_reducible repeat (first | refine blk_drewN ?_ _ | refine blk_drew ?_ | refine blk_alloc ?_ _)); refine blk_put (cs := #[.string ((rd_T135 l0_1 x91_2).f0), .int .i64 0, .slice none 0 0, .int .u32 0, .int .i64 0, .int .i64 0, .slice none 0 0]) ?_ 1 _ rfl; (with_reducible repeat (first | refine blk_drewN ?_ _ | refine blk_drew ?_ | refine blk_alloc ?_ _)); refine blk_put (cs := #[.string (⟨#[]⟩ : ByteArray), .int .i64 0, .slice none 0 0, .int .u32 0, .int .i64 0, .int .i64 0, .slice none 0 0]) ?_ 0 _ rfl; (with_reducible repeat (first | refine blk_drewN ?_ _ | refine blk_drew ?_ | refine blk_alloc ?_ _)); exact BK250.out⟩
             have n2_ : Aside0 (Below w.heap.size w (((((((w71.setCell ⟨gb250, 0, none⟩ (.string ((rd_T135 l0_1 x91_2).f0))).setCell ⟨gb250, 1, none⟩ (.int .i64 ((rd_T135 l0_1 x91_2).f1))).setCell ⟨gb250, 2, none⟩ (.slice A249_2 ((rd_T135 l0_1 x91_2).f2).length c249_2)).setCell ⟨gb250, 3, none⟩ (.int .u32 ((rd_T135 l0_1 x91_2).f3))).setCell ⟨gb250, 4, none⟩ (.int .i64 ((rd_T135 l0_1 x91_2).f4))).setCell ⟨gb250, 5, none⟩ (.int .i64 ((rd_T135 l0_1 x91_2).f5))).setCell ⟨gb250, 6, none⟩ (.slice A249_6 ((rd_T135 l0_1 x91_2).f6).length c249_6))) := ⟨by repeat (first | (with_reducible first | exact HB.out | apply below_alloc | apply pw_below_drewN | apply below_drew1 | refine below_set ?_ GE233.out | refine below_set ?_ GE250.out) | exact HB.out)⟩
             (try clear BK233)
             (try clear BK250)
             (try clear HB)
             generalize (((((((w71.setCell ⟨gb250, 0, none⟩ (.string ((rd_T135 l0_1 x91_2).f0))).setCell ⟨gb250, 1, none⟩ (.int .i64 ((rd_T135 l0_1 x91_2).f1))).setCell ⟨gb250, 2, none⟩ (.slice A249_2 ((rd_T135 l0_1 x91_2).f2).length c249_2)).setCell ⟨gb250, 3, none⟩ (.int .u32 ((rd_T135 l0_1 x91_2).f3))).setCell ⟨gb250, 4, none⟩ (.int .i64 ((rd_T135 l0_1 x91_2).f4))).setCell ⟨gb250, 5, none⟩ (.int .i64 ((rd_T135 l0_1 x91_2).f5))).setCell ⟨gb250, 6, none⟩ (.slice A249_6 ((rd_T135 l0_1 x91_2).f6).length c249_6)) = w74 at n0_ n1_ n2_ ⊢
             have BK233 := n0_
             have BK250 := n1_
             have HB := n2_
             clear n0_ n1_ n2_
             have n0_ := Aside0.mk (blk_drew BK233.out)
             have n1_ := Aside0.mk (blk_drew BK250.out)
             have n2_ := Aside0.mk (below_drew1 HB.out)
             clear BK233
             clear BK250
             clear HB
             have BK233 := n0_
             have BK250 := n1_
             have HB := n2_
             clear n0_ n1_ n2_
             refine start_ (n := 15) (S := fun w' => w'.cell? ⟨gb250, 0, none⟩ = some (.string ((rd_T135 l0_1 x91_2).f0)) ∧ w'.cell? ⟨gb250, 1, none⟩ = some (.int .i64 ((rd_T135 l0_1 x91_2).f1)) ∧ w'.cell? ⟨gb250, 2, none⟩ = some (.slice A249_2 ((rd_T135 l0_1 x91_2).f2).length c249_2) ∧ w'.cell? ⟨gb250, 3, none⟩ = some (.int .u32 ((rd_T135 l0_1 x91_2).f3)) ∧ w'.cell? ⟨gb250, 4, none⟩ = some (.int .i64 ((rd_T135 l0_1 x91_2).f4)) ∧ w'.cell? ⟨gb250, 5, none⟩ = some (.int .i64 ((rd_T135 l0_1 x91_2).f5)) ∧ w'.cell? ⟨gb250, 6, none⟩ = some (.slice A249_6 ((rd_T135 l0_1 x91_2).f6).length c249_6)) (ds := []) #[false, false, false, false, false, false, false, false, false, false, false, false, false, false, false] (by kernel_rfl) rfl rfl ⟨(blk_cell BK250.out 0).trans rfl, (blk_cell BK250.out 1).trans rfl, (blk_cell BK250.out 2).trans rfl, (blk_cell BK250.out 3).trans rfl, (blk_cell BK250.out 4).trans rfl, (blk_cell BK250.out 5).trans rfl, (blk_cell BK250.out 6).trans rfl⟩ (fun hHeld => ?_); refine with_tabW rowlockref12_Put.tab20 rowlockref12_Put.bits20 (fun HT_ HW_ => ?_)
             generalize w74.drew = w75 at BK233 BK250 HB hHeld ⊢
             refine pure_ (i := 0) (N := some 99) (v := ?_) (a' := ?_) #[true, false, false, false, false, false, false, false, false, false, false, false, false, false, false] rfl rfl (any_of HT_.out (by kernel_rfl)) (fun _ _ _ h => h) (Or.inl ⟨by rfl, ?_⟩) ?_ ?_
             rotate_left
             ·intro w'
              go_simp
              with_reducible rfl
             rotate_left
             ·simp only [Act.put, List.setIfInBounds_toArray, List.set_cons_zero, List.set_cons_succ, i64_w, i32_w]
              rfl
             refine pure_ (i := 1) (N := some 100) (v := ?_) (a' := ?_) #[true, true, false, false, false, false, false, false, false, false, false, false, false, false, false] rfl rfl (any_of HT_.out (by kernel_rfl)) (fun _ _ _ h => h) (Or.inl ⟨by rfl, ?_⟩) ?_ ?_
             rotate_left
             ·intro w'
              go_simp
              with_reducible rfl
             rotate_left
             ·simp only [Act.put, List.setIfInBounds_toArray, List.set_cons_zero, List.set_cons_succ, i64_w, i32_w]
              rfl
             refine pure_ (i := 5) (N := some 104) (v := ?_) (a' := ?_) #[true, true, false, false, false, true, false, false, false, false, false, false, false, false, false] rfl rfl (any_of HT_.out (by kernel_rfl)) (fun _ _ _ h => h) (Or.inl ⟨by rfl, ?_⟩) ?_ ?_
             rotate_left
             ·intro w'
              go_simp
              with_reducible rfl
             rotate_left
             ·simp only [Act.put, List.setIfInBounds_toArray, List.set_cons_zero, List.set_cons_succ, i64_w, i32_w]
              rfl
             refine pure_ (i := 9) (N := some 108) (v := ?_) (a' := ?_) #[true, true, false, false, false, true, false, false, false, true, false, false, false, false, false] rfl rfl (any_of HT_.out (by kernel_rfl)) (fun _ _ _ h => h) (Or.inl ⟨by rfl, ?_⟩) ?_ ?_
             rotate_left
             ·intro w'
              go_simp
              with_reducible rfl
             rotate_left
             ·simp only [Act.put, List.setIfInBounds_toArray, List.set_cons_zero, List.set_cons_succ, i64_w, i32_w]
              rfl
             refine take_ (i := 2) (N := some 101) (v := ?_) (a' := ?_) #[true, true, true, false, false, true, false, false, false, true, false, false, false, false, false] rfl rfl (take_ofW HT_.out HW_.out (by kernel_rfl)) (fun _ _ _ h => h) (Or.inl ⟨by rfl, ?_⟩) hHeld ?_ ?_
             rotate_left
             ·rintro w' ⟨s0, s1, s2, s3, s4, s5, s6⟩
              go_simp
              with_reducible rfl
             rotate_left
             ·simp only [Act.put, List.setIfInBounds_toArray, List.set_cons_zero, List.set_cons_succ, i64_w, i32_w]
              rfl
             refine take_ (i := 6) (N := some 105) (v := ?_) (a' := ?_) #[true, true, true, false, false, true, true, false, false, true, false, false, false, false, false] rfl rfl (take_ofW HT_.out HW_.out (by kernel_rfl)) (fun _ _ _ h => h) (Or.inl ⟨by rfl, ?_⟩) hHeld ?_ ?_
             rotate_left
             ·rintro w' ⟨s0, s1, s2, s3, s4, s5, s6⟩
              go_simp
              with_reducible rfl
             rotate_left
             ·simp only [Act.put, List.setIfInBounds_toArray, List.set_cons_zero, List.set_cons_succ, i64_w, i32_w]
              rfl
             refine take_ (i := 10) (N := some 109) (v := ?_) (a' := ?_) #[true, true, true, false, false, true, true, false, false, true, true, false, false, false, false] rfl rfl (take_ofW HT_.out HW_.out (by kernel_rfl)) (fun _ _ _ h => h) (Or.inl ⟨by rfl, ?_⟩) hHeld ?_ ?_
             rotate_left
             ·rintro w' ⟨s0, s1, s2, s3, s4, s5, s6⟩
              go_simp
              with_reducible rfl
             rotate_left
             ·simp only [Act.put, List.setIfInBounds_toArray, List.set_cons_zero, List.set_cons_succ, i64_w, i32_w]
              rfl
             refine pure_ (i := 11) (N := some 110) (v := ?_) (a' := ?_) #[true, true, true, false, false, true, true, false, false, true, true, true, false, false, false] rfl rfl (any_of HT_.out (by kernel_rfl)) (fun _ _ _ h => h) (Or.inl ⟨by rfl, ?_⟩) ?_ ?_
             rotate_left
             ·intro w'
              go_simp
              with_reducible rfl
             rotate_left
             ·simp only [Act.put, List.setIfInBounds_toArray, List.set_cons_zero, List.set_cons_succ, i64_w, i32_w]
              rfl
             refine one_ (i := 3) (N := some 102) #[true, true, true, true, false, true, true, false, false, true, true, true, false, false, false] rfl rfl (one_of HT_.out (by kernel_rfl)) (by decide) (fun K hK => ?_)
             refine goes_ Try.func66 (by kernel_rfl) rfl #[.string ((rd_T135 l0_1 x91_2).f0)] (by rfl) rfl rfl (by (try simp only [List.map_toArray, List.map_cons, List.map_nil]); first | done | rfl | (simp only [List.length_drop, List.length_take]; rfl)) ?_
             with_reducible refine (rowlockref12_text.calls k2 ((rd_T135 l0_1 x91_2).f0) t251 _ A64.out).mono ?_
             rintro e w76 ⟨rfl, hb⟩
             refine ⟨_, rfl, ?_⟩
             have n0_ := Aside0.mk (blk_below (g := gb233) (o := .cells #[.slice A0_0 l0_0.length c0_0, .slice (some ad249) l0_1.length c0_1] 80 (0, 0)) (by (with_reducible repeat (first | refine blk_drewN ?_ _ | refine blk_drew ?_ | refine blk_alloc ?_ _)); exact BK233.out) hb)
             have n1_ := Aside0.mk (blk_below (g := gb250) (o := .cells #[.string ((rd_T135 l0_1 x91_2).f0), .int .i64 ((rd_T135 l0_1 x91_2).f1), .slice A249_2 ((rd_T135 l0_1 x91_2).f2).length c249_2, .int .u32 ((rd_T135 l0_1 x91_2).f3), .int .i64 ((rd_T135 l0_1 x91_2).f4), .int .i64 ((rd_T135 l0_1 x91_2).f5), .slice A249_6 ((rd_T135 l0_1 x91_2).f6).length c249_6] 135 (0, 0)) (by (with_reducible repeat (first | refine blk_drewN ?_ _ | refine blk_drew ?_ | refine blk_alloc ?_ _)); exact BK250.out) hb)
             have n2_ := Aside0.mk (below_step (by repeat (first | (with_reducible first | exact HB.out | apply below_alloc | apply pw_below_drewN | apply below_drew1 | refine below_set ?_ GE233.out | refine below_set ?_ GE250.out) | exact HB.out)) hb)
             clear BK233
             clear BK250
             clear HB
             have BK233 := n0_
             have BK250 := n1_
             have HB := n2_
             clear n0_ n1_ n2_
             (try clear hb)
             (try clear hb2)
             (try clear hk)
             (try clear hi)
             refine hK.out _ _ ⟨(blk_cell BK250.out 0).trans rfl, (blk_cell BK250.out 1).trans rfl, (blk_cell BK250.out 2).trans rfl, (blk_cell BK250.out 3).trans rfl, (blk_cell BK250.out 4).trans rfl, (blk_cell BK250.out 5).trans rfl, (blk_cell BK250.out 6).trans rfl⟩ (fun hHeld => ?_)
             clear hK K
             refine norm_ (a' := ?_) ?_ ?_
             rotate_left
             ·show Act.put _ (some 102) _ = _
              simp only [Act.put, List.setIfInBounds_toArray, List.set_cons_zero, List.set_cons_succ, i64_w, i32_w]
              rfl
             refine pure_ (i := 4) (N := some 103) (v := ?_) (a' := ?_) #[true, true, true, true, true, true, true, false, false, true, true, true, false, false, false] rfl rfl (any_of HT_.out (by kernel_rfl)) (fun _ _ _ h => h) (Or.inl ⟨by rfl, ?_⟩) ?_ ?_
             rotate_left
             ·intro w'
              go_simp
              with_reducible rfl
             rotate_left
             ·simp only [Act.put, List.setIfInBounds_toArray, List.set_cons_zero, List.set_cons_succ, i64_w, i32_w]
              rfl
             refine one_ (i := 7) (N := some 106) #[true, true, true, true, true, true, true, true, false, true, true, true, false, false, false] rfl rfl (one_of HT_.out (by kernel_rfl)) (by decide) (fun K hK => ?_)
             refine goes_ Try.func65 (by kernel_rfl) rfl #[.int .i64 ((rd_T135 l0_1 x91_2).f1)] (by rfl) rfl rfl (by (try simp only [List.map_toArray, List.map_cons, List.map_nil]); first | done | rfl | (simp only [List.length_drop, List.length_take]; rfl)) ?_
             with_reducible refine (rowlockref12_one.calls k2 ((rd_T135 l0_1 x91_2).f1) t252 _ A66.out).mono ?_
             rintro e w77 ⟨rfl, hb⟩
             refine ⟨_, rfl, ?_⟩
             have n0_ := Aside0.mk (blk_below (g := gb233) (o := .cells #[.slice A0_0 l0_0.length c0_0, .slice (some ad249) l0_1.length c0_1] 80 (0, 0)) (by (with_reducible repeat (first | refine blk_drewN ?_ _ | refine blk_drew ?_ | refine blk_alloc ?_ _)); exact BK233.out) hb)
             have n1_ := Aside0.mk (blk_below (g := gb250) (o := .cells #[.string ((rd_T135 l0_1 x91_2).f0), .int .i64 ((rd_T135 l0_1 x91_2).f1), .slice A249_2 ((rd_T135 l0_1 x91_2).f2).length c249_2, .int .u32 ((rd_T135 l0_1 x91_2).f3), .int .i64 ((rd_T135 l0_1 x91_2).f4), .int .i64 ((rd_T135 l0_1 x91_2).f5), .slice A249_6 ((rd_T135 l0_1 x91_2).f6).length c249_6] 135 (0, 0)) (by (with_reducible repeat (first | refine blk_drewN ?_ _ | refine blk_drew ?_ | refine blk_alloc ?_ _)); exact BK250.out) hb)
             have n2_ := Aside0.mk (below_step (by repeat (first | (with_reducible first | exact HB.out | apply below_alloc | apply pw_below_drewN | apply below_drew1 | refine below_set ?_ GE233.out | refine below_set ?_ GE250.out) | exact HB.out)) hb)
             clear BK233
             clear BK250
             clear HB
             have BK233 := n0_
             have BK250 := n1_
             have HB := n2_
             clear n0_ n1_ n2_
             (try clear hb)
             (try clear hb2)
             (try clear hk)
             (try clear hi)
             refine hK.out _ _ ⟨(blk_cell BK250.out 0).trans rfl, (blk_cell BK250.out 1).trans rfl, (blk_cell BK250.out 2).trans rfl, (blk_cell BK250.out 3).trans rfl, (blk_cell BK250.out 4).trans rfl, (blk_cell BK250.out 5).trans rfl, (blk_cell BK250.out 6).trans rfl⟩ (fun hHeld => ?_)
             clear hK K
             refine norm_ (a' := ?_) ?_ ?_
             rotate_left
             ·show Act.put _ (some 106) _ = _
              simp only [Act.put, List.setIfInBounds_toArray, List.set_cons_zero, List.set_cons_succ, i64_w, i32_w]
              rfl
             refine pure_ (i := 8) (N := some 107) (v := ?_) (a' := ?_) #[true, true, true, true, true, true, true, true, true, true, true, true, false, false, false] rfl rfl (any_of HT_.out (by kernel_rfl)) (fun _ _ _ h => h) (Or.inl ⟨by rfl, ?_⟩) ?_ ?_
             rotate_left
             ·intro w'
              go_simp
              with_reducible rfl
             rotate_left
             ·simp only [Act.put, List.setIfInBounds_toArray, List.set_cons_zero, List.set_cons_succ, i64_w, i32_w]
              rfl
             refine one_ (i := 12) (N := some 111) #[true, true, true, true, true, true, true, true, true, true, true, true, true, false, false] rfl rfl (one_of HT_.out (by kernel_rfl)) (by decide) (fun K hK => ?_)
             refine goes_ Try.func65 (by kernel_rfl) rfl #[.int .i64 (((rd_T135 l0_1 x91_2).f2).length : Int)] (by rfl) rfl rfl (by (try simp only [List.map_toArray, List.map_cons, List.map_nil]); first | done | rfl | (simp only [List.length_drop, List.length_take]; rfl)) ?_
             with_reducible refine (rowlockref12_one.calls k2 (((rd_T135 l0_1 x91_2).f2).length : Int) t253 _ A68.out).mono ?_
             rintro e w78 ⟨rfl, hb⟩
             refine ⟨_, rfl, ?_⟩
             have n0_ := Aside0.mk (blk_below (g := gb233) (o := .cells #[.slice A0_0 l0_0.length c0_0, .slice (some ad249) l0_1.length c0_1] 80 (0, 0)) (by (with_reducible repeat (first | refine blk_drewN ?_ _ | refine blk_drew ?_ | refine blk_alloc ?_ _)); exact BK233.out) hb)
             have n1_ := Aside0.mk (blk_below (g := gb250) (o := .cells #[.string ((rd_T135 l0_1 x91_2).f0), .int .i64 ((rd_T135 l0_1 x91_2).f1), .slice A249_2 ((rd_T135 l0_1 x91_2).f2).length c249_2, .int .u32 ((rd_T135 l0_1 x91_2).f3), .int .i64 ((rd_T135 l0_1 x91_2).f4), .int .i64 ((rd_T135 l0_1 x91_2).f5), .slice A249_6 ((rd_T135 l0_1 x91_2).f6).length c249_6] 135 (0, 0)) (by (with_reducible repeat (first | refine blk_drewN ?_ _ | refine blk_drew ?_ | refine blk_alloc ?_ _)); exact BK250.out) hb)
             have n2_ := Aside0.mk (below_step (by repeat (first | (with_reducible first | exact HB.out | apply below_alloc | apply pw_below_drewN | apply below_drew1 | refine below_set ?_ GE233.out | refine below_set ?_ GE250.out) | exact HB.out)) hb)
             clear BK233
             clear BK250
             clear HB
             have BK233 := n0_
             have BK250 := n1_
             have HB := n2_
             clear n0_ n1_ n2_
             (try clear hb)
             (try clear hb2)
             (try clear hk)
             (try clear hi)
             refine hK.out _ _ ⟨(blk_cell BK250.out 0).trans rfl, (blk_cell BK250.out 1).trans rfl, (blk_cell BK250.out 2).trans rfl, (blk_cell BK250.out 3).trans rfl, (blk_cell BK250.out 4).trans rfl, (blk_cell BK250.out 5).trans rfl, (blk_cell BK250.out 6).trans rfl⟩ (fun hHeld => ?_)
             clear hK K
             refine norm_ (a' := ?_) ?_ ?_
             rotate_left
             ·show Act.put _ (some 111) _ = _
              simp only [Act.put, List.setIfInBounds_toArray, List.set_cons_zero, List.set_cons_succ, i64_w, i32_w]
              rfl
             refine pure_ (i := 13) (N := some 112) (v := ?_) (a' := ?_) #[true, true, true, true, true, true, true, true, true, true, true, true, true, true, false] rfl rfl (any_of HT_.out (by kernel_rfl)) (fun _ _ _ h => h) (Or.inl ⟨by rfl, ?_⟩) ?_ ?_
             rotate_left
             ·intro w'
              go_simp
              with_reducible rfl
             rotate_left
             ·simp only [Act.put, List.setIfInBounds_toArray, List.set_cons_zero, List.set_cons_succ, i64_w, i32_w]
              rfl
             refine pure_ (i := 14) (N := some 3) (v := ?_) (a' := ?_) #[true, true, true, true, true, true, true, true, true, true, true, true, true, true, true] rfl rfl (any_of HT_.out (by kernel_rfl)) (fun _ _ _ h => h) (Or.inl ⟨by rfl, ?_⟩) ?_ ?_
             rotate_left
             ·intro w'
              go_simp
              with_reducible rfl
             rotate_left
             ·simp only [Act.put, List.setIfInBounds_toArray, List.set_cons_zero, List.set_cons_succ, i64_w, i32_w]
              rfl
             refine done_ (done_of HT_.out (by kernel_rfl)) ?_
             have hcz79_0 : w78.cell? ⟨gb250, 0, none⟩ = some (.string ((rd_T135 l0_1 x91_2).f0)) := (blk_cell BK250.out 0).trans rfl
             have hcz79_1 : w78.cell? ⟨gb250, 1, none⟩ = some (.int .i64 ((rd_T135 l0_1 x91_2).f1)) := (blk_cell BK250.out 1).trans rfl
             have hcz79_2 : w78.cell? ⟨gb250, 2, none⟩ = some (.slice A249_2 ((rd_T135 l0_1 x91_2).f2).length c249_2) := (blk_cell BK250.out 2).trans rfl
             have hcz79_3 : w78.cell? ⟨gb250, 3, none⟩ = some (.int .u32 ((rd_T135 l0_1 x91_2).f3)) := (blk_cell BK250.out 3).trans rfl
             have hcz79_4 : w78.cell? ⟨gb250, 4, none⟩ = some (.int .i64 ((rd_T135 l0_1 x91_2).f4)) := (blk_cell BK250.out 4).trans rfl
             have hcz79_5 : w78.cell? ⟨gb250, 5, none⟩ = some (.int .i64 ((rd_T135 l0_1 x91_2).f5)) := (blk_cell BK250.out 5).trans rfl
             have hcz79_6 : w78.cell? ⟨gb250, 6, none⟩ = some (.slice A249_6 ((rd_T135 l0_1 x91_2).f6).length c249_6) := (blk_cell BK250.out 6).trans rfl
             have hfz79_0 := blk_frozen BK250.out 0
             have hfz79_1 := blk_frozen BK250.out 1
             have hfz79_2 := blk_frozen BK250.out 2
             have hfz79_3 := blk_frozen BK250.out 3
             have hfz79_4 := blk_frozen BK250.out 4
             have hfz79_5 := blk_frozen BK250.out 5
             have hfz79_6 := blk_frozen BK250.out 6
             try go_wp2
             go_loopg [3, 116] k2 (fun kq v3 v116 w' => ∃ (x3_3 : ByteArray) (x116_3 : Int), v3 = .string x3_3 ∧ v116 = .int .i64 x116_3 ∧ Aside0 (rowlockref12_Put.l3 kq x3_3 (l0_1.length : Int) x91_2 (((rd_T135 l0_1 x91_2).f2).length : Int) x116_3 l0_0 l0_1 ((rd_T135 l0_1 x91_2).f0) ((rd_T135 l0_1 x91_2).f1) ((rd_T135 l0_1 x91_2).f2) ((rd_T135 l0_1 x91_2).f3) ((rd_T135 l0_1 x91_2).f4) ((rd_T135 l0_1 x91_2).f5) ((rd_T135 l0_1 x91_2).f6) = some r) ∧ Aside0 (kq ≤ k2) ∧ Aside0 (w'.heap[gb233]? = some (.cells #[(.slice A0_0 l0_0.length c0_0), (.slice (some ad249) l0_1.length c0_1)] 80 (0, 0))) ∧ Aside0 (w'.heap[gb250]? = some (.cells #[.string ((rd_T135 l0_1 x91_2).f0), .int .i64 ((rd_T135 l0_1 x91_2).f1), (.slice A249_2 ((rd_T135 l0_1 x91_2).f2).length c249_2), .int .u32 ((rd_T135 l0_1 x91_2).f3), .int .i64 ((rd_T135 l0_1 x91_2).f4), .int .i64 ((rd_T135 l0_1 x91_2).f5), (.slice A249_6 ((rd_T135 l0_1 x91_2).f6).length c249_6)] 135 (0, 0))) ∧ Aside0 (Below w.heap.size w w'))
             case atStart => exact ⟨(((x3_2 ++ t251) ++ t252) ++ t253), (0), (by first | rfl | (simp; done) | (simp [*]; done)), (by first | rfl | (simp; done) | (simp [*]; done)), H', ⟨Nat.le_refl _⟩, ⟨by (with_reducible repeat (first | refine blk_drewN ?_ _ | refine blk_drew ?_ | refine blk_alloc ?_ _)); exact BK233.out⟩, ⟨by (with_reducible repeat (first | refine blk_drewN ?_ _ | refine blk_drew ?_ | refine blk_alloc ?_ _)); exact BK250.out⟩, ⟨by repeat (first | (with_reducible first | exact HB.out | apply below_alloc | apply pw_below_drewN | apply below_drew1 | refine below_set ?_ GE233.out | refine below_set ?_ GE250.out) | exact HB.out)⟩⟩
             case round =>
              clear H'
              try clear c1
              try clear c2
              try clear p2
              try clear q2
              try clear hx2
              try clear c3
              try clear c4
              try clear c5
              try clear c6
              try clear p6
              try clear c7
              try clear c7b0
              try clear c8
              try clear c9
              try clear c11
              try clear c13
              try clear c23
              try clear c23b0
              try clear c24
              try clear p24
              try clear q24
              try clear hx24
              try clear c25
              try clear c27
              try clear c29
              try clear c29b0
              try clear c29b1
              try clear c29b2
              try clear c31
              try clear c31b0
              try clear c31b1
              try clear c31b2
              try clear c33
              try clear c33b0
              try clear c33b1
              try clear c33b2
              try clear c34
              try clear c37
              try clear c38
              try clear c47
              try clear c47b0
              try clear c47b1
              try clear c47b2
              try clear c49
              try clear c49b0
              try clear c49b1
              try clear c49b2
              try clear c51
              try clear c51b0
              try clear c51b1
              try clear c51b2
              try clear c57
              try clear c57b0
              try clear c57b1
              try clear c57b2
              try clear c61
              try clear c61b0
              try clear c62
              try clear c62b0
              try clear c63
              try clear c63b0
              try clear p64
              try clear c65
              try clear c65b0
              try clear c65b1
              try clear c65b2
              try clear c66
              try clear c67
              try clear c67b0
              try clear c67b1
              try clear c67b2
              try clear c69
              try clear c69b0
              try clear c69b1
              try clear c69b2
              try clear c72
              try clear hcz35_0
              try clear hcz35_1
              try clear hcz35_2
              try clear hcz35_3
              try clear hcz35_4
              try clear hcz39_0
              try clear hcz39_1
              try clear hcz39_2
              try clear hcz39_3
              try clear hcz58_0
              try clear hcz58_1
              try clear hcz60_0
              try clear hcz60_1
              try clear hcz70_0
              try clear hcz70_1
              try clear hcz73_0
              try clear hcz73_1
              try clear hcz73_2
              try clear hcz73_3
              try clear hcz73_4
              try clear hcz73_5
              try clear hcz73_6
              try clear hcz79_0
              try clear hcz79_1
              try clear hcz79_2
              try clear hcz79_3
              try clear hcz79_4
              try clear hcz79_5
              try clear hcz79_6
              try clear hfz35_0
              try clear hfz35_1
              try clear hfz35_2
              try clear hfz35_3
              try clear hfz35_4
              try clear hfz39_0
              try clear hfz39_1
              try clear hfz39_2
              try clear hfz39_3
              try clear hfz58_0
              try clear hfz58_1
              try clear hfz60_0
              try clear hfz60_1
              try clear hfz70_0
              try clear hfz70_1
              try clear hfz73_0
              try clear hfz73_1
              try clear hfz73_2
              try clear hfz73_3
              try clear hfz73_4
              try clear hfz73_5
              try clear hfz73_6
              try clear hfz79_0
              try clear hfz79_1
              try clear hfz79_2
              try clear hfz79_3
              try clear hfz79_4
              try clear hfz79_5
              try clear hfz79_6
              try clear hx242_0
              try clear hx242_1
              try clear hx242_2
              try clear hx242_3
              try clear hx249_0
              try clear hx249_1
              try clear hx249_2
              try clear hx249_3
              try clear hx249_4
              try clear hx249_5
              try clear hx249_6
              try clear p2
              try clear p24
              try clear p242
              try clear p249
              try clear p6
              try clear q2
              try clear q24
              try clear q242
              try clear q249
              obtain ⟨x3_3, x116_3, rfl, rfl, HA, HK3, BK233, BK250, HB⟩ := hrel
              cases gk with
              | zero => exact absurd HA.out (by simp [rowlockref12_Put.l3])
              | succ k3 =>
               have H := HA.out
               clear HA
               simp only [rowlockref12_Put.l3] at H
               by_cases c80 : x116_3 < (((rd_T135 l0_1 x91_2).f2).length : Int)
               ·rw [if_pos c80] at H
                have c80b0 : decide (x116_3 < (((rd_T135 l0_1 x91_2).f2).length : Int)) = true := decide_eq_true c80
                clear c80
                by_cases c81 : 0 ≤ x116_3
                ·rw [if_pos c81] at H
                 have c81b0 : decide (0 ≤ x116_3) = true := decide_eq_true c81
                 clear c81
                 by_cases c82 : x116_3 < (((rd_T135 l0_1 x91_2).f2).length : Int)
                 ·rw [if_pos c82] at H
                  have c82b0 : decide (x116_3 < (((rd_T135 l0_1 x91_2).f2).length : Int)) = true := decide_eq_true c82
                  clear c82
                  replace H := Option.bind_eq_some_iff.mp H
                  obtain ⟨t255, A830, H⟩ := H
                  replace H : (if x3_3.size + t255.size ≤ 9223372036854775807 then (rowlockref12_Put.l3 k3 (x3_3 ++ t255) (l0_1.length : Int) x91_2 (((rd_T135 l0_1 x91_2).f2).length : Int) (wrap64 (x116_3 + 1)) l0_0 l0_1 ((rd_T135 l0_1 x91_2).f0) ((rd_T135 l0_1 x91_2).f1) ((rd_T135 l0_1 x91_2).f2) ((rd_T135 l0_1 x91_2).f3) ((rd_T135 l0_1 x91_2).f4) ((rd_T135 l0_1 x91_2).f5) ((rd_T135 l0_1 x91_2).f6)) else (none)) = some r := H
                  have A83 := Aside0.mk A830
                  clear A830
                  by_cases c84 : x3_3.size + t255.size ≤ 9223372036854775807
                  ·rw [if_pos c84] at H
                   have c84b0 := eq_true c84
                   have c84b1 : decide (x3_3.size + t255.size ≤ 9223372036854775807) = true := decide_eq_true c84
                   try have c84b2 : (9223372036854775807 < x3_3.size + t255.size) = False := eq_false (Nat.not_lt.2 c84)
                   have H' := Aside0.mk H
                   clear H
                   have hnb85 := NB250_233.out
                   have hnc85 := NB233_250.out
                   have hcz86_0 : wr.cell? ⟨gb250, 0, none⟩ = some (.string ((rd_T135 l0_1 x91_2).f0)) := (blk_cell BK250.out 0).trans rfl
                   have hcz86_1 : wr.cell? ⟨gb250, 1, none⟩ = some (.int .i64 ((rd_T135 l0_1 x91_2).f1)) := (blk_cell BK250.out 1).trans rfl
                   have hcz86_2 : wr.cell? ⟨gb250, 2, none⟩ = some (.slice A249_2 ((rd_T135 l0_1 x91_2).f2).length c249_2) := (blk_cell BK250.out 2).trans rfl
                   have hcz86_3 : wr.cell? ⟨gb250, 3, none⟩ = some (.int .u32 ((rd_T135 l0_1 x91_2).f3)) := (blk_cell BK250.out 3).trans rfl
                   have hcz86_4 : wr.cell? ⟨gb250, 4, none⟩ = some (.int .i64 ((rd_T135 l0_1 x91_2).f4)) := (blk_cell BK250.out 4).trans rfl
                   have hcz86_5 : wr.cell? ⟨gb250, 5, none⟩ = some (.int .i64 ((rd_T135 l0_1 x91_2).f5)) := (blk_cell BK250.out 5).trans rfl
                   have hcz86_6 : wr.cell? ⟨gb250, 6, none⟩ = some (.slice A249_6 ((rd_T135 l0_1 x91_2).f6).length c249_6) := (blk_cell BK250.out 6).trans rfl
                   have hfz86_0 := blk_frozen BK250.out 0
                   have hfz86_1 := blk_frozen BK250.out 1
                   have hfz86_2 := blk_frozen BK250.out 2
                   have hfz86_3 := blk_frozen BK250.out 3
                   have hfz86_4 := blk_frozen BK250.out 4
                   have hfz86_5 := blk_frozen BK250.out 5
                   have hfz86_6 := blk_frozen BK250.out 6
                   have p254 : 0 ≤ (x116_3 : Int) := of_decide_eq_true (by first | (with_reducible assumption) | assumption)
                   have q254 : x116_3 < (((rd_T135 l0_1 x91_2).f2).length : Int) := of_decide_eq_true (by first | (with_reducible assumption) | assumption)
                   obtain ⟨ad254, e254, hx254_0⟩ := Kd.at_int HR249_2.out x116_3 p254 q254
                   cases e254
                   replace hx254_0 := (HB.out.cell (World.block_lt_of_cell? w _ hx254_0)).trans hx254_0
                   replace p254 := eq_true p254
                   have p254D := p254; try simp only [List.length_drop, List.length_take] at p254D
                   replace q254 := eq_true q254
                   have q254D := q254; try simp only [List.length_drop, List.length_take] at q254D
                   go_wp2_with (first | ((with_reducible refine gate_callee (f := 65) rfl ?_); refine goesL_ (some 125) rfl rfl Try.func65 (by kernel_rfl) rfl #[.int .i64 (rd ((rd_T135 l0_1 x91_2).f2) x116_3)] rfl (by (try simp only [List.map_toArray, List.map_cons, List.map_nil]); first | done | rfl | (simp only [List.length_drop, List.length_take]; rfl)) ?_; (with_reducible refine (rowlockref12_one.calls k3 (rd ((rd_T135 l0_1 x91_2).f2) x116_3) t255 _ A83.out).mono ?_); rintro e w87 ⟨rfl, hb⟩; refine ⟨_, rfl, ?_⟩; have n0_ := Aside0.mk (blk_below (g := gb233) (o := .cells #[.slice A0_0 l0_0.length c0_0, .slice (some ad249) l0_1.length c0_1] 80 (0, 0)) (by (with_reducible repeat (first | refine blk_drewN ?_ _ | refine blk_drew ?_ | refine blk_alloc ?_ _)); exact BK233.out) hb); have n1_ := Aside0.mk (blk_below (g := gb250) (o := .cells #[.string ((rd_T135 l0_1 x91_2).f0), .int .i64 ((rd_T135 l0_1 x91_2).f1), .slice (some ad254) ((rd_T135 l0_1 x91_2).f2).length c249_2, .int .u32 ((rd_T135 l0_1 x91_2).f3), .int .i64 ((rd_T135 l0_1 x91_2).f4), .int .i64 ((rd_T135 l0_1 x91_2).f5), .slice A249_6 ((rd_T135 l0_1 x91_2).f6).length c249_6] 135 (0, 0)) (by (with_reducible repeat (first | refine blk_drewN ?_ _ | refine blk_drew ?_ | refine blk_alloc ?_ _)); exact BK250.out) hb); have n2_ := Aside0.mk (below_step (by repeat (first | (with_reducible first | exact HB.out | apply below_alloc | apply pw_below_drewN | apply below_drew1 | refine below_set ?_ GE233.out | refine below_set ?_ GE250.out) | exact HB.out)) hb); clear BK233; clear BK250; clear HB; have BK233 := n0_; have BK250 := n1_; have HB := n2_; clear n0_ n1_ n2_; (try clear hb); (try clear hb2); (try clear hk); (try clear hi)))
                   go_roundg k3
                   case measure => have := HK1.out; have := HK2.out; have := HK3.out; omega
                   case rel => exact ⟨(x3_3 ++ t255), (wrap64 (x116_3 + 1)), (by first | rfl | (simp; done) | (simp [*]; done)), (by first | rfl | (simp; done) | (simp [*]; done)), H', ⟨by have := HK1.out; have := HK2.out; have := HK3.out; omega⟩, ⟨by (with_reducible repeat (first | refine blk_drewN ?_ _ | refine blk_drew ?_ | refine blk_alloc ?_ _)); exact BK233.out⟩, ⟨by (with_reducible repeat (first | refine blk_drewN ?_ _ | refine blk_drew ?_ | refine blk_alloc ?_ _)); exact BK250.out⟩, ⟨by repeat (first | (with_reducible first | exact HB.out | apply below_alloc | apply pw_below_drewN | apply below_drew1 | refine below_set ?_ GE233.out | refine below_set ?_ GE250.out) | exact HB.out)⟩⟩
                  ·rw [if_neg c84] at H
                   exact absurd H (by simp)
                 ·rw [if_neg c82] at H
                  exact absurd H (by simp)
                ·rw [if_neg c81] at H
                 exact absurd H (by simp)
               ·rw [if_neg c80] at H
                have c80b0 : decide (x116_3 < (((rd_T135 l0_1 x91_2).f2).length : Int)) = false := decide_eq_false c80
                clear c80
                replace H := Option.bind_eq_some_iff.mp H
                obtain ⟨t256, A880, H⟩ := H
                replace H : (if x3_3.size + t256.size ≤ 9223372036854775807 then ((rowlockref12_four.f k3 ((rd_T135 l0_1 x91_2).f4)).bind fun t257 => (if (x3_3 ++ t256).size + t257.size ≤ 9223372036854775807 then ((rowlockref12_four.f k3 ((rd_T135 l0_1 x91_2).f5)).bind fun t258 => (if ((x3_3 ++ t256) ++ t257).size + t258.size ≤ 9223372036854775807 then (rowlockref12_Put.l4 k3 (((x3_3 ++ t256) ++ t257) ++ t258) (l0_1.length : Int) x91_2 (((rd_T135 l0_1 x91_2).f6).length : Int) 0 l0_0 l0_1 ((rd_T135 l0_1 x91_2).f0) ((rd_T135 l0_1 x91_2).f1) ((rd_T135 l0_1 x91_2).f2) ((rd_T135 l0_1 x91_2).f3) ((rd_T135 l0_1 x91_2).f4) ((rd_T135 l0_1 x91_2).f5) ((rd_T135 l0_1 x91_2).f6)) else (none))) else (none))) else (none)) = some r := H
                have A88 := Aside0.mk A880
                clear A880
                by_cases c89 : x3_3.size + t256.size ≤ 9223372036854775807
                ·rw [if_pos c89] at H
                 have c89b0 := eq_true c89
                 have c89b1 : decide (x3_3.size + t256.size ≤ 9223372036854775807) = true := decide_eq_true c89
                 try have c89b2 : (9223372036854775807 < x3_3.size + t256.size) = False := eq_false (Nat.not_lt.2 c89)
                 replace H := Option.bind_eq_some_iff.mp H
                 obtain ⟨t257, A900, H⟩ := H
                 replace H : (if (x3_3 ++ t256).size + t257.size ≤ 9223372036854775807 then ((rowlockref12_four.f k3 ((rd_T135 l0_1 x91_2).f5)).bind fun t258 => (if ((x3_3 ++ t256) ++ t257).size + t258.size ≤ 9223372036854775807 then (rowlockref12_Put.l4 k3 (((x3_3 ++ t256) ++ t257) ++ t258) (l0_1.length : Int) x91_2 (((rd_T135 l0_1 x91_2).f6).length : Int) 0 l0_0 l0_1 ((rd_T135 l0_1 x91_2).f0) ((rd_T135 l0_1 x91_2).f1) ((rd_T135 l0_1 x91_2).f2) ((rd_T135 l0_1 x91_2).f3) ((rd_T135 l0_1 x91_2).f4) ((rd_T135 l0_1 x91_2).f5) ((rd_T135 l0_1 x91_2).f6)) else (none))) else (none)) = some r := H
                 have A90 := Aside0.mk A900
                 clear A900
                 by_cases c91 : (x3_3 ++ t256).size + t257.size ≤ 9223372036854775807
                 ·rw [if_pos c91] at H
                  have c91b0 := eq_true c91
                  have c91b1 : decide ((x3_3 ++ t256).size + t257.size ≤ 9223372036854775807) = true := decide_eq_true c91
                  try have c91b2 : (9223372036854775807 < (x3_3 ++ t256).size + t257.size) = False := eq_false (Nat.not_lt.2 c91)
                  try have c91b3 := c91b2
                  try simp only [ByteArray.size_append] at c91b3
                  replace H := Option.bind_eq_some_iff.mp H
                  obtain ⟨t258, A920, H⟩ := H
                  replace H : (if ((x3_3 ++ t256) ++ t257).size + t258.size ≤ 9223372036854775807 then (rowlockref12_Put.l4 k3 (((x3_3 ++ t256) ++ t257) ++ t258) (l0_1.length : Int) x91_2 (((rd_T135 l0_1 x91_2).f6).length : Int) 0 l0_0 l0_1 ((rd_T135 l0_1 x91_2).f0) ((rd_T135 l0_1 x91_2).f1) ((rd_T135 l0_1 x91_2).f2) ((rd_T135 l0_1 x91_2).f3) ((rd_T135 l0_1 x91_2).f4) ((rd_T135 l0_1 x91_2).f5) ((rd_T135 l0_1 x91_2).f6)) else (none)) = some r := H
                  have A92 := Aside0.mk A920
                  clear A920
                  by_cases c93 : ((x3_3 ++ t256) ++ t257).size + t258.size ≤ 9223372036854775807
                  ·rw [if_pos c93] at H
                   have c93b0 := eq_true c93
                   have c93b1 : decide (((x3_3 ++ t256) ++ t257).size + t258.size ≤ 9223372036854775807) = true := decide_eq_true c93
                   try have c93b2 : (9223372036854775807 < ((x3_3 ++ t256) ++ t257).size + t258.size) = False := eq_false (Nat.not_lt.2 c93)
                   try have c93b3 := c93b2
                   try simp only [ByteArray.size_append] at c93b3
                   have H' := Aside0.mk H
                   clear H
                   try go_wp2
                   have n0_ := Aside0.mk (blk_drew BK233.out)
                   have n1_ := Aside0.mk (blk_drew BK250.out)
                   have n2_ := Aside0.mk (below_drew1 HB.out)
                   clear BK233
                   clear BK250
                   clear HB
                   have BK233 := n0_
                   have BK250 := n1_
                   have HB := n2_
                   clear n0_ n1_ n2_
                   refine start_ (n := 15) (S := fun w' => w'.cell? ⟨gb250, 0, none⟩ = some (.string ((rd_T135 l0_1 x91_2).f0)) ∧ w'.cell? ⟨gb250, 1, none⟩ = some (.int .i64 ((rd_T135 l0_1 x91_2).f1)) ∧ w'.cell? ⟨gb250, 2, none⟩ = some (.slice A249_2 ((rd_T135 l0_1 x91_2).f2).length c249_2) ∧ w'.cell? ⟨gb250, 3, none⟩ = some (.int .u32 ((rd_T135 l0_1 x91_2).f3)) ∧ w'.cell? ⟨gb250, 4, none⟩ = some (.int .i64 ((rd_T135 l0_1 x91_2).f4)) ∧ w'.cell? ⟨gb250, 5, none⟩ = some (.int .i64 ((rd_T135 l0_1 x91_2).f5)) ∧ w'.cell? ⟨gb250, 6, none⟩ = some (.slice A249_6 ((rd_T135 l0_1 x91_2).f6).length c249_6)) (ds := []) #[false, false, false, false, false, false, false, false, false, false, false, false, false, false, false] (by kernel_rfl) rfl rfl ⟨(blk_cell BK250.out 0).trans rfl, (blk_cell BK250.out 1).trans rfl, (blk_cell BK250.out 2).trans rfl, (blk_cell BK250.out 3).trans rfl, (blk_cell BK250.out 4).trans rfl, (blk_cell BK250.out 5).trans rfl, (blk_cell BK250.out 6).trans rfl⟩ (fun hHeld => ?_); refine with_tabW rowlockref12_Put.tab26 rowlockref12_Put.bits26 (fun HT_ HW_ => ?_)
                   generalize wr.drew = w94 at BK233 BK250 HB hHeld ⊢
                   refine pure_ (i := 0) (N := some 128) (v := ?_) (a' := ?_) #[true, false, false, false, false, false, false, false, false, false, false, false, false, false, false] rfl rfl (any_of HT_.out (by kernel_rfl)) (fun _ _ _ h => h) (Or.inl ⟨by rfl, ?_⟩) ?_ ?_
                   rotate_left
                   ·intro w'
                    go_simp
                    with_reducible rfl
                   rotate_left
                   ·simp only [Act.put, List.setIfInBounds_toArray, List.set_cons_zero, List.set_cons_succ, i64_w, i32_w]
                    rfl
                   refine pure_ (i := 1) (N := some 129) (v := ?_) (a' := ?_) #[true, true, false, false, false, false, false, false, false, false, false, false, false, false, false] rfl rfl (any_of HT_.out (by kernel_rfl)) (fun _ _ _ h => h) (Or.inl ⟨by rfl, ?_⟩) ?_ ?_
                   rotate_left
                   ·intro w'
                    go_simp
                    with_reducible rfl
                   rotate_left
                   ·simp only [Act.put, List.setIfInBounds_toArray, List.set_cons_zero, List.set_cons_succ, i64_w, i32_w]
                    rfl
                   refine pure_ (i := 6) (N := some 134) (v := ?_) (a' := ?_) #[true, true, false, false, false, false, true, false, false, false, false, false, false, false, false] rfl rfl (any_of HT_.out (by kernel_rfl)) (fun _ _ _ h => h) (Or.inl ⟨by rfl, ?_⟩) ?_ ?_
                   rotate_left
                   ·intro w'
                    go_simp
                    with_reducible rfl
                   rotate_left
                   ·simp only [Act.put, List.setIfInBounds_toArray, List.set_cons_zero, List.set_cons_succ, i64_w, i32_w]
                    rfl
                   refine pure_ (i := 10) (N := some 138) (v := ?_) (a' := ?_) #[true, true, false, false, false, false, true, false, false, false, true, false, false, false, false] rfl rfl (any_of HT_.out (by kernel_rfl)) (fun _ _ _ h => h) (Or.inl ⟨by rfl, ?_⟩) ?_ ?_
                   rotate_left
                   ·intro w'
                    go_simp
                    with_reducible rfl
                   rotate_left
                   ·simp only [Act.put, List.setIfInBounds_toArray, List.set_cons_zero, List.set_cons_succ, i64_w, i32_w]
                    rfl
                   refine take_ (i := 2) (N := some 130) (v := ?_) (a' := ?_) #[true, true, true, false, false, false, true, false, false, false, true, false, false, false, false] rfl rfl (take_ofW HT_.out HW_.out (by kernel_rfl)) (fun _ _ _ h => h) (Or.inl ⟨by rfl, ?_⟩) hHeld ?_ ?_
                   rotate_left
                   ·rintro w' ⟨s0, s1, s2, s3, s4, s5, s6⟩
                    go_simp
                    with_reducible rfl
                   rotate_left
                   ·simp only [Act.put, List.setIfInBounds_toArray, List.set_cons_zero, List.set_cons_succ, i64_w, i32_w]
                    rfl
                   refine pure_ (i := 3) (N := some 131) (v := ?_) (a' := ?_) #[true, true, true, true, false, false, true, false, false, false, true, false, false, false, false] rfl rfl (any_of HT_.out (by kernel_rfl)) (fun _ _ _ h => h) (Or.inl ⟨by rfl, ?_⟩) ?_ ?_
                   rotate_left
                   ·intro w'
                    go_simp
                    with_reducible rfl
                   rotate_left
                   ·simp only [Act.put, List.setIfInBounds_toArray, List.set_cons_zero, List.set_cons_succ, i64_w, i32_w]
                    rfl
                   refine take_ (i := 7) (N := some 135) (v := ?_) (a' := ?_) #[true, true, true, true, false, false, true, true, false, false, true, false, false, false, false] rfl rfl (take_ofW HT_.out HW_.out (by kernel_rfl)) (fun _ _ _ h => h) (Or.inl ⟨by rfl, ?_⟩) hHeld ?_ ?_
                   rotate_left
                   ·rintro w' ⟨s0, s1, s2, s3, s4, s5, s6⟩
                    go_simp
                    with_reducible rfl
                   rotate_left
                   ·simp only [Act.put, List.setIfInBounds_toArray, List.set_cons_zero, List.set_cons_succ, i64_w, i32_w]
                    rfl
                   refine take_ (i := 11) (N := some 139) (v := ?_) (a' := ?_) #[true, true, true, true, false, false, true, true, false, false, true, true, false, false, false] rfl rfl (take_ofW HT_.out HW_.out (by kernel_rfl)) (fun _ _ _ h => h) (Or.inl ⟨by rfl, ?_⟩) hHeld ?_ ?_
                   rotate_left
                   ·rintro w' ⟨s0, s1, s2, s3, s4, s5, s6⟩
                    go_simp
                    with_reducible rfl
                   rotate_left
                   ·simp only [Act.put, List.setIfInBounds_toArray, List.set_cons_zero, List.set_cons_succ, i64_w, i32_w]
                    rfl
                   refine one_ (i := 4) (N := some 132) #[true, true, true, true, true, false, true, true, false, false, true, true, false, false, false] rfl rfl (one_of HT_.out (by kernel_rfl)) (by decide) (fun K hK => ?_)
                   refine goes_ Try.func67 (by kernel_rfl) rfl #[.int .i64 (wrap64 (((rd_T135 l0_1 x91_2).f3)))] (by rfl) rfl rfl (by (try simp only [List.map_toArray, List.map_cons, List.map_nil]); first | done | rfl | (simp only [List.length_drop, List.length_take]; rfl)) ?_
                   with_reducible refine (rowlockref12_four.calls k3 (wrap64 (((rd_T135 l0_1 x91_2).f3))) t256 _ A88.out).mono ?_
                   rintro e w95 ⟨rfl, hb⟩
                   refine ⟨_, rfl, ?_⟩
                   have n0_ := Aside0.mk (blk_below (g := gb233) (o := .cells #[.slice A0_0 l0_0.length c0_0, .slice (some ad249) l0_1.length c0_1] 80 (0, 0)) (by (with_reducible repeat (first | refine blk_drewN ?_ _ | refine blk_drew ?_ | refine blk_alloc ?_ _)); exact BK233.out) hb)
                   have n1_ := Aside0.mk (blk_below (g := gb250) (o := .cells #[.string ((rd_T135 l0_1 x91_2).f0), .int .i64 ((rd_T135 l0_1 x91_2).f1), .slice A249_2 ((rd_T135 l0_1 x91_2).f2).length c249_2, .int .u32 ((rd_T135 l0_1 x91_2).f3), .int .i64 ((rd_T135 l0_1 x91_2).f4), .int .i64 ((rd_T135 l0_1 x91_2).f5), .slice A249_6 ((rd_T135 l0_1 x91_2).f6).length c249_6] 135 (0, 0)) (by (with_reducible repeat (first | refine blk_drewN ?_ _ | refine blk_drew ?_ | refine blk_alloc ?_ _)); exact BK250.out) hb)
                   have n2_ := Aside0.mk (below_step (by repeat (first | (with_reducible first | exact HB.out | apply below_alloc | apply pw_below_drewN | apply below_drew1 | refine below_set ?_ GE233.out | refine below_set ?_ GE250.out) | exact HB.out)) hb)
                   clear BK233
                   clear BK250
                   clear HB
                   have BK233 := n0_
                   have BK250 := n1_
                   have HB := n2_
                   clear n0_ n1_ n2_
                   (try clear hb)
                   (try clear hb2)
                   (try clear hk)
                   (try clear hi)
                   refine hK.out _ _ ⟨(blk_cell BK250.out 0).trans rfl, (blk_cell BK250.out 1).trans rfl, (blk_cell BK250.out 2).trans rfl, (blk_cell BK250.out 3).trans rfl, (blk_cell BK250.out 4).trans rfl, (blk_cell BK250.out 5).trans rfl, (blk_cell BK250.out 6).trans rfl⟩ (fun hHeld => ?_)
                   clear hK K
                   refine norm_ (a' := ?_) ?_ ?_
                   rotate_left
                   ·show Act.put _ (some 132) _ = _
                    simp only [Act.put, List.setIfInBounds_toArray, List.set_cons_zero, List.set_cons_succ, i64_w, i32_w]
                    rfl
                   refine pure_ (i := 5) (N := some 133) (v := ?_) (a' := ?_) #[true, true, true, true, true, true, true, true, false, false, true, true, false, false, false] rfl rfl (any_of HT_.out (by kernel_rfl)) (fun _ _ _ h => h) (Or.inl ⟨by rfl, ?_⟩) ?_ ?_
                   rotate_left
                   ·intro w'
                    go_simp
                    with_reducible rfl
                   rotate_left
                   ·simp only [Act.put, List.setIfInBounds_toArray, List.set_cons_zero, List.set_cons_succ, i64_w, i32_w]
                    rfl
                   refine one_ (i := 8) (N := some 136) #[true, true, true, true, true, true, true, true, true, false, true, true, false, false, false] rfl rfl (one_of HT_.out (by kernel_rfl)) (by decide) (fun K hK => ?_)
                   refine goes_ Try.func67 (by kernel_rfl) rfl #[.int .i64 ((rd_T135 l0_1 x91_2).f4)] (by rfl) rfl rfl (by (try simp only [List.map_toArray, List.map_cons, List.map_nil]); first | done | rfl | (simp only [List.length_drop, List.length_take]; rfl)) ?_
                   with_reducible refine (rowlockref12_four.calls k3 ((rd_T135 l0_1 x91_2).f4) t257 _ A90.out).mono ?_
                   rintro e w96 ⟨rfl, hb⟩
                   refine ⟨_, rfl, ?_⟩
                   have n0_ := Aside0.mk (blk_below (g := gb233) (o := .cells #[.slice A0_0 l0_0.length c0_0, .slice (some ad249) l0_1.length c0_1] 80 (0, 0)) (by (with_reducible repeat (first | refine blk_drewN ?_ _ | refine blk_drew ?_ | refine blk_alloc ?_ _)); exact BK233.out) hb)
                   have n1_ := Aside0.mk (blk_below (g := gb250) (o := .cells #[.string ((rd_T135 l0_1 x91_2).f0), .int .i64 ((rd_T135 l0_1 x91_2).f1), .slice A249_2 ((rd_T135 l0_1 x91_2).f2).length c249_2, .int .u32 ((rd_T135 l0_1 x91_2).f3), .int .i64 ((rd_T135 l0_1 x91_2).f4), .int .i64 ((rd_T135 l0_1 x91_2).f5), .slice A249_6 ((rd_T135 l0_1 x91_2).f6).length c249_6] 135 (0, 0)) (by (with_reducible repeat (first | refine blk_drewN ?_ _ | refine blk_drew ?_ | refine blk_alloc ?_ _)); exact BK250.out) hb)
                   have n2_ := Aside0.mk (below_step (by repeat (first | (with_reducible first | exact HB.out | apply below_alloc | apply pw_below_drewN | apply below_drew1 | refine below_set ?_ GE233.out | refine below_set ?_ GE250.out) | exact HB.out)) hb)
                   clear BK233
                   clear BK250
                   clear HB
                   have BK233 := n0_
                   have BK250 := n1_
                   have HB := n2_
                   clear n0_ n1_ n2_
                   (try clear hb)
                   (try clear hb2)
                   (try clear hk)
                   (try clear hi)
                   refine hK.out _ _ ⟨(blk_cell BK250.out 0).trans rfl, (blk_cell BK250.out 1).trans rfl, (blk_cell BK250.out 2).trans rfl, (blk_cell BK250.out 3).trans rfl, (blk_cell BK250.out 4).trans rfl, (blk_cell BK250.out 5).trans rfl, (blk_cell BK250.out 6).trans rfl⟩ (fun hHeld => ?_)
                   clear hK K
                   refine norm_ (a' := ?_) ?_ ?_
                   rotate_left
                   ·show Act.put _ (some 136) _ = _
                    simp only [Act.put, List.setIfInBounds_toArray, List.set_cons_zero, List.set_cons_succ, i64_w, i32_w]
                    rfl
                   refine pure_ (i := 9) (N := some 137) (v := ?_) (a' := ?_) #[true, true, true, true, true, true, true, true, true, true, true, true, false, false, false] rfl rfl (any_of HT_.out (by kernel_rfl)) (fun _ _ _ h => h) (Or.inl ⟨by rfl, ?_⟩) ?_ ?_
                   rotate_left
                   ·intro w'
                    go_simp
                    with_reducible rfl
                   rotate_left
                   ·simp only [Act.put, List.setIfInBounds_toArray, List.set_cons_zero, List.set_cons_succ, i64_w, i32_w]
                    rfl
                   refine one_ (i := 12) (N := some 140) #[true, true, true, true, true, true, true, true, true, true, true, true, true, false, false] rfl rfl (one_of HT_.out (by kernel_rfl)) (by decide) (fun K hK => ?_)
                   refine goes_ Try.func67 (by kernel_rfl) rfl #[.int .i64 ((rd_T135 l0_1 x91_2).f5)] (by rfl) rfl rfl (by (try simp only [List.map_toArray, List.map_cons, List.map_nil]); first | done | rfl | (simp only [List.length_drop, List.length_take]; rfl)) ?_
                   with_reducible refine (rowlockref12_four.calls k3 ((rd_T135 l0_1 x91_2).f5) t258 _ A92.out).mono ?_
                   rintro e w97 ⟨rfl, hb⟩
                   refine ⟨_, rfl, ?_⟩
                   have n0_ := Aside0.mk (blk_below (g := gb233) (o := .cells #[.slice A0_0 l0_0.length c0_0, .slice (some ad249) l0_1.length c0_1] 80 (0, 0)) (by (with_reducible repeat (first | refine blk_drewN ?_ _ | refine blk_drew ?_ | refine blk_alloc ?_ _)); exact BK233.out) hb)
                   have n1_ := Aside0.mk (blk_below (g := gb250) (o := .cells #[.string ((rd_T135 l0_1 x91_2).f0), .int .i64 ((rd_T135 l0_1 x91_2).f1), .slice A249_2 ((rd_T135 l0_1 x91_2).f2).length c249_2, .int .u32 ((rd_T135 l0_1 x91_2).f3), .int .i64 ((rd_T135 l0_1 x91_2).f4), .int .i64 ((rd_T135 l0_1 x91_2).f5), .slice A249_6 ((rd_T135 l0_1 x91_2).f6).length c249_6] 135 (0, 0)) (by (with_reducible repeat (first | refine blk_drewN ?_ _ | refine blk_drew ?_ | refine blk_alloc ?_ _)); exact BK250.out) hb)
                   have n2_ := Aside0.mk (below_step (by repeat (first | (with_reducible first | exact HB.out | apply below_alloc | apply pw_below_drewN | apply below_drew1 | refine below_set ?_ GE233.out | refine below_set ?_ GE250.out) | exact HB.out)) hb)
                   clear BK233
                   clear BK250
                   clear HB
                   have BK233 := n0_
                   have BK250 := n1_
                   have HB := n2_
                   clear n0_ n1_ n2_
                   (try clear hb)
                   (try clear hb2)
                   (try clear hk)
                   (try clear hi)
                   refine hK.out _ _ ⟨(blk_cell BK250.out 0).trans rfl, (blk_cell BK250.out 1).trans rfl, (blk_cell BK250.out 2).trans rfl, (blk_cell BK250.out 3).trans rfl, (blk_cell BK250.out 4).trans rfl, (blk_cell BK250.out 5).trans rfl, (blk_cell BK250.out 6).trans rfl⟩ (fun hHeld => ?_)
                   clear hK K
                   refine norm_ (a' := ?_) ?_ ?_
                   rotate_left
                   ·show Act.put _ (some 140) _ = _
                    simp only [Act.put, List.setIfInBounds_toArray, List.set_cons_zero, List.set_cons_succ, i64_w, i32_w]
                    rfl
                   refine pure_ (i := 13) (N := some 141) (v := ?_) (a' := ?_) #[true, true, true, true, true, true, true, true, true, true, true, true, true, true, false] rfl rfl (any_of HT_.out (by kernel_rfl)) (fun _ _ _ h => h) (Or.inl ⟨by rfl, ?_⟩) ?_ ?_
                   rotate_left
                   ·intro w'
                    go_simp
                    with_reducible rfl
                   rotate_left
                   ·simp only [Act.put, List.setIfInBounds_toArray, List.set_cons_zero, List.set_cons_succ, i64_w, i32_w]
                    rfl
                   refine pure_ (i := 14) (N := some 3) (v := ?_) (a' := ?_) #[true, true, true, true, true, true, true, true, true, true, true, true, true, true, true] rfl rfl (any_of HT_.out (by kernel_rfl)) (fun _ _ _ h => h) (Or.inl ⟨by rfl, ?_⟩) ?_ ?_
                   rotate_left
                   ·intro w'
                    go_simp
                    with_reducible rfl
                   rotate_left
                   ·simp only [Act.put, List.setIfInBounds_toArray, List.set_cons_zero, List.set_cons_succ, i64_w, i32_w]
                    rfl
                   refine done_ (done_of HT_.out (by kernel_rfl)) ?_
                   have hnb98 := NB250_233.out
                   have hnc98 := NB233_250.out
                   have hcz99_0 : w97.cell? ⟨gb250, 0, none⟩ = some (.string ((rd_T135 l0_1 x91_2).f0)) := (blk_cell BK250.out 0).trans rfl
                   have hcz99_1 : w97.cell? ⟨gb250, 1, none⟩ = some (.int .i64 ((rd_T135 l0_1 x91_2).f1)) := (blk_cell BK250.out 1).trans rfl
                   have hcz99_2 : w97.cell? ⟨gb250, 2, none⟩ = some (.slice A249_2 ((rd_T135 l0_1 x91_2).f2).length c249_2) := (blk_cell BK250.out 2).trans rfl
                   have hcz99_3 : w97.cell? ⟨gb250, 3, none⟩ = some (.int .u32 ((rd_T135 l0_1 x91_2).f3)) := (blk_cell BK250.out 3).trans rfl
                   have hcz99_4 : w97.cell? ⟨gb250, 4, none⟩ = some (.int .i64 ((rd_T135 l0_1 x91_2).f4)) := (blk_cell BK250.out 4).trans rfl
                   have hcz99_5 : w97.cell? ⟨gb250, 5, none⟩ = some (.int .i64 ((rd_T135 l0_1 x91_2).f5)) := (blk_cell BK250.out 5).trans rfl
                   have hcz99_6 : w97.cell? ⟨gb250, 6, none⟩ = some (.slice A249_6 ((rd_T135 l0_1 x91_2).f6).length c249_6) := (blk_cell BK250.out 6).trans rfl
                   have hfz99_0 := blk_frozen BK250.out 0
                   have hfz99_1 := blk_frozen BK250.out 1
                   have hfz99_2 := blk_frozen BK250.out 2
                   have hfz99_3 := blk_frozen BK250.out 3
                   have hfz99_4 := blk_frozen BK250.out 4
                   have hfz99_5 := blk_frozen BK250.out 5
                   have hfz99_6 := blk_frozen BK250.out 6
                   try go_wp2
                   go_loopg [3, 145] k3 (fun kq v3 v145 w' => ∃ (x3_4 : ByteArray) (x145_4 : Int), v3 = .string x3_4 ∧ v145 = .int .i64 x145_4 ∧ Aside0 (rowlockref12_Put.l4 kq x3_4 (l0_1.length : Int) x91_2 (((rd_T135 l0_1 x91_2).f6).length : Int) x145_4 l0_0 l0_1 ((rd_T135 l0_1 x91_2).f0) ((rd_T135 l0_1 x91_2).f1) ((rd_T135 l0_1 x91_2).f2) ((rd_T135 l0_1 x91_2).f3) ((rd_T135 l0_1 x91_2).f4) ((rd_T135 l0_1 x91_2).f5) ((rd_T135 l0_1 x91_2).f6) = some r) ∧ Aside0 (kq ≤ k3) ∧ Aside0 (w'.heap[gb233]? = some (.cells #[(.slice A0_0 l0_0.length c0_0), (.slice (some ad249) l0_1.length c0_1)] 80 (0, 0))) ∧ Aside0 (w'.heap[gb250]? = some (.cells #[.string ((rd_T135 l0_1 x91_2).f0), .int .i64 ((rd_T135 l0_1 x91_2).f1), (.slice A249_2 ((rd_T135 l0_1 x91_2).f2).length c249_2), .int .u32 ((rd_T135 l0_1 x91_2).f3), .int .i64 ((rd_T135 l0_1 x91_2).f4), .int .i64 ((rd_T135 l0_1 x91_2).f5), (.slice A249_6 ((rd_T135 l0_1 x91_2).f6).length c249_6)] 135 (0, 0))) ∧ Aside0 (Below w.heap.size w w'))
                   case atStart => exact ⟨(((x3_3 ++ t256) ++ t257) ++ t258), (0), (by first | rfl | (simp; done) | (simp [*]; done)), (by first | rfl | (simp; done) | (simp [*]; done)), H', ⟨Nat.le_refl _⟩, ⟨by (with_reducible repeat (first | refine blk_drewN ?_ _ | refine blk_drew ?_ | refine blk_alloc ?_ _)); exact BK233.out⟩, ⟨by (with_reducible repeat (first | refine blk_drewN ?_ _ | refine blk_drew ?_ | refine blk_alloc ?_ _)); exact BK250.out⟩, ⟨by repeat (first | (with_reducible first | exact HB.out | apply below_alloc | apply pw_below_drewN | apply below_drew1 | refine below_set ?_ GE233.out | refine below_set ?_ GE250.out) | exact HB.out)⟩⟩
                   case round =>
                    clear H'
                    try clear c1
                    try clear c2
                    try clear p2
                    try clear q2
                    try clear hx2
                    try clear c3
                    try clear c4
                    try clear c5
                    try clear c6
                    try clear p6
                    try clear c7
                    try clear c7b0
                    try clear c8
                    try clear c9
                    try clear c11
                    try clear c13
                    try clear c23
                    try clear c23b0
                    try clear c24
                    try clear p24
                    try clear q24
                    try clear hx24
                    try clear c25
                    try clear p25
                    try clear q25
                    try clear hx25
                    try clear c27
                    try clear c29
                    try clear c29b0
                    try clear c29b1
                    try clear c29b2
                    try clear c31
                    try clear c31b0
                    try clear c31b1
                    try clear c31b2
                    try clear c33
                    try clear c33b0
                    try clear c33b1
                    try clear c33b2
                    try clear c34
                    try clear c37
                    try clear c38
                    try clear c47
                    try clear c47b0
                    try clear c47b1
                    try clear c47b2
                    try clear c49
                    try clear c49b0
                    try clear c49b1
                    try clear c49b2
                    try clear c51
                    try clear c51b0
                    try clear c51b1
                    try clear c51b2
                    try clear c57
                    try clear c57b0
                    try clear c57b1
                    try clear c57b2
                    try clear c61
                    try clear c61b0
                    try clear c62
                    try clear c62b0
                    try clear c63
                    try clear c63b0
                    try clear p64
                    try clear c65
                    try clear c65b0
                    try clear c65b1
                    try clear c65b2
                    try clear c66
                    try clear c67
                    try clear c67b0
                    try clear c67b1
                    try clear c67b2
                    try clear c69
                    try clear c69b0
                    try clear c69b1
                    try clear c69b2
                    try clear c72
                    try clear c80
                    try clear c80b0
                    try clear c81
                    try clear c81b0
                    try clear c82
                    try clear c82b0
                    try clear c84
                    try clear c84b0
                    try clear c84b1
                    try clear c84b2
                    try clear c85
                    try clear c89
                    try clear c89b0
                    try clear c89b1
                    try clear c89b2
                    try clear c91
                    try clear c91b0
                    try clear c91b1
                    try clear c91b2
                    try clear c93
                    try clear c93b0
                    try clear c93b1
                    try clear c93b2
                    try clear c98
                    try clear hcz35_0
                    try clear hcz35_1
                    try clear hcz35_2
                    try clear hcz35_3
                    try clear hcz35_4
                    try clear hcz39_0
                    try clear hcz39_1
                    try clear hcz39_2
                    try clear hcz39_3
                    try clear hcz58_0
                    try clear hcz58_1
                    try clear hcz60_0
                    try clear hcz60_1
                    try clear hcz70_0
                    try clear hcz70_1
                    try clear hcz73_0
                    try clear hcz73_1
                    try clear hcz73_2
                    try clear hcz73_3
                    try clear hcz73_4
                    try clear hcz73_5
                    try clear hcz73_6
                    try clear hcz79_0
                    try clear hcz79_1
                    try clear hcz79_2
                    try clear hcz79_3
                    try clear hcz79_4
                    try clear hcz79_5
                    try clear hcz79_6
                    try clear hcz86_0
                    try clear hcz86_1
                    try clear hcz86_2
                    try clear hcz86_3
                    try clear hcz86_4
                    try clear hcz86_5
                    try clear hcz86_6
                    try clear hcz99_0
                    try clear hcz99_1
                    try clear hcz99_2
                    try clear hcz99_3
                    try clear hcz99_4
                    try clear hcz99_5
                    try clear hcz99_6
                    try clear hfz35_0
                    try clear hfz35_1
                    try clear hfz35_2
                    try clear hfz35_3
                    try clear hfz35_4
                    try clear hfz39_0
                    try clear hfz39_1
                    try clear hfz39_2
                    try clear hfz39_3
                    try clear hfz58_0
                    try clear hfz58_1
                    try clear hfz60_0
                    try clear hfz60_1
                    try clear hfz70_0
                    try clear hfz70_1
                    try clear hfz73_0
                    try clear hfz73_1
                    try clear hfz73_2
                    try clear hfz73_3
                    try clear hfz73_4
                    try clear hfz73_5
                    try clear hfz73_6
                    try clear hfz79_0
                    try clear hfz79_1
                    try clear hfz79_2
                    try clear hfz79_3
                    try clear hfz79_4
                    try clear hfz79_5
                    try clear hfz79_6
                    try clear hfz86_0
                    try clear hfz86_1
                    try clear hfz86_2
                    try clear hfz86_3
                    try clear hfz86_4
                    try clear hfz86_5
                    try clear hfz86_6
                    try clear hfz99_0
                    try clear hfz99_1
                    try clear hfz99_2
                    try clear hfz99_3
                    try clear hfz99_4
                    try clear hfz99_5
                    try clear hfz99_6
                    try clear hx242_0
                    try clear hx242_1
                    try clear hx242_2
                    try clear hx242_3
                    try clear hx249_0
                    try clear hx249_1
                    try clear hx249_2
                    try clear hx249_3
                    try clear hx249_4
                    try clear hx249_5
                    try clear hx249_6
                    try clear hx254_0
                    try clear p2
                    try clear p24
                    try clear p242
                    try clear p249
                    try clear p254
                    try clear p6
                    try clear p64
                    try clear q2
                    try clear q24
                    try clear q242
                    try clear q249
                    try clear q254
                    obtain ⟨x3_4, x145_4, rfl, rfl, HA, HK4, BK233, BK250, HB⟩ := hrel
                    cases gk with
                    | zero => exact absurd HA.out (by simp [rowlockref12_Put.l4])
                    | succ k4 =>
                     have H := HA.out
                     clear HA
                     simp only [rowlockref12_Put.l4] at H
                     by_cases c100 : x145_4 < (((rd_T135 l0_1 x91_2).f6).length : Int)
                     ·rw [if_pos c100] at H
                      have c100b0 : decide (x145_4 < (((rd_T135 l0_1 x91_2).f6).length : Int)) = true := decide_eq_true c100
                      clear c100
                      by_cases c101 : 0 ≤ x145_4
                      ·rw [if_pos c101] at H
                       have c101b0 : decide (0 ≤ x145_4) = true := decide_eq_true c101
                       clear c101
                       by_cases c102 : x145_4 < (((rd_T135 l0_1 x91_2).f6).length : Int)
                       ·rw [if_pos c102] at H
                        have c102b0 : decide (x145_4 < (((rd_T135 l0_1 x91_2).f6).length : Int)) = true := decide_eq_true c102
                        clear c102
                        replace H := Option.bind_eq_some_iff.mp H
                        obtain ⟨t260, A1030, H⟩ := H
                        replace H : (if x3_4.size + t260.size ≤ 9223372036854775807 then (rowlockref12_Put.l4 k4 (x3_4 ++ t260) (l0_1.length : Int) x91_2 (((rd_T135 l0_1 x91_2).f6).length : Int) (wrap64 (x145_4 + 1)) l0_0 l0_1 ((rd_T135 l0_1 x91_2).f0) ((rd_T135 l0_1 x91_2).f1) ((rd_T135 l0_1 x91_2).f2) ((rd_T135 l0_1 x91_2).f3) ((rd_T135 l0_1 x91_2).f4) ((rd_T135 l0_1 x91_2).f5) ((rd_T135 l0_1 x91_2).f6)) else (none)) = some r := H
                        have A103 := Aside0.mk A1030
                        clear A1030
                        by_cases c104 : x3_4.size + t260.size ≤ 9223372036854775807
                        ·rw [if_pos c104] at H
                         have c104b0 := eq_true c104
                         have c104b1 : decide (x3_4.size + t260.size ≤ 9223372036854775807) = true := decide_eq_true c104
                         try have c104b2 : (9223372036854775807 < x3_4.size + t260.size) = False := eq_false (Nat.not_lt.2 c104)
                         have H' := Aside0.mk H
                         clear H
                         have hnb105 := NB250_233.out
                         have hnc105 := NB233_250.out
                         have hcz106_0 : wr.cell? ⟨gb250, 0, none⟩ = some (.string ((rd_T135 l0_1 x91_2).f0)) := (blk_cell BK250.out 0).trans rfl
                         have hcz106_1 : wr.cell? ⟨gb250, 1, none⟩ = some (.int .i64 ((rd_T135 l0_1 x91_2).f1)) := (blk_cell BK250.out 1).trans rfl
                         have hcz106_2 : wr.cell? ⟨gb250, 2, none⟩ = some (.slice A249_2 ((rd_T135 l0_1 x91_2).f2).length c249_2) := (blk_cell BK250.out 2).trans rfl
                         have hcz106_3 : wr.cell? ⟨gb250, 3, none⟩ = some (.int .u32 ((rd_T135 l0_1 x91_2).f3)) := (blk_cell BK250.out 3).trans rfl
                         have hcz106_4 : wr.cell? ⟨gb250, 4, none⟩ = some (.int .i64 ((rd_T135 l0_1 x91_2).f4)) := (blk_cell BK250.out 4).trans rfl
                         have hcz106_5 : wr.cell? ⟨gb250, 5, none⟩ = some (.int .i64 ((rd_T135 l0_1 x91_2).f5)) := (blk_cell BK250.out 5).trans rfl
                         have hcz106_6 : wr.cell? ⟨gb250, 6, none⟩ = some (.slice A249_6 ((rd_T135 l0_1 x91_2).f6).length c249_6) := (blk_cell BK250.out 6).trans rfl
                         have hfz106_0 := blk_frozen BK250.out 0
                         have hfz106_1 := blk_frozen BK250.out 1
                         have hfz106_2 := blk_frozen BK250.out 2
                         have hfz106_3 := blk_frozen BK250.out 3
                         have hfz106_4 := blk_frozen BK250.out 4
                         have hfz106_5 := blk_frozen BK250.out 5
                         have hfz106_6 := blk_frozen BK250.out 6
                         have p259 : 0 ≤ (x145_4 : Int) := of_decide_eq_true (by first | (with_reducible assumption) | assumption)
                         have q259 : x145_4 < (((rd_T135 l0_1 x91_2).f6).length : Int) := of_decide_eq_true (by first | (with_reducible assumption) | assumption)
                         obtain ⟨ad259, e259, hx259_0⟩ := Kd.at_int HR249_6.out x145_4 p259 q259
                         cases e259
                         replace hx259_0 := (HB.out.cell (World.block_lt_of_cell? w _ hx259_0)).trans hx259_0
                         replace p259 := eq_true p259
                         have p259D := p259; try simp only [List.length_drop, List.length_take] at p259D
                         replace q259 := eq_true q259
                         have q259D := q259; try simp only [List.length_drop, List.length_take] at q259D
                         go_wp2_with (first | ((with_reducible refine gate_callee (f := 67) rfl ?_); refine goesL_ (some 154) rfl rfl Try.func67 (by kernel_rfl) rfl #[.int .i64 (rd ((rd_T135 l0_1 x91_2).f6) x145_4)] rfl (by (try simp only [List.map_toArray, List.map_cons, List.map_nil]); first | done | rfl | (simp only [List.length_drop, List.length_take]; rfl)) ?_; (with_reducible refine (rowlockref12_four.calls k4 (rd ((rd_T135 l0_1 x91_2).f6) x145_4) t260 _ A103.out).mono ?_); rintro e w107 ⟨rfl, hb⟩; refine ⟨_, rfl, ?_⟩; have n0_ := Aside0.mk (blk_below (g := gb233) (o := .cells #[.slice A0_0 l0_0.length c0_0, .slice (some ad249) l0_1.length c0_1] 80 (0, 0)) (by (with_reducible repeat (first | refine blk_drewN ?_ _ | refine blk_drew ?_ | refine blk_alloc ?_ _)); exact BK233.out) hb); have n1_ := Aside0.mk (blk_below (g := gb250) (o := .cells #[.string ((rd_T135 l0_1 x91_2).f0), .int .i64 ((rd_T135 l0_1 x91_2).f1), .slice A249_2 ((rd_T135 l0_1 x91_2).f2).length c249_2, .int .u32 ((rd_T135 l0_1 x91_2).f3), .int .i64 ((rd_T135 l0_1 x91_2).f4), .int .i64 ((rd_T135 l0_1 x91_2).f5), .slice (some ad259) ((rd_T135 l0_1 x91_2).f6).length c249_6] 135 (0, 0)) (by (with_reducible repeat (first | refine blk_drewN ?_ _ | refine blk_drew ?_ | refine blk_alloc ?_ _)); exact BK250.out) hb); have n2_ := Aside0.mk (below_step (by repeat (first | (with_reducible first | exact HB.out | apply below_alloc | apply pw_below_drewN | apply below_drew1 | refine below_set ?_ GE233.out | refine below_set ?_ GE250.out) | exact HB.out)) hb); clear BK233; clear BK250; clear HB; have BK233 := n0_; have BK250 := n1_; have HB := n2_; clear n0_ n1_ n2_; (try clear hb); (try clear hb2); (try clear hk); (try clear hi)))
                         go_roundg k4
                         case measure => have := HK1.out; have := HK2.out; have := HK3.out; have := HK4.out; omega
                         case rel => exact ⟨(x3_4 ++ t260), (wrap64 (x145_4 + 1)), (by first | rfl | (simp; done) | (simp [*]; done)), (by first | rfl | (simp; done) | (simp [*]; done)), H', ⟨by have := HK1.out; have := HK2.out; have := HK3.out; have := HK4.out; omega⟩, ⟨by (with_reducible repeat (first | refine blk_drewN ?_ _ | refine blk_drew ?_ | refine blk_alloc ?_ _)); exact BK233.out⟩, ⟨by (with_reducible repeat (first | refine blk_drewN ?_ _ | refine blk_drew ?_ | refine blk_alloc ?_ _)); exact BK250.out⟩, ⟨by repeat (first | (with_reducible first | exact HB.out | apply below_alloc | apply pw_below_drewN | apply below_drew1 | refine below_set ?_ GE233.out | refine below_set ?_ GE250.out) | exact HB.out)⟩⟩
                        ·rw [if_neg c104] at H
                         exact absurd H (by simp)
                       ·rw [if_neg c102] at H
                        exact absurd H (by simp)
                      ·rw [if_neg c101] at H
                       exact absurd H (by simp)
                     ·rw [if_neg c100] at H
                      have c100b0 : decide (x145_4 < (((rd_T135 l0_1 x91_2).f6).length : Int)) = false := decide_eq_false c100
                      clear c100
                      have H' := Aside0.mk H
                      clear H
                      go_wp2
                      go_roundg k4
                      case measure => have := HK1.out; have := HK2.out; have := HK3.out; have := HK4.out; omega
                      case rel => exact ⟨(x3_4), (wrap64 (x91_2 + 1)), (by first | rfl | (simp; done) | (simp [*]; done)), (by first | rfl | (simp; done) | (simp [*]; done)), H', ⟨by have := HK1.out; have := HK2.out; have := HK3.out; have := HK4.out; omega⟩, ⟨by (with_reducible repeat (first | refine blk_drewN ?_ _ | refine blk_drew ?_ | refine blk_alloc ?_ _)); exact BK233.out⟩, ⟨by repeat (first | (with_reducible first | exact HB.out | apply below_alloc | apply pw_below_drewN | apply below_drew1 | refine below_set ?_ GE233.out | refine below_set ?_ GE250.out) | exact HB.out)⟩⟩
                  ·rw [if_neg c93] at H
                   exact absurd H (by simp)
                 ·rw [if_neg c91] at H
                  exact absurd H (by simp)
                ·rw [if_neg c89] at H
                 exact absurd H (by simp)
            ·rw [if_neg c69] at H
             exact absurd H (by simp)
           ·rw [if_neg c67] at H
            exact absurd H (by simp)
          ·rw [if_neg c65] at H
           exact absurd H (by simp)
         ·rw [if_neg c63] at H
          exact absurd H (by simp)
        ·rw [if_neg c62] at H
         exact absurd H (by simp)
       ·rw [if_neg c61] at H
        have c61b0 : decide (x91_2 < (l0_1.length : Int)) = false := decide_eq_false c61
        clear c61
        obtain rfl := Option.some.inj H
        go_wp2
        go_ret
        exact ⟨by first | rfl | (simp [errW_none, errW_some] <;> rfl) | (simp [*, errW_none, errW_some] <;> rfl), by repeat (first | (with_reducible first | exact HB.out | apply below_alloc | apply pw_below_drewN | apply below_drew1 | refine below_set ?_ GE233.out) | exact HB.out)⟩
    ·rw [if_neg c57] at H
     exact absurd H (by simp)

end Go.Proofs.Ytpfegfkniilobaa.XSchema
