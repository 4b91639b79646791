-- Written by this session's own program (wip/own_print.py) over the kit's print, with this session's hand-proved contracts in their places; Lean checks it.
import Derived.Test.YtpfegfkniilobaaXSchemax0
import Derived.Test.YtpfegfkniilobaaXSchemax7
namespace Go.Proofs.Ytpfegfkniilobaa.XSchema
open Go.RowKit Go.Proofs.YtpfegfkniilobaaW.PrintWords Go.Proofs.YtpfegfkniilobaaW.PrintLast Go.Proofs.YtpfegfkniilobaaW.PrintMore
attribute [local go_sem] max2_int min2_int max_two min_two max_three min_three max_four min_four   -- for this text's walks alone
set_option linter.unusedVariables false
set_option linter.unusedSimpArgs false

/-! ### rowlockref12_table: function 57 -/
mutual
def rowlockref12_table.j0 : Nat → Bool → ByteArray → List (S87) → Int → Int → Int → Option (Bool)
 | 0, _, _, _, _, _, _ => none
 | k + 1, x40, x170000, x170001, x170002, x170003, x170004 => if x40 = true then (some false) else (rowlockref12_table.l0 k (x170001.length : Int) 0 x170000 x170001 x170002 x170003 x170004)
def rowlockref12_table.l0 : Nat → Int → Int → ByteArray → List (S87) → Int → Int → Int → Option (Bool)
 | 0, _, _, _, _, _, _, _ => none
 | k + 1, x43, x44, x170000, x170001, x170002, x170003, x170004 => if x44 < x43 then (if 0 ≤ x44 then (if x44 < (x170001.length : Int) then ((rowlockref12_Name.f k ((rd_T87 x170001 x44).f0)).bind fun t176 => (if t176 = true then (if ((rd_T87 x170001 x44).f1) = 0 then (rowlockref12_table.j2 k x44 x43 x44 true x170000 x170001 x170002 x170003 x170004 ((rd_T87 x170001 x44).f0) ((rd_T87 x170001 x44).f1) ((rd_T87 x170001 x44).f2) ((rd_T87 x170001 x44).f3)) else (if ((rd_T87 x170001 x44).f1) > 3 then (rowlockref12_table.j2 k x44 x43 x44 true x170000 x170001 x170002 x170003 x170004 ((rd_T87 x170001 x44).f0) ((rd_T87 x170001 x44).f1) ((rd_T87 x170001 x44).f2) ((rd_T87 x170001 x44).f3)) else ((rowlockref12_number.f ((rd_T87 x170001 x44).f2)).bind fun t177 => (if t177 = true then ((rowlockref12_number.f ((rd_T87 x170001 x44).f3)).bind fun t178 => (rowlockref12_table.j2 k x44 x43 x44 (!t178) x170000 x170001 x170002 x170003 x170004 ((rd_T87 x170001 x44).f0) ((rd_T87 x170001 x44).f1) ((rd_T87 x170001 x44).f2) ((rd_T87 x170001 x44).f3))) else (rowlockref12_table.j2 k x44 x43 x44 true x170000 x170001 x170002 x170003 x170004 ((rd_T87 x170001 x44).f0) ((rd_T87 x170001 x44).f1) ((rd_T87 x170001 x44).f2) ((rd_T87 x170001 x44).f3)))))) else (rowlockref12_table.j2 k x44 x43 x44 true x170000 x170001 x170002 x170003 x170004 ((rd_T87 x170001 x44).f0) ((rd_T87 x170001 x44).f1) ((rd_T87 x170001 x44).f2) ((rd_T87 x170001 x44).f3)))) else (none)) else (none)) else (some true)
def rowlockref12_table.j2 : Nat → Int → Int → Int → Bool → ByteArray → List (S87) → Int → Int → Int → ByteArray → Int → Int → Int → Option (Bool)
 | 0, _, _, _, _, _, _, _, _, _, _, _, _, _ => none
 | k + 1, x3, x43, x44, x77, x170000, x170001, x170002, x170003, x170004, x176000, x176001, x176002, x176003 => if x77 = true then (some false) else (rowlockref12_table.l1 k x3 0 x43 x44 x170000 x170001 x170002 x170003 x170004 x176000 x176001 x176002 x176003)
def rowlockref12_table.l1 : Nat → Int → Int → Int → Int → ByteArray → List (S87) → Int → Int → Int → ByteArray → Int → Int → Int → Option (Bool)
 | 0, _, _, _, _, _, _, _, _, _, _, _, _, _ => none
 | k + 1, x3, x5, x43, x44, x170000, x170001, x170002, x170003, x170004, x176000, x176001, x176002, x176003 => if x5 < x3 then (if 0 ≤ x5 then (if x5 < (x170001.length : Int) then (if ((rd_T87 x170001 x5).f0).toList = x176000.toList then (some false) else (rowlockref12_table.l1 k x3 (wrap64 (x5 + 1)) x43 x44 x170000 x170001 x170002 x170003 x170004 x176000 x176001 x176002 x176003)) else (none)) else (none)) else (rowlockref12_table.l0 k x43 (wrap64 (x44 + 1)) x170000 x170001 x170002 x170003 x170004)
end
def rowlockref12_table.f (k : Nat) (a0_0 : ByteArray) (l0_1 : List (S87)) (a0_2 : Int) (a0_3 : Int) (a0_4 : Int) : Option (Bool) := (rowlockref12_Name.f k a0_0).bind fun t170 => (if t170 = true then (if (l0_1.length : Int) < 1 then (rowlockref12_table.j0 k true a0_0 l0_1 a0_2 a0_3 a0_4) else (if (l0_1.length : Int) > 8 then (rowlockref12_table.j0 k true a0_0 l0_1 a0_2 a0_3 a0_4) else ((rowlockref12_number.f (wrap64 (a0_2))).bind fun t171 => (if t171 = true then ((rowlockref12_number.f a0_3).bind fun t172 => (if t172 = true then ((rowlockref12_number.f a0_4).bind fun t173 => (rowlockref12_table.j0 k (!t173) a0_0 l0_1 a0_2 a0_3 a0_4)) else (rowlockref12_table.j0 k true a0_0 l0_1 a0_2 a0_3 a0_4))) else (rowlockref12_table.j0 k true a0_0 l0_1 a0_2 a0_3 a0_4))))) else (rowlockref12_table.j0 k true a0_0 l0_1 a0_2 a0_3 a0_4))
theorem rowlockref12_table.mono_l : ∀ k, (∀ y0 y1 y2 y3 y4 y5, LeO (rowlockref12_table.j0 k y0 y1 y2 y3 y4 y5) (rowlockref12_table.j0 (k + 1) y0 y1 y2 y3 y4 y5)) ∧ (∀ y0 y1 y2 y3 y4 y5 y6, LeO (rowlockref12_table.l0 k y0 y1 y2 y3 y4 y5 y6) (rowlockref12_table.l0 (k + 1) y0 y1 y2 y3 y4 y5 y6)) ∧ (∀ y0 y1 y2 y3 y4 y5 y6 y7 y8 y9 y10 y11 y12, LeO (rowlockref12_table.j2 k y0 y1 y2 y3 y4 y5 y6 y7 y8 y9 y10 y11 y12) (rowlockref12_table.j2 (k + 1) y0 y1 y2 y3 y4 y5 y6 y7 y8 y9 y10 y11 y12)) ∧ (∀ y0 y1 y2 y3 y4 y5 y6 y7 y8 y9 y10 y11 y12, LeO (rowlockref12_table.l1 k y0 y1 y2 y3 y4 y5 y6 y7 y8 y9 y10 y11 y12) (rowlockref12_table.l1 (k + 1) y0 y1 y2 y3 y4 y5 y6 y7 y8 y9 y10 y11 y12))
 | 0 => ⟨fun _ _ _ _ _ _ r h => by simp [rowlockref12_table.j0] at h, fun _ _ _ _ _ _ _ r h => by simp [rowlockref12_table.l0] at h, fun _ _ _ _ _ _ _ _ _ _ _ _ _ r h => by simp [rowlockref12_table.j2] at h, fun _ _ _ _ _ _ _ _ _ _ _ _ _ r h => by simp [rowlockref12_table.l1] at h⟩
 | k + 1 => by
  obtain ⟨ih0, ih1, ih2, ih3⟩ := rowlockref12_table.mono_l k
  refine ⟨?_, ?_, ?_, ?_⟩
  ·intro y0 y1 y2 y3 y4 y5
   unfold rowlockref12_table.j0
   repeat' first
   | (with_reducible exact ih0 _ _ _ _ _ _)
   | (with_reducible exact ih1 _ _ _ _ _ _ _)
   | (with_reducible exact ih2 _ _ _ _ _ _ _ _ _ _ _ _ _)
   | (with_reducible exact ih3 _ _ _ _ _ _ _ _ _ _ _ _ _)
   | (with_reducible exact rowlockref12_Name.mono _ _)
   | (with_reducible exact LeO.refl _)
   | (with_reducible exact LeO.none _)
   | (with_reducible refine LeO.ite ?_ ?_)
   | (with_reducible refine LeO.bind ?_ (fun _ => ?_))
   | exact ih0 _ _ _ _ _ _
   | exact ih1 _ _ _ _ _ _ _
   | exact ih2 _ _ _ _ _ _ _ _ _ _ _ _ _
   | exact ih3 _ _ _ _ _ _ _ _ _ _ _ _ _
   | exact rowlockref12_Name.mono _ _
   | exact LeO.none _
   | refine LeO.ite ?_ ?_
   | refine LeO.bind ?_ (fun _ => ?_)
  ·intro y0 y1 y2 y3 y4 y5 y6
   unfold rowlockref12_table.l0
   repeat' first
   | (with_reducible exact ih0 _ _ _ _ _ _)
   | (with_reducible exact ih1 _ _ _ _ _ _ _)
   | (with_reducible exact ih2 _ _ _ _ _ _ _ _ _ _ _ _ _)
   | (with_reducible exact ih3 _ _ _ _ _ _ _ _ _ _ _ _ _)
   | (with_reducible exact rowlockref12_Name.mono _ _)
   | (with_reducible exact LeO.refl _)
   | (with_reducible exact LeO.none _)
   | (with_reducible refine LeO.ite ?_ ?_)
   | (with_reducible refine LeO.bind ?_ (fun _ => ?_))
   | exact ih0 _ _ _ _ _ _
   | exact ih1 _ _ _ _ _ _ _
   | exact ih2 _ _ _ _ _ _ _ _ _ _ _ _ _
   | exact ih3 _ _ _ _ _ _ _ _ _ _ _ _ _
   | exact rowlockref12_Name.mono _ _
   | exact LeO.none _
   | refine LeO.ite ?_ ?_
   | refine LeO.bind ?_ (fun _ => ?_)
  ·intro y0 y1 y2 y3 y4 y5 y6 y7 y8 y9 y10 y11 y12
   unfold rowlockref12_table.j2
   repeat' first
   | (with_reducible exact ih0 _ _ _ _ _ _)
   | (with_reducible exact ih1 _ _ _ _ _ _ _)
   | (with_reducible exact ih2 _ _ _ _ _ _ _ _ _ _ _ _ _)
   | (with_reducible exact ih3 _ _ _ _ _ _ _ _ _ _ _ _ _)
   | (with_reducible exact rowlockref12_Name.mono _ _)
   | (with_reducible exact LeO.refl _)
   | (with_reducible exact LeO.none _)
   | (with_reducible refine LeO.ite ?_ ?_)
   | (with_reducible refine LeO.bind ?_ (fun _ => ?_))
   | exact ih0 _ _ _ _ _ _
   | exact ih1 _ _ _ _ _ _ _
   | exact ih2 _ _ _ _ _ _ _ _ _ _ _ _ _
   | exact ih3 _ _ _ _ _ _ _ _ _ _ _ _ _
   | exact rowlockref12_Name.mono _ _
   | exact LeO.none _
   | refine LeO.ite ?_ ?_
   | refine LeO.bind ?_ (fun _ => ?_)
  ·intro y0 y1 y2 y3 y4 y5 y6 y7 y8 y9 y10 y11 y12
   unfold rowlockref12_table.l1
   repeat' first
   | (with_reducible exact ih0 _ _ _ _ _ _)
   | (with_reducible exact ih1 _ _ _ _ _ _ _)
   | (with_reducible exact ih2 _ _ _ _ _ _ _ _ _ _ _ _ _)
   | (with_reducible exact ih3 _ _ _ _ _ _ _ _ _ _ _ _ _)
   | (with_reducible exact rowlockref12_Name.mono _ _)
   | (with_reducible exact LeO.refl _)
   | (with_reducible exact LeO.none _)
   | (with_reducible refine LeO.ite ?_ ?_)
   | (with_reducible refine LeO.bind ?_ (fun _ => ?_))
   | exact ih0 _ _ _ _ _ _
   | exact ih1 _ _ _ _ _ _ _
   | exact ih2 _ _ _ _ _ _ _ _ _ _ _ _ _
   | exact ih3 _ _ _ _ _ _ _ _ _ _ _ _ _
   | exact rowlockref12_Name.mono _ _
   | exact LeO.none _
   | refine LeO.ite ?_ ?_
   | refine LeO.bind ?_ (fun _ => ?_)
theorem rowlockref12_table.mono : ∀ a0 a1 a2 a3 a4 k, LeO (rowlockref12_table.f k a0 a1 a2 a3 a4) (rowlockref12_table.f (k + 1) a0 a1 a2 a3 a4) := by
 intro a0 a1 a2 a3 a4 k
 obtain ⟨ih0, ih1, ih2, ih3⟩ := rowlockref12_table.mono_l k
 unfold rowlockref12_table.f
 repeat' first
   | (with_reducible exact ih0 _ _ _ _ _ _)
   | (with_reducible exact ih1 _ _ _ _ _ _ _)
   | (with_reducible exact ih2 _ _ _ _ _ _ _ _ _ _ _ _ _)
   | (with_reducible exact ih3 _ _ _ _ _ _ _ _ _ _ _ _ _)
   | (with_reducible exact rowlockref12_Name.mono _ _)
   | (with_reducible exact LeO.refl _)
   | (with_reducible exact LeO.none _)
   | (with_reducible refine LeO.ite ?_ ?_)
   | (with_reducible refine LeO.bind ?_ (fun _ => ?_))
   | exact ih0 _ _ _ _ _ _
   | exact ih1 _ _ _ _ _ _ _
   | exact ih2 _ _ _ _ _ _ _ _ _ _ _ _ _
   | exact ih3 _ _ _ _ _ _ _ _ _ _ _ _ _
   | exact rowlockref12_Name.mono _ _
   | exact LeO.none _
   | refine LeO.ite ?_ ?_
   | refine LeO.bind ?_ (fun _ => ?_)
set_option maxHeartbeats 8000000 in
set_option maxRecDepth 100000 in
theorem rowlockref12_table.calls (k : Nat) (a0_0 : ByteArray) (A0_1 : Option Addr) (c0_1 : Nat) (l0_1 : List (S87)) (a0_2 : Int) (a0_3 : Int) (a0_4 : Int) (r : Bool) (w : World) (hr0_1 : Kd.C k87 w A0_1 l0_1.length l0_1) (hc0_1 : l0_1.length ≤ c0_1) (h : rowlockref12_table.f k a0_0 l0_1 a0_2 a0_3 a0_4 = some r) :
  Calls Try.prog 57 #[.agg #[.string a0_0, .slice A0_1 l0_1.length c0_1, .int .u32 a0_2, .int .i64 a0_3, .int .i64 a0_4]] w fun e w' => e = .returned (.bool r) ∧ Below w.heap.size w w' := by
 have hu84 := Try.underlying84
 have hu87 := Try.underlying87
 have HR0_1 := Aside0.mk hr0_1
 have HC0_1 := Aside0.mk hc0_1
 clear hr0_1 hc0_1
 have HB := Aside0.mk (Below.refl w.heap.size w)
 have H : ((rowlockref12_Name.f k a0_0).bind fun t170 => (if t170 = true then (if (l0_1.length : Int) < 1 then (rowlockref12_table.j0 k true a0_0 l0_1 a0_2 a0_3 a0_4) else (if (l0_1.length : Int) > 8 then (rowlockref12_table.j0 k true a0_0 l0_1 a0_2 a0_3 a0_4) else ((rowlockref12_number.f (wrap64 (a0_2))).bind fun t171 => (if t171 = true then ((rowlockref12_number.f a0_3).bind fun t172 => (if t172 = true then ((rowlockref12_number.f a0_4).bind fun t173 => (rowlockref12_table.j0 k (!t173) a0_0 l0_1 a0_2 a0_3 a0_4)) else (rowlockref12_table.j0 k true a0_0 l0_1 a0_2 a0_3 a0_4))) else (rowlockref12_table.j0 k true a0_0 l0_1 a0_2 a0_3 a0_4))))) else (rowlockref12_table.j0 k true a0_0 l0_1 a0_2 a0_3 a0_4))) = some r := h
 clear h
 have HC2 := Aside0.mk H
 clear H
 go_enter Try.func57, Try.ntmps57
 go_upto_region 1 with (first | ((with_reducible refine gate_dst (N := 1) rfl ?_); (try (refine gate_guard (by rfl) ?_; dsimp only)); refine box_event ?hg (N := 1) ?hd (cs := #[.string a0_0, .slice A0_1 l0_1.length c0_1, .int .u32 a0_2, .int .i64 a0_3, .int .i64 a0_4]) (t := 84) ?hr ?_; (case hd => rfl); (case hg => rfl); (case hr => first | (go_simp; done) | (go_simp; rfl)); intro gb169 hg w3 hbox hb; have n0_ := Aside0.mk (below_step (by repeat (first | (with_reducible first | exact HB.out | apply below_alloc | apply pw_below_drewN | apply below_drew1) | exact HB.out)) hb); have n1_ := Aside0.mk (hbox); have n2_ := Aside0.mk ((by rw [hg]; exact (below_size (by repeat (first | (with_reducible first | exact HB.out | apply below_alloc | apply pw_below_drewN | apply below_drew1) | exact HB.out))) : w.heap.size ≤ gb169)); have n3_ := Aside0.mk ((by rw [hg]; exact (below_size (by repeat (first | (with_reducible first | exact HB.out | apply below_alloc | apply pw_below_drewN | apply below_drew1) | exact HB.out))) : w.heap.size ≤ gb169)); clear HB; have HB := n0_; have BK169 := n1_; have GW169 := n2_; have GE169 := n3_; clear n0_ n1_ n2_ n3_; clear hb hbox hg))
 repeat (go_quiet (first | ((with_reducible refine gate_dst (N := 1) rfl ?_); (try (refine gate_guard (by rfl) ?_; dsimp only)); refine box_event ?hg (N := 1) ?hd (cs := #[.string a0_0, .slice A0_1 l0_1.length c0_1, .int .u32 a0_2, .int .i64 a0_3, .int .i64 a0_4]) (t := 84) ?hr ?_; (case hd => rfl); (case hg => rfl); (case hr => first | (go_simp; done) | (go_simp; rfl)); intro gb169 hg w3 hbox hb; have n0_ := Aside0.mk (below_step (by repeat (first | (with_reducible first | exact HB.out | apply below_alloc | apply pw_below_drewN | apply below_drew1) | exact HB.out)) hb); have n1_ := Aside0.mk (hbox); have n2_ := Aside0.mk ((by rw [hg]; exact (below_size (by repeat (first | (with_reducible first | exact HB.out | apply below_alloc | apply pw_below_drewN | apply below_drew1) | exact HB.out))) : w.heap.size ≤ gb169)); have n3_ := Aside0.mk ((by rw [hg]; exact (below_size (by repeat (first | (with_reducible first | exact HB.out | apply below_alloc | apply pw_below_drewN | apply below_drew1) | exact HB.out))) : w.heap.size ≤ gb169)); clear HB; have HB := n0_; have BK169 := n1_; have GW169 := n2_; have GE169 := n3_; clear n0_ n1_ n2_ n3_; clear hb hbox hg)); go_upto_region 1 with (first | ((with_reducible refine gate_dst (N := 1) rfl ?_); (try (refine gate_guard (by rfl) ?_; dsimp only)); refine box_event ?hg (N := 1) ?hd (cs := #[.string a0_0, .slice A0_1 l0_1.length c0_1, .int .u32 a0_2, .int .i64 a0_3, .int .i64 a0_4]) (t := 84) ?hr ?_; (case hd => rfl); (case hg => rfl); (case hr => first | (go_simp; done) | (go_simp; rfl)); intro gb169 hg w3 hbox hb; have n0_ := Aside0.mk (below_step (by repeat (first | (with_reducible first | exact HB.out | apply below_alloc | apply pw_below_drewN | apply below_drew1) | exact HB.out)) hb); have n1_ := Aside0.mk (hbox); have n2_ := Aside0.mk ((by rw [hg]; exact (below_size (by repeat (first | (with_reducible first | exact HB.out | apply below_alloc | apply pw_below_drewN | apply below_drew1) | exact HB.out))) : w.heap.size ≤ gb169)); have n3_ := Aside0.mk ((by rw [hg]; exact (below_size (by repeat (first | (with_reducible first | exact HB.out | apply below_alloc | apply pw_below_drewN | apply below_drew1) | exact HB.out))) : w.heap.size ≤ gb169)); clear HB; have HB := n0_; have BK169 := n1_; have GW169 := n2_; have GE169 := n3_; clear n0_ n1_ n2_ n3_; clear hb hbox hg)))
 (try simp only [Act.put, List.setIfInBounds_toArray, List.set_cons_zero, List.set_cons_succ])
 go_cut [40] (fun v40 wc => ∃ (kq : Nat) (x40_1 : Bool), v40 = .bool x40_1 ∧ Aside0 (rowlockref12_table.j0 kq x40_1 a0_0 l0_1 a0_2 a0_3 a0_4 = some r) ∧ Aside0 (kq ≤ k) ∧ Aside0 (wc.heap[gb169]? = some (.cells #[.string a0_0, (.slice A0_1 l0_1.length c0_1), .int .u32 a0_2, .int .i64 a0_3, .int .i64 a0_4] 84 (0, 0))) ∧ Aside0 (Below w.heap.size w wc))
 case first =>
  have H := HC2.out
  clear HC2
  replace H := Option.bind_eq_some_iff.mp H
  obtain ⟨t170, A40, H⟩ := H
  replace H : (if t170 = true then (if (l0_1.length : Int) < 1 then (rowlockref12_table.j0 k true a0_0 l0_1 a0_2 a0_3 a0_4) else (if (l0_1.length : Int) > 8 then (rowlockref12_table.j0 k true a0_0 l0_1 a0_2 a0_3 a0_4) else ((rowlockref12_number.f (wrap64 (a0_2))).bind fun t171 => (if t171 = true then ((rowlockref12_number.f a0_3).bind fun t172 => (if t172 = true then ((rowlockref12_number.f a0_4).bind fun t173 => (rowlockref12_table.j0 k (!t173) a0_0 l0_1 a0_2 a0_3 a0_4)) else (rowlockref12_table.j0 k true a0_0 l0_1 a0_2 a0_3 a0_4))) else (rowlockref12_table.j0 k true a0_0 l0_1 a0_2 a0_3 a0_4))))) else (rowlockref12_table.j0 k true a0_0 l0_1 a0_2 a0_3 a0_4)) = some r := H
  have A4 := Aside0.mk A40
  clear A40
  by_cases c5 : t170 = true
  ·subst c5
   have H1 : (if (l0_1.length : Int) < 1 then (rowlockref12_table.j0 k true a0_0 l0_1 a0_2 a0_3 a0_4) else (if (l0_1.length : Int) > 8 then (rowlockref12_table.j0 k true a0_0 l0_1 a0_2 a0_3 a0_4) else ((rowlockref12_number.f (wrap64 (a0_2))).bind fun t171 => (if t171 = true then ((rowlockref12_number.f a0_3).bind fun t172 => (if t172 = true then ((rowlockref12_number.f a0_4).bind fun t173 => (rowlockref12_table.j0 k (!t173) a0_0 l0_1 a0_2 a0_3 a0_4)) else (rowlockref12_table.j0 k true a0_0 l0_1 a0_2 a0_3 a0_4))) else (rowlockref12_table.j0 k true a0_0 l0_1 a0_2 a0_3 a0_4))))) = some r := by rw [if_pos rfl] at H; exact H
   clear H
   have H := H1
   clear H1
   by_cases c6 : (l0_1.length : Int) < 1
   ·rw [if_pos c6] at H
    have c6b0 : decide ((l0_1.length : Int) < 1) = true := decide_eq_true c6
    have c6b1 : decide (l0_1.length < 1) = true := decide_eq_true (by omega)
    clear c6
    (first | rw [c6b0] | (simp only [i64_w, i32_w]; rw [c6b0]) | skip)
    have H' := Aside0.mk H
    clear H
    have hcz7_0 : w3.cell? ⟨gb169, 0, none⟩ = some (.string a0_0) := (blk_cell BK169.out 0).trans rfl
    have hcz7_1 : w3.cell? ⟨gb169, 1, none⟩ = some (.slice A0_1 l0_1.length c0_1) := (blk_cell BK169.out 1).trans rfl
    have hcz7_2 : w3.cell? ⟨gb169, 2, none⟩ = some (.int .u32 a0_2) := (blk_cell BK169.out 2).trans rfl
    have hcz7_3 : w3.cell? ⟨gb169, 3, none⟩ = some (.int .i64 a0_3) := (blk_cell BK169.out 3).trans rfl
    have hcz7_4 : w3.cell? ⟨gb169, 4, none⟩ = some (.int .i64 a0_4) := (blk_cell BK169.out 4).trans rfl
    have hfz7_0 := blk_frozen BK169.out 0
    have hfz7_1 := blk_frozen BK169.out 1
    have hfz7_2 := blk_frozen BK169.out 2
    have hfz7_3 := blk_frozen BK169.out 3
    have hfz7_4 := blk_frozen BK169.out 4
    go_wp2_with (first | (go_at_call 35; (with_reducible refine (rowlockref12_Name.calls k a0_0 true _ A4.out).mono ?_); rintro e w' ⟨rfl, ⟨nd, rfl⟩⟩; (try first | exact ⟨rfl, _, World.drewN_drewN _ _ _⟩ | exact ⟨rfl, _, Eq.trans (World.drewN_drewN _ _ _) (congrArg (World.drewN _) (Nat.add_assoc _ _ _))⟩)))
    repeat (go_quiet (first | (go_at_call 35; (with_reducible refine (rowlockref12_Name.calls k a0_0 true _ A4.out).mono ?_); rintro e w' ⟨rfl, ⟨nd, rfl⟩⟩; (try first | exact ⟨rfl, _, World.drewN_drewN _ _ _⟩ | exact ⟨rfl, _, Eq.trans (World.drewN_drewN _ _ _) (congrArg (World.drewN _) (Nat.add_assoc _ _ _))⟩))); try go_wp2_with (first | (go_at_call 35; (with_reducible refine (rowlockref12_Name.calls k a0_0 true _ A4.out).mono ?_); rintro e w' ⟨rfl, ⟨nd, rfl⟩⟩; (try first | exact ⟨rfl, _, World.drewN_drewN _ _ _⟩ | exact ⟨rfl, _, Eq.trans (World.drewN_drewN _ _ _) (congrArg (World.drewN _) (Nat.add_assoc _ _ _))⟩))))
    go_meet
    case rel => exact ⟨_, (true), (by first | rfl | (simp; done) | (simp [*]; done)), H', ⟨by first | omega | exact Nat.le_refl _⟩, ⟨by (with_reducible repeat (first | refine blk_drewN ?_ _ | refine blk_drew ?_ | refine blk_alloc ?_ _)); exact BK169.out⟩, ⟨by repeat (first | (with_reducible first | exact HB.out | apply below_alloc | apply pw_below_drewN | apply below_drew1 | refine below_set ?_ GE169.out) | exact HB.out)⟩⟩
   ·rw [if_neg c6] at H
    have c6b0 : decide ((l0_1.length : Int) < 1) = false := decide_eq_false c6
    have c6b1 : decide (l0_1.length < 1) = false := decide_eq_false (by omega)
    clear c6
    (first | rw [c6b0] | (simp only [i64_w, i32_w]; rw [c6b0]) | skip)
    by_cases c8 : (l0_1.length : Int) > 8
    ·rw [if_pos c8] at H
     have c8b0 : decide (8 < (l0_1.length : Int)) = true := decide_eq_true c8
     have c8b1 : decide (8 < l0_1.length) = true := decide_eq_true (by omega)
     clear c8
     have H' := Aside0.mk H
     clear H
     have hcz9_0 : w3.cell? ⟨gb169, 0, none⟩ = some (.string a0_0) := (blk_cell BK169.out 0).trans rfl
     have hcz9_1 : w3.cell? ⟨gb169, 1, none⟩ = some (.slice A0_1 l0_1.length c0_1) := (blk_cell BK169.out 1).trans rfl
     have hcz9_2 : w3.cell? ⟨gb169, 2, none⟩ = some (.int .u32 a0_2) := (blk_cell BK169.out 2).trans rfl
     have hcz9_3 : w3.cell? ⟨gb169, 3, none⟩ = some (.int .i64 a0_3) := (blk_cell BK169.out 3).trans rfl
     have hcz9_4 : w3.cell? ⟨gb169, 4, none⟩ = some (.int .i64 a0_4) := (blk_cell BK169.out 4).trans rfl
     have hfz9_0 := blk_frozen BK169.out 0
     have hfz9_1 := blk_frozen BK169.out 1
     have hfz9_2 := blk_frozen BK169.out 2
     have hfz9_3 := blk_frozen BK169.out 3
     have hfz9_4 := blk_frozen BK169.out 4
     go_wp2_with (first | (go_at_call 35; (with_reducible refine (rowlockref12_Name.calls k a0_0 true _ A4.out).mono ?_); rintro e w' ⟨rfl, ⟨nd, rfl⟩⟩; (try first | exact ⟨rfl, _, World.drewN_drewN _ _ _⟩ | exact ⟨rfl, _, Eq.trans (World.drewN_drewN _ _ _) (congrArg (World.drewN _) (Nat.add_assoc _ _ _))⟩)))
     repeat (go_quiet (first | (go_at_call 35; (with_reducible refine (rowlockref12_Name.calls k a0_0 true _ A4.out).mono ?_); rintro e w' ⟨rfl, ⟨nd, rfl⟩⟩; (try first | exact ⟨rfl, _, World.drewN_drewN _ _ _⟩ | exact ⟨rfl, _, Eq.trans (World.drewN_drewN _ _ _) (congrArg (World.drewN _) (Nat.add_assoc _ _ _))⟩))); try go_wp2_with (first | (go_at_call 35; (with_reducible refine (rowlockref12_Name.calls k a0_0 true _ A4.out).mono ?_); rintro e w' ⟨rfl, ⟨nd, rfl⟩⟩; (try first | exact ⟨rfl, _, World.drewN_drewN _ _ _⟩ | exact ⟨rfl, _, Eq.trans (World.drewN_drewN _ _ _) (congrArg (World.drewN _) (Nat.add_assoc _ _ _))⟩))))
     go_meet
     case rel => exact ⟨_, (true), (by first | rfl | (simp; done) | (simp [*]; done)), H', ⟨by first | omega | exact Nat.le_refl _⟩, ⟨by (with_reducible repeat (first | refine blk_drewN ?_ _ | refine blk_drew ?_ | refine blk_alloc ?_ _)); exact BK169.out⟩, ⟨by repeat (first | (with_reducible first | exact HB.out | apply below_alloc | apply pw_below_drewN | apply below_drew1 | refine below_set ?_ GE169.out) | exact HB.out)⟩⟩
    ·rw [if_neg c8] at H
     have c8b0 : decide (8 < (l0_1.length : Int)) = false := decide_eq_false c8
     have c8b1 : decide (8 < l0_1.length) = false := decide_eq_false (by omega)
     clear c8
     replace H := Option.bind_eq_some_iff.mp H
     obtain ⟨t171, A100, H⟩ := H
     replace H : (if t171 = true then ((rowlockref12_number.f a0_3).bind fun t172 => (if t172 = true then ((rowlockref12_number.f a0_4).bind fun t173 => (rowlockref12_table.j0 k (!t173) a0_0 l0_1 a0_2 a0_3 a0_4)) else (rowlockref12_table.j0 k true a0_0 l0_1 a0_2 a0_3 a0_4))) else (rowlockref12_table.j0 k true a0_0 l0_1 a0_2 a0_3 a0_4)) = some r := H
     have A10 := Aside0.mk A100
     clear A100
     by_cases c11 : t171 = true
     ·subst c11
      have H1 : ((rowlockref12_number.f a0_3).bind fun t172 => (if t172 = true then ((rowlockref12_number.f a0_4).bind fun t173 => (rowlockref12_table.j0 k (!t173) a0_0 l0_1 a0_2 a0_3 a0_4)) else (rowlockref12_table.j0 k true a0_0 l0_1 a0_2 a0_3 a0_4))) = some r := by rw [if_pos rfl] at H; exact H
      clear H
      have H := H1
      clear H1
      replace H := Option.bind_eq_some_iff.mp H
      obtain ⟨t172, A120, H⟩ := H
      replace H : (if t172 = true then ((rowlockref12_number.f a0_4).bind fun t173 => (rowlockref12_table.j0 k (!t173) a0_0 l0_1 a0_2 a0_3 a0_4)) else (rowlockref12_table.j0 k true a0_0 l0_1 a0_2 a0_3 a0_4)) = some r := H
      have A12 := Aside0.mk A120
      clear A120
      by_cases c13 : t172 = true
      ·subst c13
       have H1 : ((rowlockref12_number.f a0_4).bind fun t173 => (rowlockref12_table.j0 k (!t173) a0_0 l0_1 a0_2 a0_3 a0_4)) = some r := by rw [if_pos rfl] at H; exact H
       clear H
       have H := H1
       clear H1
       replace H := Option.bind_eq_some_iff.mp H
       obtain ⟨t173, A140, H⟩ := H
       replace H : (rowlockref12_table.j0 k (!t173) a0_0 l0_1 a0_2 a0_3 a0_4) = some r := H
       have A14 := Aside0.mk A140
       clear A140
       have H' := Aside0.mk H
       clear H
       have hcz15_0 : w3.cell? ⟨gb169, 0, none⟩ = some (.string a0_0) := (blk_cell BK169.out 0).trans rfl
       have hcz15_1 : w3.cell? ⟨gb169, 1, none⟩ = some (.slice A0_1 l0_1.length c0_1) := (blk_cell BK169.out 1).trans rfl
       have hcz15_2 : w3.cell? ⟨gb169, 2, none⟩ = some (.int .u32 a0_2) := (blk_cell BK169.out 2).trans rfl
       have hcz15_3 : w3.cell? ⟨gb169, 3, none⟩ = some (.int .i64 a0_3) := (blk_cell BK169.out 3).trans rfl
       have hcz15_4 : w3.cell? ⟨gb169, 4, none⟩ = some (.int .i64 a0_4) := (blk_cell BK169.out 4).trans rfl
       have hfz15_0 := blk_frozen BK169.out 0
       have hfz15_1 := blk_frozen BK169.out 1
       have hfz15_2 := blk_frozen BK169.out 2
       have hfz15_3 := blk_frozen BK169.out 3
       have hfz15_4 := blk_frozen BK169.out 4
       go_wp2_with (first | (go_at_call 35; (with_reducible refine (rowlockref12_Name.calls k a0_0 true _ A4.out).mono ?_); rintro e w' ⟨rfl, ⟨nd, rfl⟩⟩; (try first | exact ⟨rfl, _, World.drewN_drewN _ _ _⟩ | exact ⟨rfl, _, Eq.trans (World.drewN_drewN _ _ _) (congrArg (World.drewN _) (Nat.add_assoc _ _ _))⟩)) | (go_at_call 95; (with_reducible refine (rowlockref12_number.calls (wrap64 (a0_2)) true _ A10.out).mono ?_); rintro e w' ⟨rfl, ⟨nd, rfl⟩⟩; (try first | exact ⟨rfl, _, World.drewN_drewN _ _ _⟩ | exact ⟨rfl, _, Eq.trans (World.drewN_drewN _ _ _) (congrArg (World.drewN _) (Nat.add_assoc _ _ _))⟩)) | (go_at_call 95; (with_reducible refine (rowlockref12_number.calls a0_3 true _ A12.out).mono ?_); rintro e w' ⟨rfl, ⟨nd, rfl⟩⟩; (try first | exact ⟨rfl, _, World.drewN_drewN _ _ _⟩ | exact ⟨rfl, _, Eq.trans (World.drewN_drewN _ _ _) (congrArg (World.drewN _) (Nat.add_assoc _ _ _))⟩)) | (go_at_call 95; (with_reducible refine (rowlockref12_number.calls a0_4 t173 _ A14.out).mono ?_); rintro e w' ⟨rfl, ⟨nd, rfl⟩⟩; (try first | exact ⟨rfl, _, World.drewN_drewN _ _ _⟩ | exact ⟨rfl, _, Eq.trans (World.drewN_drewN _ _ _) (congrArg (World.drewN _) (Nat.add_assoc _ _ _))⟩)))
       repeat (go_quiet (first | (go_at_call 35; (with_reducible refine (rowlockref12_Name.calls k a0_0 true _ A4.out).mono ?_); rintro e w' ⟨rfl, ⟨nd, rfl⟩⟩; (try first | exact ⟨rfl, _, World.drewN_drewN _ _ _⟩ | exact ⟨rfl, _, Eq.trans (World.drewN_drewN _ _ _) (congrArg (World.drewN _) (Nat.add_assoc _ _ _))⟩)) | (go_at_call 95; (with_reducible refine (rowlockref12_number.calls (wrap64 (a0_2)) true _ A10.out).mono ?_); rintro e w' ⟨rfl, ⟨nd, rfl⟩⟩; (try first | exact ⟨rfl, _, World.drewN_drewN _ _ _⟩ | exact ⟨rfl, _, Eq.trans (World.drewN_drewN _ _ _) (congrArg (World.drewN _) (Nat.add_assoc _ _ _))⟩)) | (go_at_call 95; (with_reducible refine (rowlockref12_number.calls a0_3 true _ A12.out).mono ?_); rintro e w' ⟨rfl, ⟨nd, rfl⟩⟩; (try first | exact ⟨rfl, _, World.drewN_drewN _ _ _⟩ | exact ⟨rfl, _, Eq.trans (World.drewN_drewN _ _ _) (congrArg (World.drewN _) (Nat.add_assoc _ _ _))⟩)) | (go_at_call 95; (with_reducible refine (rowlockref12_number.calls a0_4 t173 _ A14.out).mono ?_); rintro e w' ⟨rfl, ⟨nd, rfl⟩⟩; (try first | exact ⟨rfl, _, World.drewN_drewN _ _ _⟩ | exact ⟨rfl, _, Eq.trans (World.drewN_drewN _ _ _) (congrArg (World.drewN _) (Nat.add_assoc _ _ _))⟩))); try go_wp2_with (first | (go_at_call 35; (with_reducible refine (rowlockref12_Name.calls k a0_0 true _ A4.out).mono ?_); rintro e w' ⟨rfl, ⟨nd, rfl⟩⟩; (try first | exact ⟨rfl, _, World.drewN_drewN _ _ _⟩ | exact ⟨rfl, _, Eq.trans (World.drewN_drewN _ _ _) (congrArg (World.drewN _) (Nat.add_assoc _ _ _))⟩)) | (go_at_call 95; (with_reducible refine (rowlockref12_number.calls (wrap64 (a0_2)) true _ A10.out).mono ?_); rintro e w' ⟨rfl, ⟨nd, rfl⟩⟩; (try first | exact ⟨rfl, _, World.drewN_drewN _ _ _⟩ | exact ⟨rfl, _, Eq.trans (World.drewN_drewN _ _ _) (congrArg (World.drewN _) (Nat.add_assoc _ _ _))⟩)) | (go_at_call 95; (with_reducible refine (rowlockref12_number.calls a0_3 true _ A12.out).mono ?_); rintro e w' ⟨rfl, ⟨nd, rfl⟩⟩; (try first | exact ⟨rfl, _, World.drewN_drewN _ _ _⟩ | exact ⟨rfl, _, Eq.trans (World.drewN_drewN _ _ _) (congrArg (World.drewN _) (Nat.add_assoc _ _ _))⟩)) | (go_at_call 95; (with_reducible refine (rowlockref12_number.calls a0_4 t173 _ A14.out).mono ?_); rintro e w' ⟨rfl, ⟨nd, rfl⟩⟩; (try first | exact ⟨rfl, _, World.drewN_drewN _ _ _⟩ | exact ⟨rfl, _, Eq.trans (World.drewN_drewN _ _ _) (congrArg (World.drewN _) (Nat.add_assoc _ _ _))⟩))))
       go_meet
       case rel => exact ⟨_, (!t173), (by first | rfl | (simp; done) | (simp [*]; done)), H', ⟨by first | omega | exact Nat.le_refl _⟩, ⟨by (with_reducible repeat (first | refine blk_drewN ?_ _ | refine blk_drew ?_ | refine blk_alloc ?_ _)); exact BK169.out⟩, ⟨by repeat (first | (with_reducible first | exact HB.out | apply below_alloc | apply pw_below_drewN | apply below_drew1 | refine below_set ?_ GE169.out) | exact HB.out)⟩⟩
      ·replace c13 := Bool.eq_false_iff.mpr c13
       subst c13
       have H1 : (rowlockref12_table.j0 k true a0_0 l0_1 a0_2 a0_3 a0_4) = some r := by rw [if_neg (show ¬ (false = true) by decide)] at H; exact H
       clear H
       have H := H1
       clear H1
       have H' := Aside0.mk H
       clear H
       have hcz16_0 : w3.cell? ⟨gb169, 0, none⟩ = some (.string a0_0) := (blk_cell BK169.out 0).trans rfl
       have hcz16_1 : w3.cell? ⟨gb169, 1, none⟩ = some (.slice A0_1 l0_1.length c0_1) := (blk_cell BK169.out 1).trans rfl
       have hcz16_2 : w3.cell? ⟨gb169, 2, none⟩ = some (.int .u32 a0_2) := (blk_cell BK169.out 2).trans rfl
       have hcz16_3 : w3.cell? ⟨gb169, 3, none⟩ = some (.int .i64 a0_3) := (blk_cell BK169.out 3).trans rfl
       have hcz16_4 : w3.cell? ⟨gb169, 4, none⟩ = some (.int .i64 a0_4) := (blk_cell BK169.out 4).trans rfl
       have hfz16_0 := blk_frozen BK169.out 0
       have hfz16_1 := blk_frozen BK169.out 1
       have hfz16_2 := blk_frozen BK169.out 2
       have hfz16_3 := blk_frozen BK169.out 3
       have hfz16_4 := blk_frozen BK169.out 4
       go_wp2_with (first | (go_at_call 35; (with_reducible refine (rowlockref12_Name.calls k a0_0 true _ A4.out).mono ?_); rintro e w' ⟨rfl, ⟨nd, rfl⟩⟩; (try first | exact ⟨rfl, _, World.drewN_drewN _ _ _⟩ | exact ⟨rfl, _, Eq.trans (World.drewN_drewN _ _ _) (congrArg (World.drewN _) (Nat.add_assoc _ _ _))⟩)) | (go_at_call 95; (with_reducible refine (rowlockref12_number.calls (wrap64 (a0_2)) true _ A10.out).mono ?_); rintro e w' ⟨rfl, ⟨nd, rfl⟩⟩; (try first | exact ⟨rfl, _, World.drewN_drewN _ _ _⟩ | exact ⟨rfl, _, Eq.trans (World.drewN_drewN _ _ _) (congrArg (World.drewN _) (Nat.add_assoc _ _ _))⟩)) | (go_at_call 95; (with_reducible refine (rowlockref12_number.calls a0_3 false _ A12.out).mono ?_); rintro e w' ⟨rfl, ⟨nd, rfl⟩⟩; (try first | exact ⟨rfl, _, World.drewN_drewN _ _ _⟩ | exact ⟨rfl, _, Eq.trans (World.drewN_drewN _ _ _) (congrArg (World.drewN _) (Nat.add_assoc _ _ _))⟩)))
       repeat (go_quiet (first | (go_at_call 35; (with_reducible refine (rowlockref12_Name.calls k a0_0 true _ A4.out).mono ?_); rintro e w' ⟨rfl, ⟨nd, rfl⟩⟩; (try first | exact ⟨rfl, _, World.drewN_drewN _ _ _⟩ | exact ⟨rfl, _, Eq.trans (World.drewN_drewN _ _ _) (congrArg (World.drewN _) (Nat.add_assoc _ _ _))⟩)) | (go_at_call 95; (with_reducible refine (rowlockref12_number.calls (wrap64 (a0_2)) true _ A10.out).mono ?_); rintro e w' ⟨rfl, ⟨nd, rfl⟩⟩; (try first | exact ⟨rfl, _, World.drewN_drewN _ _ _⟩ | exact ⟨rfl, _, Eq.trans (World.drewN_drewN _ _ _) (congrArg (World.drewN _) (Nat.add_assoc _ _ _))⟩)) | (go_at_call 95; (with_reducible refine (rowlockref12_number.calls a0_3 false _ A12.out).mono ?_); rintro e w' ⟨rfl, ⟨nd, rfl⟩⟩; (try first | exact ⟨rfl, _, World.drewN_drewN _ _ _⟩ | exact ⟨rfl, _, Eq.trans (World.drewN_drewN _ _ _) (congrArg (World.drewN _) (Nat.add_assoc _ _ _))⟩))); try go_wp2_with (first | (go_at_call 35; (with_reducible refine (rowlockref12_Name.calls k a0_0 true _ A4.out).mono ?_); rintro e w' ⟨rfl, ⟨nd, rfl⟩⟩; (try first | exact ⟨rfl, _, World.drewN_drewN _ _ _⟩ | exact ⟨rfl, _, Eq.trans (World.drewN_drewN _ _ _) (congrArg (World.drewN _) (Nat.add_assoc _ _ _))⟩)) | (go_at_call 95; (with_reducible refine (rowlockref12_number.calls (wrap64 (a0_2)) true _ A10.out).mono ?_); rintro e w' ⟨rfl, ⟨nd, rfl⟩⟩; (try first | exact ⟨rfl, _, World.drewN_drewN _ _ _⟩ | exact ⟨rfl, _, Eq.trans (World.drewN_drewN _ _ _) (congrArg (World.drewN _) (Nat.add_assoc _ _ _))⟩)) | (go_at_call 95; (with_reducible refine (rowlockref12_number.calls a0_3 false _ A12.out).mono ?_); rintro e w' ⟨rfl, ⟨nd, rfl⟩⟩; (try first | exact ⟨rfl, _, World.drewN_drewN _ _ _⟩ | exact ⟨rfl, _, Eq.trans (World.drewN_drewN _ _ _) (congrArg (World.drewN _) (Nat.add_assoc _ _ _))⟩))))
       go_meet
       case rel => exact ⟨_, (true), (by first | rfl | (simp; done) | (simp [*]; done)), H', ⟨by first | omega | exact Nat.le_refl _⟩, ⟨by (with_reducible repeat (first | refine blk_drewN ?_ _ | refine blk_drew ?_ | refine blk_alloc ?_ _)); exact BK169.out⟩, ⟨by repeat (first | (with_reducible first | exact HB.out | apply below_alloc | apply pw_below_drewN | apply below_drew1 | refine below_set ?_ GE169.out) | exact HB.out)⟩⟩
     ·replace c11 := Bool.eq_false_iff.mpr c11
      subst c11
      have H1 : (rowlockref12_table.j0 k true a0_0 l0_1 a0_2 a0_3 a0_4) = some r := by rw [if_neg (show ¬ (false = true) by decide)] at H; exact H
      clear H
      have H := H1
      clear H1
      have H' := Aside0.mk H
      clear H
      have hcz17_0 : w3.cell? ⟨gb169, 0, none⟩ = some (.string a0_0) := (blk_cell BK169.out 0).trans rfl
      have hcz17_1 : w3.cell? ⟨gb169, 1, none⟩ = some (.slice A0_1 l0_1.length c0_1) := (blk_cell BK169.out 1).trans rfl
      have hcz17_2 : w3.cell? ⟨gb169, 2, none⟩ = some (.int .u32 a0_2) := (blk_cell BK169.out 2).trans rfl
      have hcz17_3 : w3.cell? ⟨gb169, 3, none⟩ = some (.int .i64 a0_3) := (blk_cell BK169.out 3).trans rfl
      have hcz17_4 : w3.cell? ⟨gb169, 4, none⟩ = some (.int .i64 a0_4) := (blk_cell BK169.out 4).trans rfl
      have hfz17_0 := blk_frozen BK169.out 0
      have hfz17_1 := blk_frozen BK169.out 1
      have hfz17_2 := blk_frozen BK169.out 2
      have hfz17_3 := blk_frozen BK169.out 3
      have hfz17_4 := blk_frozen BK169.out 4
      go_wp2_with (first | (go_at_call 35; (with_reducible refine (rowlockref12_Name.calls k a0_0 true _ A4.out).mono ?_); rintro e w' ⟨rfl, ⟨nd, rfl⟩⟩; (try first | exact ⟨rfl, _, World.drewN_drewN _ _ _⟩ | exact ⟨rfl, _, Eq.trans (World.drewN_drewN _ _ _) (congrArg (World.drewN _) (Nat.add_assoc _ _ _))⟩)) | (go_at_call 95; (with_reducible refine (rowlockref12_number.calls (wrap64 (a0_2)) false _ A10.out).mono ?_); rintro e w' ⟨rfl, ⟨nd, rfl⟩⟩; (try first | exact ⟨rfl, _, World.drewN_drewN _ _ _⟩ | exact ⟨rfl, _, Eq.trans (World.drewN_drewN _ _ _) (congrArg (World.drewN _) (Nat.add_assoc _ _ _))⟩)))
      repeat (go_quiet (first | (go_at_call 35; (with_reducible refine (rowlockref12_Name.calls k a0_0 true _ A4.out).mono ?_); rintro e w' ⟨rfl, ⟨nd, rfl⟩⟩; (try first | exact ⟨rfl, _, World.drewN_drewN _ _ _⟩ | exact ⟨rfl, _, Eq.trans (World.drewN_drewN _ _ _) (congrArg (World.drewN _) (Nat.add_assoc _ _ _))⟩)) | (go_at_call 95; (with_reducible refine (rowlockref12_number.calls (wrap64 (a0_2)) false _ A10.out).mono ?_); rintro e w' ⟨rfl, ⟨nd, rfl⟩⟩; (try first | exact ⟨rfl, _, World.drewN_drewN _ _ _⟩ | exact ⟨rfl, _, Eq.trans (World.drewN_drewN _ _ _) (congrArg (World.drewN _) (Nat.add_assoc _ _ _))⟩))); try go_wp2_with (first | (go_at_call 35; (with_reducible refine (rowlockref12_Name.calls k a0_0 true _ A4.out).mono ?_); rintro e w' ⟨rfl, ⟨nd, rfl⟩⟩; (try first | exact ⟨rfl, _, World.drewN_drewN _ _ _⟩ | exact ⟨rfl, _, Eq.trans (World.drewN_drewN _ _ _) (congrArg (World.drewN _) (Nat.add_assoc _ _ _))⟩)) | (go_at_call 95; (with_reducible refine (rowlockref12_number.calls (wrap64 (a0_2)) false _ A10.out).mono ?_); rintro e w' ⟨rfl, ⟨nd, rfl⟩⟩; (try first | exact ⟨rfl, _, World.drewN_drewN _ _ _⟩ | exact ⟨rfl, _, Eq.trans (World.drewN_drewN _ _ _) (congrArg (World.drewN _) (Nat.add_assoc _ _ _))⟩))))
      go_meet
      case rel => exact ⟨_, (true), (by first | rfl | (simp; done) | (simp [*]; done)), H', ⟨by first | omega | exact Nat.le_refl _⟩, ⟨by (with_reducible repeat (first | refine blk_drewN ?_ _ | refine blk_drew ?_ | refine blk_alloc ?_ _)); exact BK169.out⟩, ⟨by repeat (first | (with_reducible first | exact HB.out | apply below_alloc | apply pw_below_drewN | apply below_drew1 | refine below_set ?_ GE169.out) | exact HB.out)⟩⟩
  ·replace c5 := Bool.eq_false_iff.mpr c5
   subst c5
   have H1 : (rowlockref12_table.j0 k true a0_0 l0_1 a0_2 a0_3 a0_4) = some r := by rw [if_neg (show ¬ (false = true) by decide)] at H; exact H
   clear H
   have H := H1
   clear H1
   have H' := Aside0.mk H
   clear H
   have hcz18_0 : w3.cell? ⟨gb169, 0, none⟩ = some (.string a0_0) := (blk_cell BK169.out 0).trans rfl
   have hcz18_1 : w3.cell? ⟨gb169, 1, none⟩ = some (.slice A0_1 l0_1.length c0_1) := (blk_cell BK169.out 1).trans rfl
   have hcz18_2 : w3.cell? ⟨gb169, 2, none⟩ = some (.int .u32 a0_2) := (blk_cell BK169.out 2).trans rfl
   have hcz18_3 : w3.cell? ⟨gb169, 3, none⟩ = some (.int .i64 a0_3) := (blk_cell BK169.out 3).trans rfl
   have hcz18_4 : w3.cell? ⟨gb169, 4, none⟩ = some (.int .i64 a0_4) := (blk_cell BK169.out 4).trans rfl
   have hfz18_0 := blk_frozen BK169.out 0
   have hfz18_1 := blk_frozen BK169.out 1
   have hfz18_2 := blk_frozen BK169.out 2
   have hfz18_3 := blk_frozen BK169.out 3
   have hfz18_4 := blk_frozen BK169.out 4
   go_wp2_with (first | (go_at_call 35; (with_reducible refine (rowlockref12_Name.calls k a0_0 false _ A4.out).mono ?_); rintro e w' ⟨rfl, ⟨nd, rfl⟩⟩; (try first | exact ⟨rfl, _, World.drewN_drewN _ _ _⟩ | exact ⟨rfl, _, Eq.trans (World.drewN_drewN _ _ _) (congrArg (World.drewN _) (Nat.add_assoc _ _ _))⟩)))
   repeat (go_quiet (first | (go_at_call 35; (with_reducible refine (rowlockref12_Name.calls k a0_0 false _ A4.out).mono ?_); rintro e w' ⟨rfl, ⟨nd, rfl⟩⟩; (try first | exact ⟨rfl, _, World.drewN_drewN _ _ _⟩ | exact ⟨rfl, _, Eq.trans (World.drewN_drewN _ _ _) (congrArg (World.drewN _) (Nat.add_assoc _ _ _))⟩))); try go_wp2_with (first | (go_at_call 35; (with_reducible refine (rowlockref12_Name.calls k a0_0 false _ A4.out).mono ?_); rintro e w' ⟨rfl, ⟨nd, rfl⟩⟩; (try first | exact ⟨rfl, _, World.drewN_drewN _ _ _⟩ | exact ⟨rfl, _, Eq.trans (World.drewN_drewN _ _ _) (congrArg (World.drewN _) (Nat.add_assoc _ _ _))⟩))))
   go_meet
   case rel => exact ⟨_, (true), (by first | rfl | (simp; done) | (simp [*]; done)), H', ⟨by first | omega | exact Nat.le_refl _⟩, ⟨by (with_reducible repeat (first | refine blk_drewN ?_ _ | refine blk_drew ?_ | refine blk_alloc ?_ _)); exact BK169.out⟩, ⟨by repeat (first | (with_reducible first | exact HB.out | apply below_alloc | apply pw_below_drewN | apply below_drew1 | refine below_set ?_ GE169.out) | exact HB.out)⟩⟩
 case rest =>
  clear HC2
  try clear c1
  try clear p2
  try clear c5
  try clear c6
  try clear c6b0
  try clear c6b1
  try clear p6
  try clear c8
  try clear c8b0
  try clear c8b1
  try clear c11
  try clear c13
  try clear hcz15_0
  try clear hcz15_1
  try clear hcz15_2
  try clear hcz15_3
  try clear hcz15_4
  try clear hcz16_0
  try clear hcz16_1
  try clear hcz16_2
  try clear hcz16_3
  try clear hcz16_4
  try clear hcz17_0
  try clear hcz17_1
  try clear hcz17_2
  try clear hcz17_3
  try clear hcz17_4
  try clear hcz18_0
  try clear hcz18_1
  try clear hcz18_2
  try clear hcz18_3
  try clear hcz18_4
  try clear hcz7_0
  try clear hcz7_1
  try clear hcz7_2
  try clear hcz7_3
  try clear hcz7_4
  try clear hcz9_0
  try clear hcz9_1
  try clear hcz9_2
  try clear hcz9_3
  try clear hcz9_4
  try clear hfz15_0
  try clear hfz15_1
  try clear hfz15_2
  try clear hfz15_3
  try clear hfz15_4
  try clear hfz16_0
  try clear hfz16_1
  try clear hfz16_2
  try clear hfz16_3
  try clear hfz16_4
  try clear hfz17_0
  try clear hfz17_1
  try clear hfz17_2
  try clear hfz17_3
  try clear hfz17_4
  try clear hfz18_0
  try clear hfz18_1
  try clear hfz18_2
  try clear hfz18_3
  try clear hfz18_4
  try clear hfz7_0
  try clear hfz7_1
  try clear hfz7_2
  try clear hfz7_3
  try clear hfz7_4
  try clear hfz9_0
  try clear hfz9_1
  try clear hfz9_2
  try clear hfz9_3
  try clear hfz9_4
  obtain ⟨kq, x40_1, rfl, HA, HJ1, BK169, HB⟩ := hcut
  cases kq with
  | zero => exact absurd HA.out (by simp [rowlockref12_table.j0])
  | succ kj1 =>
   have H := HA.out
   clear HA
   simp only [rowlockref12_table.j0] at H
   by_cases c19 : x40_1 = true
   ·subst c19
    have H1 : (some false) = some r := by rw [if_pos rfl] at H; exact H
    clear H
    have H := H1
    clear H1
    obtain rfl := Option.some.inj H
    go_wp2
    repeat (go_quiet (fail); try go_wp2)
    go_ret
    exact ⟨by first | rfl | (simp [errW_none, errW_some] <;> rfl) | (simp [*, errW_none, errW_some] <;> rfl), by repeat (first | (with_reducible first | exact HB.out | apply below_alloc | apply pw_below_drewN | apply below_drew1 | refine below_set ?_ GE169.out) | exact HB.out)⟩
   ·replace c19 := Bool.eq_false_iff.mpr c19
    subst c19
    have H1 : (rowlockref12_table.l0 kj1 (l0_1.length : Int) 0 a0_0 l0_1 a0_2 a0_3 a0_4) = some r := by rw [if_neg (show ¬ (false = true) by decide)] at H; exact H
    clear H
    have H := H1
    clear H1
    have H' := Aside0.mk H
    clear H
    have hcz20_0 : wc.cell? ⟨gb169, 0, none⟩ = some (.string a0_0) := (blk_cell BK169.out 0).trans rfl
    have hcz20_1 : wc.cell? ⟨gb169, 1, none⟩ = some (.slice A0_1 l0_1.length c0_1) := (blk_cell BK169.out 1).trans rfl
    have hcz20_2 : wc.cell? ⟨gb169, 2, none⟩ = some (.int .u32 a0_2) := (blk_cell BK169.out 2).trans rfl
    have hcz20_3 : wc.cell? ⟨gb169, 3, none⟩ = some (.int .i64 a0_3) := (blk_cell BK169.out 3).trans rfl
    have hcz20_4 : wc.cell? ⟨gb169, 4, none⟩ = some (.int .i64 a0_4) := (blk_cell BK169.out 4).trans rfl
    have hfz20_0 := blk_frozen BK169.out 0
    have hfz20_1 := blk_frozen BK169.out 1
    have hfz20_2 := blk_frozen BK169.out 2
    have hfz20_3 := blk_frozen BK169.out 3
    have hfz20_4 := blk_frozen BK169.out 4
    go_wp2
    repeat (go_quiet (fail); try go_wp2)
    go_loopg [44] kj1 (fun kq v44 w' => ∃ (x44_2 : Int), v44 = .int .i64 x44_2 ∧ Aside0 (rowlockref12_table.l0 kq (l0_1.length : Int) x44_2 a0_0 l0_1 a0_2 a0_3 a0_4 = some r) ∧ Aside0 (kq ≤ kj1) ∧ Aside0 (w'.heap[gb169]? = some (.cells #[.string a0_0, (.slice A0_1 l0_1.length c0_1), .int .u32 a0_2, .int .i64 a0_3, .int .i64 a0_4] 84 (0, 0))) ∧ Aside0 (Below w.heap.size w w'))
    case atStart => exact ⟨(0), (by first | rfl | (simp; done) | (simp [*]; done)), H', ⟨Nat.le_refl _⟩, ⟨by (with_reducible repeat (first | refine blk_drewN ?_ _ | refine blk_drew ?_ | refine blk_alloc ?_ _)); exact BK169.out⟩, ⟨by repeat (first | (with_reducible first | exact HB.out | apply below_alloc | apply pw_below_drewN | apply below_drew1 | refine below_set ?_ GE169.out) | exact HB.out)⟩⟩
    case round =>
     clear H'
     try clear c1
     try clear p2
     try clear c5
     try clear c6
     try clear c6b0
     try clear c6b1
     try clear p6
     try clear c8
     try clear c8b0
     try clear c8b1
     try clear c11
     try clear c13
     try clear c19
     try clear hcz15_0
     try clear hcz15_1
     try clear hcz15_2
     try clear hcz15_3
     try clear hcz15_4
     try clear hcz16_0
     try clear hcz16_1
     try clear hcz16_2
     try clear hcz16_3
     try clear hcz16_4
     try clear hcz17_0
     try clear hcz17_1
     try clear hcz17_2
     try clear hcz17_3
     try clear hcz17_4
     try clear hcz18_0
     try clear hcz18_1
     try clear hcz18_2
     try clear hcz18_3
     try clear hcz18_4
     try clear hcz20_0
     try clear hcz20_1
     try clear hcz20_2
     try clear hcz20_3
     try clear hcz20_4
     try clear hcz7_0
     try clear hcz7_1
     try clear hcz7_2
     try clear hcz7_3
     try clear hcz7_4
     try clear hcz9_0
     try clear hcz9_1
     try clear hcz9_2
     try clear hcz9_3
     try clear hcz9_4
     try clear hfz15_0
     try clear hfz15_1
     try clear hfz15_2
     try clear hfz15_3
     try clear hfz15_4
     try clear hfz16_0
     try clear hfz16_1
     try clear hfz16_2
     try clear hfz16_3
     try clear hfz16_4
     try clear hfz17_0
     try clear hfz17_1
     try clear hfz17_2
     try clear hfz17_3
     try clear hfz17_4
     try clear hfz18_0
     try clear hfz18_1
     try clear hfz18_2
     try clear hfz18_3
     try clear hfz18_4
     try clear hfz20_0
     try clear hfz20_1
     try clear hfz20_2
     try clear hfz20_3
     try clear hfz20_4
     try clear hfz7_0
     try clear hfz7_1
     try clear hfz7_2
     try clear hfz7_3
     try clear hfz7_4
     try clear hfz9_0
     try clear hfz9_1
     try clear hfz9_2
     try clear hfz9_3
     try clear hfz9_4
     try clear p2
     try clear p6
     obtain ⟨x44_2, rfl, HA, HK2, BK169, HB⟩ := hrel
     cases gk with
     | zero => exact absurd HA.out (by simp [rowlockref12_table.l0])
     | succ k2 =>
      have H := HA.out
      clear HA
      simp only [rowlockref12_table.l0] at H
      by_cases c21 : x44_2 < (l0_1.length : Int)
      ·rw [if_pos c21] at H
       have c21b0 : decide (x44_2 < (l0_1.length : Int)) = true := decide_eq_true c21
       clear c21
       by_cases c22 : 0 ≤ x44_2
       ·rw [if_pos c22] at H
        have c22b0 : decide (0 ≤ x44_2) = true := decide_eq_true c22
        clear c22
        by_cases c23 : x44_2 < (l0_1.length : Int)
        ·rw [if_pos c23] at H
         have c23b0 : decide (x44_2 < (l0_1.length : Int)) = true := decide_eq_true c23
         clear c23
         have HC24 := Aside0.mk H
         clear H
         have hcz25_0 : wr.cell? ⟨gb169, 0, none⟩ = some (.string a0_0) := (blk_cell BK169.out 0).trans rfl
         have hcz25_1 : wr.cell? ⟨gb169, 1, none⟩ = some (.slice A0_1 l0_1.length c0_1) := (blk_cell BK169.out 1).trans rfl
         have hcz25_2 : wr.cell? ⟨gb169, 2, none⟩ = some (.int .u32 a0_2) := (blk_cell BK169.out 2).trans rfl
         have hcz25_3 : wr.cell? ⟨gb169, 3, none⟩ = some (.int .i64 a0_3) := (blk_cell BK169.out 3).trans rfl
         have hcz25_4 : wr.cell? ⟨gb169, 4, none⟩ = some (.int .i64 a0_4) := (blk_cell BK169.out 4).trans rfl
         have hfz25_0 := blk_frozen BK169.out 0
         have hfz25_1 := blk_frozen BK169.out 1
         have hfz25_2 := blk_frozen BK169.out 2
         have hfz25_3 := blk_frozen BK169.out 3
         have hfz25_4 := blk_frozen BK169.out 4
         have p174 : 0 ≤ (x44_2 : Int) := of_decide_eq_true (by first | (with_reducible assumption) | assumption)
         have q174 : x44_2 < (l0_1.length : Int) := of_decide_eq_true (by first | (with_reducible assumption) | assumption)
         obtain ⟨ad174, e174, hx174_0, hx174_1, hx174_2, hx174_3⟩ := at_T87 HR0_1.out x44_2 p174 q174
         cases e174
         replace hx174_0 := (HB.out.cell (World.block_lt_of_cell? w _ hx174_0)).trans hx174_0
         replace hx174_1 := (HB.out.cell (World.block_lt_of_cell? w _ hx174_1)).trans hx174_1
         replace hx174_2 := (HB.out.cell (World.block_lt_of_cell? w _ hx174_2)).trans hx174_2
         replace hx174_3 := (HB.out.cell (World.block_lt_of_cell? w _ hx174_3)).trans hx174_3
         replace p174 := eq_true p174
         have p174D := p174; try simp only [List.length_drop, List.length_take] at p174D
         replace q174 := eq_true q174
         have q174D := q174; try simp only [List.length_drop, List.length_take] at q174D
         go_upto_region 7 with (first | ((with_reducible refine gate_dst (N := 4) rfl ?_); (try (refine gate_guard (by rfl) ?_; dsimp only)); refine box_event ?hg (N := 4) ?hd (cs := #[.string (⟨#[]⟩ : ByteArray), .int .u8 0, .int .i64 0, .int .i64 0]) (t := 87) ?hr ?_; (case hd => rfl); (case hg => rfl); (case hr => first | (go_simp; done) | (go_simp; rfl)); intro gb175 hg w26 hbox hb; have n0_ := Aside0.mk (blk_below (g := gb169) (o := .cells #[.string a0_0, .slice (some ad174) l0_1.length c0_1, .int .u32 a0_2, .int .i64 a0_3, .int .i64 a0_4] 84 (0, 0)) (by (with_reducible repeat (first | refine blk_drewN ?_ _ | refine blk_drew ?_ | refine blk_alloc ?_ _)); exact BK169.out) hb); have n1_ := Aside0.mk (below_step (by repeat (first | (with_reducible first | exact HB.out | apply below_alloc | apply pw_below_drewN | apply below_drew1 | refine below_set ?_ GE169.out) | exact HB.out)) hb); have n2_ := Aside0.mk (hbox); have n3_ := Aside0.mk ((by rw [hg]; exact (below_size (by repeat (first | (with_reducible first | exact HB.out | apply below_alloc | apply pw_below_drewN | apply below_drew1 | refine below_set ?_ GE169.out) | exact HB.out))) : w.heap.size ≤ gb175)); have n4_ := Aside0.mk ((by rw [hg]; exact (below_size (by repeat (first | (with_reducible first | exact HB.out | apply below_alloc | apply pw_below_drewN | apply below_drew1 | refine below_set ?_ GE169.out) | exact HB.out))) : w.heap.size ≤ gb175)); have n5_ := Aside0.mk ((by rw [hg]; exact Nat.ne_of_lt (blk_lt (g := gb169) (o := .cells #[.string a0_0, .slice (some ad174) l0_1.length c0_1, .int .u32 a0_2, .int .i64 a0_3, .int .i64 a0_4] 84 (0, 0)) (by (with_reducible repeat (first | refine blk_drewN ?_ _ | refine blk_drew ?_ | refine blk_alloc ?_ _)); exact BK169.out)) : gb169 ≠ gb175)); have n6_ := Aside0.mk ((by rw [hg]; exact Nat.ne_of_gt (blk_lt (g := gb169) (o := .cells #[.string a0_0, .slice (some ad174) l0_1.length c0_1, .int .u32 a0_2, .int .i64 a0_3, .int .i64 a0_4] 84 (0, 0)) (by (with_reducible repeat (first | refine blk_drewN ?_ _ | refine blk_drew ?_ | refine blk_alloc ?_ _)); exact BK169.out)) : gb175 ≠ gb169)); clear BK169; clear HB; have BK169 := n0_; have HB := n1_; have BK175 := n2_; have GW175 := n3_; have GE175 := n4_; have NB169_175 := n5_; have NB175_169 := n6_; clear n0_ n1_ n2_ n3_ n4_ n5_ n6_; clear hb hbox hg; have hnb27 := NB175_169.out; have hnc27 := NB169_175.out; have hcz28_0 : w26.cell? ⟨gb175, 0, none⟩ = some (.string (⟨#[]⟩ : ByteArray)) := (blk_cell BK175.out 0).trans rfl; have hcz28_1 : w26.cell? ⟨gb175, 1, none⟩ = some (.int .u8 0) := (blk_cell BK175.out 1).trans rfl; have hcz28_2 : w26.cell? ⟨gb175, 2, none⟩ = some (.int .i64 0) := (blk_cell BK175.out 2).trans rfl; have hcz28_3 : w26.cell? ⟨gb175, 3, none⟩ = some (.int .i64 0) := (blk_cell BK175.out 3).trans rfl; have hfz28_0 := blk_frozen BK175.out 0; have hfz28_1 := blk_frozen BK175.out 1; have hfz28_2 := blk_frozen BK175.out 2; have hfz28_3 := blk_frozen BK175.out 3))
         repeat (go_quiet (first | ((with_reducible refine gate_dst (N := 4) rfl ?_); (try (refine gate_guard (by rfl) ?_; dsimp only)); refine box_event ?hg (N := 4) ?hd (cs := #[.string (⟨#[]⟩ : ByteArray), .int .u8 0, .int .i64 0, .int .i64 0]) (t := 87) ?hr ?_; (case hd => rfl); (case hg => rfl); (case hr => first | (go_simp; done) | (go_simp; rfl)); intro gb175 hg w26 hbox hb; have n0_ := Aside0.mk (blk_below (g := gb169) (o := .cells #[.string a0_0, .slice (some ad174) l0_1.length c0_1, .int .u32 a0_2, .int .i64 a0_3, .int .i64 a0_4] 84 (0, 0)) (by (with_reducible repeat (first | refine blk_drewN ?_ _ | refine blk_drew ?_ | refine blk_alloc ?_ _)); exact BK169.out) hb); have n1_ := Aside0.mk (below_step (by repeat (first | (with_reducible first | exact HB.out | apply below_alloc | apply pw_below_drewN | apply below_drew1 | refine below_set ?_ GE169.out) | exact HB.out)) hb); have n2_ := Aside0.mk (hbox); have n3_ := Aside0.mk ((by rw [hg]; exact (below_size (by repeat (first | (with_reducible first | exact HB.out | apply below_alloc | apply pw_below_drewN | apply below_drew1 | refine below_set ?_ GE169.out) | exact HB.out))) : w.heap.size ≤ gb175)); have n4_ := Aside0.mk ((by rw [hg]; exact (below_size (by repeat (first | (with_reducible first | exact HB.out | apply below_alloc | apply pw_below_drewN | apply below_drew1 | refine below_set ?_ GE169.out) | exact HB.out))) : w.heap.size ≤ gb175)); have n5_ := Aside0.mk ((by rw [hg]; exact Nat.ne_of_lt (blk_lt (g := gb169) (o := .cells #[.string a0_0, .slice (some ad174) l0_1.length c0_1, .int .u32 a0_2, .int .i64 a0_3, .int .i64 a0_4] 84 (0, 0)) (by (with_reducible repeat (first | refine blk_drewN ?_ _ | refine blk_drew ?_ | refine blk_alloc ?_ _)); exact BK169.out)) : gb169 ≠ gb175)); have n6_ := Aside0.mk ((by rw [hg]; exact Nat.ne_of_gt (blk_lt (g := gb169) (o := .cells #[.string a0_0, .slice (some ad174) l0_1.length c0_1, .int .u32 a0_2, .int .i64 a0_3, .int .i64 a0_4] 84 (0, 0)) (by (with_reducible repeat (first | refine blk_drewN ?_ _ | refine blk_drew ?_ | refine blk_alloc ?_ _)); exact BK169.out)) : gb175 ≠ gb169)); clear BK169; clear HB; have BK169 := n0_; have HB := n1_; have BK175 := n2_; have GW175 := n3_; have GE175 := n4_; have NB169_175 := n5_; have NB175_169 := n6_; clear n0_ n1_ n2_ n3_ n4_ n5_ n6_; clear hb hbox hg; have hnb27 := NB175_169.out; have hnc27 := NB169_175.out; have hcz28_0 : w26.cell? ⟨gb175, 0, none⟩ = some (.string (⟨#[]⟩ : ByteArray)) := (blk_cell BK175.out 0).trans rfl; have hcz28_1 : w26.cell? ⟨gb175, 1, none⟩ = some (.int .u8 0) := (blk_cell BK175.out 1).trans rfl; have hcz28_2 : w26.cell? ⟨gb175, 2, none⟩ = some (.int .i64 0) := (blk_cell BK175.out 2).trans rfl; have hcz28_3 : w26.cell? ⟨gb175, 3, none⟩ = some (.int .i64 0) := (blk_cell BK175.out 3).trans rfl; have hfz28_0 := blk_frozen BK175.out 0; have hfz28_1 := blk_frozen BK175.out 1; have hfz28_2 := blk_frozen BK175.out 2; have hfz28_3 := blk_frozen BK175.out 3)); go_upto_region 7 with (first | ((with_reducible refine gate_dst (N := 4) rfl ?_); (try (refine gate_guard (by rfl) ?_; dsimp only)); refine box_event ?hg (N := 4) ?hd (cs := #[.string (⟨#[]⟩ : ByteArray), .int .u8 0, .int .i64 0, .int .i64 0]) (t := 87) ?hr ?_; (case hd => rfl); (case hg => rfl); (case hr => first | (go_simp; done) | (go_simp; rfl)); intro gb175 hg w26 hbox hb; have n0_ := Aside0.mk (blk_below (g := gb169) (o := .cells #[.string a0_0, .slice (some ad174) l0_1.length c0_1, .int .u32 a0_2, .int .i64 a0_3, .int .i64 a0_4] 84 (0, 0)) (by (with_reducible repeat (first | refine blk_drewN ?_ _ | refine blk_drew ?_ | refine blk_alloc ?_ _)); exact BK169.out) hb); have n1_ := Aside0.mk (below_step (by repeat (first | (with_reducible first | exact HB.out | apply below_alloc | apply pw_below_drewN | apply below_drew1 | refine below_set ?_ GE169.out) | exact HB.out)) hb); have n2_ := Aside0.mk (hbox); have n3_ := Aside0.mk ((by rw [hg]; exact (below_size (by repeat (first | (with_reducible first | exact HB.out | apply below_alloc | apply pw_below_drewN | apply below_drew1 | refine below_set ?_ GE169.out) | exact HB.out))) : w.heap.size ≤ gb175)); have n4_ := Aside0.mk ((by rw [hg]; exact (below_size (by repeat (first | (with_reducible first | exact HB.out | apply below_alloc | apply pw_below_drewN | apply below_drew1 | refine below_set ?_ GE169.out) | exact HB.out))) : w.heap.size ≤ gb175)); have n5_ := Aside0.mk ((by rw [hg]; exact Nat.ne_of_lt (blk_lt (g := gb169) (o := .cells #[.string a0_0, .slice (some ad174) l0_1.length c0_1, .int .u32 a0_2, .int .i64 a0_3, .int .i64 a0_4] 84 (0, 0)) (by (with_reducible repeat (first | refine blk_drewN ?_ _ | refine blk_drew ?_ | refine blk_alloc ?_ _)); exact BK169.out)) : gb169 ≠ gb175)); have n6_ := Aside0.mk ((by rw [hg]; exact Nat.ne_of_gt (blk_lt (g := gb169) (o := .cells #[.string a0_0, .slice (some ad174) l0_1.length c0_1, .int .u32 a0_2, .int .i64 a0_3, .int .i64 a0_4] 84 (0, 0)) (by (with_reducible repeat (first | refine blk_drewN ?_ _ | refine blk_drew ?_ | refine blk_alloc ?_ _)); exact BK169.out)) : gb175 ≠ gb169)); clear BK169; clear HB; have BK169 := n0_; have HB := n1_; have BK175 := n2_; have GW175 := n3_; have GE175 := n4_; have NB169_175 := n5_; have NB175_169 := n6_; clear n0_ n1_ n2_ n3_ n4_ n5_ n6_; clear hb hbox hg; have hnb27 := NB175_169.out; have hnc27 := NB169_175.out; have hcz28_0 : w26.cell? ⟨gb175, 0, none⟩ = some (.string (⟨#[]⟩ : ByteArray)) := (blk_cell BK175.out 0).trans rfl; have hcz28_1 : w26.cell? ⟨gb175, 1, none⟩ = some (.int .u8 0) := (blk_cell BK175.out 1).trans rfl; have hcz28_2 : w26.cell? ⟨gb175, 2, none⟩ = some (.int .i64 0) := (blk_cell BK175.out 2).trans rfl; have hcz28_3 : w26.cell? ⟨gb175, 3, none⟩ = some (.int .i64 0) := (blk_cell BK175.out 3).trans rfl; have hfz28_0 := blk_frozen BK175.out 0; have hfz28_1 := blk_frozen BK175.out 1; have hfz28_2 := blk_frozen BK175.out 2; have hfz28_3 := blk_frozen BK175.out 3)))
         (try simp only [Act.put, List.setIfInBounds_toArray, List.set_cons_zero, List.set_cons_succ])
         go_cut [77] (fun v77 wc => ∃ (kq : Nat) (x77_23 : Bool), v77 = .bool x77_23 ∧ Aside0 (rowlockref12_table.j2 kq x44_2 (l0_1.length : Int) x44_2 x77_23 a0_0 l0_1 a0_2 a0_3 a0_4 ((rd_T87 l0_1 x44_2).f0) ((rd_T87 l0_1 x44_2).f1) ((rd_T87 l0_1 x44_2).f2) ((rd_T87 l0_1 x44_2).f3) = some r) ∧ Aside0 (kq ≤ k2) ∧ Aside0 (wc.heap[gb169]? = some (.cells #[.string a0_0, (.slice (some ad174) l0_1.length c0_1), .int .u32 a0_2, .int .i64 a0_3, .int .i64 a0_4] 84 (0, 0))) ∧ Aside0 (wc.heap[gb175]? = some (.cells #[.string ((rd_T87 l0_1 x44_2).f0), .int .u8 ((rd_T87 l0_1 x44_2).f1), .int .i64 ((rd_T87 l0_1 x44_2).f2), .int .i64 ((rd_T87 l0_1 x44_2).f3)] 87 (0, 0))) ∧ Aside0 (Below w.heap.size w wc))
         case first =>
          have H := HC24.out
          clear HC24
          replace H := Option.bind_eq_some_iff.mp H
          obtain ⟨t176, A290, H⟩ := H
          replace H : (if t176 = true then (if ((rd_T87 l0_1 x44_2).f1) = 0 then (rowlockref12_table.j2 k2 x44_2 (l0_1.length : Int) x44_2 true a0_0 l0_1 a0_2 a0_3 a0_4 ((rd_T87 l0_1 x44_2).f0) ((rd_T87 l0_1 x44_2).f1) ((rd_T87 l0_1 x44_2).f2) ((rd_T87 l0_1 x44_2).f3)) else (if ((rd_T87 l0_1 x44_2).f1) > 3 then (rowlockref12_table.j2 k2 x44_2 (l0_1.length : Int) x44_2 true a0_0 l0_1 a0_2 a0_3 a0_4 ((rd_T87 l0_1 x44_2).f0) ((rd_T87 l0_1 x44_2).f1) ((rd_T87 l0_1 x44_2).f2) ((rd_T87 l0_1 x44_2).f3)) else ((rowlockref12_number.f ((rd_T87 l0_1 x44_2).f2)).bind fun t177 => (if t177 = true then ((rowlockref12_number.f ((rd_T87 l0_1 x44_2).f3)).bind fun t178 => (rowlockref12_table.j2 k2 x44_2 (l0_1.length : Int) x44_2 (!t178) a0_0 l0_1 a0_2 a0_3 a0_4 ((rd_T87 l0_1 x44_2).f0) ((rd_T87 l0_1 x44_2).f1) ((rd_T87 l0_1 x44_2).f2) ((rd_T87 l0_1 x44_2).f3))) else (rowlockref12_table.j2 k2 x44_2 (l0_1.length : Int) x44_2 true a0_0 l0_1 a0_2 a0_3 a0_4 ((rd_T87 l0_1 x44_2).f0) ((rd_T87 l0_1 x44_2).f1) ((rd_T87 l0_1 x44_2).f2) ((rd_T87 l0_1 x44_2).f3)))))) else (rowlockref12_table.j2 k2 x44_2 (l0_1.length : Int) x44_2 true a0_0 l0_1 a0_2 a0_3 a0_4 ((rd_T87 l0_1 x44_2).f0) ((rd_T87 l0_1 x44_2).f1) ((rd_T87 l0_1 x44_2).f2) ((rd_T87 l0_1 x44_2).f3))) = some r := H
          have A29 := Aside0.mk A290
          clear A290
          by_cases c30 : t176 = true
          ·subst c30
           have H1 : (if ((rd_T87 l0_1 x44_2).f1) = 0 then (rowlockref12_table.j2 k2 x44_2 (l0_1.length : Int) x44_2 true a0_0 l0_1 a0_2 a0_3 a0_4 ((rd_T87 l0_1 x44_2).f0) ((rd_T87 l0_1 x44_2).f1) ((rd_T87 l0_1 x44_2).f2) ((rd_T87 l0_1 x44_2).f3)) else (if ((rd_T87 l0_1 x44_2).f1) > 3 then (rowlockref12_table.j2 k2 x44_2 (l0_1.length : Int) x44_2 true a0_0 l0_1 a0_2 a0_3 a0_4 ((rd_T87 l0_1 x44_2).f0) ((rd_T87 l0_1 x44_2).f1) ((rd_T87 l0_1 x44_2).f2) ((rd_T87 l0_1 x44_2).f3)) else ((rowlockref12_number.f ((rd_T87 l0_1 x44_2).f2)).bind fun t177 => (if t177 = true then ((rowlockref12_number.f ((rd_T87 l0_1 x44_2).f3)).bind fun t178 => (rowlockref12_table.j2 k2 x44_2 (l0_1.length : Int) x44_2 (!t178) a0_0 l0_1 a0_2 a0_3 a0_4 ((rd_T87 l0_1 x44_2).f0) ((rd_T87 l0_1 x44_2).f1) ((rd_T87 l0_1 x44_2).f2) ((rd_T87 l0_1 x44_2).f3))) else (rowlockref12_table.j2 k2 x44_2 (l0_1.length : Int) x44_2 true a0_0 l0_1 a0_2 a0_3 a0_4 ((rd_T87 l0_1 x44_2).f0) ((rd_T87 l0_1 x44_2).f1) ((rd_T87 l0_1 x44_2).f2) ((rd_T87 l0_1 x44_2).f3)))))) = some r := by rw [if_pos rfl] at H; exact H
           clear H
           have H := H1
           clear H1
           by_cases c31 : ((rd_T87 l0_1 x44_2).f1) = 0
           ·rw [if_pos c31] at H
            have c31b0 : (((rd_T87 l0_1 x44_2).f1) == 0) = true := beq_iff_eq.mpr c31
            have c31b1 : (((rd_T87 l0_1 x44_2).f1) != 0) = false := bne_eq_false_iff_eq.mpr c31
            clear c31
            (first | rw [c31b0] | (simp only [i64_w, i32_w]; rw [c31b0]) | skip)
            have H' := Aside0.mk H
            clear H
            have hnb32 := NB175_169.out
            have hnc32 := NB169_175.out
            have hcz33_0 : w26.cell? ⟨gb175, 0, none⟩ = some (.string (⟨#[]⟩ : ByteArray)) := (blk_cell BK175.out 0).trans rfl
            have hcz33_1 : w26.cell? ⟨gb175, 1, none⟩ = some (.int .u8 0) := (blk_cell BK175.out 1).trans rfl
            have hcz33_2 : w26.cell? ⟨gb175, 2, none⟩ = some (.int .i64 0) := (blk_cell BK175.out 2).trans rfl
            have hcz33_3 : w26.cell? ⟨gb175, 3, none⟩ = some (.int .i64 0) := (blk_cell BK175.out 3).trans rfl
            have hfz33_0 := blk_frozen BK175.out 0
            have hfz33_1 := blk_frozen BK175.out 1
            have hfz33_2 := blk_frozen BK175.out 2
            have hfz33_3 := blk_frozen BK175.out 3
            go_wp2_with (first | (go_at_call 35; (with_reducible refine (rowlockref12_Name.calls k2 ((rd_T87 l0_1 x44_2).f0) true _ A29.out).mono ?_); rintro e w' ⟨rfl, ⟨nd, rfl⟩⟩; (try first | exact ⟨rfl, _, World.drewN_drewN _ _ _⟩ | exact ⟨rfl, _, Eq.trans (World.drewN_drewN _ _ _) (congrArg (World.drewN _) (Nat.add_assoc _ _ _))⟩)))
            repeat (go_quiet (first | (go_at_call 35; (with_reducible refine (rowlockref12_Name.calls k2 ((rd_T87 l0_1 x44_2).f0) true _ A29.out).mono ?_); rintro e w' ⟨rfl, ⟨nd, rfl⟩⟩; (try first | exact ⟨rfl, _, World.drewN_drewN _ _ _⟩ | exact ⟨rfl, _, Eq.trans (World.drewN_drewN _ _ _) (congrArg (World.drewN _) (Nat.add_assoc _ _ _))⟩))); try go_wp2_with (first | (go_at_call 35; (with_reducible refine (rowlockref12_Name.calls k2 ((rd_T87 l0_1 x44_2).f0) true _ A29.out).mono ?_); rintro e w' ⟨rfl, ⟨nd, rfl⟩⟩; (try first | exact ⟨rfl, _, World.drewN_drewN _ _ _⟩ | exact ⟨rfl, _, Eq.trans (World.drewN_drewN _ _ _) (congrArg (World.drewN _) (Nat.add_assoc _ _ _))⟩))))
            go_meet
            case rel => exact ⟨_, (true), (by first | rfl | (simp; done) | (simp [*]; done)), H', ⟨by have := HJ1.out; have := HK2.out; first | omega | exact Nat.le_refl _⟩, ⟨by (with_reducible repeat (first | refine blk_drewN ?_ _ | refine blk_drew ?_ | refine blk_alloc ?_ _)); refine blk_far ?_ NB169_175.out _; (with_reducible repeat (first | refine blk_drewN ?_ _ | refine blk_drew ?_ | refine blk_alloc ?_ _)); refine blk_far ?_ NB169_175.out _; (with_reducible repeat (first | refine blk_drewN ?_ _ | refine blk_drew ?_ | refine blk_alloc ?_ _)); refine blk_far ?_ NB169_175.out _; (with_reducible repeat (first | refine blk_drewN ?_ _ | refine blk_drew ?_ | refine blk_alloc ?_ _)); refine blk_far ?_ NB169_175.out _; (with_reducible repeat (first | refine blk_drewN ?_ _ | refine blk_drew ?_ | refine blk_alloc ?_ _)); exact BK169.out⟩, ⟨by (with_reducible repeat (first | refine blk_drewN ?_ _ | refine blk_drew ?_ | refine blk_alloc ?_ _)); refine blk_put (cs := #[.string ((rd_T87 l0_1 x44_2).f0), .int .u8 ((rd_T87 l0_1 x44_2).f1), .int .i64 ((rd_T87 l0_1 x44_2).f2), .int .i64 0]) ?_ 3 _ rfl; (with_reducible repeat (first | refine blk_drewN ?_ _ | refine blk_drew ?_ | refine blk_alloc ?_ _)); refine blk_put (cs := #[.string ((rd_T87 l0_1 x44_2).f0), .int .u8 ((rd_T87 l0_1 x44_2).f1), .int .i64 0, .int .i64 0]) ?_ 2 _ rfl; (with_reducible repeat (first | refine blk_drewN ?_ _ | refine blk_drew ?_ | refine blk_alloc ?_ _)); refine blk_put (cs := #[.string ((rd_T87 l0_1 x44_2).f0), .int .u8 0, .int .i64 0, .int .i64 0]) ?_ 1 _ rfl; (with_reducible repeat (first | refine blk_drewN ?_ _ | refine blk_drew ?_ | refine blk_alloc ?_ _)); refine blk_put (cs := #[.string (⟨#[]⟩ : ByteArray), .int .u8 0, .int .i64 0, .int .i64 0]) ?_ 0 _ rfl; (with_reducible repeat (first | refine blk_drewN ?_ _ | refine blk_drew ?_ | refine blk_alloc ?_ _)); exact BK175.out⟩, ⟨by repeat (first | (with_reducible first | exact HB.out | apply below_alloc | apply pw_below_drewN | apply below_drew1 | refine below_set ?_ GE169.out | refine below_set ?_ GE175.out) | exact HB.out)⟩⟩
           ·rw [if_neg c31] at H
            have c31b0 : (((rd_T87 l0_1 x44_2).f1) == 0) = false := beq_eq_false_iff_ne.mpr c31
            have c31b1 : (((rd_T87 l0_1 x44_2).f1) != 0) = true := bne_iff_ne.mpr c31
            (first | rw [c31b0] | (simp only [i64_w, i32_w]; rw [c31b0]) | skip)
            by_cases c34 : ((rd_T87 l0_1 x44_2).f1) > 3
            ·rw [if_pos c34] at H
             have c34b0 : decide (3 < ((rd_T87 l0_1 x44_2).f1)) = true := decide_eq_true c34
             clear c34
             have H' := Aside0.mk H
             clear H
             have hnb35 := NB175_169.out
             have hnc35 := NB169_175.out
             have hcz36_0 : w26.cell? ⟨gb175, 0, none⟩ = some (.string (⟨#[]⟩ : ByteArray)) := (blk_cell BK175.out 0).trans rfl
             have hcz36_1 : w26.cell? ⟨gb175, 1, none⟩ = some (.int .u8 0) := (blk_cell BK175.out 1).trans rfl
             have hcz36_2 : w26.cell? ⟨gb175, 2, none⟩ = some (.int .i64 0) := (blk_cell BK175.out 2).trans rfl
             have hcz36_3 : w26.cell? ⟨gb175, 3, none⟩ = some (.int .i64 0) := (blk_cell BK175.out 3).trans rfl
             have hfz36_0 := blk_frozen BK175.out 0
             have hfz36_1 := blk_frozen BK175.out 1
             have hfz36_2 := blk_frozen BK175.out 2
             have hfz36_3 := blk_frozen BK175.out 3
             go_wp2_with (first | (go_at_call 35; (with_reducible refine (rowlockref12_Name.calls k2 ((rd_T87 l0_1 x44_2).f0) true _ A29.out).mono ?_); rintro e w' ⟨rfl, ⟨nd, rfl⟩⟩; (try first | exact ⟨rfl, _, World.drewN_drewN _ _ _⟩ | exact ⟨rfl, _, Eq.trans (World.drewN_drewN _ _ _) (congrArg (World.drewN _) (Nat.add_assoc _ _ _))⟩)))
             repeat (go_quiet (first | (go_at_call 35; (with_reducible refine (rowlockref12_Name.calls k2 ((rd_T87 l0_1 x44_2).f0) true _ A29.out).mono ?_); rintro e w' ⟨rfl, ⟨nd, rfl⟩⟩; (try first | exact ⟨rfl, _, World.drewN_drewN _ _ _⟩ | exact ⟨rfl, _, Eq.trans (World.drewN_drewN _ _ _) (congrArg (World.drewN _) (Nat.add_assoc _ _ _))⟩))); try go_wp2_with (first | (go_at_call 35; (with_reducible refine (rowlockref12_Name.calls k2 ((rd_T87 l0_1 x44_2).f0) true _ A29.out).mono ?_); rintro e w' ⟨rfl, ⟨nd, rfl⟩⟩; (try first | exact ⟨rfl, _, World.drewN_drewN _ _ _⟩ | exact ⟨rfl, _, Eq.trans (World.drewN_drewN _ _ _) (congrArg (World.drewN _) (Nat.add_assoc _ _ _))⟩))))
             go_meet
             case rel => exact ⟨_, (true), (by first | rfl | (simp; done) | (simp [*]; done)), H', ⟨by have := HJ1.out; have := HK2.out; first | omega | exact Nat.le_refl _⟩, ⟨by (with_reducible repeat (first | refine blk_drewN ?_ _ | refine blk_drew ?_ | refine blk_alloc ?_ _)); refine blk_far ?_ NB169_175.out _; (with_reducible repeat (first | refine blk_drewN ?_ _ | refine blk_drew ?_ | refine blk_alloc ?_ _)); refine blk_far ?_ NB169_175.out _; (with_reducible repeat (first | refine blk_drewN ?_ _ | refine blk_drew ?_ | refine blk_alloc ?_ _)); refine blk_far ?_ NB169_175.out _; (with_reducible repeat (first | refine blk_drewN ?_ _ | refine blk_drew ?_ | refine blk_alloc ?_ _)); refine blk_far ?_ NB169_175.out _; (with_reducible repeat (first | refine blk_drewN ?_ _ | refine blk_drew ?_ | refine blk_alloc ?_ _)); exact BK169.out⟩, ⟨by (with_reducible repeat (first | refine blk_drewN ?_ _ | refine blk_drew ?_ | refine blk_alloc ?_ _)); refine blk_put (cs := #[.string ((rd_T87 l0_1 x44_2).f0), .int .u8 ((rd_T87 l0_1 x44_2).f1), .int .i64 ((rd_T87 l0_1 x44_2).f2), .int .i64 0]) ?_ 3 _ rfl; (with_reducible repeat (first | refine blk_drewN ?_ _ | refine blk_drew ?_ | refine blk_alloc ?_ _)); refine blk_put (cs := #[.string ((rd_T87 l0_1 x44_2).f0), .int .u8 ((rd_T87 l0_1 x44_2).f1), .int .i64 0, .int .i64 0]) ?_ 2 _ rfl; (with_reducible repeat (first | refine blk_drewN ?_ _ | refine blk_drew ?_ | refine blk_alloc ?_ _)); refine blk_put (cs := #[.string ((rd_T87 l0_1 x44_2).f0), .int .u8 0, .int .i64 0, .int .i64 0]) ?_ 1 _ rfl; (with_reducible repeat (first | refine blk_drewN ?_ _ | refine blk_drew ?_ | refine blk_alloc ?_ _)); refine blk_put (cs := #[.string (⟨#[]⟩ : ByteArray), .int .u8 0, .int .i64 0, .int .i64 0]) ?_ 0 _ rfl; (with_reducible repeat (first | refine blk_drewN ?_ _ | refine blk_drew ?_ | refine blk_alloc ?_ _)); exact BK175.out⟩, ⟨by repeat (first | (with_reducible first | exact HB.out | apply below_alloc | apply pw_below_drewN | apply below_drew1 | refine below_set ?_ GE169.out | refine below_set ?_ GE175.out) | exact HB.out)⟩⟩
            ·rw [if_neg c34] at H
             have c34b0 : decide (3 < ((rd_T87 l0_1 x44_2).f1)) = false := decide_eq_false c34
             clear c34
             replace H := Option.bind_eq_some_iff.mp H
             obtain ⟨t177, A370, H⟩ := H
             replace H : (if t177 = true then ((rowlockref12_number.f ((rd_T87 l0_1 x44_2).f3)).bind fun t178 => (rowlockref12_table.j2 k2 x44_2 (l0_1.length : Int) x44_2 (!t178) a0_0 l0_1 a0_2 a0_3 a0_4 ((rd_T87 l0_1 x44_2).f0) ((rd_T87 l0_1 x44_2).f1) ((rd_T87 l0_1 x44_2).f2) ((rd_T87 l0_1 x44_2).f3))) else (rowlockref12_table.j2 k2 x44_2 (l0_1.length : Int) x44_2 true a0_0 l0_1 a0_2 a0_3 a0_4 ((rd_T87 l0_1 x44_2).f0) ((rd_T87 l0_1 x44_2).f1) ((rd_T87 l0_1 x44_2).f2) ((rd_T87 l0_1 x44_2).f3))) = some r := H
             have A37 := Aside0.mk A370
             clear A370
             by_cases c38 : t177 = true
             ·subst c38
              have H1 : ((rowlockref12_number.f ((rd_T87 l0_1 x44_2).f3)).bind fun t178 => (rowlockref12_table.j2 k2 x44_2 (l0_1.length : Int) x44_2 (!t178) a0_0 l0_1 a0_2 a0_3 a0_4 ((rd_T87 l0_1 x44_2).f0) ((rd_T87 l0_1 x44_2).f1) ((rd_T87 l0_1 x44_2).f2) ((rd_T87 l0_1 x44_2).f3))) = some r := by rw [if_pos rfl] at H; exact H
              clear H
              have H := H1
              clear H1
              replace H := Option.bind_eq_some_iff.mp H
              obtain ⟨t178, A390, H⟩ := H
              replace H : (rowlockref12_table.j2 k2 x44_2 (l0_1.length : Int) x44_2 (!t178) a0_0 l0_1 a0_2 a0_3 a0_4 ((rd_T87 l0_1 x44_2).f0) ((rd_T87 l0_1 x44_2).f1) ((rd_T87 l0_1 x44_2).f2) ((rd_T87 l0_1 x44_2).f3)) = some r := H
              have A39 := Aside0.mk A390
              clear A390
              have H' := Aside0.mk H
              clear H
              have hnb40 := NB175_169.out
              have hnc40 := NB169_175.out
              have hcz41_0 : w26.cell? ⟨gb175, 0, none⟩ = some (.string (⟨#[]⟩ : ByteArray)) := (blk_cell BK175.out 0).trans rfl
              have hcz41_1 : w26.cell? ⟨gb175, 1, none⟩ = some (.int .u8 0) := (blk_cell BK175.out 1).trans rfl
              have hcz41_2 : w26.cell? ⟨gb175, 2, none⟩ = some (.int .i64 0) := (blk_cell BK175.out 2).trans rfl
              have hcz41_3 : w26.cell? ⟨gb175, 3, none⟩ = some (.int .i64 0) := (blk_cell BK175.out 3).trans rfl
              have hfz41_0 := blk_frozen BK175.out 0
              have hfz41_1 := blk_frozen BK175.out 1
              have hfz41_2 := blk_frozen BK175.out 2
              have hfz41_3 := blk_frozen BK175.out 3
              go_wp2_with (first | (go_at_call 35; (with_reducible refine (rowlockref12_Name.calls k2 ((rd_T87 l0_1 x44_2).f0) true _ A29.out).mono ?_); rintro e w' ⟨rfl, ⟨nd, rfl⟩⟩; (try first | exact ⟨rfl, _, World.drewN_drewN _ _ _⟩ | exact ⟨rfl, _, Eq.trans (World.drewN_drewN _ _ _) (congrArg (World.drewN _) (Nat.add_assoc _ _ _))⟩)) | (go_at_call 95; (with_reducible refine (rowlockref12_number.calls ((rd_T87 l0_1 x44_2).f2) true _ A37.out).mono ?_); rintro e w' ⟨rfl, ⟨nd, rfl⟩⟩; (try first | exact ⟨rfl, _, World.drewN_drewN _ _ _⟩ | exact ⟨rfl, _, Eq.trans (World.drewN_drewN _ _ _) (congrArg (World.drewN _) (Nat.add_assoc _ _ _))⟩)) | (go_at_call 95; (with_reducible refine (rowlockref12_number.calls ((rd_T87 l0_1 x44_2).f3) t178 _ A39.out).mono ?_); rintro e w' ⟨rfl, ⟨nd, rfl⟩⟩; (try first | exact ⟨rfl, _, World.drewN_drewN _ _ _⟩ | exact ⟨rfl, _, Eq.trans (World.drewN_drewN _ _ _) (congrArg (World.drewN _) (Nat.add_assoc _ _ _))⟩)))
              repeat (go_quiet (first | (go_at_call 35; (with_reducible refine (rowlockref12_Name.calls k2 ((rd_T87 l0_1 x44_2).f0) true _ A29.out).mono ?_); rintro e w' ⟨rfl, ⟨nd, rfl⟩⟩; (try first | exact ⟨rfl, _, World.drewN_drewN _ _ _⟩ | exact ⟨rfl, _, Eq.trans (World.drewN_drewN _ _ _) (congrArg (World.drewN _) (Nat.add_assoc _ _ _))⟩)) | (go_at_call 95; (with_reducible refine (rowlockref12_number.calls ((rd_T87 l0_1 x44_2).f2) true _ A37.out).mono ?_); rintro e w' ⟨rfl, ⟨nd, rfl⟩⟩; (try first | exact ⟨rfl, _, World.drewN_drewN _ _ _⟩ | exact ⟨rfl, _, Eq.trans (World.drewN_drewN _ _ _) (congrArg (World.drewN _) (Nat.add_assoc _ _ _))⟩)) | (go_at_call 95; (with_reducible refine (rowlockref12_number.calls ((rd_T87 l0_1 x44_2).f3) t178 _ A39.out).mono ?_); rintro e w' ⟨rfl, ⟨nd, rfl⟩⟩; (try first | exact ⟨rfl, _, World.drewN_drewN _ _ _⟩ | exact ⟨rfl, _, Eq.trans (World.drewN_drewN _ _ _) (congrArg (World.drewN _) (Nat.add_assoc _ _ _))⟩))); try go_wp2_with (first | (go_at_call 35; (with_reducible refine (rowlockref12_Name.calls k2 ((rd_T87 l0_1 x44_2).f0) true _ A29.out).mono ?_); rintro e w' ⟨rfl, ⟨nd, rfl⟩⟩; (try first | exact ⟨rfl, _, World.drewN_drewN _ _ _⟩ | exact ⟨rfl, _, Eq.trans (World.drewN_drewN _ _ _) (congrArg (World.drewN _) (Nat.add_assoc _ _ _))⟩)) | (go_at_call 95; (with_reducible refine (rowlockref12_number.calls ((rd_T87 l0_1 x44_2).f2) true _ A37.out).mono ?_); rintro e w' ⟨rfl, ⟨nd, rfl⟩⟩; (try first | exact ⟨rfl, _, World.drewN_drewN _ _ _⟩ | exact ⟨rfl, _, Eq.trans (World.drewN_drewN _ _ _) (congrArg (World.drewN _) (Nat.add_assoc _ _ _))⟩)) | (go_at_call 95; (with_reducible refine (rowlockref12_number.calls ((rd_T87 l0_1 x44_2).f3) t178 _ A39.out).mono ?_); rintro e w' ⟨rfl, ⟨nd, rfl⟩⟩; (try first | exact ⟨rfl, _, World.drewN_drewN _ _ _⟩ | exact ⟨rfl, _, Eq.trans (World.drewN_drewN _ _ _) (congrArg (World.drewN _) (Nat.add_assoc _ _ _))⟩))))
              go_meet
              case rel => exact ⟨_, (!t178), (by first | rfl | (simp; done) | (simp [*]; done)), H', ⟨by have := HJ1.out; have := HK2.out; first | omega | exact Nat.le_refl _⟩, ⟨by (with_reducible repeat (first | refine blk_drewN ?_ _ | refine blk_drew ?_ | refine blk_alloc ?_ _)); refine blk_far ?_ NB169_175.out _; (with_reducible repeat (first | refine blk_drewN ?_ _ | refine blk_drew ?_ | refine blk_alloc ?_ _)); refine blk_far ?_ NB169_175.out _; (with_reducible repeat (first | refine blk_drewN ?_ _ | refine blk_drew ?_ | refine blk_alloc ?_ _)); refine blk_far ?_ NB169_175.out _; (with_reducible repeat (first | refine blk_drewN ?_ _ | refine blk_drew ?_ | refine blk_alloc ?_ _)); refine blk_far ?_ NB169_175.out _; (with_reducible repeat (first | refine blk_drewN ?_ _ | refine blk_drew ?_ | refine blk_alloc ?_ _)); exact BK169.out⟩, ⟨by (with_reducible repeat (first | refine blk_drewN ?_ _ | refine blk_drew ?_ | refine blk_alloc ?_ _)); refine blk_put (cs := #[.string ((rd_T87 l0_1 x44_2).f0), .int .u8 ((rd_T87 l0_1 x44_2).f1), .int .i64 ((rd_T87 l0_1 x44_2).f2), .int .i64 0]) ?_ 3 _ rfl; (with_reducible repeat (first | refine blk_drewN ?_ _ | refine blk_drew ?_ | refine blk_alloc ?_ _)); refine blk_put (cs := #[.string ((rd_T87 l0_1 x44_2).f0), .int .u8 ((rd_T87 l0_1 x44_2).f1), .int .i64 0, .int .i64 0]) ?_ 2 _ rfl; (with_reducible repeat (first | refine blk_drewN ?_ _ | refine blk_drew ?_ | refine blk_alloc ?_ _)); refine blk_put (cs := #[.string ((rd_T87 l0_1 x44_2).f0), .int .u8 0, .int .i64 0, .int .i64 0]) ?_ 1 _ rfl; (with_reducible repeat (first | refine blk_drewN ?_ _ | refine blk_drew ?_ | refine blk_alloc ?_ _)); refine blk_put (cs := #[.string (⟨#[]⟩ : ByteArray), .int .u8 0, .int .i64 0, .int .i64 0]) ?_ 0 _ rfl; (with_reducible repeat (first | refine blk_drewN ?_ _ | refine blk_drew ?_ | refine blk_alloc ?_ _)); exact BK175.out⟩, ⟨by repeat (first | (with_reducible first | exact HB.out | apply below_alloc | apply pw_below_drewN | apply below_drew1 | refine below_set ?_ GE169.out | refine below_set ?_ GE175.out) | exact HB.out)⟩⟩
             ·replace c38 := Bool.eq_false_iff.mpr c38
              subst c38
              have H1 : (rowlockref12_table.j2 k2 x44_2 (l0_1.length : Int) x44_2 true a0_0 l0_1 a0_2 a0_3 a0_4 ((rd_T87 l0_1 x44_2).f0) ((rd_T87 l0_1 x44_2).f1) ((rd_T87 l0_1 x44_2).f2) ((rd_T87 l0_1 x44_2).f3)) = some r := by rw [if_neg (show ¬ (false = true) by decide)] at H; exact H
              clear H
              have H := H1
              clear H1
              have H' := Aside0.mk H
              clear H
              have hnb42 := NB175_169.out
              have hnc42 := NB169_175.out
              have hcz43_0 : w26.cell? ⟨gb175, 0, none⟩ = some (.string (⟨#[]⟩ : ByteArray)) := (blk_cell BK175.out 0).trans rfl
              have hcz43_1 : w26.cell? ⟨gb175, 1, none⟩ = some (.int .u8 0) := (blk_cell BK175.out 1).trans rfl
              have hcz43_2 : w26.cell? ⟨gb175, 2, none⟩ = some (.int .i64 0) := (blk_cell BK175.out 2).trans rfl
              have hcz43_3 : w26.cell? ⟨gb175, 3, none⟩ = some (.int .i64 0) := (blk_cell BK175.out 3).trans rfl
              have hfz43_0 := blk_frozen BK175.out 0
              have hfz43_1 := blk_frozen BK175.out 1
              have hfz43_2 := blk_frozen BK175.out 2
              have hfz43_3 := blk_frozen BK175.out 3
              go_wp2_with (first | (go_at_call 35; (with_reducible refine (rowlockref12_Name.calls k2 ((rd_T87 l0_1 x44_2).f0) true _ A29.out).mono ?_); rintro e w' ⟨rfl, ⟨nd, rfl⟩⟩; (try first | exact ⟨rfl, _, World.drewN_drewN _ _ _⟩ | exact ⟨rfl, _, Eq.trans (World.drewN_drewN _ _ _) (congrArg (World.drewN _) (Nat.add_assoc _ _ _))⟩)) | (go_at_call 95; (with_reducible refine (rowlockref12_number.calls ((rd_T87 l0_1 x44_2).f2) false _ A37.out).mono ?_); rintro e w' ⟨rfl, ⟨nd, rfl⟩⟩; (try first | exact ⟨rfl, _, World.drewN_drewN _ _ _⟩ | exact ⟨rfl, _, Eq.trans (World.drewN_drewN _ _ _) (congrArg (World.drewN _) (Nat.add_assoc _ _ _))⟩)))
              repeat (go_quiet (first | (go_at_call 35; (with_reducible refine (rowlockref12_Name.calls k2 ((rd_T87 l0_1 x44_2).f0) true _ A29.out).mono ?_); rintro e w' ⟨rfl, ⟨nd, rfl⟩⟩; (try first | exact ⟨rfl, _, World.drewN_drewN _ _ _⟩ | exact ⟨rfl, _, Eq.trans (World.drewN_drewN _ _ _) (congrArg (World.drewN _) (Nat.add_assoc _ _ _))⟩)) | (go_at_call 95; (with_reducible refine (rowlockref12_number.calls ((rd_T87 l0_1 x44_2).f2) false _ A37.out).mono ?_); rintro e w' ⟨rfl, ⟨nd, rfl⟩⟩; (try first | exact ⟨rfl, _, World.drewN_drewN _ _ _⟩ | exact ⟨rfl, _, Eq.trans (World.drewN_drewN _ _ _) (congrArg (World.drewN _) (Nat.add_assoc _ _ _))⟩))); try go_wp2_with (first | (go_at_call 35; (with_reducible refine (rowlockref12_Name.calls k2 ((rd_T87 l0_1 x44_2).f0) true _ A29.out).mono ?_); rintro e w' ⟨rfl, ⟨nd, rfl⟩⟩; (try first | exact ⟨rfl, _, World.drewN_drewN _ _ _⟩ | exact ⟨rfl, _, Eq.trans (World.drewN_drewN _ _ _) (congrArg (World.drewN _) (Nat.add_assoc _ _ _))⟩)) | (go_at_call 95; (with_reducible refine (rowlockref12_number.calls ((rd_T87 l0_1 x44_2).f2) false _ A37.out).mono ?_); rintro e w' ⟨rfl, ⟨nd, rfl⟩⟩; (try first | exact ⟨rfl, _, World.drewN_drewN _ _ _⟩ | exact ⟨rfl, _, Eq.trans (World.drewN_drewN _ _ _) (congrArg (World.drewN _) (Nat.add_assoc _ _ _))⟩))))
              go_meet
              case rel => exact ⟨_, (true), (by first | rfl | (simp; done) | (simp [*]; done)), H', ⟨by have := HJ1.out; have := HK2.out; first | omega | exact Nat.le_refl _⟩, ⟨by (with_reducible repeat (first | refine blk_drewN ?_ _ | refine blk_drew ?_ | refine blk_alloc ?_ _)); refine blk_far ?_ NB169_175.out _; (with_reducible repeat (first | refine blk_drewN ?_ _ | refine blk_drew ?_ | refine blk_alloc ?_ _)); refine blk_far ?_ NB169_175.out _; (with_reducible repeat (first | refine blk_drewN ?_ _ | refine blk_drew ?_ | refine blk_alloc ?_ _)); refine blk_far ?_ NB169_175.out _; (with_reducible repeat (first | refine blk_drewN ?_ _ | refine blk_drew ?_ | refine blk_alloc ?_ _)); refine blk_far ?_ NB169_175.out _; (with_reducible repeat (first | refine blk_drewN ?_ _ | refine blk_drew ?_ | refine blk_alloc ?_ _)); exact BK169.out⟩, ⟨by (with_reducible repeat (first | refine blk_drewN ?_ _ | refine blk_drew ?_ | refine blk_alloc ?_ _)); refine blk_put (cs := #[.string ((rd_T87 l0_1 x44_2).f0), .int .u8 ((rd_T87 l0_1 x44_2).f1), .int .i64 ((rd_T87 l0_1 x44_2).f2), .int .i64 0]) ?_ 3 _ rfl; (with_reducible repeat (first | refine blk_drewN ?_ _ | refine blk_drew ?_ | refine blk_alloc ?_ _)); refine blk_put (cs := #[.string ((rd_T87 l0_1 x44_2).f0), .int .u8 ((rd_T87 l0_1 x44_2).f1), .int .i64 0, .int .i64 0]) ?_ 2 _ rfl; (with_reducible repeat (first | refine blk_drewN ?_ _ | refine blk_drew ?_ | refine blk_alloc ?_ _)); refine blk_put (cs := #[.string ((rd_T87 l0_1 x44_2).f0), .int .u8 0, .int .i64 0, .int .i64 0]) ?_ 1 _ rfl; (with_reducible repeat (first | refine blk_drewN ?_ _ | refine blk_drew ?_ | refine blk_alloc ?_ _)); refine blk_put (cs := #[.string (⟨#[]⟩ : ByteArray), .int .u8 0, .int .i64 0, .int .i64 0]) ?_ 0 _ rfl; (with_reducible repeat (first | refine blk_drewN ?_ _ | refine blk_drew ?_ | refine blk_alloc ?_ _)); exact BK175.out⟩, ⟨by repeat (first | (with_reducible first | exact HB.out | apply below_alloc | apply pw_below_drewN | apply below_drew1 | refine below_set ?_ GE169.out | refine below_set ?_ GE175.out) | exact HB.out)⟩⟩
          ·replace c30 := Bool.eq_false_iff.mpr c30
           subst c30
           have H1 : (rowlockref12_table.j2 k2 x44_2 (l0_1.length : Int) x44_2 true a0_0 l0_1 a0_2 a0_3 a0_4 ((rd_T87 l0_1 x44_2).f0) ((rd_T87 l0_1 x44_2).f1) ((rd_T87 l0_1 x44_2).f2) ((rd_T87 l0_1 x44_2).f3)) = some r := by rw [if_neg (show ¬ (false = true) by decide)] at H; exact H
           clear H
           have H := H1
           clear H1
           have H' := Aside0.mk H
           clear H
           have hnb44 := NB175_169.out
           have hnc44 := NB169_175.out
           have hcz45_0 : w26.cell? ⟨gb175, 0, none⟩ = some (.string (⟨#[]⟩ : ByteArray)) := (blk_cell BK175.out 0).trans rfl
           have hcz45_1 : w26.cell? ⟨gb175, 1, none⟩ = some (.int .u8 0) := (blk_cell BK175.out 1).trans rfl
           have hcz45_2 : w26.cell? ⟨gb175, 2, none⟩ = some (.int .i64 0) := (blk_cell BK175.out 2).trans rfl
           have hcz45_3 : w26.cell? ⟨gb175, 3, none⟩ = some (.int .i64 0) := (blk_cell BK175.out 3).trans rfl
           have hfz45_0 := blk_frozen BK175.out 0
           have hfz45_1 := blk_frozen BK175.out 1
           have hfz45_2 := blk_frozen BK175.out 2
           have hfz45_3 := blk_frozen BK175.out 3
           go_wp2_with (first | (go_at_call 35; (with_reducible refine (rowlockref12_Name.calls k2 ((rd_T87 l0_1 x44_2).f0) false _ A29.out).mono ?_); rintro e w' ⟨rfl, ⟨nd, rfl⟩⟩; (try first | exact ⟨rfl, _, World.drewN_drewN _ _ _⟩ | exact ⟨rfl, _, Eq.trans (World.drewN_drewN _ _ _) (congrArg (World.drewN _) (Nat.add_assoc _ _ _))⟩)))
           repeat (go_quiet (first | (go_at_call 35; (with_reducible refine (rowlockref12_Name.calls k2 ((rd_T87 l0_1 x44_2).f0) false _ A29.out).mono ?_); rintro e w' ⟨rfl, ⟨nd, rfl⟩⟩; (try first | exact ⟨rfl, _, World.drewN_drewN _ _ _⟩ | exact ⟨rfl, _, Eq.trans (World.drewN_drewN _ _ _) (congrArg (World.drewN _) (Nat.add_assoc _ _ _))⟩))); try go_wp2_with (first | (go_at_call 35; (with_reducible refine (rowlockref12_Name.calls k2 ((rd_T87 l0_1 x44_2).f0) false _ A29.out).mono ?_); rintro e w' ⟨rfl, ⟨nd, rfl⟩⟩; (try first | exact ⟨rfl, _, World.drewN_drewN _ _ _⟩ | exact ⟨rfl, _, Eq.trans (World.drewN_drewN _ _ _) (congrArg (World.drewN _) (Nat.add_assoc _ _ _))⟩))))
           go_meet
           case rel => exact ⟨_, (true), (by first | rfl | (simp; done) | (simp [*]; done)), H', ⟨by have := HJ1.out; have := HK2.out; first | omega | exact Nat.le_refl _⟩, ⟨by (with_reducible repeat (first | refine blk_drewN ?_ _ | refine blk_drew ?_ | refine blk_alloc ?_ _)); refine blk_far ?_ NB169_175.out _; (with_reducible repeat (first | refine blk_drewN ?_ _ | refine blk_drew ?_ | refine blk_alloc ?_ _)); refine blk_far ?_ NB169_175.out _; (with_reducible repeat (first | refine blk_drewN ?_ _ | refine blk_drew ?_ | refine blk_alloc ?_ _)); refine blk_far ?_ NB169_175.out _; (with_reducible repeat (first | refine blk_drewN ?_ _ | refine blk_drew ?_ | refine blk_alloc ?_ _)); refine blk_far ?_ NB169_175.out _; (with_reducible repeat (first | refine blk_drewN ?_ _ | refine blk_drew ?_ | refine blk_alloc ?_ _)); exact BK169.out⟩, ⟨by (with_reducible repeat (first | refine blk_drewN ?_ _ | refine blk_drew ?_ | refine blk_alloc ?_ _)); refine blk_put (cs := #[.string ((rd_T87 l0_1 x44_2).f0), .int .u8 ((rd_T87 l0_1 x44_2).f1), .int .i64 ((rd_T87 l0_1 x44_2).f2), .int .i64 0]) ?_ 3 _ rfl; (with_reducible repeat (first | refine blk_drewN ?_ _ | refine blk_drew ?_ | refine blk_alloc ?_ _)); refine blk_put (cs := #[.string ((rd_T87 l0_1 x44_2).f0), .int .u8 ((rd_T87 l0_1 x44_2).f1), .int .i64 0, .int .i64 0]) ?_ 2 _ rfl; (with_reducible repeat (first | refine blk_drewN ?_ _ | refine blk_drew ?_ | refine blk_alloc ?_ _)); refine blk_put (cs := #[.string ((rd_T87 l0_1 x44_2).f0), .int .u8 0, .int .i64 0, .int .i64 0]) ?_ 1 _ rfl; (with_reducible repeat (first | refine blk_drewN ?_ _ | refine blk_drew ?_ | refine blk_alloc ?_ _)); refine blk_put (cs := #[.string (⟨#[]⟩ : ByteArray), .int .u8 0, .int .i64 0, .int .i64 0]) ?_ 0 _ rfl; (with_reducible repeat (first | refine blk_drewN ?_ _ | refine blk_drew ?_ | refine blk_alloc ?_ _)); exact BK175.out⟩, ⟨by repeat (first | (with_reducible first | exact HB.out | apply below_alloc | apply pw_below_drewN | apply below_drew1 | refine below_set ?_ GE169.out | refine below_set ?_ GE175.out) | exact HB.out)⟩⟩
         case rest =>
          clear HC24
          try clear c1
          try clear p1
          try clear q1
          try clear hx1
          try clear c2
          try clear p2
          try clear c3
          try clear c4
          try clear c5
          try clear c6
          try clear c6b0
          try clear c6b1
          try clear p6
          try clear c8
          try clear c8b0
          try clear c8b1
          try clear c11
          try clear c13
          try clear p17
          try clear q17
          try clear hx17
          try clear c19
          try clear c21
          try clear c21b0
          try clear c22
          try clear c22b0
          try clear c23
          try clear c23b0
          try clear c27
          try clear c30
          try clear c31
          try clear c31b0
          try clear c31b1
          try clear c32
          try clear c34
          try clear c34b0
          try clear c35
          try clear c38
          try clear c40
          try clear c42
          try clear c44
          try clear hcz15_0
          try clear hcz15_1
          try clear hcz15_2
          try clear hcz15_3
          try clear hcz15_4
          try clear hcz16_0
          try clear hcz16_1
          try clear hcz16_2
          try clear hcz16_3
          try clear hcz16_4
          try clear hcz17_0
          try clear hcz17_1
          try clear hcz17_2
          try clear hcz17_3
          try clear hcz17_4
          try clear hcz18_0
          try clear hcz18_1
          try clear hcz18_2
          try clear hcz18_3
          try clear hcz18_4
          try clear hcz20_0
          try clear hcz20_1
          try clear hcz20_2
          try clear hcz20_3
          try clear hcz20_4
          try clear hcz25_0
          try clear hcz25_1
          try clear hcz25_2
          try clear hcz25_3
          try clear hcz25_4
          try clear hcz28_0
          try clear hcz28_1
          try clear hcz28_2
          try clear hcz28_3
          try clear hcz33_0
          try clear hcz33_1
          try clear hcz33_2
          try clear hcz33_3
          try clear hcz36_0
          try clear hcz36_1
          try clear hcz36_2
          try clear hcz36_3
          try clear hcz41_0
          try clear hcz41_1
          try clear hcz41_2
          try clear hcz41_3
          try clear hcz43_0
          try clear hcz43_1
          try clear hcz43_2
          try clear hcz43_3
          try clear hcz45_0
          try clear hcz45_1
          try clear hcz45_2
          try clear hcz45_3
          try clear hcz7_0
          try clear hcz7_1
          try clear hcz7_2
          try clear hcz7_3
          try clear hcz7_4
          try clear hcz9_0
          try clear hcz9_1
          try clear hcz9_2
          try clear hcz9_3
          try clear hcz9_4
          try clear hfz15_0
          try clear hfz15_1
          try clear hfz15_2
          try clear hfz15_3
          try clear hfz15_4
          try clear hfz16_0
          try clear hfz16_1
          try clear hfz16_2
          try clear hfz16_3
          try clear hfz16_4
          try clear hfz17_0
          try clear hfz17_1
          try clear hfz17_2
          try clear hfz17_3
          try clear hfz17_4
          try clear hfz18_0
          try clear hfz18_1
          try clear hfz18_2
          try clear hfz18_3
          try clear hfz18_4
          try clear hfz20_0
          try clear hfz20_1
          try clear hfz20_2
          try clear hfz20_3
          try clear hfz20_4
          try clear hfz25_0
          try clear hfz25_1
          try clear hfz25_2
          try clear hfz25_3
          try clear hfz25_4
          try clear hfz28_0
          try clear hfz28_1
          try clear hfz28_2
          try clear hfz28_3
          try clear hfz33_0
          try clear hfz33_1
          try clear hfz33_2
          try clear hfz33_3
          try clear hfz36_0
          try clear hfz36_1
          try clear hfz36_2
          try clear hfz36_3
          try clear hfz41_0
          try clear hfz41_1
          try clear hfz41_2
          try clear hfz41_3
          try clear hfz43_0
          try clear hfz43_1
          try clear hfz43_2
          try clear hfz43_3
          try clear hfz45_0
          try clear hfz45_1
          try clear hfz45_2
          try clear hfz45_3
          try clear hfz7_0
          try clear hfz7_1
          try clear hfz7_2
          try clear hfz7_3
          try clear hfz7_4
          try clear hfz9_0
          try clear hfz9_1
          try clear hfz9_2
          try clear hfz9_3
          try clear hfz9_4
          try clear hx174_0
          try clear hx174_1
          try clear hx174_2
          try clear hx174_3
          try clear p174
          try clear p2
          try clear p6
          try clear q174
          obtain ⟨kq, x77_23, rfl, HA, HJ23, BK169, BK175, HB⟩ := hcut
          cases kq with
          | zero => exact absurd HA.out (by simp [rowlockref12_table.j2])
          | succ kj23 =>
           have H := HA.out
           clear HA
           simp only [rowlockref12_table.j2] at H
           by_cases c46 : x77_23 = true
           ·subst c46
            have H1 : (some false) = some r := by rw [if_pos rfl] at H; exact H
            clear H
            have H := H1
            clear H1
            obtain rfl := Option.some.inj H
            go_wp2
            repeat (go_quiet (fail); try go_wp2)
            go_ret
            exact ⟨by first | rfl | (simp [errW_none, errW_some] <;> rfl) | (simp [*, errW_none, errW_some] <;> rfl), by repeat (first | (with_reducible first | exact HB.out | apply below_alloc | apply pw_below_drewN | apply below_drew1 | refine below_set ?_ GE169.out | refine below_set ?_ GE175.out) | exact HB.out)⟩
           ·replace c46 := Bool.eq_false_iff.mpr c46
            subst c46
            have H1 : (rowlockref12_table.l1 kj23 x44_2 0 (l0_1.length : Int) x44_2 a0_0 l0_1 a0_2 a0_3 a0_4 ((rd_T87 l0_1 x44_2).f0) ((rd_T87 l0_1 x44_2).f1) ((rd_T87 l0_1 x44_2).f2) ((rd_T87 l0_1 x44_2).f3)) = some r := by rw [if_neg (show ¬ (false = true) by decide)] at H; exact H
            clear H
            have H := H1
            clear H1
            have H' := Aside0.mk H
            clear H
            go_wp2
            repeat (go_quiet (fail); try go_wp2)
            go_loopg [5] kj23 (fun kq v5 w' => ∃ (x5_4 : Int), v5 = .int .i64 x5_4 ∧ Aside0 (rowlockref12_table.l1 kq x44_2 x5_4 (l0_1.length : Int) x44_2 a0_0 l0_1 a0_2 a0_3 a0_4 ((rd_T87 l0_1 x44_2).f0) ((rd_T87 l0_1 x44_2).f1) ((rd_T87 l0_1 x44_2).f2) ((rd_T87 l0_1 x44_2).f3) = some r) ∧ Aside0 (kq ≤ kj23) ∧ Aside0 (w'.heap[gb169]? = some (.cells #[.string a0_0, (.slice (some ad174) l0_1.length c0_1), .int .u32 a0_2, .int .i64 a0_3, .int .i64 a0_4] 84 (0, 0))) ∧ Aside0 (w'.heap[gb175]? = some (.cells #[.string ((rd_T87 l0_1 x44_2).f0), .int .u8 ((rd_T87 l0_1 x44_2).f1), .int .i64 ((rd_T87 l0_1 x44_2).f2), .int .i64 ((rd_T87 l0_1 x44_2).f3)] 87 (0, 0))) ∧ Aside0 (Below w.heap.size w w'))
            case atStart => exact ⟨(0), (by first | rfl | (simp; done) | (simp [*]; done)), H', ⟨Nat.le_refl _⟩, ⟨by (with_reducible repeat (first | refine blk_drewN ?_ _ | refine blk_drew ?_ | refine blk_alloc ?_ _)); exact BK169.out⟩, ⟨by (with_reducible repeat (first | refine blk_drewN ?_ _ | refine blk_drew ?_ | refine blk_alloc ?_ _)); exact BK175.out⟩, ⟨by repeat (first | (with_reducible first | exact HB.out | apply below_alloc | apply pw_below_drewN | apply below_drew1 | refine below_set ?_ GE169.out | refine below_set ?_ GE175.out) | exact HB.out)⟩⟩
            case round =>
             clear H'
             try clear c1
             try clear p1
             try clear q1
             try clear hx1
             try clear c2
             try clear p2
             try clear c3
             try clear c4
             try clear c5
             try clear c6
             try clear c6b0
             try clear c6b1
             try clear p6
             try clear c8
             try clear c8b0
             try clear c8b1
             try clear c11
             try clear c13
             try clear p17
             try clear q17
             try clear hx17
             try clear c19
             try clear c21
             try clear c21b0
             try clear c22
             try clear c22b0
             try clear c23
             try clear c23b0
             try clear c27
             try clear c30
             try clear c31
             try clear c31b0
             try clear c31b1
             try clear c32
             try clear c34
             try clear c34b0
             try clear c35
             try clear c38
             try clear c40
             try clear c42
             try clear c44
             try clear c46
             try clear hcz15_0
             try clear hcz15_1
             try clear hcz15_2
             try clear hcz15_3
             try clear hcz15_4
             try clear hcz16_0
             try clear hcz16_1
             try clear hcz16_2
             try clear hcz16_3
             try clear hcz16_4
             try clear hcz17_0
             try clear hcz17_1
             try clear hcz17_2
             try clear hcz17_3
             try clear hcz17_4
             try clear hcz18_0
             try clear hcz18_1
             try clear hcz18_2
             try clear hcz18_3
             try clear hcz18_4
             try clear hcz20_0
             try clear hcz20_1
             try clear hcz20_2
             try clear hcz20_3
             try clear hcz20_4
             try clear hcz25_0
             try clear hcz25_1
             try clear hcz25_2
             try clear hcz25_3
             try clear hcz25_4
             try clear hcz28_0
             try clear hcz28_1
             try clear hcz28_2
             try clear hcz28_3
             try clear hcz33_0
             try clear hcz33_1
             try clear hcz33_2
             try clear hcz33_3
             try clear hcz36_0
             try clear hcz36_1
             try clear hcz36_2
             try clear hcz36_3
             try clear hcz41_0
             try clear hcz41_1
             try clear hcz41_2
             try clear hcz41_3
             try clear hcz43_0
             try clear hcz43_1
             try clear hcz43_2
             try clear hcz43_3
             try clear hcz45_0
             try clear hcz45_1
             try clear hcz45_2
             try clear hcz45_3
             try clear hcz7_0
             try clear hcz7_1
             try clear hcz7_2
             try clear hcz7_3
             try clear hcz7_4
             try clear hcz9_0
             try clear hcz9_1
             try clear hcz9_2
             try clear hcz9_3
             try clear hcz9_4
             try clear hfz15_0
             try clear hfz15_1
             try clear hfz15_2
             try clear hfz15_3
             try clear hfz15_4
             try clear hfz16_0
             try clear hfz16_1
             try clear hfz16_2
             try clear hfz16_3
             try clear hfz16_4
             try clear hfz17_0
             try clear hfz17_1
             try clear hfz17_2
             try clear hfz17_3
             try clear hfz17_4
             try clear hfz18_0
             try clear hfz18_1
             try clear hfz18_2
             try clear hfz18_3
             try clear hfz18_4
             try clear hfz20_0
             try clear hfz20_1
             try clear hfz20_2
             try clear hfz20_3
             try clear hfz20_4
             try clear hfz25_0
             try clear hfz25_1
             try clear hfz25_2
             try clear hfz25_3
             try clear hfz25_4
             try clear hfz28_0
             try clear hfz28_1
             try clear hfz28_2
             try clear hfz28_3
             try clear hfz33_0
             try clear hfz33_1
             try clear hfz33_2
             try clear hfz33_3
             try clear hfz36_0
             try clear hfz36_1
             try clear hfz36_2
             try clear hfz36_3
             try clear hfz41_0
             try clear hfz41_1
             try clear hfz41_2
             try clear hfz41_3
             try clear hfz43_0
             try clear hfz43_1
             try clear hfz43_2
             try clear hfz43_3
             try clear hfz45_0
             try clear hfz45_1
             try clear hfz45_2
             try clear hfz45_3
             try clear hfz7_0
             try clear hfz7_1
             try clear hfz7_2
             try clear hfz7_3
             try clear hfz7_4
             try clear hfz9_0
             try clear hfz9_1
             try clear hfz9_2
             try clear hfz9_3
             try clear hfz9_4
             try clear hx174_0
             try clear hx174_1
             try clear hx174_2
             try clear hx174_3
             try clear p1
             try clear p17
             try clear p174
             try clear p2
             try clear p6
             try clear q1
             try clear q17
             try clear q174
             obtain ⟨x5_4, rfl, HA, HK4, BK169, BK175, HB⟩ := hrel
             cases gk with
             | zero => exact absurd HA.out (by simp [rowlockref12_table.l1])
             | succ k4 =>
              have H := HA.out
              clear HA
              simp only [rowlockref12_table.l1] at H
              by_cases c47 : x5_4 < x44_2
              ·rw [if_pos c47] at H
               have c47b0 : decide (x5_4 < x44_2) = true := decide_eq_true c47
               clear c47
               by_cases c48 : 0 ≤ x5_4
               ·rw [if_pos c48] at H
                have c48b0 : decide (0 ≤ x5_4) = true := decide_eq_true c48
                clear c48
                by_cases c49 : x5_4 < (l0_1.length : Int)
                ·rw [if_pos c49] at H
                 have c49b0 : decide (x5_4 < (l0_1.length : Int)) = true := decide_eq_true c49
                 clear c49
                 by_cases c50 : ((rd_T87 l0_1 x5_4).f0).toList = ((rd_T87 l0_1 x44_2).f0).toList
                 ·rw [if_pos c50] at H
                  have c50b0 : (((rd_T87 l0_1 x5_4).f0).toList == ((rd_T87 l0_1 x44_2).f0).toList) = true := beq_iff_eq.mpr c50
                  have c50b1 : (((rd_T87 l0_1 x5_4).f0).toList != ((rd_T87 l0_1 x44_2).f0).toList) = false := bne_eq_false_iff_eq.mpr c50
                  clear c50
                  obtain rfl := Option.some.inj H
                  have hnb51 := NB169_175.out
                  have hnc51 := NB175_169.out
                  have hcz52_0 : wr.cell? ⟨gb169, 0, none⟩ = some (.string a0_0) := (blk_cell BK169.out 0).trans rfl
                  have hcz52_1 : wr.cell? ⟨gb169, 1, none⟩ = some (.slice (some ad174) l0_1.length c0_1) := (blk_cell BK169.out 1).trans rfl
                  have hcz52_2 : wr.cell? ⟨gb169, 2, none⟩ = some (.int .u32 a0_2) := (blk_cell BK169.out 2).trans rfl
                  have hcz52_3 : wr.cell? ⟨gb169, 3, none⟩ = some (.int .i64 a0_3) := (blk_cell BK169.out 3).trans rfl
                  have hcz52_4 : wr.cell? ⟨gb169, 4, none⟩ = some (.int .i64 a0_4) := (blk_cell BK169.out 4).trans rfl
                  have hfz52_0 := blk_frozen BK169.out 0
                  have hfz52_1 := blk_frozen BK169.out 1
                  have hfz52_2 := blk_frozen BK169.out 2
                  have hfz52_3 := blk_frozen BK169.out 3
                  have hfz52_4 := blk_frozen BK169.out 4
                  have p179 : 0 ≤ (x5_4 : Int) := of_decide_eq_true (by first | (with_reducible assumption) | assumption)
                  have q179 : x5_4 < (l0_1.length : Int) := of_decide_eq_true (by first | (with_reducible assumption) | assumption)
                  obtain ⟨ad179, e179, hx179_0, hx179_1, hx179_2, hx179_3⟩ := at_T87 HR0_1.out x5_4 p179 q179
                  obtain rfl : ad174 = ad179 := (by injection e179)
                  replace hx179_0 := (HB.out.cell (World.block_lt_of_cell? w _ hx179_0)).trans hx179_0
                  replace hx179_1 := (HB.out.cell (World.block_lt_of_cell? w _ hx179_1)).trans hx179_1
                  replace hx179_2 := (HB.out.cell (World.block_lt_of_cell? w _ hx179_2)).trans hx179_2
                  replace hx179_3 := (HB.out.cell (World.block_lt_of_cell? w _ hx179_3)).trans hx179_3
                  replace p179 := eq_true p179
                  have p179D := p179; try simp only [List.length_drop, List.length_take] at p179D
                  replace q179 := eq_true q179
                  have q179D := q179; try simp only [List.length_drop, List.length_take] at q179D
                  have hcz53_0 : wr.cell? ⟨gb175, 0, none⟩ = some (.string ((rd_T87 l0_1 x44_2).f0)) := (blk_cell BK175.out 0).trans rfl
                  have hcz53_1 : wr.cell? ⟨gb175, 1, none⟩ = some (.int .u8 ((rd_T87 l0_1 x44_2).f1)) := (blk_cell BK175.out 1).trans rfl
                  have hcz53_2 : wr.cell? ⟨gb175, 2, none⟩ = some (.int .i64 ((rd_T87 l0_1 x44_2).f2)) := (blk_cell BK175.out 2).trans rfl
                  have hcz53_3 : wr.cell? ⟨gb175, 3, none⟩ = some (.int .i64 ((rd_T87 l0_1 x44_2).f3)) := (blk_cell BK175.out 3).trans rfl
                  have hfz53_0 := blk_frozen BK175.out 0
                  have hfz53_1 := blk_frozen BK175.out 1
                  have hfz53_2 := blk_frozen BK175.out 2
                  have hfz53_3 := blk_frozen BK175.out 3
                  go_wp2
                  repeat (go_quiet (fail); try go_wp2)
                  go_ret
                  exact ⟨by first | rfl | (simp [errW_none, errW_some] <;> rfl) | (simp [*, errW_none, errW_some] <;> rfl), by repeat (first | (with_reducible first | exact HB.out | apply below_alloc | apply pw_below_drewN | apply below_drew1 | refine below_set ?_ GE169.out | refine below_set ?_ GE175.out) | exact HB.out)⟩
                 ·rw [if_neg c50] at H
                  have c50b0 : (((rd_T87 l0_1 x5_4).f0).toList == ((rd_T87 l0_1 x44_2).f0).toList) = false := beq_eq_false_iff_ne.mpr c50
                  have c50b1 : (((rd_T87 l0_1 x5_4).f0).toList != ((rd_T87 l0_1 x44_2).f0).toList) = true := bne_iff_ne.mpr c50
                  have H' := Aside0.mk H
                  clear H
                  have hnb54 := NB169_175.out
                  have hnc54 := NB175_169.out
                  have hcz55_0 : wr.cell? ⟨gb169, 0, none⟩ = some (.string a0_0) := (blk_cell BK169.out 0).trans rfl
                  have hcz55_1 : wr.cell? ⟨gb169, 1, none⟩ = some (.slice (some ad174) l0_1.length c0_1) := (blk_cell BK169.out 1).trans rfl
                  have hcz55_2 : wr.cell? ⟨gb169, 2, none⟩ = some (.int .u32 a0_2) := (blk_cell BK169.out 2).trans rfl
                  have hcz55_3 : wr.cell? ⟨gb169, 3, none⟩ = some (.int .i64 a0_3) := (blk_cell BK169.out 3).trans rfl
                  have hcz55_4 : wr.cell? ⟨gb169, 4, none⟩ = some (.int .i64 a0_4) := (blk_cell BK169.out 4).trans rfl
                  have hfz55_0 := blk_frozen BK169.out 0
                  have hfz55_1 := blk_frozen BK169.out 1
                  have hfz55_2 := blk_frozen BK169.out 2
                  have hfz55_3 := blk_frozen BK169.out 3
                  have hfz55_4 := blk_frozen BK169.out 4
                  have p179 : 0 ≤ (x5_4 : Int) := of_decide_eq_true (by first | (with_reducible assumption) | assumption)
                  have q179 : x5_4 < (l0_1.length : Int) := of_decide_eq_true (by first | (with_reducible assumption) | assumption)
                  obtain ⟨ad179, e179, hx179_0, hx179_1, hx179_2, hx179_3⟩ := at_T87 HR0_1.out x5_4 p179 q179
                  obtain rfl : ad174 = ad179 := (by injection e179)
                  replace hx179_0 := (HB.out.cell (World.block_lt_of_cell? w _ hx179_0)).trans hx179_0
                  replace hx179_1 := (HB.out.cell (World.block_lt_of_cell? w _ hx179_1)).trans hx179_1
                  replace hx179_2 := (HB.out.cell (World.block_lt_of_cell? w _ hx179_2)).trans hx179_2
                  replace hx179_3 := (HB.out.cell (World.block_lt_of_cell? w _ hx179_3)).trans hx179_3
                  replace p179 := eq_true p179
                  have p179D := p179; try simp only [List.length_drop, List.length_take] at p179D
                  replace q179 := eq_true q179
                  have q179D := q179; try simp only [List.length_drop, List.length_take] at q179D
                  have hcz56_0 : wr.cell? ⟨gb175, 0, none⟩ = some (.string ((rd_T87 l0_1 x44_2).f0)) := (blk_cell BK175.out 0).trans rfl
                  have hcz56_1 : wr.cell? ⟨gb175, 1, none⟩ = some (.int .u8 ((rd_T87 l0_1 x44_2).f1)) := (blk_cell BK175.out 1).trans rfl
                  have hcz56_2 : wr.cell? ⟨gb175, 2, none⟩ = some (.int .i64 ((rd_T87 l0_1 x44_2).f2)) := (blk_cell BK175.out 2).trans rfl
                  have hcz56_3 : wr.cell? ⟨gb175, 3, none⟩ = some (.int .i64 ((rd_T87 l0_1 x44_2).f3)) := (blk_cell BK175.out 3).trans rfl
                  have hfz56_0 := blk_frozen BK175.out 0
                  have hfz56_1 := blk_frozen BK175.out 1
                  have hfz56_2 := blk_frozen BK175.out 2
                  have hfz56_3 := blk_frozen BK175.out 3
                  go_wp2
                  repeat (go_quiet (fail); try go_wp2)
                  go_roundg k4
                  case measure => have := HJ1.out; have := HK2.out; have := HJ23.out; have := HK4.out; omega
                  case rel => exact ⟨(wrap64 (x5_4 + 1)), (by first | rfl | (simp; done) | (simp [*]; done)), H', ⟨by have := HJ1.out; have := HK2.out; have := HJ23.out; have := HK4.out; omega⟩, ⟨by (with_reducible repeat (first | refine blk_drewN ?_ _ | refine blk_drew ?_ | refine blk_alloc ?_ _)); exact BK169.out⟩, ⟨by (with_reducible repeat (first | refine blk_drewN ?_ _ | refine blk_drew ?_ | refine blk_alloc ?_ _)); exact BK175.out⟩, ⟨by repeat (first | (with_reducible first | exact HB.out | apply below_alloc | apply pw_below_drewN | apply below_drew1 | refine below_set ?_ GE169.out | refine below_set ?_ GE175.out) | exact HB.out)⟩⟩
                ·rw [if_neg c49] at H
                 exact absurd H (by simp)
               ·rw [if_neg c48] at H
                exact absurd H (by simp)
              ·rw [if_neg c47] at H
               have c47b0 : decide (x5_4 < x44_2) = false := decide_eq_false c47
               clear c47
               have H' := Aside0.mk H
               clear H
               go_wp2
               repeat (go_quiet (fail); try go_wp2)
               go_roundg k4
               case measure => have := HJ1.out; have := HK2.out; have := HJ23.out; have := HK4.out; omega
               case rel => exact ⟨(wrap64 (x44_2 + 1)), (by first | rfl | (simp; done) | (simp [*]; done)), H', ⟨by have := HJ1.out; have := HK2.out; have := HJ23.out; have := HK4.out; omega⟩, ⟨by (with_reducible repeat (first | refine blk_drewN ?_ _ | refine blk_drew ?_ | refine blk_alloc ?_ _)); exact BK169.out⟩, ⟨by repeat (first | (with_reducible first | exact HB.out | apply below_alloc | apply pw_below_drewN | apply below_drew1 | refine below_set ?_ GE169.out | refine below_set ?_ GE175.out) | exact HB.out)⟩⟩
        ·rw [if_neg c23] at H
         exact absurd H (by simp)
       ·rw [if_neg c22] at H
        exact absurd H (by simp)
      ·rw [if_neg c21] at H
       have c21b0 : decide (x44_2 < (l0_1.length : Int)) = false := decide_eq_false c21
       clear c21
       obtain rfl := Option.some.inj H
       go_wp2
       repeat (go_quiet (fail); try go_wp2)
       go_ret
       exact ⟨by first | rfl | (simp [errW_none, errW_some] <;> rfl) | (simp [*, errW_none, errW_some] <;> rfl), by repeat (first | (with_reducible first | exact HB.out | apply below_alloc | apply pw_below_drewN | apply below_drew1 | refine below_set ?_ GE169.out) | exact HB.out)⟩

end Go.Proofs.Ytpfegfkniilobaa.XSchema
