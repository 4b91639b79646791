-- Written by this session's own program (wip/own_print.py) over the kit's print, with this session's hand-proved contracts in their places; Lean checks it.
import Derived.Test.YtihmkdjambdfjaaXLeafx0
import Derived.Test.YtihmkdjambdfjaaXLeafx3
import Derived.Test.YtihmkdjambdfjaaXLeafx4
import Derived.Test.YtihmkdjambdfjaaXLeafx5
namespace Go.Proofs.Ytihmkdjambdfjaa.XLeaf
open Go.RowKit Go.Proofs.YtihmkdjambdfjaaW.PrintWords Go.Proofs.YtihmkdjambdfjaaW.PrintLast Go.Proofs.YtihmkdjambdfjaaW.PrintMore
attribute [local go_sem] max2_int min2_int max_two min_two max_three min_three max_four min_four   -- for this text's walks alone
set_option linter.unusedVariables false
set_option linter.unusedSimpArgs false

/-! ### rowlockref06_Head: function 70 -/
def rowlockref06_Head.f (k : Nat) (a0_0 : Int) (a0_1 : Int) (a0_2 : Int) : Option (ByteArray) := (some (([a0_0, 0] : List Int) : List Int)).bind fun y190 => ((rowlockref06_Number.f k (IntKind.u64.wrap (a0_1)) 2).bind fun t193 => (if (strOfNums y190).size + t193.size ≤ 9223372036854775807 then ((rowlockref06_Number.f k (IntKind.u64.wrap (a0_2)) 4).bind fun t194 => (if ((strOfNums y190) ++ t193).size + t194.size ≤ 9223372036854775807 then ((rowlockref06_zeros.f 504).bind fun t195 => (if (((strOfNums y190) ++ t193) ++ t194).size + t195.size ≤ 9223372036854775807 then (some ((((strOfNums y190) ++ t193) ++ t194) ++ t195)) else (none))) else (none))) else (none)))
theorem rowlockref06_Head.mono : ∀ a0 a1 a2 k, LeO (rowlockref06_Head.f k a0 a1 a2) (rowlockref06_Head.f (k + 1) a0 a1 a2) := by
 intro a0 a1 a2 k
 unfold rowlockref06_Head.f
 repeat' first
   | (with_reducible exact rowlockref06_Number.mono _ _ _)
   | (with_reducible exact LeO.refl _)
   | (with_reducible exact LeO.none _)
   | (with_reducible refine LeO.ite ?_ ?_)
   | (with_reducible refine LeO.bind ?_ (fun _ => ?_))
   | exact rowlockref06_Number.mono _ _ _
   | exact LeO.none _
   | refine LeO.ite ?_ ?_
   | refine LeO.bind ?_ (fun _ => ?_)
def rowlockref06_Head.T1 : Bool × List (List Nat × List Nat) := (true, [([], []), ([0], [0]), ([1], [1]), ([2], [2]), ([], []), ([4], [4]), ([5], [5]), ([6], [6]), ([3, 7], [3, 7]), ([], []), ([9], [9]), ([10], [10]), ([11, 7], [11]), ([8, 12], [8, 12]), ([13, 12, 0, 1, 2, 3, 4, 5, 6, 7, 8, 9, 10, 11, 12, 13], [13])])
def rowlockref06_Head.B1 : List Nat := [0, 1, 3, 7, 0, 16, 48, 112, 255, 0, 512, 1536, 3824, 8191, 16383]
theorem rowlockref06_Head.tab1 : rtab .any (opsOf Try.f70 1) = rowlockref06_Head.T1 := by kernel_rfl
theorem rowlockref06_Head.bits1 : waitsOk rowlockref06_Head.T1.2 rowlockref06_Head.B1 = true := by kernel_rfl
set_option maxHeartbeats 8000000 in
set_option maxRecDepth 100000 in
theorem rowlockref06_Head.calls (k : Nat) (a0_0 : Int) (a0_1 : Int) (a0_2 : Int) (r : ByteArray) (w : World) (h : rowlockref06_Head.f k a0_0 a0_1 a0_2 = some r) :
  Calls Try.prog 70 #[.agg #[.int .u8 a0_0, .int .u16 a0_1, .int .u32 a0_2]] w fun e w' => e = .returned (.string r) ∧ Below w.heap.size w w' := by
 have hu76 := Try.underlying76
 have HB := Aside0.mk (Below.refl w.heap.size w)
 have H : ((some (([a0_0, 0] : List Int) : List Int)).bind fun y190 => ((rowlockref06_Number.f k (IntKind.u64.wrap (a0_1)) 2).bind fun t193 => (if (strOfNums y190).size + t193.size ≤ 9223372036854775807 then ((rowlockref06_Number.f k (IntKind.u64.wrap (a0_2)) 4).bind fun t194 => (if ((strOfNums y190) ++ t193).size + t194.size ≤ 9223372036854775807 then ((rowlockref06_zeros.f 504).bind fun t195 => (if (((strOfNums y190) ++ t193) ++ t194).size + t195.size ≤ 9223372036854775807 then (some ((((strOfNums y190) ++ t193) ++ t194) ++ t195)) else (none))) else (none))) else (none)))) = some r := h
 clear h
 obtain ⟨y190, hy190⟩ : ∃ y_ : List Int, y_ = (([a0_0, 0] : List Int)) := ⟨_, rfl⟩
 replace H : ((rowlockref06_Number.f k (IntKind.u64.wrap (a0_1)) 2).bind fun t193 => (if (strOfNums y190).size + t193.size ≤ 9223372036854775807 then ((rowlockref06_Number.f k (IntKind.u64.wrap (a0_2)) 4).bind fun t194 => (if ((strOfNums y190) ++ t193).size + t194.size ≤ 9223372036854775807 then ((rowlockref06_zeros.f 504).bind fun t195 => (if (((strOfNums y190) ++ t193) ++ t194).size + t195.size ≤ 9223372036854775807 then (some ((((strOfNums y190) ++ t193) ++ t194) ++ t195)) else (none))) else (none))) else (none))) = some r := by first | (rw [hy190]; with_reducible exact H) | (have H2_ := (Option.bind_some _ _).symm.trans H; rw [hy190]; with_reducible exact H2_) | (have H2_ := (Option.bind_some _ _).symm.trans H; with_reducible exact H2_) | with_reducible exact H | (rw [hy190]; exact H) | exact H
 have Ny190 := Aside0.mk hy190
 clear hy190
 replace H := Option.bind_eq_some_iff.mp H
 obtain ⟨t193, A20, H⟩ := H
 replace H : (if (strOfNums y190).size + t193.size ≤ 9223372036854775807 then ((rowlockref06_Number.f k (IntKind.u64.wrap (a0_2)) 4).bind fun t194 => (if ((strOfNums y190) ++ t193).size + t194.size ≤ 9223372036854775807 then ((rowlockref06_zeros.f 504).bind fun t195 => (if (((strOfNums y190) ++ t193) ++ t194).size + t195.size ≤ 9223372036854775807 then (some ((((strOfNums y190) ++ t193) ++ t194) ++ t195)) else (none))) else (none))) else (none)) = some r := H
 have A2 := Aside0.mk A20
 clear A20
 by_cases c3 : (strOfNums y190).size + t193.size ≤ 9223372036854775807
 ·rw [if_pos c3] at H
  have c3b0 := eq_true c3
  have c3b1 : decide ((strOfNums y190).size + t193.size ≤ 9223372036854775807) = true := decide_eq_true c3
  try have c3b2 : (9223372036854775807 < (strOfNums y190).size + t193.size) = False := eq_false (Nat.not_lt.2 c3)
  replace H := Option.bind_eq_some_iff.mp H
  obtain ⟨t194, A40, H⟩ := H
  replace H : (if ((strOfNums y190) ++ t193).size + t194.size ≤ 9223372036854775807 then ((rowlockref06_zeros.f 504).bind fun t195 => (if (((strOfNums y190) ++ t193) ++ t194).size + t195.size ≤ 9223372036854775807 then (some ((((strOfNums y190) ++ t193) ++ t194) ++ t195)) else (none))) else (none)) = some r := H
  have A4 := Aside0.mk A40
  clear A40
  by_cases c5 : ((strOfNums y190) ++ t193).size + t194.size ≤ 9223372036854775807
  ·rw [if_pos c5] at H
   have c5b0 := eq_true c5
   have c5b1 : decide (((strOfNums y190) ++ t193).size + t194.size ≤ 9223372036854775807) = true := decide_eq_true c5
   try have c5b2 : (9223372036854775807 < ((strOfNums y190) ++ t193).size + t194.size) = False := eq_false (Nat.not_lt.2 c5)
   try have c5b3 := c5b2
   try simp only [ByteArray.size_append] at c5b3
   replace H := Option.bind_eq_some_iff.mp H
   obtain ⟨t195, A60, H⟩ := H
   replace H : (if (((strOfNums y190) ++ t193) ++ t194).size + t195.size ≤ 9223372036854775807 then (some ((((strOfNums y190) ++ t193) ++ t194) ++ t195)) else (none)) = some r := H
   have A6 := Aside0.mk A60
   clear A60
   by_cases c7 : (((strOfNums y190) ++ t193) ++ t194).size + t195.size ≤ 9223372036854775807
   ·rw [if_pos c7] at H
    have c7b0 := eq_true c7
    have c7b1 : decide ((((strOfNums y190) ++ t193) ++ t194).size + t195.size ≤ 9223372036854775807) = true := decide_eq_true c7
    try have c7b2 : (9223372036854775807 < (((strOfNums y190) ++ t193) ++ t194).size + t195.size) = False := eq_false (Nat.not_lt.2 c7)
    try have c7b3 := c7b2
    try simp only [ByteArray.size_append] at c7b3
    obtain rfl := Option.some.inj H
    go_enter Try.func70, Try.ntmps70
    try go_wp2_with (first | ((with_reducible refine gate_dst (N := 1) rfl ?_); refine box_event ?hg (N := 1) ?hd (cs := #[.int .u8 a0_0, .int .u16 a0_1, .int .u32 a0_2]) (t := 76) ?hr ?_; (case hd => rfl); (case hg => rfl); (case hr => first | (go_simp; done) | (go_simp; rfl)); intro gb189 hg w8 hbox hb; have n0_ := Aside0.mk (below_step (by repeat (first | (with_reducible first | exact HB.out | apply below_alloc | apply pw_below_drewN | apply below_drew1) | exact HB.out)) hb); have n1_ := Aside0.mk (hbox); have n2_ := Aside0.mk ((by rw [hg]; exact (below_size (by repeat (first | (with_reducible first | exact HB.out | apply below_alloc | apply pw_below_drewN | apply below_drew1) | exact HB.out))) : w.heap.size ≤ gb189)); have n3_ := Aside0.mk ((by rw [hg]; exact (below_size (by repeat (first | (with_reducible first | exact HB.out | apply below_alloc | apply pw_below_drewN | apply below_drew1) | exact HB.out))) : w.heap.size ≤ gb189)); clear HB; have HB := n0_; have BK189 := n1_; have GW189 := n2_; have GE189 := n3_; clear n0_ n1_ n2_ n3_; clear hb hbox hg))
    have n0_ := Aside0.mk (blk_drew BK189.out)
    have n1_ := Aside0.mk (below_drew1 HB.out)
    clear BK189
    clear HB
    have BK189 := n0_
    have HB := n1_
    clear n0_ n1_
    refine start_ (n := 15) (S := fun w' => w'.cell? ⟨gb189, 0, none⟩ = some (.int .u8 a0_0) ∧ w'.cell? ⟨gb189, 1, none⟩ = some (.int .u16 a0_1) ∧ w'.cell? ⟨gb189, 2, none⟩ = some (.int .u32 a0_2)) (ds := []) #[false, false, false, false, false, false, false, false, false, false, false, false, false, false, false] (by kernel_rfl) rfl rfl ⟨(blk_cell BK189.out 0).trans rfl, (blk_cell BK189.out 1).trans rfl, (blk_cell BK189.out 2).trans rfl⟩ (fun hHeld => ?_); refine with_tabW rowlockref06_Head.tab1 rowlockref06_Head.bits1 (fun HT_ HW_ => ?_)
    generalize w8.drew = w9 at BK189 HB hHeld ⊢
    refine pure_ (i := 0) (N := some 4) (v := ?_) (a' := ?_) #[true, false, false, false, false, false, false, false, false, false, false, false, false, false, false] rfl rfl (any_of HT_.out (by kernel_rfl)) (fun _ _ _ h => h) (Or.inl ⟨by rfl, ?_⟩) ?_ ?_
    rotate_left
    ·intro w'
     go_simp
     with_reducible rfl
    rotate_left
    ·simp only [Act.put, List.setIfInBounds_toArray, List.set_cons_zero, List.set_cons_succ, i64_w, i32_w]
     rfl
    refine pure_ (i := 4) (N := some 8) (v := ?_) (a' := ?_) #[true, false, false, false, true, false, false, false, false, false, false, false, false, false, false] rfl rfl (any_of HT_.out (by kernel_rfl)) (fun _ _ _ h => h) (Or.inl ⟨by rfl, ?_⟩) ?_ ?_
    rotate_left
    ·intro w'
     go_simp
     with_reducible rfl
    rotate_left
    ·simp only [Act.put, List.setIfInBounds_toArray, List.set_cons_zero, List.set_cons_succ, i64_w, i32_w]
     rfl
    refine pure_ (i := 9) (N := some 13) (v := ?_) (a' := ?_) #[true, false, false, false, true, false, false, false, false, true, false, false, false, false, false] rfl rfl (any_of HT_.out (by kernel_rfl)) (fun _ _ _ h => h) (Or.inl ⟨by rfl, ?_⟩) ?_ ?_
    rotate_left
    ·intro w'
     go_simp
     with_reducible rfl
    rotate_left
    ·simp only [Act.put, List.setIfInBounds_toArray, List.set_cons_zero, List.set_cons_succ, i64_w, i32_w]
     rfl
    refine take_ (i := 1) (N := some 5) (v := ?_) (a' := ?_) #[true, true, false, false, true, false, false, false, false, true, false, false, false, false, false] rfl rfl (take_ofW HT_.out HW_.out (by kernel_rfl)) (fun _ _ _ h => h) (Or.inl ⟨by rfl, ?_⟩) hHeld ?_ ?_
    rotate_left
    ·rintro w' ⟨s0, s1, s2⟩
     go_simp
     with_reducible rfl
    rotate_left
    ·simp only [Act.put, List.setIfInBounds_toArray, List.set_cons_zero, List.set_cons_succ, i64_w, i32_w]
     rfl
    refine take_ (i := 5) (N := some 9) (v := ?_) (a' := ?_) #[true, true, false, false, true, true, false, false, false, true, false, false, false, false, false] rfl rfl (take_ofW HT_.out HW_.out (by kernel_rfl)) (fun _ _ _ h => h) (Or.inl ⟨by rfl, ?_⟩) hHeld ?_ ?_
    rotate_left
    ·rintro w' ⟨s0, s1, s2⟩
     go_simp
     with_reducible rfl
    rotate_left
    ·simp only [Act.put, List.setIfInBounds_toArray, List.set_cons_zero, List.set_cons_succ, i64_w, i32_w]
     rfl
    refine pure_ (i := 6) (N := some 10) (v := ?_) (a' := ?_) #[true, true, false, false, true, true, true, false, false, true, false, false, false, false, false] rfl rfl (any_of HT_.out (by kernel_rfl)) (fun _ _ _ h => h) (Or.inl ⟨by rfl, ?_⟩) ?_ ?_
    rotate_left
    ·intro w'
     go_simp
     with_reducible rfl
    rotate_left
    ·simp only [Act.put, List.setIfInBounds_toArray, List.set_cons_zero, List.set_cons_succ, i64_w, i32_w]
     rfl
    refine take_ (i := 10) (N := some 14) (v := ?_) (a' := ?_) #[true, true, false, false, true, true, true, false, false, true, true, false, false, false, false] rfl rfl (take_ofW HT_.out HW_.out (by kernel_rfl)) (fun _ _ _ h => h) (Or.inl ⟨by rfl, ?_⟩) hHeld ?_ ?_
    rotate_left
    ·rintro w' ⟨s0, s1, s2⟩
     go_simp
     with_reducible rfl
    rotate_left
    ·simp only [Act.put, List.setIfInBounds_toArray, List.set_cons_zero, List.set_cons_succ, i64_w, i32_w]
     rfl
    refine pure_ (i := 11) (N := some 15) (v := ?_) (a' := ?_) #[true, true, false, false, true, true, true, false, false, true, true, true, false, false, false] rfl rfl (any_of HT_.out (by kernel_rfl)) (fun _ _ _ h => h) (Or.inl ⟨by rfl, ?_⟩) ?_ ?_
    rotate_left
    ·intro w'
     go_simp
     with_reducible rfl
    rotate_left
    ·simp only [Act.put, List.setIfInBounds_toArray, List.set_cons_zero, List.set_cons_succ, i64_w, i32_w]
     rfl
    refine join_ (σ := Value) 2 #[true, true, true, true, true, true, true, true, true, true, true, true, true, false, false] (fun s_ => [(6, s_), (7, .string (strOfNums y190)), (11, .string t193), (16, .string t194), (12, .string ((strOfNums y190) ++ t193))]) (fun s_ w' => (w'.cell? ⟨gb189, 0, none⟩ = some (.int .u8 a0_0) ∧ w'.cell? ⟨gb189, 1, none⟩ = some (.int .u16 a0_1) ∧ w'.cell? ⟨gb189, 2, none⟩ = some (.int .u32 a0_2)) ∧ (Kd.R (Kd.int .u8) 5 w' w.heap.size (fun _ => True) s_ y190) ∧ (w'.heap[gb189]? = some (.cells #[.int .u8 a0_0, .int .u16 a0_1, .int .u32 a0_2] 76 (0, 0))) ∧ (Below w.heap.size w w')) ?_ ?_
    rotate_left
    ·intro hJ2_3_7_12
     refine join_ (σ := Value) 3 #[true, true, true, true, true, true, true, true, true, true, true, true, false, false, false] (fun s_ => [(6, s_), (7, .string (strOfNums y190)), (11, .string t193), (12, .string ((strOfNums y190) ++ t193))]) (fun s_ w' => (w'.cell? ⟨gb189, 0, none⟩ = some (.int .u8 a0_0) ∧ w'.cell? ⟨gb189, 1, none⟩ = some (.int .u16 a0_1) ∧ w'.cell? ⟨gb189, 2, none⟩ = some (.int .u32 a0_2)) ∧ (Kd.R (Kd.int .u8) 5 w' w.heap.size (fun _ => True) s_ y190) ∧ (w'.heap[gb189]? = some (.cells #[.int .u8 a0_0, .int .u16 a0_1, .int .u32 a0_2] 76 (0, 0))) ∧ (Below w.heap.size w w')) ?_ ?_
     rotate_left
     ·intro hJ2_3_7
      refine join_ (σ := Value) 4 #[true, true, true, false, true, true, true, true, false, true, true, true, true, false, false] (fun s_ => [(6, s_), (11, .string t193), (16, .string t194)]) (fun s_ w' => (w'.cell? ⟨gb189, 0, none⟩ = some (.int .u8 a0_0) ∧ w'.cell? ⟨gb189, 1, none⟩ = some (.int .u16 a0_1) ∧ w'.cell? ⟨gb189, 2, none⟩ = some (.int .u32 a0_2)) ∧ (Kd.R (Kd.int .u8) 5 w' w.heap.size (fun _ => True) s_ y190) ∧ (w'.heap[gb189]? = some (.cells #[.int .u8 a0_0, .int .u16 a0_1, .int .u32 a0_2] 76 (0, 0))) ∧ (Below w.heap.size w w')) ?_ ?_
      rotate_left
      ·intro hJ2_7_12
       refine join_ (σ := Value) 5 #[true, true, true, true, true, true, true, false, false, true, true, true, false, false, false] (fun s_ => [(6, s_), (7, .string (strOfNums y190))]) (fun s_ w' => (w'.cell? ⟨gb189, 0, none⟩ = some (.int .u8 a0_0) ∧ w'.cell? ⟨gb189, 1, none⟩ = some (.int .u16 a0_1) ∧ w'.cell? ⟨gb189, 2, none⟩ = some (.int .u32 a0_2)) ∧ (Kd.R (Kd.int .u8) 5 w' w.heap.size (fun _ => True) s_ y190) ∧ (w'.heap[gb189]? = some (.cells #[.int .u8 a0_0, .int .u16 a0_1, .int .u32 a0_2] 76 (0, 0))) ∧ (Below w.heap.size w w')) ?_ ?_
       rotate_left
       ·intro hJ2_3
        refine join_ (σ := Value) 5 #[true, true, true, false, true, true, true, true, false, true, true, true, false, false, false] (fun s_ => [(6, s_), (11, .string t193)]) (fun s_ w' => (w'.cell? ⟨gb189, 0, none⟩ = some (.int .u8 a0_0) ∧ w'.cell? ⟨gb189, 1, none⟩ = some (.int .u16 a0_1) ∧ w'.cell? ⟨gb189, 2, none⟩ = some (.int .u32 a0_2)) ∧ (Kd.R (Kd.int .u8) 5 w' w.heap.size (fun _ => True) s_ y190) ∧ (w'.heap[gb189]? = some (.cells #[.int .u8 a0_0, .int .u16 a0_1, .int .u32 a0_2] 76 (0, 0))) ∧ (Below w.heap.size w w')) ?_ ?_
        rotate_left
        ·intro hJ2_7
         refine join_ (σ := Unit) 5 #[true, true, false, false, true, true, true, true, false, true, true, true, true, false, false] (fun s_ => [(11, .string t193), (16, .string t194)]) (fun s_ w' => (w'.cell? ⟨gb189, 0, none⟩ = some (.int .u8 a0_0) ∧ w'.cell? ⟨gb189, 1, none⟩ = some (.int .u16 a0_1) ∧ w'.cell? ⟨gb189, 2, none⟩ = some (.int .u32 a0_2)) ∧ (w'.heap[gb189]? = some (.cells #[.int .u8 a0_0, .int .u16 a0_1, .int .u32 a0_2] 76 (0, 0))) ∧ (Below w.heap.size w w')) ?_ ?_
         rotate_left
         ·intro hJ7_12
          refine join_ (σ := Value) 6 #[true, true, true, false, true, true, true, false, false, true, true, true, false, false, false] (fun s_ => [(6, s_)]) (fun s_ w' => (w'.cell? ⟨gb189, 0, none⟩ = some (.int .u8 a0_0) ∧ w'.cell? ⟨gb189, 1, none⟩ = some (.int .u16 a0_1) ∧ w'.cell? ⟨gb189, 2, none⟩ = some (.int .u32 a0_2)) ∧ (Kd.R (Kd.int .u8) 5 w' w.heap.size (fun _ => True) s_ y190) ∧ (w'.heap[gb189]? = some (.cells #[.int .u8 a0_0, .int .u16 a0_1, .int .u32 a0_2] 76 (0, 0))) ∧ (Below w.heap.size w w')) ?_ ?_
          rotate_left
          ·intro hJ2
           refine join_ (σ := Unit) 6 #[true, true, false, false, true, true, true, true, false, true, true, true, false, false, false] (fun s_ => [(11, .string t193)]) (fun s_ w' => (w'.cell? ⟨gb189, 0, none⟩ = some (.int .u8 a0_0) ∧ w'.cell? ⟨gb189, 1, none⟩ = some (.int .u16 a0_1) ∧ w'.cell? ⟨gb189, 2, none⟩ = some (.int .u32 a0_2)) ∧ (w'.heap[gb189]? = some (.cells #[.int .u8 a0_0, .int .u16 a0_1, .int .u32 a0_2] 76 (0, 0))) ∧ (Below w.heap.size w w')) ?_ ?_
           rotate_left
           ·intro hJ7
            refine two_ (i := 2) (j := 7) (Ni := some 6) (Nj := some 11) #[true, true, true, false, true, true, true, false, false, true, true, true, false, false, false] #[true, true, false, false, true, true, true, true, false, true, true, true, false, false, false] rfl rfl rfl rfl (two_of HT_.out (by kernel_rfl)) (by decide) (by decide) (fun K hK => ?_) (fun K hK => ?_)
            ·skip
             refine Kd.R_lit_step (Kd.int .u8) _ 5 ?hg (N := 6) ?hd (xs := ([a0_0, 0] : List Int)) (inner := [.int .u8 a0_0, .int .u8 0]) (ok := fun _ => True) (okp := fun _ => True) ?hr ?hp (fun _ hk => hk) trivial (Below.refl _ _) (Nat.le_refl _) (by simp) ?_; (case hd => rfl); (case hg => rfl); (case hr => first | (go_simp; done) | (go_simp; rfl)); (case hp => exact (Reps.one (show Kd.M (Kd.int .u8) _ _ _ a0_0 [.int .u8 a0_0] from rfl) (Reps.one (show Kd.M (Kd.int .u8) _ _ _ 0 [.int .u8 0] from rfl) (Reps.none _ _))))
             intro v191 w10 ho11 hb hg_ hnew_
             clear hg_ hnew_
             (first | rw [← Ny190.out] at ho11 | (simp only [Int.reduceToNat] at ho11; rw [← Ny190.out] at ho11))
             have n0_ := Aside0.mk (Kd.R_lower ho11 (below_size (by repeat (first | (with_reducible first | exact HB.out | apply below_alloc | apply pw_below_drewN | apply below_drew1 | refine below_set ?_ GE189.out) | exact HB.out))))
             have n1_ := Aside0.mk (blk_below (g := gb189) (o := .cells #[.int .u8 a0_0, .int .u16 a0_1, .int .u32 a0_2] 76 (0, 0)) (by (with_reducible repeat (first | refine blk_drewN ?_ _ | refine blk_drew ?_ | refine blk_alloc ?_ _)); exact BK189.out) hb)
             have n2_ := Aside0.mk (below_step (by repeat (first | (with_reducible first | exact HB.out | apply below_alloc | apply pw_below_drewN | apply below_drew1 | refine below_set ?_ GE189.out) | exact HB.out)) hb)
             clear BK189
             clear HB
             have HO192 := n0_
             have BK189 := n1_
             have HB := n2_
             clear n0_ n1_ n2_
             clear hb ho11
             refine hK.out _ _ ⟨(blk_cell BK189.out 0).trans rfl, (blk_cell BK189.out 1).trans rfl, (blk_cell BK189.out 2).trans rfl⟩ (fun hHeld => ?_)
             clear hK K
             refine norm_ (a' := ?_) ?_ ?_
             rotate_left
             ·show Act.put _ (some 6) _ = _
              simp only [Act.put, List.setIfInBounds_toArray, List.set_cons_zero, List.set_cons_succ, i64_w, i32_w]
              rfl
             exact norm_ (by first | (simp only [putAll, Act.put, List.setIfInBounds_toArray, List.set_cons_zero, List.set_cons_succ]; done) | (simp only [putAll, Act.put, List.setIfInBounds_toArray, List.set_cons_zero, List.set_cons_succ]; rfl)) (hJ2 (v191) _ ⟨hHeld, (by (with_reducible repeat (first | apply Kd.R_alloc | apply Kd.R_drewN | apply Kd.R_drew)); exact HO192.out), (by (with_reducible repeat (first | refine blk_drewN ?_ _ | refine blk_drew ?_ | refine blk_alloc ?_ _)); exact BK189.out), (by repeat (first | (with_reducible first | exact HB.out | apply below_alloc | apply pw_below_drewN | apply below_drew1 | refine below_set ?_ GE189.out) | exact HB.out))⟩)
            ·skip
             refine goes_ Try.func49 (by kernel_rfl) rfl #[.int .u64 (IntKind.u64.wrap (a0_1)), .int .i64 2] (by rfl) rfl rfl (by (try simp only [List.map_toArray, List.map_cons, List.map_nil]); first | done | rfl | (simp only [List.length_drop, List.length_take]; rfl)) ?_
             with_reducible refine (rowlockref06_Number.calls k (IntKind.u64.wrap (a0_1)) 2 t193 _ A2.out).mono ?_
             rintro e w10 ⟨rfl, hb⟩
             refine ⟨_, rfl, ?_⟩
             have n0_ := Aside0.mk (blk_below (g := gb189) (o := .cells #[.int .u8 a0_0, .int .u16 a0_1, .int .u32 a0_2] 76 (0, 0)) (by (with_reducible repeat (first | refine blk_drewN ?_ _ | refine blk_drew ?_ | refine blk_alloc ?_ _)); exact BK189.out) hb)
             have n1_ := Aside0.mk (below_step (by repeat (first | (with_reducible first | exact HB.out | apply below_alloc | apply pw_below_drewN | apply below_drew1 | refine below_set ?_ GE189.out) | exact HB.out)) hb)
             clear BK189
             clear HB
             have BK189 := n0_
             have HB := n1_
             clear n0_ n1_
             (try clear hb)
             (try clear hb2)
             (try clear hk)
             (try clear hi)
             refine hK.out _ _ ⟨(blk_cell BK189.out 0).trans rfl, (blk_cell BK189.out 1).trans rfl, (blk_cell BK189.out 2).trans rfl⟩ (fun hHeld => ?_)
             clear hK K
             refine norm_ (a' := ?_) ?_ ?_
             rotate_left
             ·show Act.put _ (some 11) _ = _
              simp only [Act.put, List.setIfInBounds_toArray, List.set_cons_zero, List.set_cons_succ, i64_w, i32_w]
              rfl
             exact norm_ (by first | (simp only [putAll, Act.put, List.setIfInBounds_toArray, List.set_cons_zero, List.set_cons_succ]; done) | (simp only [putAll, Act.put, List.setIfInBounds_toArray, List.set_cons_zero, List.set_cons_succ]; rfl)) (hJ7 () _ ⟨hHeld, (by (with_reducible repeat (first | refine blk_drewN ?_ _ | refine blk_drew ?_ | refine blk_alloc ?_ _)); exact BK189.out), (by repeat (first | (with_reducible first | exact HB.out | apply below_alloc | apply pw_below_drewN | apply below_drew1 | refine below_set ?_ GE189.out) | exact HB.out))⟩)
           ·skip
            rintro _ w11 ⟨hS_, h0_, h1_⟩
            have n0_ : Aside0 (w11.heap[gb189]? = some (.cells #[.int .u8 a0_0, .int .u16 a0_1, .int .u32 a0_2] 76 (0, 0))) := ⟨h0_⟩
            have n1_ : Aside0 (Below w.heap.size w w11) := ⟨h1_⟩
            clear BK189
            clear HB
            clear h0_ h1_
            have BK189 := n0_
            have HB := n1_
            clear n0_ n1_
            have hHeld : w11.cell? ⟨gb189, 0, none⟩ = some (.int .u8 a0_0) ∧ w11.cell? ⟨gb189, 1, none⟩ = some (.int .u16 a0_1) ∧ w11.cell? ⟨gb189, 2, none⟩ = some (.int .u32 a0_2) := hS_
            refine norm_ (a' := ?_) ?_ ?_
            rotate_left
            ·simp only [putAll, Act.put, List.setIfInBounds_toArray, List.set_cons_zero, List.set_cons_succ]
             rfl
            refine two_ (i := 2) (j := 12) (Ni := some 6) (Nj := some 16) #[true, true, true, false, true, true, true, true, false, true, true, true, false, false, false] #[true, true, false, false, true, true, true, true, false, true, true, true, true, false, false] rfl rfl rfl rfl (two_of HT_.out (by kernel_rfl)) (by decide) (by decide) (fun K hK => ?_) (fun K hK => ?_)
            ·skip
             refine Kd.R_lit_step (Kd.int .u8) _ 5 ?hg (N := 6) ?hd (xs := ([a0_0, 0] : List Int)) (inner := [.int .u8 a0_0, .int .u8 0]) (ok := fun _ => True) (okp := fun _ => True) ?hr ?hp (fun _ hk => hk) trivial (Below.refl _ _) (Nat.le_refl _) (by simp) ?_; (case hd => rfl); (case hg => rfl); (case hr => first | (go_simp; done) | (go_simp; rfl)); (case hp => exact (Reps.one (show Kd.M (Kd.int .u8) _ _ _ a0_0 [.int .u8 a0_0] from rfl) (Reps.one (show Kd.M (Kd.int .u8) _ _ _ 0 [.int .u8 0] from rfl) (Reps.none _ _))))
             intro v191 w12 ho13 hb hg_ hnew_
             clear hg_ hnew_
             (first | rw [← Ny190.out] at ho13 | (simp only [Int.reduceToNat] at ho13; rw [← Ny190.out] at ho13))
             have n0_ := Aside0.mk (Kd.R_lower ho13 (below_size (by repeat (first | (with_reducible first | exact HB.out | apply below_alloc | apply pw_below_drewN | apply below_drew1 | refine below_set ?_ GE189.out) | exact HB.out))))
             have n1_ := Aside0.mk (blk_below (g := gb189) (o := .cells #[.int .u8 a0_0, .int .u16 a0_1, .int .u32 a0_2] 76 (0, 0)) (by (with_reducible repeat (first | refine blk_drewN ?_ _ | refine blk_drew ?_ | refine blk_alloc ?_ _)); exact BK189.out) hb)
             have n2_ := Aside0.mk (below_step (by repeat (first | (with_reducible first | exact HB.out | apply below_alloc | apply pw_below_drewN | apply below_drew1 | refine below_set ?_ GE189.out) | exact HB.out)) hb)
             clear BK189
             clear HB
             have HO192 := n0_
             have BK189 := n1_
             have HB := n2_
             clear n0_ n1_ n2_
             clear hb ho13
             refine hK.out _ _ ⟨(blk_cell BK189.out 0).trans rfl, (blk_cell BK189.out 1).trans rfl, (blk_cell BK189.out 2).trans rfl⟩ (fun hHeld => ?_)
             clear hK K
             refine norm_ (a' := ?_) ?_ ?_
             rotate_left
             ·show Act.put _ (some 6) _ = _
              simp only [Act.put, List.setIfInBounds_toArray, List.set_cons_zero, List.set_cons_succ, i64_w, i32_w]
              rfl
             exact norm_ (by first | (simp only [putAll, Act.put, List.setIfInBounds_toArray, List.set_cons_zero, List.set_cons_succ]; done) | (simp only [putAll, Act.put, List.setIfInBounds_toArray, List.set_cons_zero, List.set_cons_succ]; rfl)) (hJ2_7 (v191) _ ⟨hHeld, (by (with_reducible repeat (first | apply Kd.R_alloc | apply Kd.R_drewN | apply Kd.R_drew)); exact HO192.out), (by (with_reducible repeat (first | refine blk_drewN ?_ _ | refine blk_drew ?_ | refine blk_alloc ?_ _)); exact BK189.out), (by repeat (first | (with_reducible first | exact HB.out | apply below_alloc | apply pw_below_drewN | apply below_drew1 | refine below_set ?_ GE189.out) | exact HB.out))⟩)
            ·skip
             refine goes_ Try.func49 (by kernel_rfl) rfl #[.int .u64 (IntKind.u64.wrap (a0_2)), .int .i64 4] (by rfl) rfl rfl (by (try simp only [List.map_toArray, List.map_cons, List.map_nil]); first | done | rfl | (simp only [List.length_drop, List.length_take]; rfl)) ?_
             with_reducible refine (rowlockref06_Number.calls k (IntKind.u64.wrap (a0_2)) 4 t194 _ A4.out).mono ?_
             rintro e w12 ⟨rfl, hb⟩
             refine ⟨_, rfl, ?_⟩
             have n0_ := Aside0.mk (blk_below (g := gb189) (o := .cells #[.int .u8 a0_0, .int .u16 a0_1, .int .u32 a0_2] 76 (0, 0)) (by (with_reducible repeat (first | refine blk_drewN ?_ _ | refine blk_drew ?_ | refine blk_alloc ?_ _)); exact BK189.out) hb)
             have n1_ := Aside0.mk (below_step (by repeat (first | (with_reducible first | exact HB.out | apply below_alloc | apply pw_below_drewN | apply below_drew1 | refine below_set ?_ GE189.out) | exact HB.out)) hb)
             clear BK189
             clear HB
             have BK189 := n0_
             have HB := n1_
             clear n0_ n1_
             (try clear hb)
             (try clear hb2)
             (try clear hk)
             (try clear hi)
             refine hK.out _ _ ⟨(blk_cell BK189.out 0).trans rfl, (blk_cell BK189.out 1).trans rfl, (blk_cell BK189.out 2).trans rfl⟩ (fun hHeld => ?_)
             clear hK K
             refine norm_ (a' := ?_) ?_ ?_
             rotate_left
             ·show Act.put _ (some 16) _ = _
              simp only [Act.put, List.setIfInBounds_toArray, List.set_cons_zero, List.set_cons_succ, i64_w, i32_w]
              rfl
             exact norm_ (by first | (simp only [putAll, Act.put, List.setIfInBounds_toArray, List.set_cons_zero, List.set_cons_succ]; done) | (simp only [putAll, Act.put, List.setIfInBounds_toArray, List.set_cons_zero, List.set_cons_succ]; rfl)) (hJ7_12 () _ ⟨hHeld, (by (with_reducible repeat (first | refine blk_drewN ?_ _ | refine blk_drew ?_ | refine blk_alloc ?_ _)); exact BK189.out), (by repeat (first | (with_reducible first | exact HB.out | apply below_alloc | apply pw_below_drewN | apply below_drew1 | refine below_set ?_ GE189.out) | exact HB.out))⟩)
          ·skip
           rintro v191 w12 ⟨hS_, h0_, h1_, h2_⟩
           have n0_ : Aside0 (Kd.R (Kd.int .u8) 5 w12 w.heap.size (fun _ => True) v191 y190) := ⟨h0_⟩
           have n1_ : Aside0 (w12.heap[gb189]? = some (.cells #[.int .u8 a0_0, .int .u16 a0_1, .int .u32 a0_2] 76 (0, 0))) := ⟨h1_⟩
           have n2_ : Aside0 (Below w.heap.size w w12) := ⟨h2_⟩
           clear BK189
           clear HB
           clear h0_ h1_ h2_
           have HO192 := n0_
           have BK189 := n1_
           have HB := n2_
           clear n0_ n1_ n2_
           have hHeld : w12.cell? ⟨gb189, 0, none⟩ = some (.int .u8 a0_0) ∧ w12.cell? ⟨gb189, 1, none⟩ = some (.int .u16 a0_1) ∧ w12.cell? ⟨gb189, 2, none⟩ = some (.int .u32 a0_2) := hS_
           refine norm_ (a' := ?_) ?_ ?_
           rotate_left
           ·simp only [putAll, Act.put, List.setIfInBounds_toArray, List.set_cons_zero, List.set_cons_succ]
            rfl
           refine two_ (i := 3) (j := 7) (Ni := some 7) (Nj := some 11) #[true, true, true, true, true, true, true, false, false, true, true, true, false, false, false] #[true, true, true, false, true, true, true, true, false, true, true, true, false, false, false] rfl rfl rfl rfl (two_of HT_.out (by kernel_rfl)) (by decide) (by decide) (fun K hK => ?_) (fun K hK => ?_)
           ·skip
            have hcv13 := own_string (P := Try.prog) Try.underlying36 Try.underlying5 Try.underlying9 (Kd.own_of_R HO192.out)
            refine value_ (w1 := ?_) (v := ?_) (by rfl) rfl ?_ ?_
            rotate_left 2
            ·go_simp
             constructor
             ·rfl
             ·rfl
            clear hcv13
            refine hK.out _ _ ⟨(blk_cell BK189.out 0).trans rfl, (blk_cell BK189.out 1).trans rfl, (blk_cell BK189.out 2).trans rfl⟩ (fun hHeld => ?_)
            clear hK K
            refine norm_ (a' := ?_) ?_ ?_
            rotate_left
            ·show Act.put _ (some 7) _ = _
             simp only [Act.put, List.setIfInBounds_toArray, List.set_cons_zero, List.set_cons_succ, i64_w, i32_w]
             rfl
            exact norm_ (by first | (simp only [putAll, Act.put, List.setIfInBounds_toArray, List.set_cons_zero, List.set_cons_succ]; done) | (simp only [putAll, Act.put, List.setIfInBounds_toArray, List.set_cons_zero, List.set_cons_succ]; rfl)) (hJ2_3 (v191) _ ⟨hHeld, (by (with_reducible repeat (first | apply Kd.R_alloc | apply Kd.R_drewN | apply Kd.R_drew)); exact HO192.out), (by (with_reducible repeat (first | refine blk_drewN ?_ _ | refine blk_drew ?_ | refine blk_alloc ?_ _)); exact BK189.out), (by repeat (first | (with_reducible first | exact HB.out | apply below_alloc | apply pw_below_drewN | apply below_drew1 | refine below_set ?_ GE189.out) | exact HB.out))⟩)
           ·skip
            refine goes_ Try.func49 (by kernel_rfl) rfl #[.int .u64 (IntKind.u64.wrap (a0_1)), .int .i64 2] (by rfl) rfl rfl (by (try simp only [List.map_toArray, List.map_cons, List.map_nil]); first | done | rfl | (simp only [List.length_drop, List.length_take]; rfl)) ?_
            with_reducible refine (rowlockref06_Number.calls k (IntKind.u64.wrap (a0_1)) 2 t193 _ A2.out).mono ?_
            rintro e w13 ⟨rfl, hb⟩
            refine ⟨_, rfl, ?_⟩
            have n0_ := Aside0.mk (Kd.R_below (by (with_reducible repeat (first | apply Kd.R_alloc | apply Kd.R_drewN | apply Kd.R_drew)); exact HO192.out) hb)
            have n1_ := Aside0.mk (blk_below (g := gb189) (o := .cells #[.int .u8 a0_0, .int .u16 a0_1, .int .u32 a0_2] 76 (0, 0)) (by (with_reducible repeat (first | refine blk_drewN ?_ _ | refine blk_drew ?_ | refine blk_alloc ?_ _)); exact BK189.out) hb)
            have n2_ := Aside0.mk (below_step (by repeat (first | (with_reducible first | exact HB.out | apply below_alloc | apply pw_below_drewN | apply below_drew1 | refine below_set ?_ GE189.out) | exact HB.out)) hb)
            clear HO192
            clear BK189
            clear HB
            have HO192 := n0_
            have BK189 := n1_
            have HB := n2_
            clear n0_ n1_ n2_
            (try clear hb)
            (try clear hb2)
            (try clear hk)
            (try clear hi)
            refine hK.out _ _ ⟨(blk_cell BK189.out 0).trans rfl, (blk_cell BK189.out 1).trans rfl, (blk_cell BK189.out 2).trans rfl⟩ (fun hHeld => ?_)
            clear hK K
            refine norm_ (a' := ?_) ?_ ?_
            rotate_left
            ·show Act.put _ (some 11) _ = _
             simp only [Act.put, List.setIfInBounds_toArray, List.set_cons_zero, List.set_cons_succ, i64_w, i32_w]
             rfl
            exact norm_ (by first | (simp only [putAll, Act.put, List.setIfInBounds_toArray, List.set_cons_zero, List.set_cons_succ]; done) | (simp only [putAll, Act.put, List.setIfInBounds_toArray, List.set_cons_zero, List.set_cons_succ]; rfl)) (hJ2_7 (v191) _ ⟨hHeld, (by (with_reducible repeat (first | apply Kd.R_alloc | apply Kd.R_drewN | apply Kd.R_drew)); exact HO192.out), (by (with_reducible repeat (first | refine blk_drewN ?_ _ | refine blk_drew ?_ | refine blk_alloc ?_ _)); exact BK189.out), (by repeat (first | (with_reducible first | exact HB.out | apply below_alloc | apply pw_below_drewN | apply below_drew1 | refine below_set ?_ GE189.out) | exact HB.out))⟩)
         ·skip
          rintro _ w12 ⟨hS_, h0_, h1_⟩
          have n0_ : Aside0 (w12.heap[gb189]? = some (.cells #[.int .u8 a0_0, .int .u16 a0_1, .int .u32 a0_2] 76 (0, 0))) := ⟨h0_⟩
          have n1_ : Aside0 (Below w.heap.size w w12) := ⟨h1_⟩
          clear BK189
          clear HB
          clear h0_ h1_
          have BK189 := n0_
          have HB := n1_
          clear n0_ n1_
          have hHeld : w12.cell? ⟨gb189, 0, none⟩ = some (.int .u8 a0_0) ∧ w12.cell? ⟨gb189, 1, none⟩ = some (.int .u16 a0_1) ∧ w12.cell? ⟨gb189, 2, none⟩ = some (.int .u32 a0_2) := hS_
          refine norm_ (a' := ?_) ?_ ?_
          rotate_left
          ·simp only [putAll, Act.put, List.setIfInBounds_toArray, List.set_cons_zero, List.set_cons_succ]
           rfl
          refine one_ (i := 2) (N := some 6) #[true, true, true, false, true, true, true, true, false, true, true, true, true, false, false] rfl rfl (one_of HT_.out (by kernel_rfl)) (by decide) (fun K hK => ?_)
          refine Kd.R_lit_step (Kd.int .u8) _ 5 ?hg (N := 6) ?hd (xs := ([a0_0, 0] : List Int)) (inner := [.int .u8 a0_0, .int .u8 0]) (ok := fun _ => True) (okp := fun _ => True) ?hr ?hp (fun _ hk => hk) trivial (Below.refl _ _) (Nat.le_refl _) (by simp) ?_; (case hd => rfl); (case hg => rfl); (case hr => first | (go_simp; done) | (go_simp; rfl)); (case hp => exact (Reps.one (show Kd.M (Kd.int .u8) _ _ _ a0_0 [.int .u8 a0_0] from rfl) (Reps.one (show Kd.M (Kd.int .u8) _ _ _ 0 [.int .u8 0] from rfl) (Reps.none _ _))))
          intro v191 w13 ho14 hb hg_ hnew_
          clear hg_ hnew_
          (first | rw [← Ny190.out] at ho14 | (simp only [Int.reduceToNat] at ho14; rw [← Ny190.out] at ho14))
          have n0_ := Aside0.mk (Kd.R_lower ho14 (below_size (by repeat (first | (with_reducible first | exact HB.out | apply below_alloc | apply pw_below_drewN | apply below_drew1 | refine below_set ?_ GE189.out) | exact HB.out))))
          have n1_ := Aside0.mk (blk_below (g := gb189) (o := .cells #[.int .u8 a0_0, .int .u16 a0_1, .int .u32 a0_2] 76 (0, 0)) (by (with_reducible repeat (first | refine blk_drewN ?_ _ | refine blk_drew ?_ | refine blk_alloc ?_ _)); exact BK189.out) hb)
          have n2_ := Aside0.mk (below_step (by repeat (first | (with_reducible first | exact HB.out | apply below_alloc | apply pw_below_drewN | apply below_drew1 | refine below_set ?_ GE189.out) | exact HB.out)) hb)
          clear BK189
          clear HB
          have HO192 := n0_
          have BK189 := n1_
          have HB := n2_
          clear n0_ n1_ n2_
          clear hb ho14
          refine hK.out _ _ ⟨(blk_cell BK189.out 0).trans rfl, (blk_cell BK189.out 1).trans rfl, (blk_cell BK189.out 2).trans rfl⟩ (fun hHeld => ?_)
          clear hK K
          refine norm_ (a' := ?_) ?_ ?_
          rotate_left
          ·show Act.put _ (some 6) _ = _
           simp only [Act.put, List.setIfInBounds_toArray, List.set_cons_zero, List.set_cons_succ, i64_w, i32_w]
           rfl
          exact norm_ (by first | (simp only [putAll, Act.put, List.setIfInBounds_toArray, List.set_cons_zero, List.set_cons_succ]; done) | (simp only [putAll, Act.put, List.setIfInBounds_toArray, List.set_cons_zero, List.set_cons_succ]; rfl)) (hJ2_7_12 (v191) _ ⟨hHeld, (by (with_reducible repeat (first | apply Kd.R_alloc | apply Kd.R_drewN | apply Kd.R_drew)); exact HO192.out), (by (with_reducible repeat (first | refine blk_drewN ?_ _ | refine blk_drew ?_ | refine blk_alloc ?_ _)); exact BK189.out), (by repeat (first | (with_reducible first | exact HB.out | apply below_alloc | apply pw_below_drewN | apply below_drew1 | refine below_set ?_ GE189.out) | exact HB.out))⟩)
        ·skip
         rintro v191 w13 ⟨hS_, h0_, h1_, h2_⟩
         have n0_ : Aside0 (Kd.R (Kd.int .u8) 5 w13 w.heap.size (fun _ => True) v191 y190) := ⟨h0_⟩
         have n1_ : Aside0 (w13.heap[gb189]? = some (.cells #[.int .u8 a0_0, .int .u16 a0_1, .int .u32 a0_2] 76 (0, 0))) := ⟨h1_⟩
         have n2_ : Aside0 (Below w.heap.size w w13) := ⟨h2_⟩
         clear BK189
         clear HB
         clear h0_ h1_ h2_
         have HO192 := n0_
         have BK189 := n1_
         have HB := n2_
         clear n0_ n1_ n2_
         have hHeld : w13.cell? ⟨gb189, 0, none⟩ = some (.int .u8 a0_0) ∧ w13.cell? ⟨gb189, 1, none⟩ = some (.int .u16 a0_1) ∧ w13.cell? ⟨gb189, 2, none⟩ = some (.int .u32 a0_2) := hS_
         refine norm_ (a' := ?_) ?_ ?_
         rotate_left
         ·simp only [putAll, Act.put, List.setIfInBounds_toArray, List.set_cons_zero, List.set_cons_succ]
          rfl
         refine two_ (i := 3) (j := 12) (Ni := some 7) (Nj := some 16) #[true, true, true, true, true, true, true, true, false, true, true, true, false, false, false] #[true, true, true, false, true, true, true, true, false, true, true, true, true, false, false] rfl rfl rfl rfl (two_of HT_.out (by kernel_rfl)) (by decide) (by decide) (fun K hK => ?_) (fun K hK => ?_)
         ·skip
          have hcv14 := own_string (P := Try.prog) Try.underlying36 Try.underlying5 Try.underlying9 (Kd.own_of_R HO192.out)
          refine value_ (w1 := ?_) (v := ?_) (by rfl) rfl ?_ ?_
          rotate_left 2
          ·go_simp
           constructor
           ·rfl
           ·rfl
          clear hcv14
          refine hK.out _ _ ⟨(blk_cell BK189.out 0).trans rfl, (blk_cell BK189.out 1).trans rfl, (blk_cell BK189.out 2).trans rfl⟩ (fun hHeld => ?_)
          clear hK K
          refine norm_ (a' := ?_) ?_ ?_
          rotate_left
          ·show Act.put _ (some 7) _ = _
           simp only [Act.put, List.setIfInBounds_toArray, List.set_cons_zero, List.set_cons_succ, i64_w, i32_w]
           rfl
          refine pure_ (i := 8) (N := some 12) (v := ?_) (a' := ?_) #[true, true, true, true, true, true, true, true, true, true, true, true, false, false, false] rfl rfl (any_of HT_.out (by kernel_rfl)) (fun _ _ _ h => h) (Or.inl ⟨by rfl, ?_⟩) ?_ ?_
          rotate_left
          ·intro w'
           go_simp
           with_reducible rfl
          rotate_left
          ·simp only [Act.put, List.setIfInBounds_toArray, List.set_cons_zero, List.set_cons_succ, i64_w, i32_w]
           rfl
          exact norm_ (by first | (simp only [putAll, Act.put, List.setIfInBounds_toArray, List.set_cons_zero, List.set_cons_succ]; done) | (simp only [putAll, Act.put, List.setIfInBounds_toArray, List.set_cons_zero, List.set_cons_succ]; rfl)) (hJ2_3_7 (v191) _ ⟨hHeld, (by (with_reducible repeat (first | apply Kd.R_alloc | apply Kd.R_drewN | apply Kd.R_drew)); exact HO192.out), (by (with_reducible repeat (first | refine blk_drewN ?_ _ | refine blk_drew ?_ | refine blk_alloc ?_ _)); exact BK189.out), (by repeat (first | (with_reducible first | exact HB.out | apply below_alloc | apply pw_below_drewN | apply below_drew1 | refine below_set ?_ GE189.out) | exact HB.out))⟩)
         ·skip
          refine goes_ Try.func49 (by kernel_rfl) rfl #[.int .u64 (IntKind.u64.wrap (a0_2)), .int .i64 4] (by rfl) rfl rfl (by (try simp only [List.map_toArray, List.map_cons, List.map_nil]); first | done | rfl | (simp only [List.length_drop, List.length_take]; rfl)) ?_
          with_reducible refine (rowlockref06_Number.calls k (IntKind.u64.wrap (a0_2)) 4 t194 _ A4.out).mono ?_
          rintro e w14 ⟨rfl, hb⟩
          refine ⟨_, rfl, ?_⟩
          have n0_ := Aside0.mk (Kd.R_below (by (with_reducible repeat (first | apply Kd.R_alloc | apply Kd.R_drewN | apply Kd.R_drew)); exact HO192.out) hb)
          have n1_ := Aside0.mk (blk_below (g := gb189) (o := .cells #[.int .u8 a0_0, .int .u16 a0_1, .int .u32 a0_2] 76 (0, 0)) (by (with_reducible repeat (first | refine blk_drewN ?_ _ | refine blk_drew ?_ | refine blk_alloc ?_ _)); exact BK189.out) hb)
          have n2_ := Aside0.mk (below_step (by repeat (first | (with_reducible first | exact HB.out | apply below_alloc | apply pw_below_drewN | apply below_drew1 | refine below_set ?_ GE189.out) | exact HB.out)) hb)
          clear HO192
          clear BK189
          clear HB
          have HO192 := n0_
          have BK189 := n1_
          have HB := n2_
          clear n0_ n1_ n2_
          (try clear hb)
          (try clear hb2)
          (try clear hk)
          (try clear hi)
          refine hK.out _ _ ⟨(blk_cell BK189.out 0).trans rfl, (blk_cell BK189.out 1).trans rfl, (blk_cell BK189.out 2).trans rfl⟩ (fun hHeld => ?_)
          clear hK K
          refine norm_ (a' := ?_) ?_ ?_
          rotate_left
          ·show Act.put _ (some 16) _ = _
           simp only [Act.put, List.setIfInBounds_toArray, List.set_cons_zero, List.set_cons_succ, i64_w, i32_w]
           rfl
          exact norm_ (by first | (simp only [putAll, Act.put, List.setIfInBounds_toArray, List.set_cons_zero, List.set_cons_succ]; done) | (simp only [putAll, Act.put, List.setIfInBounds_toArray, List.set_cons_zero, List.set_cons_succ]; rfl)) (hJ2_7_12 (v191) _ ⟨hHeld, (by (with_reducible repeat (first | apply Kd.R_alloc | apply Kd.R_drewN | apply Kd.R_drew)); exact HO192.out), (by (with_reducible repeat (first | refine blk_drewN ?_ _ | refine blk_drew ?_ | refine blk_alloc ?_ _)); exact BK189.out), (by repeat (first | (with_reducible first | exact HB.out | apply below_alloc | apply pw_below_drewN | apply below_drew1 | refine below_set ?_ GE189.out) | exact HB.out))⟩)
       ·skip
        rintro v191 w13 ⟨hS_, h0_, h1_, h2_⟩
        have n0_ : Aside0 (Kd.R (Kd.int .u8) 5 w13 w.heap.size (fun _ => True) v191 y190) := ⟨h0_⟩
        have n1_ : Aside0 (w13.heap[gb189]? = some (.cells #[.int .u8 a0_0, .int .u16 a0_1, .int .u32 a0_2] 76 (0, 0))) := ⟨h1_⟩
        have n2_ : Aside0 (Below w.heap.size w w13) := ⟨h2_⟩
        clear BK189
        clear HB
        clear h0_ h1_ h2_
        have HO192 := n0_
        have BK189 := n1_
        have HB := n2_
        clear n0_ n1_ n2_
        have hHeld : w13.cell? ⟨gb189, 0, none⟩ = some (.int .u8 a0_0) ∧ w13.cell? ⟨gb189, 1, none⟩ = some (.int .u16 a0_1) ∧ w13.cell? ⟨gb189, 2, none⟩ = some (.int .u32 a0_2) := hS_
        refine norm_ (a' := ?_) ?_ ?_
        rotate_left
        ·simp only [putAll, Act.put, List.setIfInBounds_toArray, List.set_cons_zero, List.set_cons_succ]
         rfl
        refine one_ (i := 7) (N := some 11) #[true, true, true, true, true, true, true, true, false, true, true, true, false, false, false] rfl rfl (one_of HT_.out (by kernel_rfl)) (by decide) (fun K hK => ?_)
        refine goes_ Try.func49 (by kernel_rfl) rfl #[.int .u64 (IntKind.u64.wrap (a0_1)), .int .i64 2] (by rfl) rfl rfl (by (try simp only [List.map_toArray, List.map_cons, List.map_nil]); first | done | rfl | (simp only [List.length_drop, List.length_take]; rfl)) ?_
        with_reducible refine (rowlockref06_Number.calls k (IntKind.u64.wrap (a0_1)) 2 t193 _ A2.out).mono ?_
        rintro e w14 ⟨rfl, hb⟩
        refine ⟨_, rfl, ?_⟩
        have n0_ := Aside0.mk (Kd.R_below (by (with_reducible repeat (first | apply Kd.R_alloc | apply Kd.R_drewN | apply Kd.R_drew)); exact HO192.out) hb)
        have n1_ := Aside0.mk (blk_below (g := gb189) (o := .cells #[.int .u8 a0_0, .int .u16 a0_1, .int .u32 a0_2] 76 (0, 0)) (by (with_reducible repeat (first | refine blk_drewN ?_ _ | refine blk_drew ?_ | refine blk_alloc ?_ _)); exact BK189.out) hb)
        have n2_ := Aside0.mk (below_step (by repeat (first | (with_reducible first | exact HB.out | apply below_alloc | apply pw_below_drewN | apply below_drew1 | refine below_set ?_ GE189.out) | exact HB.out)) hb)
        clear HO192
        clear BK189
        clear HB
        have HO192 := n0_
        have BK189 := n1_
        have HB := n2_
        clear n0_ n1_ n2_
        (try clear hb)
        (try clear hb2)
        (try clear hk)
        (try clear hi)
        refine hK.out _ _ ⟨(blk_cell BK189.out 0).trans rfl, (blk_cell BK189.out 1).trans rfl, (blk_cell BK189.out 2).trans rfl⟩ (fun hHeld => ?_)
        clear hK K
        refine norm_ (a' := ?_) ?_ ?_
        rotate_left
        ·show Act.put _ (some 11) _ = _
         simp only [Act.put, List.setIfInBounds_toArray, List.set_cons_zero, List.set_cons_succ, i64_w, i32_w]
         rfl
        refine pure_ (i := 8) (N := some 12) (v := ?_) (a' := ?_) #[true, true, true, true, true, true, true, true, true, true, true, true, false, false, false] rfl rfl (any_of HT_.out (by kernel_rfl)) (fun _ _ _ h => h) (Or.inl ⟨by rfl, ?_⟩) ?_ ?_
        rotate_left
        ·intro w'
         go_simp
         with_reducible rfl
        rotate_left
        ·simp only [Act.put, List.setIfInBounds_toArray, List.set_cons_zero, List.set_cons_succ, i64_w, i32_w]
         rfl
        exact norm_ (by first | (simp only [putAll, Act.put, List.setIfInBounds_toArray, List.set_cons_zero, List.set_cons_succ]; done) | (simp only [putAll, Act.put, List.setIfInBounds_toArray, List.set_cons_zero, List.set_cons_succ]; rfl)) (hJ2_3_7 (v191) _ ⟨hHeld, (by (with_reducible repeat (first | apply Kd.R_alloc | apply Kd.R_drewN | apply Kd.R_drew)); exact HO192.out), (by (with_reducible repeat (first | refine blk_drewN ?_ _ | refine blk_drew ?_ | refine blk_alloc ?_ _)); exact BK189.out), (by repeat (first | (with_reducible first | exact HB.out | apply below_alloc | apply pw_below_drewN | apply below_drew1 | refine below_set ?_ GE189.out) | exact HB.out))⟩)
      ·skip
       rintro v191 w14 ⟨hS_, h0_, h1_, h2_⟩
       have n0_ : Aside0 (Kd.R (Kd.int .u8) 5 w14 w.heap.size (fun _ => True) v191 y190) := ⟨h0_⟩
       have n1_ : Aside0 (w14.heap[gb189]? = some (.cells #[.int .u8 a0_0, .int .u16 a0_1, .int .u32 a0_2] 76 (0, 0))) := ⟨h1_⟩
       have n2_ : Aside0 (Below w.heap.size w w14) := ⟨h2_⟩
       clear BK189
       clear HB
       clear h0_ h1_ h2_
       have HO192 := n0_
       have BK189 := n1_
       have HB := n2_
       clear n0_ n1_ n2_
       have hHeld : w14.cell? ⟨gb189, 0, none⟩ = some (.int .u8 a0_0) ∧ w14.cell? ⟨gb189, 1, none⟩ = some (.int .u16 a0_1) ∧ w14.cell? ⟨gb189, 2, none⟩ = some (.int .u32 a0_2) := hS_
       refine norm_ (a' := ?_) ?_ ?_
       rotate_left
       ·simp only [putAll, Act.put, List.setIfInBounds_toArray, List.set_cons_zero, List.set_cons_succ]
        rfl
       refine one_ (i := 3) (N := some 7) #[true, true, true, true, true, true, true, true, false, true, true, true, true, false, false] rfl rfl (one_of HT_.out (by kernel_rfl)) (by decide) (fun K hK => ?_)
       have hcv15 := own_string (P := Try.prog) Try.underlying36 Try.underlying5 Try.underlying9 (Kd.own_of_R HO192.out)
       refine value_ (w1 := ?_) (v := ?_) (by rfl) rfl ?_ ?_
       rotate_left 2
       ·go_simp
        constructor
        ·rfl
        ·rfl
       clear hcv15
       refine hK.out _ _ ⟨(blk_cell BK189.out 0).trans rfl, (blk_cell BK189.out 1).trans rfl, (blk_cell BK189.out 2).trans rfl⟩ (fun hHeld => ?_)
       clear hK K
       refine norm_ (a' := ?_) ?_ ?_
       rotate_left
       ·show Act.put _ (some 7) _ = _
        simp only [Act.put, List.setIfInBounds_toArray, List.set_cons_zero, List.set_cons_succ, i64_w, i32_w]
        rfl
       refine pure_ (i := 8) (N := some 12) (v := ?_) (a' := ?_) #[true, true, true, true, true, true, true, true, true, true, true, true, true, false, false] rfl rfl (any_of HT_.out (by kernel_rfl)) (fun _ _ _ h => h) (Or.inl ⟨by rfl, ?_⟩) ?_ ?_
       rotate_left
       ·intro w'
        go_simp
        with_reducible rfl
       rotate_left
       ·simp only [Act.put, List.setIfInBounds_toArray, List.set_cons_zero, List.set_cons_succ, i64_w, i32_w]
        rfl
       exact norm_ (by first | (simp only [putAll, Act.put, List.setIfInBounds_toArray, List.set_cons_zero, List.set_cons_succ]; done) | (simp only [putAll, Act.put, List.setIfInBounds_toArray, List.set_cons_zero, List.set_cons_succ]; rfl)) (hJ2_3_7_12 (v191) _ ⟨hHeld, (by (with_reducible repeat (first | apply Kd.R_alloc | apply Kd.R_drewN | apply Kd.R_drew)); exact HO192.out), (by (with_reducible repeat (first | refine blk_drewN ?_ _ | refine blk_drew ?_ | refine blk_alloc ?_ _)); exact BK189.out), (by repeat (first | (with_reducible first | exact HB.out | apply below_alloc | apply pw_below_drewN | apply below_drew1 | refine below_set ?_ GE189.out) | exact HB.out))⟩)
     ·skip
      rintro v191 w14 ⟨hS_, h0_, h1_, h2_⟩
      have n0_ : Aside0 (Kd.R (Kd.int .u8) 5 w14 w.heap.size (fun _ => True) v191 y190) := ⟨h0_⟩
      have n1_ : Aside0 (w14.heap[gb189]? = some (.cells #[.int .u8 a0_0, .int .u16 a0_1, .int .u32 a0_2] 76 (0, 0))) := ⟨h1_⟩
      have n2_ : Aside0 (Below w.heap.size w w14) := ⟨h2_⟩
      clear BK189
      clear HB
      clear h0_ h1_ h2_
      have HO192 := n0_
      have BK189 := n1_
      have HB := n2_
      clear n0_ n1_ n2_
      have hHeld : w14.cell? ⟨gb189, 0, none⟩ = some (.int .u8 a0_0) ∧ w14.cell? ⟨gb189, 1, none⟩ = some (.int .u16 a0_1) ∧ w14.cell? ⟨gb189, 2, none⟩ = some (.int .u32 a0_2) := hS_
      refine norm_ (a' := ?_) ?_ ?_
      rotate_left
      ·simp only [putAll, Act.put, List.setIfInBounds_toArray, List.set_cons_zero, List.set_cons_succ]
       rfl
      refine one_ (i := 12) (N := some 16) #[true, true, true, true, true, true, true, true, true, true, true, true, true, false, false] rfl rfl (one_of HT_.out (by kernel_rfl)) (by decide) (fun K hK => ?_)
      refine goes_ Try.func49 (by kernel_rfl) rfl #[.int .u64 (IntKind.u64.wrap (a0_2)), .int .i64 4] (by rfl) rfl rfl (by (try simp only [List.map_toArray, List.map_cons, List.map_nil]); first | done | rfl | (simp only [List.length_drop, List.length_take]; rfl)) ?_
      with_reducible refine (rowlockref06_Number.calls k (IntKind.u64.wrap (a0_2)) 4 t194 _ A4.out).mono ?_
      rintro e w15 ⟨rfl, hb⟩
      refine ⟨_, rfl, ?_⟩
      have n0_ := Aside0.mk (Kd.R_below (by (with_reducible repeat (first | apply Kd.R_alloc | apply Kd.R_drewN | apply Kd.R_drew)); exact HO192.out) hb)
      have n1_ := Aside0.mk (blk_below (g := gb189) (o := .cells #[.int .u8 a0_0, .int .u16 a0_1, .int .u32 a0_2] 76 (0, 0)) (by (with_reducible repeat (first | refine blk_drewN ?_ _ | refine blk_drew ?_ | refine blk_alloc ?_ _)); exact BK189.out) hb)
      have n2_ := Aside0.mk (below_step (by repeat (first | (with_reducible first | exact HB.out | apply below_alloc | apply pw_below_drewN | apply below_drew1 | refine below_set ?_ GE189.out) | exact HB.out)) hb)
      clear HO192
      clear BK189
      clear HB
      have HO192 := n0_
      have BK189 := n1_
      have HB := n2_
      clear n0_ n1_ n2_
      (try clear hb)
      (try clear hb2)
      (try clear hk)
      (try clear hi)
      refine hK.out _ _ ⟨(blk_cell BK189.out 0).trans rfl, (blk_cell BK189.out 1).trans rfl, (blk_cell BK189.out 2).trans rfl⟩ (fun hHeld => ?_)
      clear hK K
      refine norm_ (a' := ?_) ?_ ?_
      rotate_left
      ·show Act.put _ (some 16) _ = _
       simp only [Act.put, List.setIfInBounds_toArray, List.set_cons_zero, List.set_cons_succ, i64_w, i32_w]
       rfl
      exact norm_ (by first | (simp only [putAll, Act.put, List.setIfInBounds_toArray, List.set_cons_zero, List.set_cons_succ]; done) | (simp only [putAll, Act.put, List.setIfInBounds_toArray, List.set_cons_zero, List.set_cons_succ]; rfl)) (hJ2_3_7_12 (v191) _ ⟨hHeld, (by (with_reducible repeat (first | apply Kd.R_alloc | apply Kd.R_drewN | apply Kd.R_drew)); exact HO192.out), (by (with_reducible repeat (first | refine blk_drewN ?_ _ | refine blk_drew ?_ | refine blk_alloc ?_ _)); exact BK189.out), (by repeat (first | (with_reducible first | exact HB.out | apply below_alloc | apply pw_below_drewN | apply below_drew1 | refine below_set ?_ GE189.out) | exact HB.out))⟩)
    rintro v191 w15 ⟨hS_, h0_, h1_, h2_⟩
    have n0_ : Aside0 (Kd.R (Kd.int .u8) 5 w15 w.heap.size (fun _ => True) v191 y190) := ⟨h0_⟩
    have n1_ : Aside0 (w15.heap[gb189]? = some (.cells #[.int .u8 a0_0, .int .u16 a0_1, .int .u32 a0_2] 76 (0, 0))) := ⟨h1_⟩
    have n2_ : Aside0 (Below w.heap.size w w15) := ⟨h2_⟩
    clear BK189
    clear HB
    clear h0_ h1_ h2_
    have HO192 := n0_
    have BK189 := n1_
    have HB := n2_
    clear n0_ n1_ n2_
    have hHeld : w15.cell? ⟨gb189, 0, none⟩ = some (.int .u8 a0_0) ∧ w15.cell? ⟨gb189, 1, none⟩ = some (.int .u16 a0_1) ∧ w15.cell? ⟨gb189, 2, none⟩ = some (.int .u32 a0_2) := hS_
    refine norm_ (a' := ?_) ?_ ?_
    rotate_left
    ·simp only [putAll, Act.put, List.setIfInBounds_toArray, List.set_cons_zero, List.set_cons_succ]
     rfl
    refine pure_ (i := 13) (N := some 17) (v := ?_) (a' := ?_) #[true, true, true, true, true, true, true, true, true, true, true, true, true, true, false] rfl rfl (any_of HT_.out (by kernel_rfl)) (fun _ _ _ h => h) (Or.inl ⟨by rfl, ?_⟩) ?_ ?_
    rotate_left
    ·intro w'
     go_simp
     with_reducible rfl
    rotate_left
    ·simp only [Act.put, List.setIfInBounds_toArray, List.set_cons_zero, List.set_cons_succ, i64_w, i32_w]
     rfl
    refine pure_ (i := 14) (N := some 3) (v := ?_) (a' := ?_) #[true, true, true, true, true, true, true, true, true, true, true, true, true, true, true] rfl rfl (any_of HT_.out (by kernel_rfl)) (fun _ _ _ h => h) (Or.inl ⟨by rfl, ?_⟩) ?_ ?_
    rotate_left
    ·intro w'
     go_simp
     with_reducible rfl
    rotate_left
    ·simp only [Act.put, List.setIfInBounds_toArray, List.set_cons_zero, List.set_cons_succ, i64_w, i32_w]
     rfl
    refine done_ (done_of HT_.out (by kernel_rfl)) ?_
    try go_wp2_with (first | ((with_reducible refine gate_callee (f := 87) rfl ?_); refine goesL_ (some 19) rfl rfl Try.func87 (by kernel_rfl) rfl #[.int .i64 504] rfl (by (try simp only [List.map_toArray, List.map_cons, List.map_nil]); first | done | rfl | (simp only [List.length_drop, List.length_take]; rfl)) ?_; (with_reducible refine (rowlockref06_zeros.calls 504 t195 _ A6.out).mono ?_); rintro e w16 ⟨rfl, hb⟩; refine ⟨_, rfl, ?_⟩; have n0_ := Aside0.mk (Kd.R_below (by (with_reducible repeat (first | apply Kd.R_alloc | apply Kd.R_drewN | apply Kd.R_drew)); exact HO192.out) hb); have n1_ := Aside0.mk (blk_below (g := gb189) (o := .cells #[.int .u8 a0_0, .int .u16 a0_1, .int .u32 a0_2] 76 (0, 0)) (by (with_reducible repeat (first | refine blk_drewN ?_ _ | refine blk_drew ?_ | refine blk_alloc ?_ _)); exact BK189.out) hb); have n2_ := Aside0.mk (below_step (by repeat (first | (with_reducible first | exact HB.out | apply below_alloc | apply pw_below_drewN | apply below_drew1 | refine below_set ?_ GE189.out) | exact HB.out)) hb); clear HO192; clear BK189; clear HB; have HO192 := n0_; have BK189 := n1_; have HB := n2_; clear n0_ n1_ n2_; (try clear hb); (try clear hb2); (try clear hk); (try clear hi)))
    go_ret
    exact ⟨by first | rfl | (simp [errW_none, errW_some] <;> rfl) | (simp [*, errW_none, errW_some] <;> rfl), by repeat (first | (with_reducible first | exact HB.out | apply below_alloc | apply pw_below_drewN | apply below_drew1 | refine below_set ?_ GE189.out) | exact HB.out)⟩
   ·rw [if_neg c7] at H
    exact absurd H (by simp)
  ·rw [if_neg c5] at H
   exact absurd H (by simp)
 ·rw [if_neg c3] at H
  exact absurd H (by simp)

/-! ### rowlockref10_page: function 43 -/
def rowlockref10_page.f (k : Nat) (a0_0 : Int) (a0_1 : Int) (a0_2 : Int) (a1 : ByteArray) : Option (ByteArray) := (rowlockref06_Head.f k a0_0 a0_1 a0_2).bind fun t197 => (if 0 ≤ 8 then (if 8 ≤ (t197.size : Int) then (if (t197.extract 0 8).size + a1.size ≤ 9223372036854775807 then (if 0 ≤ (wrap64 (512 - (((t197.extract 0 8) ++ a1).size : Int))) then (if (wrap64 (512 - (((t197.extract 0 8) ++ a1).size : Int)) : Int).toNat ≤ 281474976710656 then ((some (List.replicate (wrap64 (512 - (((t197.extract 0 8) ++ a1).size : Int)) : Int).toNat 0 : List Int)).bind fun y198 => (if ((t197.extract 0 8) ++ a1).size + (strOfNums y198).size ≤ 9223372036854775807 then (some (((t197.extract 0 8) ++ a1) ++ (strOfNums y198))) else (none))) else (none)) else (none)) else (none)) else (none)) else (none))
theorem rowlockref10_page.mono : ∀ a0 a1 a2 a3 k, LeO (rowlockref10_page.f k a0 a1 a2 a3) (rowlockref10_page.f (k + 1) a0 a1 a2 a3) := by
 intro a0 a1 a2 a3 k
 unfold rowlockref10_page.f
 repeat' first
   | (with_reducible exact rowlockref06_Head.mono _ _ _ _)
   | (with_reducible exact LeO.refl _)
   | (with_reducible exact LeO.none _)
   | (with_reducible refine LeO.ite ?_ ?_)
   | (with_reducible refine LeO.bind ?_ (fun _ => ?_))
   | exact rowlockref06_Head.mono _ _ _ _
   | exact LeO.none _
   | refine LeO.ite ?_ ?_
   | refine LeO.bind ?_ (fun _ => ?_)
set_option maxHeartbeats 8000000 in
set_option maxRecDepth 100000 in
theorem rowlockref10_page.calls (k : Nat) (a0_0 : Int) (a0_1 : Int) (a0_2 : Int) (a1 : ByteArray) (r : ByteArray) (w : World) (h : rowlockref10_page.f k a0_0 a0_1 a0_2 a1 = some r) :
  Calls Try.prog 43 #[.agg #[.int .u8 a0_0, .int .u16 a0_1, .int .u32 a0_2], .string a1] w fun e w' => e = .returned (.string r) ∧ Below w.heap.size w w' := by
 have hu76 := Try.underlying76
 have HB := Aside0.mk (Below.refl w.heap.size w)
 have H : ((rowlockref06_Head.f k a0_0 a0_1 a0_2).bind fun t197 => (if 0 ≤ 8 then (if 8 ≤ (t197.size : Int) then (if (t197.extract 0 8).size + a1.size ≤ 9223372036854775807 then (if 0 ≤ (wrap64 (512 - (((t197.extract 0 8) ++ a1).size : Int))) then (if (wrap64 (512 - (((t197.extract 0 8) ++ a1).size : Int)) : Int).toNat ≤ 281474976710656 then ((some (List.replicate (wrap64 (512 - (((t197.extract 0 8) ++ a1).size : Int)) : Int).toNat 0 : List Int)).bind fun y198 => (if ((t197.extract 0 8) ++ a1).size + (strOfNums y198).size ≤ 9223372036854775807 then (some (((t197.extract 0 8) ++ a1) ++ (strOfNums y198))) else (none))) else (none)) else (none)) else (none)) else (none)) else (none))) = some r := h
 clear h
 replace H := Option.bind_eq_some_iff.mp H
 obtain ⟨t197, A30, H⟩ := H
 replace H : (if 0 ≤ 8 then (if 8 ≤ (t197.size : Int) then (if (t197.extract 0 8).size + a1.size ≤ 9223372036854775807 then (if 0 ≤ (wrap64 (512 - (((t197.extract 0 8) ++ a1).size : Int))) then (if (wrap64 (512 - (((t197.extract 0 8) ++ a1).size : Int)) : Int).toNat ≤ 281474976710656 then ((some (List.replicate (wrap64 (512 - (((t197.extract 0 8) ++ a1).size : Int)) : Int).toNat 0 : List Int)).bind fun y198 => (if ((t197.extract 0 8) ++ a1).size + (strOfNums y198).size ≤ 9223372036854775807 then (some (((t197.extract 0 8) ++ a1) ++ (strOfNums y198))) else (none))) else (none)) else (none)) else (none)) else (none)) else (none)) = some r := H
 have A3 := Aside0.mk A30
 clear A30
 by_cases c4 : 0 ≤ 8
 ·rw [if_pos c4] at H
  have c4b0 := eq_true c4
  have c4b1 : decide (0 ≤ 8) = true := decide_eq_true c4
  clear c4
  by_cases c5 : 8 ≤ (t197.size : Int)
  ·rw [if_pos c5] at H
   have c5b0 := eq_true c5
   have c5b1 : decide (8 ≤ (t197.size : Int)) = true := decide_eq_true c5
   clear c5
   by_cases c6 : (t197.extract 0 8).size + a1.size ≤ 9223372036854775807
   ·rw [if_pos c6] at H
    have c6b0 := eq_true c6
    have c6b1 : decide ((t197.extract 0 8).size + a1.size ≤ 9223372036854775807) = true := decide_eq_true c6
    try have c6b2 : (9223372036854775807 < (t197.extract 0 8).size + a1.size) = False := eq_false (Nat.not_lt.2 c6)
    obtain ⟨ji7, hji7⟩ : ∃ j_ : Int, (wrap64 (512 - (((t197.extract 0 8) ++ a1).size : Int))) = j_ := ⟨_, rfl⟩
    replace H : (if 0 ≤ (ji7) then (if (ji7 : Int).toNat ≤ 281474976710656 then ((some (List.replicate (ji7 : Int).toNat 0 : List Int)).bind fun y198 => (if ((t197.extract 0 8) ++ a1).size + (strOfNums y198).size ≤ 9223372036854775807 then (some (((t197.extract 0 8) ++ a1) ++ (strOfNums y198))) else (none))) else (none)) else (none)) = some r := by first | (rw [hji7] at H; exact H) | (simp only [hji7] at H ⊢; exact H)
    (try rw [hji7] at A3)
    have hji7w : (IntKind.i64.wrap (512 - (((t197.extract 0 8) ++ a1).size : Int))) = ji7 := (i64_w _).trans hji7
    by_cases c8 : 0 ≤ (ji7)
    ·rw [if_pos c8] at H
     have c8b0 := eq_true c8
     have c8b1 : decide (0 ≤ (ji7)) = true := decide_eq_true c8
     clear c8
     by_cases c9 : (ji7 : Int).toNat ≤ 281474976710656
     ·rw [if_pos c9] at H
      have c9b0 := eq_true c9
      have c9b1 : decide ((ji7 : Int).toNat ≤ 281474976710656) = true := decide_eq_true c9
      clear c9
      obtain ⟨y198, hy198⟩ : ∃ y_ : List Int, y_ = (List.replicate (ji7 : Int).toNat 0) := ⟨_, rfl⟩
      replace H : (if ((t197.extract 0 8) ++ a1).size + (strOfNums y198).size ≤ 9223372036854775807 then (some (((t197.extract 0 8) ++ a1) ++ (strOfNums y198))) else (none)) = some r := by first | (rw [hy198]; with_reducible exact H) | (have H2_ := (Option.bind_some _ _).symm.trans H; rw [hy198]; with_reducible exact H2_) | (have H2_ := (Option.bind_some _ _).symm.trans H; with_reducible exact H2_) | with_reducible exact H | (rw [hy198]; exact H) | exact H
      have Ny198 := Aside0.mk hy198
      clear hy198
      by_cases c10 : ((t197.extract 0 8) ++ a1).size + (strOfNums y198).size ≤ 9223372036854775807
      ·rw [if_pos c10] at H
       have c10b0 := eq_true c10
       have c10b1 : decide (((t197.extract 0 8) ++ a1).size + (strOfNums y198).size ≤ 9223372036854775807) = true := decide_eq_true c10
       try have c10b2 : (9223372036854775807 < ((t197.extract 0 8) ++ a1).size + (strOfNums y198).size) = False := eq_false (Nat.not_lt.2 c10)
       try have c10b3 := c10b2
       try simp only [ByteArray.size_append] at c10b3
       obtain rfl := Option.some.inj H
       have hjE_ : (512 - (((min 8 t197.size : Nat) : Int) + (a1.size : Int))) = ji7 := by
        have h1_ := hji7
        have h2_ := of_decide_eq_true c8b1
        rw [ByteArray.size_append, ByteArray.size_extract] at h1_
        rw [ByteArray.size_extract] at c6
        rw [← h1_]
        unfold wrap64
        omega
       try simp only [ByteArray.size_extract, Nat.sub_zero] at c10b3
       go_enter Try.func43, Try.ntmps43
       go_wp2_with (first | ((with_reducible refine gate_dst (N := 2) rfl ?_); refine box_event ?hg (N := 2) ?hd (cs := #[.int .u8 a0_0, .int .u16 a0_1, .int .u32 a0_2]) (t := 76) ?hr ?_; (case hd => rfl); (case hg => rfl); (case hr => first | (go_simp; done) | (go_simp; rfl)); intro gb196 hg w11 hbox hb; have n0_ := Aside0.mk (below_step (by repeat (first | (with_reducible first | exact HB.out | apply below_alloc | apply pw_below_drewN | apply below_drew1) | exact HB.out)) hb); have n1_ := Aside0.mk (hbox); have n2_ := Aside0.mk ((by rw [hg]; exact (below_size (by repeat (first | (with_reducible first | exact HB.out | apply below_alloc | apply pw_below_drewN | apply below_drew1) | exact HB.out))) : w.heap.size ≤ gb196)); have n3_ := Aside0.mk ((by rw [hg]; exact (below_size (by repeat (first | (with_reducible first | exact HB.out | apply below_alloc | apply pw_below_drewN | apply below_drew1) | exact HB.out))) : w.heap.size ≤ gb196)); clear HB; have HB := n0_; have BK196 := n1_; have GW196 := n2_; have GE196 := n3_; clear n0_ n1_ n2_ n3_; clear hb hbox hg; have hcz12_0 : w11.cell? ⟨gb196, 0, none⟩ = some (.int .u8 a0_0) := (blk_cell BK196.out 0).trans rfl; have hcz12_1 : w11.cell? ⟨gb196, 1, none⟩ = some (.int .u16 a0_1) := (blk_cell BK196.out 1).trans rfl; have hcz12_2 : w11.cell? ⟨gb196, 2, none⟩ = some (.int .u32 a0_2) := (blk_cell BK196.out 2).trans rfl; have hfz12_0 := blk_frozen BK196.out 0; have hfz12_1 := blk_frozen BK196.out 1; have hfz12_2 := blk_frozen BK196.out 2) | ((with_reducible refine gate_callee (f := 70) rfl ?_); refine goesL_ (some 7) rfl rfl Try.func70 (by kernel_rfl) rfl #[.agg #[.int .u8 a0_0, .int .u16 a0_1, .int .u32 a0_2]] rfl (by (try simp only [List.map_toArray, List.map_cons, List.map_nil]); first | done | rfl | (simp only [List.length_drop, List.length_take]; rfl)) ?_; (with_reducible refine (rowlockref06_Head.calls k a0_0 a0_1 a0_2 t197 _ A3.out).mono ?_); rintro e w13 ⟨rfl, hb⟩; refine ⟨_, rfl, ?_⟩; have n0_ := Aside0.mk (blk_below (g := gb196) (o := .cells #[.int .u8 a0_0, .int .u16 a0_1, .int .u32 a0_2] 76 (0, 0)) (by (with_reducible repeat (first | refine blk_drewN ?_ _ | refine blk_drew ?_ | refine blk_alloc ?_ _)); exact BK196.out) hb); have n1_ := Aside0.mk (below_step (by repeat (first | (with_reducible first | exact HB.out | apply below_alloc | apply pw_below_drewN | apply below_drew1 | refine below_set ?_ GE196.out) | exact HB.out)) hb); clear BK196; clear HB; have BK196 := n0_; have HB := n1_; clear n0_ n1_; (try clear hb); (try clear hb2); (try clear hk); (try clear hi)) | ((with_reducible refine gate_dst (N := 15) rfl ?_); refine Kd.R_make (Kd.int .u8) _ 5 rfl (N := 15) rfl 36 _ _ rfl ji7 rfl rfl Try.underlying36 (.int .u8 0) 1 info5 rfl (by decide) (by omega) 0 (ok := fun _ => True) (okp := fun _ => True) rfl (fun _ hk => hk) trivial (of_decide_eq_true (by first | (with_reducible assumption) | assumption)) (Nat.le_trans (Nat.mul_le_mul_right _ (of_decide_eq_true (by first | (with_reducible assumption) | assumption) : ji7.toNat ≤ 281474976710656)) (by omega)) (Below.refl _ _) (Nat.le_refl _) ?_; intro v199 w14 ho15 hb hg_ hnew_; clear hg_ hnew_; (first | rw [← Ny198.out] at ho15 | (simp only [Int.reduceToNat] at ho15; rw [← Ny198.out] at ho15)); have n0_ := Aside0.mk (Kd.R_lower ho15 (below_size (by repeat (first | (with_reducible first | exact HB.out | apply below_alloc | apply pw_below_drewN | apply below_drew1 | refine below_set ?_ GE196.out) | exact HB.out)))); have n1_ := Aside0.mk (blk_below (g := gb196) (o := .cells #[.int .u8 a0_0, .int .u16 a0_1, .int .u32 a0_2] 76 (0, 0)) (by (with_reducible repeat (first | refine blk_drewN ?_ _ | refine blk_drew ?_ | refine blk_alloc ?_ _)); exact BK196.out) hb); have n2_ := Aside0.mk (below_step (by repeat (first | (with_reducible first | exact HB.out | apply below_alloc | apply pw_below_drewN | apply below_drew1 | refine below_set ?_ GE196.out) | exact HB.out)) hb); clear BK196; clear HB; have HO200 := n0_; have BK196 := n1_; have HB := n2_; clear n0_ n1_ n2_; clear hb ho15; have hcv16 := own_string (P := Try.prog) Try.underlying36 Try.underlying5 Try.underlying9 (Kd.own_of_R HO200.out)))
       go_ret
       exact ⟨by first | rfl | (simp [errW_none, errW_some] <;> rfl) | (simp only [← hji7]; first | rfl | (simp [errW_none, errW_some] <;> rfl)) | (simp [*, errW_none, errW_some] <;> rfl), by repeat (first | (with_reducible first | exact HB.out | apply below_alloc | apply pw_below_drewN | apply below_drew1 | refine below_set ?_ GE196.out) | exact HB.out)⟩
      ·rw [if_neg c10] at H
       exact absurd H (by simp)
     ·rw [if_neg c9] at H
      exact absurd H (by simp)
    ·rw [if_neg c8] at H
     exact absurd H (by simp)
   ·rw [if_neg c6] at H
    exact absurd H (by simp)
  ·rw [if_neg c5] at H
   exact absurd H (by simp)
 ·rw [if_neg c4] at H
  exact absurd H (by simp)

/-! ### rowlockref10_Leaf: function 15 -/
def rowlockref10_Leaf.l0 : Nat → Int → List (S27) → ByteArray → Int → Int → Option (ByteArray × Int)
 | 0, _, _, _, _, _ => none
 | k + 1, x0, x1, x7, x17, x18 => if x18 < x17 then (if 0 ≤ x18 then (if x18 < (x1.length : Int) then ((rowlockref10_entry.f k ((rd_T27 x1 x18).f0) ((rd_T27 x1 x18).f1.f0) ((rd_T27 x1 x18).f1.f1)).bind fun t204 => (if x7.size + t204.size ≤ 9223372036854775807 then (rowlockref10_Leaf.l0 k x0 x1 (x7 ++ t204) x17 (wrap64 (x18 + 1))) else (none))) else (none)) else (none)) else ((rowlockref10_page.f k 2 (IntKind.u16.wrap ((x1.length : Int))) x0 x7).bind fun t205 => (some (t205, 0)))
def rowlockref10_Leaf.f (k : Nat) (a0 : Int) (l1 : List (S27)) : Option (ByteArray × Int) := (rowlockref10_Size.f k l1 8 8).bind fun t201 => ((rowlockref10_may.f k l1 t201).bind fun t202 => (if t202 = 0 then (rowlockref10_Leaf.l0 k a0 l1 (⟨#[]⟩ : ByteArray) (l1.length : Int) 0) else (some ((⟨#[]⟩ : ByteArray), t202))))
theorem rowlockref10_Leaf.mono_l : ∀ k, (∀ y0 y1 y2 y3 y4, LeO (rowlockref10_Leaf.l0 k y0 y1 y2 y3 y4) (rowlockref10_Leaf.l0 (k + 1) y0 y1 y2 y3 y4))
 | 0 => fun _ _ _ _ _ r h => by simp [rowlockref10_Leaf.l0] at h
 | k + 1 => by
  have ih0 := rowlockref10_Leaf.mono_l k
  ·intro y0 y1 y2 y3 y4
   unfold rowlockref10_Leaf.l0
   repeat' first
   | (with_reducible exact ih0 _ _ _ _ _)
   | (with_reducible exact rowlockref10_Size.mono _ _ _ _)
   | (with_reducible exact rowlockref10_entry.mono _ _ _ _)
   | (with_reducible exact rowlockref10_may.mono _ _ _)
   | (with_reducible exact rowlockref10_page.mono _ _ _ _ _)
   | (with_reducible exact LeO.refl _)
   | (with_reducible exact LeO.none _)
   | (with_reducible refine LeO.ite ?_ ?_)
   | (with_reducible refine LeO.bind ?_ (fun _ => ?_))
   | exact ih0 _ _ _ _ _
   | exact rowlockref10_Size.mono _ _ _ _
   | exact rowlockref10_entry.mono _ _ _ _
   | exact rowlockref10_may.mono _ _ _
   | exact rowlockref10_page.mono _ _ _ _ _
   | exact LeO.none _
   | refine LeO.ite ?_ ?_
   | refine LeO.bind ?_ (fun _ => ?_)
theorem rowlockref10_Leaf.mono : ∀ a0 a1 k, LeO (rowlockref10_Leaf.f k a0 a1) (rowlockref10_Leaf.f (k + 1) a0 a1) := by
 intro a0 a1 k
 have ih0 := rowlockref10_Leaf.mono_l k
 unfold rowlockref10_Leaf.f
 repeat' first
   | (with_reducible exact ih0 _ _ _ _ _)
   | (with_reducible exact rowlockref10_Size.mono _ _ _ _)
   | (with_reducible exact rowlockref10_entry.mono _ _ _ _)
   | (with_reducible exact rowlockref10_may.mono _ _ _)
   | (with_reducible exact rowlockref10_page.mono _ _ _ _ _)
   | (with_reducible exact LeO.refl _)
   | (with_reducible exact LeO.none _)
   | (with_reducible refine LeO.ite ?_ ?_)
   | (with_reducible refine LeO.bind ?_ (fun _ => ?_))
   | exact ih0 _ _ _ _ _
   | exact rowlockref10_Size.mono _ _ _ _
   | exact rowlockref10_entry.mono _ _ _ _
   | exact rowlockref10_may.mono _ _ _
   | exact rowlockref10_page.mono _ _ _ _ _
   | exact LeO.none _
   | refine LeO.ite ?_ ?_
   | refine LeO.bind ?_ (fun _ => ?_)
set_option maxHeartbeats 8000000 in
set_option maxRecDepth 100000 in
theorem rowlockref10_Leaf.calls (k : Nat) (a0 : Int) (A1 : Option Addr) (c1 : Nat) (l1 : List (S27)) (r1 : ByteArray) (r2 : Int) (w : World) (hr1 : Kd.C k27 w A1 l1.length l1) (hc1 : l1.length ≤ c1) (h : rowlockref10_Leaf.f k a0 l1 = some (r1, r2)) :
  Calls Try.prog 15 #[.int .u32 a0, .slice A1 l1.length c1] w fun e w' => e = .returned (.tuple #[.string r1, .int .i64 r2]) ∧ Below w.heap.size w w' := by
 have hu27 := Try.underlying27
 have hu76 := Try.underlying76
 have HR1 := Aside0.mk hr1
 have HC1 := Aside0.mk hc1
 clear hr1 hc1
 have HB := Aside0.mk (Below.refl w.heap.size w)
 have H : ((rowlockref10_Size.f k l1 8 8).bind fun t201 => ((rowlockref10_may.f k l1 t201).bind fun t202 => (if t202 = 0 then (rowlockref10_Leaf.l0 k a0 l1 (⟨#[]⟩ : ByteArray) (l1.length : Int) 0) else (some ((⟨#[]⟩ : ByteArray), t202))))) = some (r1, r2) := h
 clear h
 replace H := Option.bind_eq_some_iff.mp H
 obtain ⟨t201, A30, H⟩ := H
 replace H : ((rowlockref10_may.f k l1 t201).bind fun t202 => (if t202 = 0 then (rowlockref10_Leaf.l0 k a0 l1 (⟨#[]⟩ : ByteArray) (l1.length : Int) 0) else (some ((⟨#[]⟩ : ByteArray), t202)))) = some (r1, r2) := H
 have A3 := Aside0.mk A30
 clear A30
 replace H := Option.bind_eq_some_iff.mp H
 obtain ⟨t202, A40, H⟩ := H
 replace H : (if t202 = 0 then (rowlockref10_Leaf.l0 k a0 l1 (⟨#[]⟩ : ByteArray) (l1.length : Int) 0) else (some ((⟨#[]⟩ : ByteArray), t202))) = some (r1, r2) := H
 have A4 := Aside0.mk A40
 clear A40
 by_cases c5 : t202 = 0
 ·rw [if_pos c5] at H
  have c5b0 : (t202 == 0) = true := beq_iff_eq.mpr c5
  have c5b1 : (t202 != 0) = false := bne_eq_false_iff_eq.mpr c5
  clear c5
  have H' := Aside0.mk H
  clear H
  go_enter Try.func15, Try.ntmps15
  go_wp2_with (first | ((with_reducible refine gate_callee (f := 19) rfl ?_); refine goesL_ (some 11) rfl rfl Try.func19 (by kernel_rfl) rfl #[.slice A1 l1.length c1, .int .i64 8, .int .i64 8] rfl (by (try simp only [List.map_toArray, List.map_cons, List.map_nil]); first | done | rfl | (simp only [List.length_drop, List.length_take]; rfl)) ?_; (with_reducible refine (rowlockref10_Size.calls k _ _ l1 8 8 t201 _ ?side1 ?side2 A3.out).mono ?_); (case side1 => repeat (first | exact HR1.out | (with_reducible refine Kd.C_alloc ?_ _) | (with_reducible refine Kd.C_drewN ?_ _) | (with_reducible refine Kd.C_drew ?_))); (case side2 => exact HC1.out); rintro e w' ⟨rfl, ⟨nd, rfl⟩⟩; refine ⟨_, rfl, ?_⟩) | ((with_reducible refine gate_callee (f := 41) rfl ?_); refine goesL_ (some 12) rfl rfl Try.func41 (by kernel_rfl) rfl #[.slice A1 l1.length c1, .int .i64 t201] rfl (by (try simp only [List.map_toArray, List.map_cons, List.map_nil]); first | done | rfl | (simp only [List.length_drop, List.length_take]; rfl)) ?_; (with_reducible refine (rowlockref10_may.calls k _ _ l1 t201 t202 _ ?side1 ?side2 A4.out).mono ?_); (case side1 => repeat (first | exact HR1.out | (with_reducible refine Kd.C_alloc ?_ _) | (with_reducible refine Kd.C_drewN ?_ _) | (with_reducible refine Kd.C_drew ?_))); (case side2 => exact HC1.out); rintro e w6 ⟨rfl, hb⟩; refine ⟨_, rfl, ?_⟩; have n0_ := Aside0.mk (below_step (by repeat (first | (with_reducible first | exact HB.out | apply below_alloc | apply pw_below_drewN | apply below_drew1) | exact HB.out)) hb); clear HB; have HB := n0_; clear n0_; (try clear hb); (try clear hb2); (try clear hk); (try clear hi)))
  go_loopg [7, 18] k (fun kq v7 v18 w' => ∃ (x7_1 : ByteArray) (x18_1 : Int), v7 = .string x7_1 ∧ v18 = .int .i64 x18_1 ∧ Aside0 (rowlockref10_Leaf.l0 kq a0 l1 x7_1 (l1.length : Int) x18_1 = some (r1, r2)) ∧ Aside0 (kq ≤ k) ∧ Aside0 (Below w.heap.size w w'))
  case atStart => exact ⟨((⟨#[]⟩ : ByteArray)), (0), (by first | rfl | (simp; done) | (simp [*]; done)), (by first | rfl | (simp; done) | (simp [*]; done)), H', ⟨Nat.le_refl _⟩, ⟨by repeat (first | (with_reducible first | exact HB.out | apply below_alloc | apply pw_below_drewN | apply below_drew1) | exact HB.out)⟩⟩
  case round =>
   clear H'
   try clear c1
   try clear p2
   try clear c4
   try clear c5
   try clear c5b0
   try clear c5b1
   obtain ⟨x7_1, x18_1, rfl, rfl, HA, HK1, HB⟩ := hrel
   cases gk with
   | zero => exact absurd HA.out (by simp [rowlockref10_Leaf.l0])
   | succ k1 =>
    have H := HA.out
    clear HA
    simp only [rowlockref10_Leaf.l0] at H
    by_cases c7 : x18_1 < (l1.length : Int)
    ·rw [if_pos c7] at H
     have c7b0 : decide (x18_1 < (l1.length : Int)) = true := decide_eq_true c7
     clear c7
     by_cases c8 : 0 ≤ x18_1
     ·rw [if_pos c8] at H
      have c8b0 : decide (0 ≤ x18_1) = true := decide_eq_true c8
      clear c8
      by_cases c9 : x18_1 < (l1.length : Int)
      ·rw [if_pos c9] at H
       have c9b0 : decide (x18_1 < (l1.length : Int)) = true := decide_eq_true c9
       clear c9
       replace H := Option.bind_eq_some_iff.mp H
       obtain ⟨t204, A100, H⟩ := H
       replace H : (if x7_1.size + t204.size ≤ 9223372036854775807 then (rowlockref10_Leaf.l0 k1 a0 l1 (x7_1 ++ t204) (l1.length : Int) (wrap64 (x18_1 + 1))) else (none)) = some (r1, r2) := H
       have A10 := Aside0.mk A100
       clear A100
       by_cases c11 : x7_1.size + t204.size ≤ 9223372036854775807
       ·rw [if_pos c11] at H
        have c11b0 := eq_true c11
        have c11b1 : decide (x7_1.size + t204.size ≤ 9223372036854775807) = true := decide_eq_true c11
        try have c11b2 : (9223372036854775807 < x7_1.size + t204.size) = False := eq_false (Nat.not_lt.2 c11)
        have H' := Aside0.mk H
        clear H
        have p203 : 0 ≤ (x18_1 : Int) := of_decide_eq_true (by first | (with_reducible assumption) | assumption)
        have q203 : x18_1 < (l1.length : Int) := of_decide_eq_true (by first | (with_reducible assumption) | assumption)
        obtain ⟨ad203, e203, hx203_0, hx203_1, hx203_2⟩ := at_T27 HR1.out x18_1 p203 q203
        cases e203
        replace hx203_0 := (HB.out.cell (World.block_lt_of_cell? w _ hx203_0)).trans hx203_0
        replace hx203_1 := (HB.out.cell (World.block_lt_of_cell? w _ hx203_1)).trans hx203_1
        replace hx203_2 := (HB.out.cell (World.block_lt_of_cell? w _ hx203_2)).trans hx203_2
        replace p203 := eq_true p203
        have p203D := p203; try simp only [List.length_drop, List.length_take] at p203D
        replace q203 := eq_true q203
        have q203D := q203; try simp only [List.length_drop, List.length_take] at q203D
        go_wp2_with (first | ((with_reducible refine gate_callee (f := 42) rfl ?_); refine goesL_ (some 26) rfl rfl Try.func42 (by kernel_rfl) rfl #[.agg #[.string ((rd_T27 l1 x18_1).f0), .int .u32 ((rd_T27 l1 x18_1).f1.f0), .int .u16 ((rd_T27 l1 x18_1).f1.f1)]] rfl (by (try simp only [List.map_toArray, List.map_cons, List.map_nil]); first | done | rfl | (simp only [List.length_drop, List.length_take]; rfl)) ?_; (with_reducible refine (rowlockref10_entry.calls k1 ((rd_T27 l1 x18_1).f0) ((rd_T27 l1 x18_1).f1.f0) ((rd_T27 l1 x18_1).f1.f1) t204 _ A10.out).mono ?_); rintro e w12 ⟨rfl, hb⟩; refine ⟨_, rfl, ?_⟩; have n0_ := Aside0.mk (below_step (by repeat (first | (with_reducible first | exact HB.out | apply below_alloc | apply pw_below_drewN | apply below_drew1) | exact HB.out)) hb); clear HB; have HB := n0_; clear n0_; (try clear hb); (try clear hb2); (try clear hk); (try clear hi)))
        go_roundg k1
        case measure => have := HK1.out; omega
        case rel => exact ⟨(x7_1 ++ t204), (wrap64 (x18_1 + 1)), (by first | rfl | (simp; done) | (simp [*]; done)), (by first | rfl | (simp; done) | (simp [*]; done)), H', ⟨by have := HK1.out; omega⟩, ⟨by repeat (first | (with_reducible first | exact HB.out | apply below_alloc | apply pw_below_drewN | apply below_drew1) | exact HB.out)⟩⟩
       ·rw [if_neg c11] at H
        exact absurd H (by simp)
      ·rw [if_neg c9] at H
       exact absurd H (by simp)
     ·rw [if_neg c8] at H
      exact absurd H (by simp)
    ·rw [if_neg c7] at H
     have c7b0 : decide (x18_1 < (l1.length : Int)) = false := decide_eq_false c7
     clear c7
     replace H := Option.bind_eq_some_iff.mp H
     obtain ⟨t205, A130, H⟩ := H
     replace H : (some (t205, 0)) = some (r1, r2) := H
     have A13 := Aside0.mk A130
     clear A130
     simp only [Option.some.injEq, Prod.mk.injEq] at H
     obtain ⟨rfl, rfl⟩ := H
     go_wp2_with (first | ((with_reducible refine gate_callee (f := 43) rfl ?_); refine goesL_ (some 35) rfl rfl Try.func43 (by kernel_rfl) rfl #[.agg #[.int .u8 2, .int .u16 (IntKind.u16.wrap ((l1.length : Int))), .int .u32 a0], .string x7_1] rfl (by (try simp only [List.map_toArray, List.map_cons, List.map_nil]); first | done | rfl | (simp only [List.length_drop, List.length_take]; rfl)) ?_; (with_reducible refine (rowlockref10_page.calls k1 2 (IntKind.u16.wrap ((l1.length : Int))) a0 x7_1 t205 _ A13.out).mono ?_); rintro e w14 ⟨rfl, hb⟩; refine ⟨_, rfl, ?_⟩; have n0_ := Aside0.mk (below_step (by repeat (first | (with_reducible first | exact HB.out | apply below_alloc | apply pw_below_drewN | apply below_drew1) | exact HB.out)) hb); clear HB; have HB := n0_; clear n0_; (try clear hb); (try clear hb2); (try clear hk); (try clear hi)))
     go_ret2
     exact ⟨by first | rfl | (simp [errW_none, errW_some] <;> rfl) | (simp [*, errW_none, errW_some] <;> rfl), by repeat (first | (with_reducible first | exact HB.out | apply below_alloc | apply pw_below_drewN | apply below_drew1) | exact HB.out)⟩
 ·rw [if_neg c5] at H
  have c5b0 : (t202 == 0) = false := beq_eq_false_iff_ne.mpr c5
  have c5b1 : (t202 != 0) = true := bne_iff_ne.mpr c5
  simp only [Option.some.injEq, Prod.mk.injEq] at H
  obtain ⟨rfl, rfl⟩ := H
  go_enter Try.func15, Try.ntmps15
  go_wp2_with (first | ((with_reducible refine gate_callee (f := 19) rfl ?_); refine goesL_ (some 11) rfl rfl Try.func19 (by kernel_rfl) rfl #[.slice A1 l1.length c1, .int .i64 8, .int .i64 8] rfl (by (try simp only [List.map_toArray, List.map_cons, List.map_nil]); first | done | rfl | (simp only [List.length_drop, List.length_take]; rfl)) ?_; (with_reducible refine (rowlockref10_Size.calls k _ _ l1 8 8 t201 _ ?side1 ?side2 A3.out).mono ?_); (case side1 => repeat (first | exact HR1.out | (with_reducible refine Kd.C_alloc ?_ _) | (with_reducible refine Kd.C_drewN ?_ _) | (with_reducible refine Kd.C_drew ?_))); (case side2 => exact HC1.out); rintro e w' ⟨rfl, ⟨nd, rfl⟩⟩; refine ⟨_, rfl, ?_⟩) | ((with_reducible refine gate_callee (f := 41) rfl ?_); refine goesL_ (some 12) rfl rfl Try.func41 (by kernel_rfl) rfl #[.slice A1 l1.length c1, .int .i64 t201] rfl (by (try simp only [List.map_toArray, List.map_cons, List.map_nil]); first | done | rfl | (simp only [List.length_drop, List.length_take]; rfl)) ?_; (with_reducible refine (rowlockref10_may.calls k _ _ l1 t201 t202 _ ?side1 ?side2 A4.out).mono ?_); (case side1 => repeat (first | exact HR1.out | (with_reducible refine Kd.C_alloc ?_ _) | (with_reducible refine Kd.C_drewN ?_ _) | (with_reducible refine Kd.C_drew ?_))); (case side2 => exact HC1.out); rintro e w15 ⟨rfl, hb⟩; refine ⟨_, rfl, ?_⟩; have n0_ := Aside0.mk (below_step (by repeat (first | (with_reducible first | exact HB.out | apply below_alloc | apply pw_below_drewN | apply below_drew1) | exact HB.out)) hb); clear HB; have HB := n0_; clear n0_; (try clear hb); (try clear hb2); (try clear hk); (try clear hi)))
  go_ret2
  exact ⟨by first | rfl | (simp [errW_none, errW_some] <;> rfl) | (simp [*, errW_none, errW_some] <;> rfl), by repeat (first | (with_reducible first | exact HB.out | apply below_alloc | apply pw_below_drewN | apply below_drew1) | exact HB.out)⟩

end Go.Proofs.Ytihmkdjambdfjaa.XLeaf
