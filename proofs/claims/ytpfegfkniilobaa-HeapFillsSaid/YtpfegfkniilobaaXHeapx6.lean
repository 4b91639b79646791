-- Written by this session's own program (wip/own_print.py) over the kit's print, with this session's hand-proved contracts in their places; Lean checks it.
import Derived.Test.YtpfegfkniilobaaXHeapx0
import Derived.Test.YtpfegfkniilobaaXHeapx2
import Derived.Test.YtpfegfkniilobaaXHeapx5
namespace Go.Proofs.Ytpfegfkniilobaa.XHeap
open Go.RowKit Go.Proofs.YtpfegfkniilobaaW.PrintWords Go.Proofs.YtpfegfkniilobaaW.PrintLast Go.Proofs.YtpfegfkniilobaaW.PrintMore
attribute [local go_sem] max2_int min2_int max_two min_two max_three min_three max_four min_four   -- for this text's walks alone
set_option linter.unusedVariables false
set_option linter.unusedSimpArgs false

/-! ### rowlockref06_Head: function 111 -/
def rowlockref06_Head.f (k : Nat) (a0_0 : Int) (a0_1 : Int) (a0_2 : Int) : Option (ByteArray) := (some (([a0_0, 0] : List Int) : List Int)).bind fun y217 => ((rowlockref06_Number.f k (IntKind.u64.wrap (a0_1)) 2).bind fun t220 => (if (strOfNums y217).size + t220.size ≤ 9223372036854775807 then ((rowlockref06_Number.f k (IntKind.u64.wrap (a0_2)) 4).bind fun t221 => (if ((strOfNums y217) ++ t220).size + t221.size ≤ 9223372036854775807 then ((rowlockref06_zeros.f 504).bind fun t222 => (if (((strOfNums y217) ++ t220) ++ t221).size + t222.size ≤ 9223372036854775807 then (some ((((strOfNums y217) ++ t220) ++ t221) ++ t222)) else (none))) else (none))) else (none)))
theorem rowlockref06_Head.mono : ∀ a0 a1 a2 k, LeO (rowlockref06_Head.f k a0 a1 a2) (rowlockref06_Head.f (k + 1) a0 a1 a2) := by
 intro a0 a1 a2 k
 unfold rowlockref06_Head.f
 repeat' first
   | (with_reducible exact rowlockref06_Number.mono _ _ _)
   | (with_reducible exact LeO.refl _)
   | (with_reducible exact LeO.none _)
   | (with_reducible refine LeO.ite ?_ ?_)
   | (with_reducible refine LeO.bind ?_ (fun _ => ?_))
   | exact rowlockref06_Number.mono _ _ _
   | exact LeO.none _
   | refine LeO.ite ?_ ?_
   | refine LeO.bind ?_ (fun _ => ?_)
def rowlockref06_Head.T1 : Bool × List (List Nat × List Nat) := (true, [([], []), ([0], [0]), ([1], [1]), ([2], [2]), ([], []), ([4], [4]), ([5], [5]), ([6], [6]), ([3, 7], [3, 7]), ([], []), ([9], [9]), ([10], [10]), ([11, 7], [11]), ([8, 12], [8, 12]), ([13, 12, 0, 1, 2, 3, 4, 5, 6, 7, 8, 9, 10, 11, 12, 13], [13])])
def rowlockref06_Head.B1 : List Nat := [0, 1, 3, 7, 0, 16, 48, 112, 255, 0, 512, 1536, 3824, 8191, 16383]
theorem rowlockref06_Head.tab1 : rtab .any (opsOf Try.f111 1) = rowlockref06_Head.T1 := by kernel_rfl
theorem rowlockref06_Head.bits1 : waitsOk rowlockref06_Head.T1.2 rowlockref06_Head.B1 = true := by kernel_rfl
set_option maxHeartbeats 8000000 in
set_option maxRecDepth 100000 in
theorem rowlockref06_Head.calls (k : Nat) (a0_0 : Int) (a0_1 : Int) (a0_2 : Int) (r : ByteArray) (w : World) (h : rowlockref06_Head.f k a0_0 a0_1 a0_2 = some r) :
  Calls Try.prog 111 #[.agg #[.int .u8 a0_0, .int .u16 a0_1, .int .u32 a0_2]] w fun e w' => e = .returned (.string r) ∧ Below w.heap.size w w' := by
 have hu130 := Try.underlying130
 have HB := Aside0.mk (Below.refl w.heap.size w)
 have H : ((some (([a0_0, 0] : List Int) : List Int)).bind fun y217 => ((rowlockref06_Number.f k (IntKind.u64.wrap (a0_1)) 2).bind fun t220 => (if (strOfNums y217).size + t220.size ≤ 9223372036854775807 then ((rowlockref06_Number.f k (IntKind.u64.wrap (a0_2)) 4).bind fun t221 => (if ((strOfNums y217) ++ t220).size + t221.size ≤ 9223372036854775807 then ((rowlockref06_zeros.f 504).bind fun t222 => (if (((strOfNums y217) ++ t220) ++ t221).size + t222.size ≤ 9223372036854775807 then (some ((((strOfNums y217) ++ t220) ++ t221) ++ t222)) else (none))) else (none))) else (none)))) = some r := h
 clear h
 obtain ⟨y217, hy217⟩ : ∃ y_ : List Int, y_ = (([a0_0, 0] : List Int)) := ⟨_, rfl⟩
 replace H : ((rowlockref06_Number.f k (IntKind.u64.wrap (a0_1)) 2).bind fun t220 => (if (strOfNums y217).size + t220.size ≤ 9223372036854775807 then ((rowlockref06_Number.f k (IntKind.u64.wrap (a0_2)) 4).bind fun t221 => (if ((strOfNums y217) ++ t220).size + t221.size ≤ 9223372036854775807 then ((rowlockref06_zeros.f 504).bind fun t222 => (if (((strOfNums y217) ++ t220) ++ t221).size + t222.size ≤ 9223372036854775807 then (some ((((strOfNums y217) ++ t220) ++ t221) ++ t222)) else (none))) else (none))) else (none))) = some r := by first | (rw [hy217]; with_reducible exact H) | (have H2_ := (Option.bind_some _ _).symm.trans H; rw [hy217]; with_reducible exact H2_) | (have H2_ := (Option.bind_some _ _).symm.trans H; with_reducible exact H2_) | with_reducible exact H | (rw [hy217]; exact H) | exact H
 have Ny217 := Aside0.mk hy217
 clear hy217
 replace H := Option.bind_eq_some_iff.mp H
 obtain ⟨t220, A20, H⟩ := H
 replace H : (if (strOfNums y217).size + t220.size ≤ 9223372036854775807 then ((rowlockref06_Number.f k (IntKind.u64.wrap (a0_2)) 4).bind fun t221 => (if ((strOfNums y217) ++ t220).size + t221.size ≤ 9223372036854775807 then ((rowlockref06_zeros.f 504).bind fun t222 => (if (((strOfNums y217) ++ t220) ++ t221).size + t222.size ≤ 9223372036854775807 then (some ((((strOfNums y217) ++ t220) ++ t221) ++ t222)) else (none))) else (none))) else (none)) = some r := H
 have A2 := Aside0.mk A20
 clear A20
 by_cases c3 : (strOfNums y217).size + t220.size ≤ 9223372036854775807
 ·rw [if_pos c3] at H
  have c3b0 := eq_true c3
  have c3b1 : decide ((strOfNums y217).size + t220.size ≤ 9223372036854775807) = true := decide_eq_true c3
  try have c3b2 : (9223372036854775807 < (strOfNums y217).size + t220.size) = False := eq_false (Nat.not_lt.2 c3)
  replace H := Option.bind_eq_some_iff.mp H
  obtain ⟨t221, A40, H⟩ := H
  replace H : (if ((strOfNums y217) ++ t220).size + t221.size ≤ 9223372036854775807 then ((rowlockref06_zeros.f 504).bind fun t222 => (if (((strOfNums y217) ++ t220) ++ t221).size + t222.size ≤ 9223372036854775807 then (some ((((strOfNums y217) ++ t220) ++ t221) ++ t222)) else (none))) else (none)) = some r := H
  have A4 := Aside0.mk A40
  clear A40
  by_cases c5 : ((strOfNums y217) ++ t220).size + t221.size ≤ 9223372036854775807
  ·rw [if_pos c5] at H
   have c5b0 := eq_true c5
   have c5b1 : decide (((strOfNums y217) ++ t220).size + t221.size ≤ 9223372036854775807) = true := decide_eq_true c5
   try have c5b2 : (9223372036854775807 < ((strOfNums y217) ++ t220).size + t221.size) = False := eq_false (Nat.not_lt.2 c5)
   try have c5b3 := c5b2
   try simp only [ByteArray.size_append] at c5b3
   replace H := Option.bind_eq_some_iff.mp H
   obtain ⟨t222, A60, H⟩ := H
   replace H : (if (((strOfNums y217) ++ t220) ++ t221).size + t222.size ≤ 9223372036854775807 then (some ((((strOfNums y217) ++ t220) ++ t221) ++ t222)) else (none)) = some r := H
   have A6 := Aside0.mk A60
   clear A60
   by_cases c7 : (((strOfNums y217) ++ t220) ++ t221).size + t222.size ≤ 9223372036854775807
   ·rw [if_pos c7] at H
    have c7b0 := eq_true c7
    have c7b1 : decide ((((strOfNums y217) ++ t220) ++ t221).size + t222.size ≤ 9223372036854775807) = true := decide_eq_true c7
    try have c7b2 : (9223372036854775807 < (((strOfNums y217) ++ t220) ++ t221).size + t222.size) = False := eq_false (Nat.not_lt.2 c7)
    try have c7b3 := c7b2
    try simp only [ByteArray.size_append] at c7b3
    obtain rfl := Option.some.inj H
    go_enter Try.func111, Try.ntmps111
    try go_wp2_with (first | ((with_reducible refine gate_dst (N := 1) rfl ?_); refine box_event ?hg (N := 1) ?hd (cs := #[.int .u8 a0_0, .int .u16 a0_1, .int .u32 a0_2]) (t := 130) ?hr ?_; (case hd => rfl); (case hg => rfl); (case hr => first | (go_simp; done) | (go_simp; rfl)); intro gb216 hg w8 hbox hb; have n0_ := Aside0.mk (below_step (by repeat (first | (with_reducible first | exact HB.out | apply below_alloc | apply pw_below_drewN | apply below_drew1) | exact HB.out)) hb); have n1_ := Aside0.mk (hbox); have n2_ := Aside0.mk ((by rw [hg]; exact (below_size (by repeat (first | (with_reducible first | exact HB.out | apply below_alloc | apply pw_below_drewN | apply below_drew1) | exact HB.out))) : w.heap.size ≤ gb216)); have n3_ := Aside0.mk ((by rw [hg]; exact (below_size (by repeat (first | (with_reducible first | exact HB.out | apply below_alloc | apply pw_below_drewN | apply below_drew1) | exact HB.out))) : w.heap.size ≤ gb216)); clear HB; have HB := n0_; have BK216 := n1_; have GW216 := n2_; have GE216 := n3_; clear n0_ n1_ n2_ n3_; clear hb hbox hg))
    have n0_ := Aside0.mk (blk_drew BK216.out)
    have n1_ := Aside0.mk (below_drew1 HB.out)
    clear BK216
    clear HB
    have BK216 := n0_
    have HB := n1_
    clear n0_ n1_
    refine start_ (n := 15) (S := fun w' => w'.cell? ⟨gb216, 0, none⟩ = some (.int .u8 a0_0) ∧ w'.cell? ⟨gb216, 1, none⟩ = some (.int .u16 a0_1) ∧ w'.cell? ⟨gb216, 2, none⟩ = some (.int .u32 a0_2)) (ds := []) #[false, false, false, false, false, false, false, false, false, false, false, false, false, false, false] (by kernel_rfl) rfl rfl ⟨(blk_cell BK216.out 0).trans rfl, (blk_cell BK216.out 1).trans rfl, (blk_cell BK216.out 2).trans rfl⟩ (fun hHeld => ?_); refine with_tabW rowlockref06_Head.tab1 rowlockref06_Head.bits1 (fun HT_ HW_ => ?_)
    generalize w8.drew = w9 at BK216 HB hHeld ⊢
    refine pure_ (i := 0) (N := some 4) (v := ?_) (a' := ?_) #[true, false, false, false, false, false, false, false, false, false, false, false, false, false, false] rfl rfl (any_of HT_.out (by kernel_rfl)) (fun _ _ _ h => h) (Or.inl ⟨by rfl, ?_⟩) ?_ ?_
    rotate_left
    ·intro w'
     go_simp
     with_reducible rfl
    rotate_left
    ·simp only [Act.put, List.setIfInBounds_toArray, List.set_cons_zero, List.set_cons_succ, i64_w, i32_w]
     rfl
    refine pure_ (i := 4) (N := some 8) (v := ?_) (a' := ?_) #[true, false, false, false, true, false, false, false, false, false, false, false, false, false, false] rfl rfl (any_of HT_.out (by kernel_rfl)) (fun _ _ _ h => h) (Or.inl ⟨by rfl, ?_⟩) ?_ ?_
    rotate_left
    ·intro w'
     go_simp
     with_reducible rfl
    rotate_left
    ·simp only [Act.put, List.setIfInBounds_toArray, List.set_cons_zero, List.set_cons_succ, i64_w, i32_w]
     rfl
    refine pure_ (i := 9) (N := some 13) (v := ?_) (a' := ?_) #[true, false, false, false, true, false, false, false, false, true, false, false, false, false, false] rfl rfl (any_of HT_.out (by kernel_rfl)) (fun _ _ _ h => h) (Or.inl ⟨by rfl, ?_⟩) ?_ ?_
    rotate_left
    ·intro w'
     go_simp
     with_reducible rfl
    rotate_left
    ·simp only [Act.put, List.setIfInBounds_toArray, List.set_cons_zero, List.set_cons_succ, i64_w, i32_w]
     rfl
    refine take_ (i := 1) (N := some 5) (v := ?_) (a' := ?_) #[true, true, false, false, true, false, false, false, false, true, false, false, false, false, false] rfl rfl (take_ofW HT_.out HW_.out (by kernel_rfl)) (fun _ _ _ h => h) (Or.inl ⟨by rfl, ?_⟩) hHeld ?_ ?_
    rotate_left
    ·rintro w' ⟨s0, s1, s2⟩
     go_simp
     with_reducible rfl
    rotate_left
    ·simp only [Act.put, List.setIfInBounds_toArray, List.set_cons_zero, List.set_cons_succ, i64_w, i32_w]
     rfl
    refine take_ (i := 5) (N := some 9) (v := ?_) (a' := ?_) #[true, true, false, false, true, true, false, false, false, true, false, false, false, false, false] rfl rfl (take_ofW HT_.out HW_.out (by kernel_rfl)) (fun _ _ _ h => h) (Or.inl ⟨by rfl, ?_⟩) hHeld ?_ ?_
    rotate_left
    ·rintro w' ⟨s0, s1, s2⟩
     go_simp
     with_reducible rfl
    rotate_left
    ·simp only [Act.put, List.setIfInBounds_toArray, List.set_cons_zero, List.set_cons_succ, i64_w, i32_w]
     rfl
    refine pure_ (i := 6) (N := some 10) (v := ?_) (a' := ?_) #[true, true, false, false, true, true, true, false, false, true, false, false, false, false, false] rfl rfl (any_of HT_.out (by kernel_rfl)) (fun _ _ _ h => h) (Or.inl ⟨by rfl, ?_⟩) ?_ ?_
    rotate_left
    ·intro w'
     go_simp
     with_reducible rfl
    rotate_left
    ·simp only [Act.put, List.setIfInBounds_toArray, List.set_cons_zero, List.set_cons_succ, i64_w, i32_w]
     rfl
    refine take_ (i := 10) (N := some 14) (v := ?_) (a' := ?_) #[true, true, false, false, true, true, true, false, false, true, true, false, false, false, false] rfl rfl (take_ofW HT_.out HW_.out (by kernel_rfl)) (fun _ _ _ h => h) (Or.inl ⟨by rfl, ?_⟩) hHeld ?_ ?_
    rotate_left
    ·rintro w' ⟨s0, s1, s2⟩
     go_simp
     with_reducible rfl
    rotate_left
    ·simp only [Act.put, List.setIfInBounds_toArray, List.set_cons_zero, List.set_cons_succ, i64_w, i32_w]
     rfl
    refine pure_ (i := 11) (N := some 15) (v := ?_) (a' := ?_) #[true, true, false, false, true, true, true, false, false, true, true, true, false, false, false] rfl rfl (any_of HT_.out (by kernel_rfl)) (fun _ _ _ h => h) (Or.inl ⟨by rfl, ?_⟩) ?_ ?_
    rotate_left
    ·intro w'
     go_simp
     with_reducible rfl
    rotate_left
    ·simp only [Act.put, List.setIfInBounds_toArray, List.set_cons_zero, List.set_cons_succ, i64_w, i32_w]
     rfl
    refine join_ (σ := Value) 2 #[true, true, true, true, true, true, true, true, true, true, true, true, true, false, false] (fun s_ => [(6, s_), (7, .string (strOfNums y217)), (11, .string t220), (16, .string t221), (12, .string ((strOfNums y217) ++ t220))]) (fun s_ w' => (w'.cell? ⟨gb216, 0, none⟩ = some (.int .u8 a0_0) ∧ w'.cell? ⟨gb216, 1, none⟩ = some (.int .u16 a0_1) ∧ w'.cell? ⟨gb216, 2, none⟩ = some (.int .u32 a0_2)) ∧ (Kd.R (Kd.int .u8) 5 w' w.heap.size (fun _ => True) s_ y217) ∧ (w'.heap[gb216]? = some (.cells #[.int .u8 a0_0, .int .u16 a0_1, .int .u32 a0_2] 130 (0, 0))) ∧ (Below w.heap.size w w')) ?_ ?_
    rotate_left
    ·intro hJ2_3_7_12
     refine join_ (σ := Value) 3 #[true, true, true, true, true, true, true, true, true, true, true, true, false, false, false] (fun s_ => [(6, s_), (7, .string (strOfNums y217)), (11, .string t220), (12, .string ((strOfNums y217) ++ t220))]) (fun s_ w' => (w'.cell? ⟨gb216, 0, none⟩ = some (.int .u8 a0_0) ∧ w'.cell? ⟨gb216, 1, none⟩ = some (.int .u16 a0_1) ∧ w'.cell? ⟨gb216, 2, none⟩ = some (.int .u32 a0_2)) ∧ (Kd.R (Kd.int .u8) 5 w' w.heap.size (fun _ => True) s_ y217) ∧ (w'.heap[gb216]? = some (.cells #[.int .u8 a0_0, .int .u16 a0_1, .int .u32 a0_2] 130 (0, 0))) ∧ (Below w.heap.size w w')) ?_ ?_
     rotate_left
     ·intro hJ2_3_7
      refine join_ (σ := Value) 4 #[true, true, true, false, true, true, true, true, false, true, true, true, true, false, false] (fun s_ => [(6, s_), (11, .string t220), (16, .string t221)]) (fun s_ w' => (w'.cell? ⟨gb216, 0, none⟩ = some (.int .u8 a0_0) ∧ w'.cell? ⟨gb216, 1, none⟩ = some (.int .u16 a0_1) ∧ w'.cell? ⟨gb216, 2, none⟩ = some (.int .u32 a0_2)) ∧ (Kd.R (Kd.int .u8) 5 w' w.heap.size (fun _ => True) s_ y217) ∧ (w'.heap[gb216]? = some (.cells #[.int .u8 a0_0, .int .u16 a0_1, .int .u32 a0_2] 130 (0, 0))) ∧ (Below w.heap.size w w')) ?_ ?_
      rotate_left
      ·intro hJ2_7_12
       refine join_ (σ := Value) 5 #[true, true, true, true, true, true, true, false, false, true, true, true, false, false, false] (fun s_ => [(6, s_), (7, .string (strOfNums y217))]) (fun s_ w' => (w'.cell? ⟨gb216, 0, none⟩ = some (.int .u8 a0_0) ∧ w'.cell? ⟨gb216, 1, none⟩ = some (.int .u16 a0_1) ∧ w'.cell? ⟨gb216, 2, none⟩ = some (.int .u32 a0_2)) ∧ (Kd.R (Kd.int .u8) 5 w' w.heap.size (fun _ => True) s_ y217) ∧ (w'.heap[gb216]? = some (.cells #[.int .u8 a0_0, .int .u16 a0_1, .int .u32 a0_2] 130 (0, 0))) ∧ (Below w.heap.size w w')) ?_ ?_
       rotate_left
       ·intro hJ2_3
        refine join_ (σ := Value) 5 #[true, true, true, false, true, true, true, true, false, true, true, true, false, false, false] (fun s_ => [(6, s_), (11, .string t220)]) (fun s_ w' => (w'.cell? ⟨gb216, 0, none⟩ = some (.int .u8 a0_0) ∧ w'.cell? ⟨gb216, 1, none⟩ = some (.int .u16 a0_1) ∧ w'.cell? ⟨gb216, 2, none⟩ = some (.int .u32 a0_2)) ∧ (Kd.R (Kd.int .u8) 5 w' w.heap.size (fun _ => True) s_ y217) ∧ (w'.heap[gb216]? = some (.cells #[.int .u8 a0_0, .int .u16 a0_1, .int .u32 a0_2] 130 (0, 0))) ∧ (Below w.heap.size w w')) ?_ ?_
        rotate_left
        ·intro hJ2_7
         refine join_ (σ := Unit) 5 #[true, true, false, false, true, true, true, true, false, true, true, true, true, false, false] (fun s_ => [(11, .string t220), (16, .string t221)]) (fun s_ w' => (w'.cell? ⟨gb216, 0, none⟩ = some (.int .u8 a0_0) ∧ w'.cell? ⟨gb216, 1, none⟩ = some (.int .u16 a0_1) ∧ w'.cell? ⟨gb216, 2, none⟩ = some (.int .u32 a0_2)) ∧ (w'.heap[gb216]? = some (.cells #[.int .u8 a0_0, .int .u16 a0_1, .int .u32 a0_2] 130 (0, 0))) ∧ (Below w.heap.size w w')) ?_ ?_
         rotate_left
         ·intro hJ7_12
          refine join_ (σ := Value) 6 #[true, true, true, false, true, true, true, false, false, true, true, true, false, false, false] (fun s_ => [(6, s_)]) (fun s_ w' => (w'.cell? ⟨gb216, 0, none⟩ = some (.int .u8 a0_0) ∧ w'.cell? ⟨gb216, 1, none⟩ = some (.int .u16 a0_1) ∧ w'.cell? ⟨gb216, 2, none⟩ = some (.int .u32 a0_2)) ∧ (Kd.R (Kd.int .u8) 5 w' w.heap.size (fun _ => True) s_ y217) ∧ (w'.heap[gb216]? = some (.cells #[.int .u8 a0_0, .int .u16 a0_1, .int .u32 a0_2] 130 (0, 0))) ∧ (Below w.heap.size w w')) ?_ ?_
          rotate_left
          ·intro hJ2
           refine join_ (σ := Unit) 6 #[true, true, false, false, true, true, true, true, false, true, true, true, false, false, false] (fun s_ => [(11, .string t220)]) (fun s_ w' => (w'.cell? ⟨gb216, 0, none⟩ = some (.int .u8 a0_0) ∧ w'.cell? ⟨gb216, 1, none⟩ = some (.int .u16 a0_1) ∧ w'.cell? ⟨gb216, 2, none⟩ = some (.int .u32 a0_2)) ∧ (w'.heap[gb216]? = some (.cells #[.int .u8 a0_0, .int .u16 a0_1, .int .u32 a0_2] 130 (0, 0))) ∧ (Below w.heap.size w w')) ?_ ?_
           rotate_left
           ·intro hJ7
            refine two_ (i := 2) (j := 7) (Ni := some 6) (Nj := some 11) #[true, true, true, false, true, true, true, false, false, true, true, true, false, false, false] #[true, true, false, false, true, true, true, true, false, true, true, true, false, false, false] rfl rfl rfl rfl (two_of HT_.out (by kernel_rfl)) (by decide) (by decide) (fun K hK => ?_) (fun K hK => ?_)
            ·skip
             refine Kd.R_lit_step (Kd.int .u8) _ 5 ?hg (N := 6) ?hd (xs := ([a0_0, 0] : List Int)) (inner := [.int .u8 a0_0, .int .u8 0]) (ok := fun _ => True) (okp := fun _ => True) ?hr ?hp (fun _ hk => hk) trivial (Below.refl _ _) (Nat.le_refl _) (by simp) ?_; (case hd => rfl); (case hg => rfl); (case hr => first | (go_simp; done) | (go_simp; rfl)); (case hp => exact (Reps.one (show Kd.M (Kd.int .u8) _ _ _ a0_0 [.int .u8 a0_0] from rfl) (Reps.one (show Kd.M (Kd.int .u8) _ _ _ 0 [.int .u8 0] from rfl) (Reps.none _ _))))
             intro v218 w10 ho11 hb hg_ hnew_
             clear hg_ hnew_
             (first | rw [← Ny217.out] at ho11 | (simp only [Int.reduceToNat] at ho11; rw [← Ny217.out] at ho11))
             have n0_ := Aside0.mk (Kd.R_lower ho11 (below_size (by repeat (first | (with_reducible first | exact HB.out | apply below_alloc | apply pw_below_drewN | apply below_drew1 | refine below_set ?_ GE216.out) | exact HB.out))))
             have n1_ := Aside0.mk (blk_below (g := gb216) (o := .cells #[.int .u8 a0_0, .int .u16 a0_1, .int .u32 a0_2] 130 (0, 0)) (by (with_reducible repeat (first | refine blk_drewN ?_ _ | refine blk_drew ?_ | refine blk_alloc ?_ _)); exact BK216.out) hb)
             have n2_ := Aside0.mk (below_step (by repeat (first | (with_reducible first | exact HB.out | apply below_alloc | apply pw_below_drewN | apply below_drew1 | refine below_set ?_ GE216.out) | exact HB.out)) hb)
             clear BK216
             clear HB
             have HO219 := n0_
             have BK216 := n1_
             have HB := n2_
             clear n0_ n1_ n2_
             clear hb ho11
             refine hK.out _ _ ⟨(blk_cell BK216.out 0).trans rfl, (blk_cell BK216.out 1).trans rfl, (blk_cell BK216.out 2).trans rfl⟩ (fun hHeld => ?_)
             clear hK K
             refine norm_ (a' := ?_) ?_ ?_
             rotate_left
             ·show Act.put _ (some 6) _ = _
              simp only [Act.put, List.setIfInBounds_toArray, List.set_cons_zero, List.set_cons_succ, i64_w, i32_w]
              rfl
             exact norm_ (by first | (simp only [putAll, Act.put, List.setIfInBounds_toArray, List.set_cons_zero, List.set_cons_succ]; done) | (simp only [putAll, Act.put, List.setIfInBounds_toArray, List.set_cons_zero, List.set_cons_succ]; rfl)) (hJ2 (v218) _ ⟨hHeld, (by (with_reducible repeat (first | apply Kd.R_alloc | apply Kd.R_drewN | apply Kd.R_drew)); exact HO219.out), (by (with_reducible repeat (first | refine blk_drewN ?_ _ | refine blk_drew ?_ | refine blk_alloc ?_ _)); exact BK216.out), (by repeat (first | (with_reducible first | exact HB.out | apply below_alloc | apply pw_below_drewN | apply below_drew1 | refine below_set ?_ GE216.out) | exact HB.out))⟩)
            ·skip
             refine goes_ Try.func96 (by kernel_rfl) rfl #[.int .u64 (IntKind.u64.wrap (a0_1)), .int .i64 2] (by rfl) rfl rfl (by (try simp only [List.map_toArray, List.map_cons, List.map_nil]); first | done | rfl | (simp only [List.length_drop, List.length_take]; rfl)) ?_
             with_reducible refine (rowlockref06_Number.calls k (IntKind.u64.wrap (a0_1)) 2 t220 _ A2.out).mono ?_
             rintro e w10 ⟨rfl, hb⟩
             refine ⟨_, rfl, ?_⟩
             have n0_ := Aside0.mk (blk_below (g := gb216) (o := .cells #[.int .u8 a0_0, .int .u16 a0_1, .int .u32 a0_2] 130 (0, 0)) (by (with_reducible repeat (first | refine blk_drewN ?_ _ | refine blk_drew ?_ | refine blk_alloc ?_ _)); exact BK216.out) hb)
             have n1_ := Aside0.mk (below_step (by repeat (first | (with_reducible first | exact HB.out | apply below_alloc | apply pw_below_drewN | apply below_drew1 | refine below_set ?_ GE216.out) | exact HB.out)) hb)
             clear BK216
             clear HB
             have BK216 := n0_
             have HB := n1_
             clear n0_ n1_
             (try clear hb)
             (try clear hb2)
             (try clear hk)
             (try clear hi)
             refine hK.out _ _ ⟨(blk_cell BK216.out 0).trans rfl, (blk_cell BK216.out 1).trans rfl, (blk_cell BK216.out 2).trans rfl⟩ (fun hHeld => ?_)
             clear hK K
             refine norm_ (a' := ?_) ?_ ?_
             rotate_left
             ·show Act.put _ (some 11) _ = _
              simp only [Act.put, List.setIfInBounds_toArray, List.set_cons_zero, List.set_cons_succ, i64_w, i32_w]
              rfl
             exact norm_ (by first | (simp only [putAll, Act.put, List.setIfInBounds_toArray, List.set_cons_zero, List.set_cons_succ]; done) | (simp only [putAll, Act.put, List.setIfInBounds_toArray, List.set_cons_zero, List.set_cons_succ]; rfl)) (hJ7 () _ ⟨hHeld, (by (with_reducible repeat (first | refine blk_drewN ?_ _ | refine blk_drew ?_ | refine blk_alloc ?_ _)); exact BK216.out), (by repeat (first | (with_reducible first | exact HB.out | apply below_alloc | apply pw_below_drewN | apply below_drew1 | refine below_set ?_ GE216.out) | exact HB.out))⟩)
           ·skip
            rintro _ w11 ⟨hS_, h0_, h1_⟩
            have n0_ : Aside0 (w11.heap[gb216]? = some (.cells #[.int .u8 a0_0, .int .u16 a0_1, .int .u32 a0_2] 130 (0, 0))) := ⟨h0_⟩
            have n1_ : Aside0 (Below w.heap.size w w11) := ⟨h1_⟩
            clear BK216
            clear HB
            clear h0_ h1_
            have BK216 := n0_
            have HB := n1_
            clear n0_ n1_
            have hHeld : w11.cell? ⟨gb216, 0, none⟩ = some (.int .u8 a0_0) ∧ w11.cell? ⟨gb216, 1, none⟩ = some (.int .u16 a0_1) ∧ w11.cell? ⟨gb216, 2, none⟩ = some (.int .u32 a0_2) := hS_
            refine norm_ (a' := ?_) ?_ ?_
            rotate_left
            ·simp only [putAll, Act.put, List.setIfInBounds_toArray, List.set_cons_zero, List.set_cons_succ]
             rfl
            refine two_ (i := 2) (j := 12) (Ni := some 6) (Nj := some 16) #[true, true, true, false, true, true, true, true, false, true, true, true, false, false, false] #[true, true, false, false, true, true, true, true, false, true, true, true, true, false, false] rfl rfl rfl rfl (two_of HT_.out (by kernel_rfl)) (by decide) (by decide) (fun K hK => ?_) (fun K hK => ?_)
            ·skip
             refine Kd.R_lit_step (Kd.int .u8) _ 5 ?hg (N := 6) ?hd (xs := ([a0_0, 0] : List Int)) (inner := [.int .u8 a0_0, .int .u8 0]) (ok := fun _ => True) (okp := fun _ => True) ?hr ?hp (fun _ hk => hk) trivial (Below.refl _ _) (Nat.le_refl _) (by simp) ?_; (case hd => rfl); (case hg => rfl); (case hr => first | (go_simp; done) | (go_simp; rfl)); (case hp => exact (Reps.one (show Kd.M (Kd.int .u8) _ _ _ a0_0 [.int .u8 a0_0] from rfl) (Reps.one (show Kd.M (Kd.int .u8) _ _ _ 0 [.int .u8 0] from rfl) (Reps.none _ _))))
             intro v218 w12 ho13 hb hg_ hnew_
             clear hg_ hnew_
             (first | rw [← Ny217.out] at ho13 | (simp only [Int.reduceToNat] at ho13; rw [← Ny217.out] at ho13))
             have n0_ := Aside0.mk (Kd.R_lower ho13 (below_size (by repeat (first | (with_reducible first | exact HB.out | apply below_alloc | apply pw_below_drewN | apply below_drew1 | refine below_set ?_ GE216.out) | exact HB.out))))
             have n1_ := Aside0.mk (blk_below (g := gb216) (o := .cells #[.int .u8 a0_0, .int .u16 a0_1, .int .u32 a0_2] 130 (0, 0)) (by (with_reducible repeat (first | refine blk_drewN ?_ _ | refine blk_drew ?_ | refine blk_alloc ?_ _)); exact BK216.out) hb)
             have n2_ := Aside0.mk (below_step (by repeat (first | (with_reducible first | exact HB.out | apply below_alloc | apply pw_below_drewN | apply below_drew1 | refine below_set ?_ GE216.out) | exact HB.out)) hb)
             clear BK216
             clear HB
             have HO219 := n0_
             have BK216 := n1_
             have HB := n2_
             clear n0_ n1_ n2_
             clear hb ho13
             refine hK.out _ _ ⟨(blk_cell BK216.out 0).trans rfl, (blk_cell BK216.out 1).trans rfl, (blk_cell BK216.out 2).trans rfl⟩ (fun hHeld => ?_)
             clear hK K
             refine norm_ (a' := ?_) ?_ ?_
             rotate_left
             ·show Act.put _ (some 6) _ = _
              simp only [Act.put, List.setIfInBounds_toArray, List.set_cons_zero, List.set_cons_succ, i64_w, i32_w]
              rfl
             exact norm_ (by first | (simp only [putAll, Act.put, List.setIfInBounds_toArray, List.set_cons_zero, List.set_cons_succ]; done) | (simp only [putAll, Act.put, List.setIfInBounds_toArray, List.set_cons_zero, List.set_cons_succ]; rfl)) (hJ2_7 (v218) _ ⟨hHeld, (by (with_reducible repeat (first | apply Kd.R_alloc | apply Kd.R_drewN | apply Kd.R_drew)); exact HO219.out), (by (with_reducible repeat (first | refine blk_drewN ?_ _ | refine blk_drew ?_ | refine blk_alloc ?_ _)); exact BK216.out), (by repeat (first | (with_reducible first | exact HB.out | apply below_alloc | apply pw_below_drewN | apply below_drew1 | refine below_set ?_ GE216.out) | exact HB.out))⟩)
            ·skip
             refine goes_ Try.func96 (by kernel_rfl) rfl #[.int .u64 (IntKind.u64.wrap (a0_2)), .int .i64 4] (by rfl) rfl rfl (by (try simp only [List.map_toArray, List.map_cons, List.map_nil]); first | done | rfl | (simp only [List.length_drop, List.length_take]; rfl)) ?_
             with_reducible refine (rowlockref06_Number.calls k (IntKind.u64.wrap (a0_2)) 4 t221 _ A4.out).mono ?_
             rintro e w12 ⟨rfl, hb⟩
             refine ⟨_, rfl, ?_⟩
             have n0_ := Aside0.mk (blk_below (g := gb216) (o := .cells #[.int .u8 a0_0, .int .u16 a0_1, .int .u32 a0_2] 130 (0, 0)) (by (with_reducible repeat (first | refine blk_drewN ?_ _ | refine blk_drew ?_ | refine blk_alloc ?_ _)); exact BK216.out) hb)
             have n1_ := Aside0.mk (below_step (by repeat (first | (with_reducible first | exact HB.out | apply below_alloc | apply pw_below_drewN | apply below_drew1 | refine below_set ?_ GE216.out) | exact HB.out)) hb)
             clear BK216
             clear HB
             have BK216 := n0_
             have HB := n1_
             clear n0_ n1_
             (try clear hb)
             (try clear hb2)
             (try clear hk)
             (try clear hi)
             refine hK.out _ _ ⟨(blk_cell BK216.out 0).trans rfl, (blk_cell BK216.out 1).trans rfl, (blk_cell BK216.out 2).trans rfl⟩ (fun hHeld => ?_)
             clear hK K
             refine norm_ (a' := ?_) ?_ ?_
             rotate_left
             ·show Act.put _ (some 16) _ = _
              simp only [Act.put, List.setIfInBounds_toArray, List.set_cons_zero, List.set_cons_succ, i64_w, i32_w]
              rfl
             exact norm_ (by first | (simp only [putAll, Act.put, List.setIfInBounds_toArray, List.set_cons_zero, List.set_cons_succ]; done) | (simp only [putAll, Act.put, List.setIfInBounds_toArray, List.set_cons_zero, List.set_cons_succ]; rfl)) (hJ7_12 () _ ⟨hHeld, (by (with_reducible repeat (first | refine blk_drewN ?_ _ | refine blk_drew ?_ | refine blk_alloc ?_ _)); exact BK216.out), (by repeat (first | (with_reducible first | exact HB.out | apply below_alloc | apply pw_below_drewN | apply below_drew1 | refine below_set ?_ GE216.out) | exact HB.out))⟩)
          ·skip
           rintro v218 w12 ⟨hS_, h0_, h1_, h2_⟩
           have n0_ : Aside0 (Kd.R (Kd.int .u8) 5 w12 w.heap.size (fun _ => True) v218 y217) := ⟨h0_⟩
           have n1_ : Aside0 (w12.heap[gb216]? = some (.cells #[.int .u8 a0_0, .int .u16 a0_1, .int .u32 a0_2] 130 (0, 0))) := ⟨h1_⟩
           have n2_ : Aside0 (Below w.heap.size w w12) := ⟨h2_⟩
           clear BK216
           clear HB
           clear h0_ h1_ h2_
           have HO219 := n0_
           have BK216 := n1_
           have HB := n2_
           clear n0_ n1_ n2_
           have hHeld : w12.cell? ⟨gb216, 0, none⟩ = some (.int .u8 a0_0) ∧ w12.cell? ⟨gb216, 1, none⟩ = some (.int .u16 a0_1) ∧ w12.cell? ⟨gb216, 2, none⟩ = some (.int .u32 a0_2) := hS_
           refine norm_ (a' := ?_) ?_ ?_
           rotate_left
           ·simp only [putAll, Act.put, List.setIfInBounds_toArray, List.set_cons_zero, List.set_cons_succ]
            rfl
           refine two_ (i := 3) (j := 7) (Ni := some 7) (Nj := some 11) #[true, true, true, true, true, true, true, false, false, true, true, true, false, false, false] #[true, true, true, false, true, true, true, true, false, true, true, true, false, false, false] rfl rfl rfl rfl (two_of HT_.out (by kernel_rfl)) (by decide) (by decide) (fun K hK => ?_) (fun K hK => ?_)
           ·skip
            have hcv13 := own_string (P := Try.prog) Try.underlying52 Try.underlying5 Try.underlying9 (Kd.own_of_R HO219.out)
            refine value_ (w1 := ?_) (v := ?_) (by rfl) rfl ?_ ?_
            rotate_left 2
            ·go_simp
             constructor
             ·rfl
             ·rfl
            clear hcv13
            refine hK.out _ _ ⟨(blk_cell BK216.out 0).trans rfl, (blk_cell BK216.out 1).trans rfl, (blk_cell BK216.out 2).trans rfl⟩ (fun hHeld => ?_)
            clear hK K
            refine norm_ (a' := ?_) ?_ ?_
            rotate_left
            ·show Act.put _ (some 7) _ = _
             simp only [Act.put, List.setIfInBounds_toArray, List.set_cons_zero, List.set_cons_succ, i64_w, i32_w]
             rfl
            exact norm_ (by first | (simp only [putAll, Act.put, List.setIfInBounds_toArray, List.set_cons_zero, List.set_cons_succ]; done) | (simp only [putAll, Act.put, List.setIfInBounds_toArray, List.set_cons_zero, List.set_cons_succ]; rfl)) (hJ2_3 (v218) _ ⟨hHeld, (by (with_reducible repeat (first | apply Kd.R_alloc | apply Kd.R_drewN | apply Kd.R_drew)); exact HO219.out), (by (with_reducible repeat (first | refine blk_drewN ?_ _ | refine blk_drew ?_ | refine blk_alloc ?_ _)); exact BK216.out), (by repeat (first | (with_reducible first | exact HB.out | apply below_alloc | apply pw_below_drewN | apply below_drew1 | refine below_set ?_ GE216.out) | exact HB.out))⟩)
           ·skip
            refine goes_ Try.func96 (by kernel_rfl) rfl #[.int .u64 (IntKind.u64.wrap (a0_1)), .int .i64 2] (by rfl) rfl rfl (by (try simp only [List.map_toArray, List.map_cons, List.map_nil]); first | done | rfl | (simp only [List.length_drop, List.length_take]; rfl)) ?_
            with_reducible refine (rowlockref06_Number.calls k (IntKind.u64.wrap (a0_1)) 2 t220 _ A2.out).mono ?_
            rintro e w13 ⟨rfl, hb⟩
            refine ⟨_, rfl, ?_⟩
            have n0_ := Aside0.mk (Kd.R_below (by (with_reducible repeat (first | apply Kd.R_alloc | apply Kd.R_drewN | apply Kd.R_drew)); exact HO219.out) hb)
            have n1_ := Aside0.mk (blk_below (g := gb216) (o := .cells #[.int .u8 a0_0, .int .u16 a0_1, .int .u32 a0_2] 130 (0, 0)) (by (with_reducible repeat (first | refine blk_drewN ?_ _ | refine blk_drew ?_ | refine blk_alloc ?_ _)); exact BK216.out) hb)
            have n2_ := Aside0.mk (below_step (by repeat (first | (with_reducible first | exact HB.out | apply below_alloc | apply pw_below_drewN | apply below_drew1 | refine below_set ?_ GE216.out) | exact HB.out)) hb)
            clear HO219
            clear BK216
            clear HB
            have HO219 := n0_
            have BK216 := n1_
            have HB := n2_
            clear n0_ n1_ n2_
            (try clear hb)
            (try clear hb2)
            (try clear hk)
            (try clear hi)
            refine hK.out _ _ ⟨(blk_cell BK216.out 0).trans rfl, (blk_cell BK216.out 1).trans rfl, (blk_cell BK216.out 2).trans rfl⟩ (fun hHeld => ?_)
            clear hK K
            refine norm_ (a' := ?_) ?_ ?_
            rotate_left
            ·show Act.put _ (some 11) _ = _
             simp only [Act.put, List.setIfInBounds_toArray, List.set_cons_zero, List.set_cons_succ, i64_w, i32_w]
             rfl
            exact norm_ (by first | (simp only [putAll, Act.put, List.setIfInBounds_toArray, List.set_cons_zero, List.set_cons_succ]; done) | (simp only [putAll, Act.put, List.setIfInBounds_toArray, List.set_cons_zero, List.set_cons_succ]; rfl)) (hJ2_7 (v218) _ ⟨hHeld, (by (with_reducible repeat (first | apply Kd.R_alloc | apply Kd.R_drewN | apply Kd.R_drew)); exact HO219.out), (by (with_reducible repeat (first | refine blk_drewN ?_ _ | refine blk_drew ?_ | refine blk_alloc ?_ _)); exact BK216.out), (by repeat (first | (with_reducible first | exact HB.out | apply below_alloc | apply pw_below_drewN | apply below_drew1 | refine below_set ?_ GE216.out) | exact HB.out))⟩)
         ·skip
          rintro _ w12 ⟨hS_, h0_, h1_⟩
          have n0_ : Aside0 (w12.heap[gb216]? = some (.cells #[.int .u8 a0_0, .int .u16 a0_1, .int .u32 a0_2] 130 (0, 0))) := ⟨h0_⟩
          have n1_ : Aside0 (Below w.heap.size w w12) := ⟨h1_⟩
          clear BK216
          clear HB
          clear h0_ h1_
          have BK216 := n0_
          have HB := n1_
          clear n0_ n1_
          have hHeld : w12.cell? ⟨gb216, 0, none⟩ = some (.int .u8 a0_0) ∧ w12.cell? ⟨gb216, 1, none⟩ = some (.int .u16 a0_1) ∧ w12.cell? ⟨gb216, 2, none⟩ = some (.int .u32 a0_2) := hS_
          refine norm_ (a' := ?_) ?_ ?_
          rotate_left
          ·simp only [putAll, Act.put, List.setIfInBounds_toArray, List.set_cons_zero, List.set_cons_succ]
           rfl
          refine one_ (i := 2) (N := some 6) #[true, true, true, false, true, true, true, true, false, true, true, true, true, false, false] rfl rfl (one_of HT_.out (by kernel_rfl)) (by decide) (fun K hK => ?_)
          refine Kd.R_lit_step (Kd.int .u8) _ 5 ?hg (N := 6) ?hd (xs := ([a0_0, 0] : List Int)) (inner := [.int .u8 a0_0, .int .u8 0]) (ok := fun _ => True) (okp := fun _ => True) ?hr ?hp (fun _ hk => hk) trivial (Below.refl _ _) (Nat.le_refl _) (by simp) ?_; (case hd => rfl); (case hg => rfl); (case hr => first | (go_simp; done) | (go_simp; rfl)); (case hp => exact (Reps.one (show Kd.M (Kd.int .u8) _ _ _ a0_0 [.int .u8 a0_0] from rfl) (Reps.one (show Kd.M (Kd.int .u8) _ _ _ 0 [.int .u8 0] from rfl) (Reps.none _ _))))
          intro v218 w13 ho14 hb hg_ hnew_
          clear hg_ hnew_
          (first | rw [← Ny217.out] at ho14 | (simp only [Int.reduceToNat] at ho14; rw [← Ny217.out] at ho14))
          have n0_ := Aside0.mk (Kd.R_lower ho14 (below_size (by repeat (first | (with_reducible first | exact HB.out | apply below_alloc | apply pw_below_drewN | apply below_drew1 | refine below_set ?_ GE216.out) | exact HB.out))))
          have n1_ := Aside0.mk (blk_below (g := gb216) (o := .cells #[.int .u8 a0_0, .int .u16 a0_1, .int .u32 a0_2] 130 (0, 0)) (by (with_reducible repeat (first | refine blk_drewN ?_ _ | refine blk_drew ?_ | refine blk_alloc ?_ _)); exact BK216.out) hb)
          have n2_ := Aside0.mk (below_step (by repeat (first | (with_reducible first | exact HB.out | apply below_alloc | apply pw_below_drewN | apply below_drew1 | refine below_set ?_ GE216.out) | exact HB.out)) hb)
          clear BK216
          clear HB
          have HO219 := n0_
          have BK216 := n1_
          have HB := n2_
          clear n0_ n1_ n2_
          clear hb ho14
          refine hK.out _ _ ⟨(blk_cell BK216.out 0).trans rfl, (blk_cell BK216.out 1).trans rfl, (blk_cell BK216.out 2).trans rfl⟩ (fun hHeld => ?_)
          clear hK K
          refine norm_ (a' := ?_) ?_ ?_
          rotate_left
          ·show Act.put _ (some 6) _ = _
           simp only [Act.put, List.setIfInBounds_toArray, List.set_cons_zero, List.set_cons_succ, i64_w, i32_w]
           rfl
          exact norm_ (by first | (simp only [putAll, Act.put, List.setIfInBounds_toArray, List.set_cons_zero, List.set_cons_succ]; done) | (simp only [putAll, Act.put, List.setIfInBounds_toArray, List.set_cons_zero, List.set_cons_succ]; rfl)) (hJ2_7_12 (v218) _ ⟨hHeld, (by (with_reducible repeat (first | apply Kd.R_alloc | apply Kd.R_drewN | apply Kd.R_drew)); exact HO219.out), (by (with_reducible repeat (first | refine blk_drewN ?_ _ | refine blk_drew ?_ | refine blk_alloc ?_ _)); exact BK216.out), (by repeat (first | (with_reducible first | exact HB.out | apply below_alloc | apply pw_below_drewN | apply below_drew1 | refine below_set ?_ GE216.out) | exact HB.out))⟩)
        ·skip
         rintro v218 w13 ⟨hS_, h0_, h1_, h2_⟩
         have n0_ : Aside0 (Kd.R (Kd.int .u8) 5 w13 w.heap.size (fun _ => True) v218 y217) := ⟨h0_⟩
         have n1_ : Aside0 (w13.heap[gb216]? = some (.cells #[.int .u8 a0_0, .int .u16 a0_1, .int .u32 a0_2] 130 (0, 0))) := ⟨h1_⟩
         have n2_ : Aside0 (Below w.heap.size w w13) := ⟨h2_⟩
         clear BK216
         clear HB
         clear h0_ h1_ h2_
         have HO219 := n0_
         have BK216 := n1_
         have HB := n2_
         clear n0_ n1_ n2_
         have hHeld : w13.cell? ⟨gb216, 0, none⟩ = some (.int .u8 a0_0) ∧ w13.cell? ⟨gb216, 1, none⟩ = some (.int .u16 a0_1) ∧ w13.cell? ⟨gb216, 2, none⟩ = some (.int .u32 a0_2) := hS_
         refine norm_ (a' := ?_) ?_ ?_
         rotate_left
         ·simp only [putAll, Act.put, List.setIfInBounds_toArray, List.set_cons_zero, List.set_cons_succ]
          rfl
         refine two_ (i := 3) (j := 12) (Ni := some 7) (Nj := some 16) #[true, true, true, true, true, true, true, true, false, true, true, true, false, false, false] #[true, true, true, false, true, true, true, true, false, true, true, true, true, false, false] rfl rfl rfl rfl (two_of HT_.out (by kernel_rfl)) (by decide) (by decide) (fun K hK => ?_) (fun K hK => ?_)
         ·skip
          have hcv14 := own_string (P := Try.prog) Try.underlying52 Try.underlying5 Try.underlying9 (Kd.own_of_R HO219.out)
          refine value_ (w1 := ?_) (v := ?_) (by rfl) rfl ?_ ?_
          rotate_left 2
          ·go_simp
           constructor
           ·rfl
           ·rfl
          clear hcv14
          refine hK.out _ _ ⟨(blk_cell BK216.out 0).trans rfl, (blk_cell BK216.out 1).trans rfl, (blk_cell BK216.out 2).trans rfl⟩ (fun hHeld => ?_)
          clear hK K
          refine norm_ (a' := ?_) ?_ ?_
          rotate_left
          ·show Act.put _ (some 7) _ = _
           simp only [Act.put, List.setIfInBounds_toArray, List.set_cons_zero, List.set_cons_succ, i64_w, i32_w]
           rfl
          refine pure_ (i := 8) (N := some 12) (v := ?_) (a' := ?_) #[true, true, true, true, true, true, true, true, true, true, true, true, false, false, false] rfl rfl (any_of HT_.out (by kernel_rfl)) (fun _ _ _ h => h) (Or.inl ⟨by rfl, ?_⟩) ?_ ?_
          rotate_left
          ·intro w'
           go_simp
           with_reducible rfl
          rotate_left
          ·simp only [Act.put, List.setIfInBounds_toArray, List.set_cons_zero, List.set_cons_succ, i64_w, i32_w]
           rfl
          exact norm_ (by first | (simp only [putAll, Act.put, List.setIfInBounds_toArray, List.set_cons_zero, List.set_cons_succ]; done) | (simp only [putAll, Act.put, List.setIfInBounds_toArray, List.set_cons_zero, List.set_cons_succ]; rfl)) (hJ2_3_7 (v218) _ ⟨hHeld, (by (with_reducible repeat (first | apply Kd.R_alloc | apply Kd.R_drewN | apply Kd.R_drew)); exact HO219.out), (by (with_reducible repeat (first | refine blk_drewN ?_ _ | refine blk_drew ?_ | refine blk_alloc ?_ _)); exact BK216.out), (by repeat (first | (with_reducible first | exact HB.out | apply below_alloc | apply pw_below_drewN | apply below_drew1 | refine below_set ?_ GE216.out) | exact HB.out))⟩)
         ·skip
          refine goes_ Try.func96 (by kernel_rfl) rfl #[.int .u64 (IntKind.u64.wrap (a0_2)), .int .i64 4] (by rfl) rfl rfl (by (try simp only [List.map_toArray, List.map_cons, List.map_nil]); first | done | rfl | (simp only [List.length_drop, List.length_take]; rfl)) ?_
          with_reducible refine (rowlockref06_Number.calls k (IntKind.u64.wrap (a0_2)) 4 t221 _ A4.out).mono ?_
          rintro e w14 ⟨rfl, hb⟩
          refine ⟨_, rfl, ?_⟩
          have n0_ := Aside0.mk (Kd.R_below (by (with_reducible repeat (first | apply Kd.R_alloc | apply Kd.R_drewN | apply Kd.R_drew)); exact HO219.out) hb)
          have n1_ := Aside0.mk (blk_below (g := gb216) (o := .cells #[.int .u8 a0_0, .int .u16 a0_1, .int .u32 a0_2] 130 (0, 0)) (by (with_reducible repeat (first | refine blk_drewN ?_ _ | refine blk_drew ?_ | refine blk_alloc ?_ _)); exact BK216.out) hb)
          have n2_ := Aside0.mk (below_step (by repeat (first | (with_reducible first | exact HB.out | apply below_alloc | apply pw_below_drewN | apply below_drew1 | refine below_set ?_ GE216.out) | exact HB.out)) hb)
          clear HO219
          clear BK216
          clear HB
          have HO219 := n0_
          have BK216 := n1_
          have HB := n2_
          clear n0_ n1_ n2_
          (try clear hb)
          (try clear hb2)
          (try clear hk)
          (try clear hi)
          refine hK.out _ _ ⟨(blk_cell BK216.out 0).trans rfl, (blk_cell BK216.out 1).trans rfl, (blk_cell BK216.out 2).trans rfl⟩ (fun hHeld => ?_)
          clear hK K
          refine norm_ (a' := ?_) ?_ ?_
          rotate_left
          ·show Act.put _ (some 16) _ = _
           simp only [Act.put, List.setIfInBounds_toArray, List.set_cons_zero, List.set_cons_succ, i64_w, i32_w]
           rfl
          exact norm_ (by first | (simp only [putAll, Act.put, List.setIfInBounds_toArray, List.set_cons_zero, List.set_cons_succ]; done) | (simp only [putAll, Act.put, List.setIfInBounds_toArray, List.set_cons_zero, List.set_cons_succ]; rfl)) (hJ2_7_12 (v218) _ ⟨hHeld, (by (with_reducible repeat (first | apply Kd.R_alloc | apply Kd.R_drewN | apply Kd.R_drew)); exact HO219.out), (by (with_reducible repeat (first | refine blk_drewN ?_ _ | refine blk_drew ?_ | refine blk_alloc ?_ _)); exact BK216.out), (by repeat (first | (with_reducible first | exact HB.out | apply below_alloc | apply pw_below_drewN | apply below_drew1 | refine below_set ?_ GE216.out) | exact HB.out))⟩)
       ·skip
        rintro v218 w13 ⟨hS_, h0_, h1_, h2_⟩
        have n0_ : Aside0 (Kd.R (Kd.int .u8) 5 w13 w.heap.size (fun _ => True) v218 y217) := ⟨h0_⟩
        have n1_ : Aside0 (w13.heap[gb216]? = some (.cells #[.int .u8 a0_0, .int .u16 a0_1, .int .u32 a0_2] 130 (0, 0))) := ⟨h1_⟩
        have n2_ : Aside0 (Below w.heap.size w w13) := ⟨h2_⟩
        clear BK216
        clear HB
        clear h0_ h1_ h2_
        have HO219 := n0_
        have BK216 := n1_
        have HB := n2_
        clear n0_ n1_ n2_
        have hHeld : w13.cell? ⟨gb216, 0, none⟩ = some (.int .u8 a0_0) ∧ w13.cell? ⟨gb216, 1, none⟩ = some (.int .u16 a0_1) ∧ w13.cell? ⟨gb216, 2, none⟩ = some (.int .u32 a0_2) := hS_
        refine norm_ (a' := ?_) ?_ ?_
        rotate_left
        ·simp only [putAll, Act.put, List.setIfInBounds_toArray, List.set_cons_zero, List.set_cons_succ]
         rfl
        refine one_ (i := 7) (N := some 11) #[true, true, true, true, true, true, true, true, false, true, true, true, false, false, false] rfl rfl (one_of HT_.out (by kernel_rfl)) (by decide) (fun K hK => ?_)
        refine goes_ Try.func96 (by kernel_rfl) rfl #[.int .u64 (IntKind.u64.wrap (a0_1)), .int .i64 2] (by rfl) rfl rfl (by (try simp only [List.map_toArray, List.map_cons, List.map_nil]); first | done | rfl | (simp only [List.length_drop, List.length_take]; rfl)) ?_
        with_reducible refine (rowlockref06_Number.calls k (IntKind.u64.wrap (a0_1)) 2 t220 _ A2.out).mono ?_
        rintro e w14 ⟨rfl, hb⟩
        refine ⟨_, rfl, ?_⟩
        have n0_ := Aside0.mk (Kd.R_below (by (with_reducible repeat (first | apply Kd.R_alloc | apply Kd.R_drewN | apply Kd.R_drew)); exact HO219.out) hb)
        have n1_ := Aside0.mk (blk_below (g := gb216) (o := .cells #[.int .u8 a0_0, .int .u16 a0_1, .int .u32 a0_2] 130 (0, 0)) (by (with_reducible repeat (first | refine blk_drewN ?_ _ | refine blk_drew ?_ | refine blk_alloc ?_ _)); exact BK216.out) hb)
        have n2_ := Aside0.mk (below_step (by repeat (first | (with_reducible first | exact HB.out | apply below_alloc | apply pw_below_drewN | apply below_drew1 | refine below_set ?_ GE216.out) | exact HB.out)) hb)
        clear HO219
        clear BK216
        clear HB
        have HO219 := n0_
        have BK216 := n1_
        have HB := n2_
        clear n0_ n1_ n2_
        (try clear hb)
        (try clear hb2)
        (try clear hk)
        (try clear hi)
        refine hK.out _ _ ⟨(blk_cell BK216.out 0).trans rfl, (blk_cell BK216.out 1).trans rfl, (blk_cell BK216.out 2).trans rfl⟩ (fun hHeld => ?_)
        clear hK K
        refine norm_ (a' := ?_) ?_ ?_
        rotate_left
        ·show Act.put _ (some 11) _ = _
         simp only [Act.put, List.setIfInBounds_toArray, List.set_cons_zero, List.set_cons_succ, i64_w, i32_w]
         rfl
        refine pure_ (i := 8) (N := some 12) (v := ?_) (a' := ?_) #[true, true, true, true, true, true, true, true, true, true, true, true, false, false, false] rfl rfl (any_of HT_.out (by kernel_rfl)) (fun _ _ _ h => h) (Or.inl ⟨by rfl, ?_⟩) ?_ ?_
        rotate_left
        ·intro w'
         go_simp
         with_reducible rfl
        rotate_left
        ·simp only [Act.put, List.setIfInBounds_toArray, List.set_cons_zero, List.set_cons_succ, i64_w, i32_w]
         rfl
        exact norm_ (by first | (simp only [putAll, Act.put, List.setIfInBounds_toArray, List.set_cons_zero, List.set_cons_succ]; done) | (simp only [putAll, Act.put, List.setIfInBounds_toArray, List.set_cons_zero, List.set_cons_succ]; rfl)) (hJ2_3_7 (v218) _ ⟨hHeld, (by (with_reducible repeat (first | apply Kd.R_alloc | apply Kd.R_drewN | apply Kd.R_drew)); exact HO219.out), (by (with_reducible repeat (first | refine blk_drewN ?_ _ | refine blk_drew ?_ | refine blk_alloc ?_ _)); exact BK216.out), (by repeat (first | (with_reducible first | exact HB.out | apply below_alloc | apply pw_below_drewN | apply below_drew1 | refine below_set ?_ GE216.out) | exact HB.out))⟩)
      ·skip
       rintro v218 w14 ⟨hS_, h0_, h1_, h2_⟩
       have n0_ : Aside0 (Kd.R (Kd.int .u8) 5 w14 w.heap.size (fun _ => True) v218 y217) := ⟨h0_⟩
       have n1_ : Aside0 (w14.heap[gb216]? = some (.cells #[.int .u8 a0_0, .int .u16 a0_1, .int .u32 a0_2] 130 (0, 0))) := ⟨h1_⟩
       have n2_ : Aside0 (Below w.heap.size w w14) := ⟨h2_⟩
       clear BK216
       clear HB
       clear h0_ h1_ h2_
       have HO219 := n0_
       have BK216 := n1_
       have HB := n2_
       clear n0_ n1_ n2_
       have hHeld : w14.cell? ⟨gb216, 0, none⟩ = some (.int .u8 a0_0) ∧ w14.cell? ⟨gb216, 1, none⟩ = some (.int .u16 a0_1) ∧ w14.cell? ⟨gb216, 2, none⟩ = some (.int .u32 a0_2) := hS_
       refine norm_ (a' := ?_) ?_ ?_
       rotate_left
       ·simp only [putAll, Act.put, List.setIfInBounds_toArray, List.set_cons_zero, List.set_cons_succ]
        rfl
       refine one_ (i := 3) (N := some 7) #[true, true, true, true, true, true, true, true, false, true, true, true, true, false, false] rfl rfl (one_of HT_.out (by kernel_rfl)) (by decide) (fun K hK => ?_)
       have hcv15 := own_string (P := Try.prog) Try.underlying52 Try.underlying5 Try.underlying9 (Kd.own_of_R HO219.out)
       refine value_ (w1 := ?_) (v := ?_) (by rfl) rfl ?_ ?_
       rotate_left 2
       ·go_simp
        constructor
        ·rfl
        ·rfl
       clear hcv15
       refine hK.out _ _ ⟨(blk_cell BK216.out 0).trans rfl, (blk_cell BK216.out 1).trans rfl, (blk_cell BK216.out 2).trans rfl⟩ (fun hHeld => ?_)
       clear hK K
       refine norm_ (a' := ?_) ?_ ?_
       rotate_left
       ·show Act.put _ (some 7) _ = _
        simp only [Act.put, List.setIfInBounds_toArray, List.set_cons_zero, List.set_cons_succ, i64_w, i32_w]
        rfl
       refine pure_ (i := 8) (N := some 12) (v := ?_) (a' := ?_) #[true, true, true, true, true, true, true, true, true, true, true, true, true, false, false] rfl rfl (any_of HT_.out (by kernel_rfl)) (fun _ _ _ h => h) (Or.inl ⟨by rfl, ?_⟩) ?_ ?_
       rotate_left
       ·intro w'
        go_simp
        with_reducible rfl
       rotate_left
       ·simp only [Act.put, List.setIfInBounds_toArray, List.set_cons_zero, List.set_cons_succ, i64_w, i32_w]
        rfl
       exact norm_ (by first | (simp only [putAll, Act.put, List.setIfInBounds_toArray, List.set_cons_zero, List.set_cons_succ]; done) | (simp only [putAll, Act.put, List.setIfInBounds_toArray, List.set_cons_zero, List.set_cons_succ]; rfl)) (hJ2_3_7_12 (v218) _ ⟨hHeld, (by (with_reducible repeat (first | apply Kd.R_alloc | apply Kd.R_drewN | apply Kd.R_drew)); exact HO219.out), (by (with_reducible repeat (first | refine blk_drewN ?_ _ | refine blk_drew ?_ | refine blk_alloc ?_ _)); exact BK216.out), (by repeat (first | (with_reducible first | exact HB.out | apply below_alloc | apply pw_below_drewN | apply below_drew1 | refine below_set ?_ GE216.out) | exact HB.out))⟩)
     ·skip
      rintro v218 w14 ⟨hS_, h0_, h1_, h2_⟩
      have n0_ : Aside0 (Kd.R (Kd.int .u8) 5 w14 w.heap.size (fun _ => True) v218 y217) := ⟨h0_⟩
      have n1_ : Aside0 (w14.heap[gb216]? = some (.cells #[.int .u8 a0_0, .int .u16 a0_1, .int .u32 a0_2] 130 (0, 0))) := ⟨h1_⟩
      have n2_ : Aside0 (Below w.heap.size w w14) := ⟨h2_⟩
      clear BK216
      clear HB
      clear h0_ h1_ h2_
      have HO219 := n0_
      have BK216 := n1_
      have HB := n2_
      clear n0_ n1_ n2_
      have hHeld : w14.cell? ⟨gb216, 0, none⟩ = some (.int .u8 a0_0) ∧ w14.cell? ⟨gb216, 1, none⟩ = some (.int .u16 a0_1) ∧ w14.cell? ⟨gb216, 2, none⟩ = some (.int .u32 a0_2) := hS_
      refine norm_ (a' := ?_) ?_ ?_
      rotate_left
      ·simp only [putAll, Act.put, List.setIfInBounds_toArray, List.set_cons_zero, List.set_cons_succ]
       rfl
      refine one_ (i := 12) (N := some 16) #[true, true, true, true, true, true, true, true, true, true, true, true, true, false, false] rfl rfl (one_of HT_.out (by kernel_rfl)) (by decide) (fun K hK => ?_)
      refine goes_ Try.func96 (by kernel_rfl) rfl #[.int .u64 (IntKind.u64.wrap (a0_2)), .int .i64 4] (by rfl) rfl rfl (by (try simp only [List.map_toArray, List.map_cons, List.map_nil]); first | done | rfl | (simp only [List.length_drop, List.length_take]; rfl)) ?_
      with_reducible refine (rowlockref06_Number.calls k (IntKind.u64.wrap (a0_2)) 4 t221 _ A4.out).mono ?_
      rintro e w15 ⟨rfl, hb⟩
      refine ⟨_, rfl, ?_⟩
      have n0_ := Aside0.mk (Kd.R_below (by (with_reducible repeat (first | apply Kd.R_alloc | apply Kd.R_drewN | apply Kd.R_drew)); exact HO219.out) hb)
      have n1_ := Aside0.mk (blk_below (g := gb216) (o := .cells #[.int .u8 a0_0, .int .u16 a0_1, .int .u32 a0_2] 130 (0, 0)) (by (with_reducible repeat (first | refine blk_drewN ?_ _ | refine blk_drew ?_ | refine blk_alloc ?_ _)); exact BK216.out) hb)
      have n2_ := Aside0.mk (below_step (by repeat (first | (with_reducible first | exact HB.out | apply below_alloc | apply pw_below_drewN | apply below_drew1 | refine below_set ?_ GE216.out) | exact HB.out)) hb)
      clear HO219
      clear BK216
      clear HB
      have HO219 := n0_
      have BK216 := n1_
      have HB := n2_
      clear n0_ n1_ n2_
      (try clear hb)
      (try clear hb2)
      (try clear hk)
      (try clear hi)
      refine hK.out _ _ ⟨(blk_cell BK216.out 0).trans rfl, (blk_cell BK216.out 1).trans rfl, (blk_cell BK216.out 2).trans rfl⟩ (fun hHeld => ?_)
      clear hK K
      refine norm_ (a' := ?_) ?_ ?_
      rotate_left
      ·show Act.put _ (some 16) _ = _
       simp only [Act.put, List.setIfInBounds_toArray, List.set_cons_zero, List.set_cons_succ, i64_w, i32_w]
       rfl
      exact norm_ (by first | (simp only [putAll, Act.put, List.setIfInBounds_toArray, List.set_cons_zero, List.set_cons_succ]; done) | (simp only [putAll, Act.put, List.setIfInBounds_toArray, List.set_cons_zero, List.set_cons_succ]; rfl)) (hJ2_3_7_12 (v218) _ ⟨hHeld, (by (with_reducible repeat (first | apply Kd.R_alloc | apply Kd.R_drewN | apply Kd.R_drew)); exact HO219.out), (by (with_reducible repeat (first | refine blk_drewN ?_ _ | refine blk_drew ?_ | refine blk_alloc ?_ _)); exact BK216.out), (by repeat (first | (with_reducible first | exact HB.out | apply below_alloc | apply pw_below_drewN | apply below_drew1 | refine below_set ?_ GE216.out) | exact HB.out))⟩)
    rintro v218 w15 ⟨hS_, h0_, h1_, h2_⟩
    have n0_ : Aside0 (Kd.R (Kd.int .u8) 5 w15 w.heap.size (fun _ => True) v218 y217) := ⟨h0_⟩
    have n1_ : Aside0 (w15.heap[gb216]? = some (.cells #[.int .u8 a0_0, .int .u16 a0_1, .int .u32 a0_2] 130 (0, 0))) := ⟨h1_⟩
    have n2_ : Aside0 (Below w.heap.size w w15) := ⟨h2_⟩
    clear BK216
    clear HB
    clear h0_ h1_ h2_
    have HO219 := n0_
    have BK216 := n1_
    have HB := n2_
    clear n0_ n1_ n2_
    have hHeld : w15.cell? ⟨gb216, 0, none⟩ = some (.int .u8 a0_0) ∧ w15.cell? ⟨gb216, 1, none⟩ = some (.int .u16 a0_1) ∧ w15.cell? ⟨gb216, 2, none⟩ = some (.int .u32 a0_2) := hS_
    refine norm_ (a' := ?_) ?_ ?_
    rotate_left
    ·simp only [putAll, Act.put, List.setIfInBounds_toArray, List.set_cons_zero, List.set_cons_succ]
     rfl
    refine pure_ (i := 13) (N := some 17) (v := ?_) (a' := ?_) #[true, true, true, true, true, true, true, true, true, true, true, true, true, true, false] rfl rfl (any_of HT_.out (by kernel_rfl)) (fun _ _ _ h => h) (Or.inl ⟨by rfl, ?_⟩) ?_ ?_
    rotate_left
    ·intro w'
     go_simp
     with_reducible rfl
    rotate_left
    ·simp only [Act.put, List.setIfInBounds_toArray, List.set_cons_zero, List.set_cons_succ, i64_w, i32_w]
     rfl
    refine pure_ (i := 14) (N := some 3) (v := ?_) (a' := ?_) #[true, true, true, true, true, true, true, true, true, true, true, true, true, true, true] rfl rfl (any_of HT_.out (by kernel_rfl)) (fun _ _ _ h => h) (Or.inl ⟨by rfl, ?_⟩) ?_ ?_
    rotate_left
    ·intro w'
     go_simp
     with_reducible rfl
    rotate_left
    ·simp only [Act.put, List.setIfInBounds_toArray, List.set_cons_zero, List.set_cons_succ, i64_w, i32_w]
     rfl
    refine done_ (done_of HT_.out (by kernel_rfl)) ?_
    try go_wp2_with (first | ((with_reducible refine gate_callee (f := 39) rfl ?_); refine goesL_ (some 19) rfl rfl Try.func39 (by kernel_rfl) rfl #[.int .i64 504] rfl (by (try simp only [List.map_toArray, List.map_cons, List.map_nil]); first | done | rfl | (simp only [List.length_drop, List.length_take]; rfl)) ?_; (with_reducible refine (rowlockref06_zeros.calls 504 t222 _ A6.out).mono ?_); rintro e w16 ⟨rfl, hb⟩; refine ⟨_, rfl, ?_⟩; have n0_ := Aside0.mk (Kd.R_below (by (with_reducible repeat (first | apply Kd.R_alloc | apply Kd.R_drewN | apply Kd.R_drew)); exact HO219.out) hb); have n1_ := Aside0.mk (blk_below (g := gb216) (o := .cells #[.int .u8 a0_0, .int .u16 a0_1, .int .u32 a0_2] 130 (0, 0)) (by (with_reducible repeat (first | refine blk_drewN ?_ _ | refine blk_drew ?_ | refine blk_alloc ?_ _)); exact BK216.out) hb); have n2_ := Aside0.mk (below_step (by repeat (first | (with_reducible first | exact HB.out | apply below_alloc | apply pw_below_drewN | apply below_drew1 | refine below_set ?_ GE216.out) | exact HB.out)) hb); clear HO219; clear BK216; clear HB; have HO219 := n0_; have BK216 := n1_; have HB := n2_; clear n0_ n1_ n2_; (try clear hb); (try clear hb2); (try clear hk); (try clear hi)))
    go_ret
    exact ⟨by first | rfl | (simp [errW_none, errW_some] <;> rfl) | (simp [*, errW_none, errW_some] <;> rfl), by repeat (first | (with_reducible first | exact HB.out | apply below_alloc | apply pw_below_drewN | apply below_drew1 | refine below_set ?_ GE216.out) | exact HB.out)⟩
   ·rw [if_neg c7] at H
    exact absurd H (by simp)
  ·rw [if_neg c5] at H
   exact absurd H (by simp)
 ·rw [if_neg c3] at H
  exact absurd H (by simp)

end Go.Proofs.Ytpfegfkniilobaa.XHeap
