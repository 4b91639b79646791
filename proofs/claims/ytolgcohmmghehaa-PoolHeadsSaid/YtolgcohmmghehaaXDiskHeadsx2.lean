-- Written by this session's own program (wip/own_print.py) over the kit's print, with this session's hand-proved contracts in their places; Lean checks it.
import Derived.Test.YtolgcohmmghehaaXDiskHeadsx0
import Derived.Test.YtolgcohmmghehaaXDiskHeadsx1
namespace Go.Proofs.Ytolgcohmmghehaa.XDiskHeads
open Go.RowKit Go.Proofs.YtolgcohmmghehaaW.PrintWords Go.Proofs.YtolgcohmmghehaaW.PrintLast Go.Proofs.YtolgcohmmghehaaW.PrintMore
attribute [local go_sem] max2_int min2_int max_two min_two max_three min_three max_four min_four   -- for this text's walks alone
set_option linter.unusedVariables false
set_option linter.unusedSimpArgs false

/-! ### rowlockref06_Head: function 18 -/
def rowlockref06_Head.f (k : Nat) (a0_0 : Int) (a0_1 : Int) (a0_2 : Int) : Option (ByteArray) := (some (([a0_0, 0] : List Int) : List Int)).bind fun y115 => ((rowlockref06_Number.f k (IntKind.u64.wrap (a0_1)) 2).bind fun t118 => (if (strOfNums y115).size + t118.size ≤ 9223372036854775807 then ((rowlockref06_Number.f k (IntKind.u64.wrap (a0_2)) 4).bind fun t119 => (if ((strOfNums y115) ++ t118).size + t119.size ≤ 9223372036854775807 then ((rowlockref06_zeros.f 504).bind fun t120 => (if (((strOfNums y115) ++ t118) ++ t119).size + t120.size ≤ 9223372036854775807 then (some ((((strOfNums y115) ++ t118) ++ t119) ++ t120)) else (none))) else (none))) else (none)))
theorem rowlockref06_Head.mono : ∀ a0 a1 a2 k, LeO (rowlockref06_Head.f k a0 a1 a2) (rowlockref06_Head.f (k + 1) a0 a1 a2) := by
  intro a0 a1 a2 k
  unfold rowlockref06_Head.f
  repeat' first
      | (with_reducible exact rowlockref06_Number.mono _ _ _)
      | (with_reducible exact LeO.refl _)
      | (with_reducible exact LeO.none _)
      | (with_reducible refine LeO.ite ?_ ?_)
      | (with_reducible refine LeO.bind ?_ (fun _ => ?_))
      | exact rowlockref06_Number.mono _ _ _
      | exact LeO.none _
      | refine LeO.ite ?_ ?_
      | refine LeO.bind ?_ (fun _ => ?_)
def rowlockref06_Head.T1 : Bool × List (List Nat × List Nat) := (true, [([], []), ([0], [0]), ([1], [1]), ([2], [2]), ([], []), ([4], [4]), ([5], [5]), ([6], [6]), ([3, 7], [3, 7]), ([], []), ([9], [9]), ([10], [10]), ([11, 7], [11]), ([8, 12], [8, 12]), ([13, 12, 0, 1, 2, 3, 4, 5, 6, 7, 8, 9, 10, 11, 12, 13], [13])])
def rowlockref06_Head.B1 : List Nat := [0, 1, 3, 7, 0, 16, 48, 112, 255, 0, 512, 1536, 3824, 8191, 16383]
theorem rowlockref06_Head.tab1 : rtab .any (opsOf Try.f18 1) = rowlockref06_Head.T1 := by kernel_rfl
theorem rowlockref06_Head.bits1 : waitsOk rowlockref06_Head.T1.2 rowlockref06_Head.B1 = true := by kernel_rfl
set_option maxHeartbeats 8000000 in
set_option maxRecDepth 100000 in
theorem rowlockref06_Head.calls (k : Nat) (a0_0 : Int) (a0_1 : Int) (a0_2 : Int) (r : ByteArray) (w : World) (h : rowlockref06_Head.f k a0_0 a0_1 a0_2 = some r) :
    Calls Try.prog 18 #[.agg #[.int .u8 a0_0, .int .u16 a0_1, .int .u32 a0_2]] w fun e w' => e = .returned (.string r) ∧ Below w.heap.size w w' := by
  have hu25 := Try.underlying25
  have HB := Aside0.mk (Below.refl w.heap.size w)
  have H : ((some (([a0_0, 0] : List Int) : List Int)).bind fun y115 => ((rowlockref06_Number.f k (IntKind.u64.wrap (a0_1)) 2).bind fun t118 => (if (strOfNums y115).size + t118.size ≤ 9223372036854775807 then ((rowlockref06_Number.f k (IntKind.u64.wrap (a0_2)) 4).bind fun t119 => (if ((strOfNums y115) ++ t118).size + t119.size ≤ 9223372036854775807 then ((rowlockref06_zeros.f 504).bind fun t120 => (if (((strOfNums y115) ++ t118) ++ t119).size + t120.size ≤ 9223372036854775807 then (some ((((strOfNums y115) ++ t118) ++ t119) ++ t120)) else (none))) else (none))) else (none)))) = some r := h
  clear h
  obtain ⟨y115, hy115⟩ : ∃ y_ : List Int, y_ = (([a0_0, 0] : List Int)) := ⟨_, rfl⟩
  replace H : ((rowlockref06_Number.f k (IntKind.u64.wrap (a0_1)) 2).bind fun t118 => (if (strOfNums y115).size + t118.size ≤ 9223372036854775807 then ((rowlockref06_Number.f k (IntKind.u64.wrap (a0_2)) 4).bind fun t119 => (if ((strOfNums y115) ++ t118).size + t119.size ≤ 9223372036854775807 then ((rowlockref06_zeros.f 504).bind fun t120 => (if (((strOfNums y115) ++ t118) ++ t119).size + t120.size ≤ 9223372036854775807 then (some ((((strOfNums y115) ++ t118) ++ t119) ++ t120)) else (none))) else (none))) else (none))) = some r := by first | (rw [hy115]; with_reducible exact H) | (have H2_ := (Option.bind_some _ _).symm.trans H; rw [hy115]; with_reducible exact H2_) | (have H2_ := (Option.bind_some _ _).symm.trans H; with_reducible exact H2_) | with_reducible exact H | (rw [hy115]; exact H) | exact H
  have Ny115 := Aside0.mk hy115
  clear hy115
  replace H := Option.bind_eq_some_iff.mp H
  obtain ⟨t118, A20, H⟩ := H
  replace H : (if (strOfNums y115).size + t118.size ≤ 9223372036854775807 then ((rowlockref06_Number.f k (IntKind.u64.wrap (a0_2)) 4).bind fun t119 => (if ((strOfNums y115) ++ t118).size + t119.size ≤ 9223372036854775807 then ((rowlockref06_zeros.f 504).bind fun t120 => (if (((strOfNums y115) ++ t118) ++ t119).size + t120.size ≤ 9223372036854775807 then (some ((((strOfNums y115) ++ t118) ++ t119) ++ t120)) else (none))) else (none))) else (none)) = some r := H
  have A2 := Aside0.mk A20
  clear A20
  by_cases c3 : (strOfNums y115).size + t118.size ≤ 9223372036854775807
  · rw [if_pos c3] at H
    have c3b0 := eq_true c3
    have c3b1 : decide ((strOfNums y115).size + t118.size ≤ 9223372036854775807) = true := decide_eq_true c3
    try have c3b2 : (9223372036854775807 < (strOfNums y115).size + t118.size) = False := eq_false (Nat.not_lt.2 c3)
    replace H := Option.bind_eq_some_iff.mp H
    obtain ⟨t119, A40, H⟩ := H
    replace H : (if ((strOfNums y115) ++ t118).size + t119.size ≤ 9223372036854775807 then ((rowlockref06_zeros.f 504).bind fun t120 => (if (((strOfNums y115) ++ t118) ++ t119).size + t120.size ≤ 9223372036854775807 then (some ((((strOfNums y115) ++ t118) ++ t119) ++ t120)) else (none))) else (none)) = some r := H
    have A4 := Aside0.mk A40
    clear A40
    by_cases c5 : ((strOfNums y115) ++ t118).size + t119.size ≤ 9223372036854775807
    · rw [if_pos c5] at H
      have c5b0 := eq_true c5
      have c5b1 : decide (((strOfNums y115) ++ t118).size + t119.size ≤ 9223372036854775807) = true := decide_eq_true c5
      try have c5b2 : (9223372036854775807 < ((strOfNums y115) ++ t118).size + t119.size) = False := eq_false (Nat.not_lt.2 c5)
      try have c5b3 := c5b2
      try simp only [ByteArray.size_append] at c5b3
      replace H := Option.bind_eq_some_iff.mp H
      obtain ⟨t120, A60, H⟩ := H
      replace H : (if (((strOfNums y115) ++ t118) ++ t119).size + t120.size ≤ 9223372036854775807 then (some ((((strOfNums y115) ++ t118) ++ t119) ++ t120)) else (none)) = some r := H
      have A6 := Aside0.mk A60
      clear A60
      by_cases c7 : (((strOfNums y115) ++ t118) ++ t119).size + t120.size ≤ 9223372036854775807
      · rw [if_pos c7] at H
        have c7b0 := eq_true c7
        have c7b1 : decide ((((strOfNums y115) ++ t118) ++ t119).size + t120.size ≤ 9223372036854775807) = true := decide_eq_true c7
        try have c7b2 : (9223372036854775807 < (((strOfNums y115) ++ t118) ++ t119).size + t120.size) = False := eq_false (Nat.not_lt.2 c7)
        try have c7b3 := c7b2
        try simp only [ByteArray.size_append] at c7b3
        obtain rfl := Option.some.inj H
        go_enter Try.func18, Try.ntmps18
        try go_wp2_with (first | ((with_reducible refine gate_dst (N := 1) rfl ?_); refine box_event ?hg (N := 1) ?hd (cs := #[.int .u8 a0_0, .int .u16 a0_1, .int .u32 a0_2]) (t := 25) ?hr ?_; (case hd => rfl); (case hg => rfl); (case hr => first | (go_simp; done) | (go_simp; rfl)); intro gb114 hg w8 hbox hb; have n0_ := Aside0.mk (below_step (by repeat (first | (with_reducible first | exact HB.out | apply below_alloc | apply pw_below_drewN | apply below_drew1) | exact HB.out)) hb); have n1_ := Aside0.mk (hbox); have n2_ := Aside0.mk ((by rw [hg]; exact (below_size (by repeat (first | (with_reducible first | exact HB.out | apply below_alloc | apply pw_below_drewN | apply below_drew1) | exact HB.out))) : w.heap.size ≤ gb114)); have n3_ := Aside0.mk ((by rw [hg]; exact (below_size (by repeat (first | (with_reducible first | exact HB.out | apply below_alloc | apply pw_below_drewN | apply below_drew1) | exact HB.out))) : w.heap.size ≤ gb114)); clear HB; have HB := n0_; have BK114 := n1_; have GW114 := n2_; have GE114 := n3_; clear n0_ n1_ n2_ n3_; clear hb hbox hg))
        have n0_ := Aside0.mk (blk_drew BK114.out)
        have n1_ := Aside0.mk (below_drew1 HB.out)
        clear BK114
        clear HB
        have BK114 := n0_
        have HB := n1_
        clear n0_ n1_
        refine start_ (n := 15) (S := fun w' => w'.cell? ⟨gb114, 0, none⟩ = some (.int .u8 a0_0) ∧ w'.cell? ⟨gb114, 1, none⟩ = some (.int .u16 a0_1) ∧ w'.cell? ⟨gb114, 2, none⟩ = some (.int .u32 a0_2)) (ds := []) #[false, false, false, false, false, false, false, false, false, false, false, false, false, false, false] (by kernel_rfl) rfl rfl ⟨(blk_cell BK114.out 0).trans rfl, (blk_cell BK114.out 1).trans rfl, (blk_cell BK114.out 2).trans rfl⟩ (fun hHeld => ?_); refine with_tabW rowlockref06_Head.tab1 rowlockref06_Head.bits1 (fun HT_ HW_ => ?_)
        generalize w8.drew = w9 at BK114 HB hHeld ⊢
        refine pure_ (i := 0) (N := some 4) (v := ?_) (a' := ?_) #[true, false, false, false, false, false, false, false, false, false, false, false, false, false, false] rfl rfl (any_of HT_.out (by kernel_rfl)) (fun _ _ _ h => h) (Or.inl ⟨by rfl, ?_⟩) ?_ ?_
        rotate_left
        · intro w'
          go_simp
          with_reducible rfl
        rotate_left
        · simp only [Act.put, List.setIfInBounds_toArray, List.set_cons_zero, List.set_cons_succ, i64_w, i32_w]
          rfl
        refine pure_ (i := 4) (N := some 8) (v := ?_) (a' := ?_) #[true, false, false, false, true, false, false, false, false, false, false, false, false, false, false] rfl rfl (any_of HT_.out (by kernel_rfl)) (fun _ _ _ h => h) (Or.inl ⟨by rfl, ?_⟩) ?_ ?_
        rotate_left
        · intro w'
          go_simp
          with_reducible rfl
        rotate_left
        · simp only [Act.put, List.setIfInBounds_toArray, List.set_cons_zero, List.set_cons_succ, i64_w, i32_w]
          rfl
        refine pure_ (i := 9) (N := some 13) (v := ?_) (a' := ?_) #[true, false, false, false, true, false, false, false, false, true, false, false, false, false, false] rfl rfl (any_of HT_.out (by kernel_rfl)) (fun _ _ _ h => h) (Or.inl ⟨by rfl, ?_⟩) ?_ ?_
        rotate_left
        · intro w'
          go_simp
          with_reducible rfl
        rotate_left
        · simp only [Act.put, List.setIfInBounds_toArray, List.set_cons_zero, List.set_cons_succ, i64_w, i32_w]
          rfl
        refine take_ (i := 1) (N := some 5) (v := ?_) (a' := ?_) #[true, true, false, false, true, false, false, false, false, true, false, false, false, false, false] rfl rfl (take_ofW HT_.out HW_.out (by kernel_rfl)) (fun _ _ _ h => h) (Or.inl ⟨by rfl, ?_⟩) hHeld ?_ ?_
        rotate_left
        · rintro w' ⟨s0, s1, s2⟩
          go_simp
          with_reducible rfl
        rotate_left
        · simp only [Act.put, List.setIfInBounds_toArray, List.set_cons_zero, List.set_cons_succ, i64_w, i32_w]
          rfl
        refine take_ (i := 5) (N := some 9) (v := ?_) (a' := ?_) #[true, true, false, false, true, true, false, false, false, true, false, false, false, false, false] rfl rfl (take_ofW HT_.out HW_.out (by kernel_rfl)) (fun _ _ _ h => h) (Or.inl ⟨by rfl, ?_⟩) hHeld ?_ ?_
        rotate_left
        · rintro w' ⟨s0, s1, s2⟩
          go_simp
          with_reducible rfl
        rotate_left
        · simp only [Act.put, List.setIfInBounds_toArray, List.set_cons_zero, List.set_cons_succ, i64_w, i32_w]
          rfl
        refine pure_ (i := 6) (N := some 10) (v := ?_) (a' := ?_) #[true, true, false, false, true, true, true, false, false, true, false, false, false, false, false] rfl rfl (any_of HT_.out (by kernel_rfl)) (fun _ _ _ h => h) (Or.inl ⟨by rfl, ?_⟩) ?_ ?_
        rotate_left
        · intro w'
          go_simp
          with_reducible rfl
        rotate_left
        · simp only [Act.put, List.setIfInBounds_toArray, List.set_cons_zero, List.set_cons_succ, i64_w, i32_w]
          rfl
        refine take_ (i := 10) (N := some 14) (v := ?_) (a' := ?_) #[true, true, false, false, true, true, true, false, false, true, true, false, false, false, false] rfl rfl (take_ofW HT_.out HW_.out (by kernel_rfl)) (fun _ _ _ h => h) (Or.inl ⟨by rfl, ?_⟩) hHeld ?_ ?_
        rotate_left
        · rintro w' ⟨s0, s1, s2⟩
          go_simp
          with_reducible rfl
        rotate_left
        · simp only [Act.put, List.setIfInBounds_toArray, List.set_cons_zero, List.set_cons_succ, i64_w, i32_w]
          rfl
        refine pure_ (i := 11) (N := some 15) (v := ?_) (a' := ?_) #[true, true, false, false, true, true, true, false, false, true, true, true, false, false, false] rfl rfl (any_of HT_.out (by kernel_rfl)) (fun _ _ _ h => h) (Or.inl ⟨by rfl, ?_⟩) ?_ ?_
        rotate_left
        · intro w'
          go_simp
          with_reducible rfl
        rotate_left
        · simp only [Act.put, List.setIfInBounds_toArray, List.set_cons_zero, List.set_cons_succ, i64_w, i32_w]
          rfl
        refine join_ (σ := Value) 2 #[true, true, true, true, true, true, true, true, true, true, true, true, true, false, false] (fun s_ => [(6, s_), (7, .string (strOfNums y115)), (11, .string t118), (16, .string t119), (12, .string ((strOfNums y115) ++ t118))]) (fun s_ w' => (w'.cell? ⟨gb114, 0, none⟩ = some (.int .u8 a0_0) ∧ w'.cell? ⟨gb114, 1, none⟩ = some (.int .u16 a0_1) ∧ w'.cell? ⟨gb114, 2, none⟩ = some (.int .u32 a0_2)) ∧ (Kd.R (Kd.int .u8) 5 w' w.heap.size (fun _ => True) s_ y115) ∧ (w'.heap[gb114]? = some (.cells #[.int .u8 a0_0, .int .u16 a0_1, .int .u32 a0_2] 25 (0, 0))) ∧ (Below w.heap.size w w')) ?_ ?_
        rotate_left
        · intro hJ2_3_7_12
          refine join_ (σ := Value) 3 #[true, true, true, true, true, true, true, true, true, true, true, true, false, false, false] (fun s_ => [(6, s_), (7, .string (strOfNums y115)), (11, .string t118), (12, .string ((strOfNums y115) ++ t118))]) (fun s_ w' => (w'.cell? ⟨gb114, 0, none⟩ = some (.int .u8 a0_0) ∧ w'.cell? ⟨gb114, 1, none⟩ = some (.int .u16 a0_1) ∧ w'.cell? ⟨gb114, 2, none⟩ = some (.int .u32 a0_2)) ∧ (Kd.R (Kd.int .u8) 5 w' w.heap.size (fun _ => True) s_ y115) ∧ (w'.heap[gb114]? = some (.cells #[.int .u8 a0_0, .int .u16 a0_1, .int .u32 a0_2] 25 (0, 0))) ∧ (Below w.heap.size w w')) ?_ ?_
          rotate_left
          · intro hJ2_3_7
            refine join_ (σ := Value) 4 #[true, true, true, false, true, true, true, true, false, true, true, true, true, false, false] (fun s_ => [(6, s_), (11, .string t118), (16, .string t119)]) (fun s_ w' => (w'.cell? ⟨gb114, 0, none⟩ = some (.int .u8 a0_0) ∧ w'.cell? ⟨gb114, 1, none⟩ = some (.int .u16 a0_1) ∧ w'.cell? ⟨gb114, 2, none⟩ = some (.int .u32 a0_2)) ∧ (Kd.R (Kd.int .u8) 5 w' w.heap.size (fun _ => True) s_ y115) ∧ (w'.heap[gb114]? = some (.cells #[.int .u8 a0_0, .int .u16 a0_1, .int .u32 a0_2] 25 (0, 0))) ∧ (Below w.heap.size w w')) ?_ ?_
            rotate_left
            · intro hJ2_7_12
              refine join_ (σ := Value) 5 #[true, true, true, true, true, true, true, false, false, true, true, true, false, false, false] (fun s_ => [(6, s_), (7, .string (strOfNums y115))]) (fun s_ w' => (w'.cell? ⟨gb114, 0, none⟩ = some (.int .u8 a0_0) ∧ w'.cell? ⟨gb114, 1, none⟩ = some (.int .u16 a0_1) ∧ w'.cell? ⟨gb114, 2, none⟩ = some (.int .u32 a0_2)) ∧ (Kd.R (Kd.int .u8) 5 w' w.heap.size (fun _ => True) s_ y115) ∧ (w'.heap[gb114]? = some (.cells #[.int .u8 a0_0, .int .u16 a0_1, .int .u32 a0_2] 25 (0, 0))) ∧ (Below w.heap.size w w')) ?_ ?_
              rotate_left
              · intro hJ2_3
                refine join_ (σ := Value) 5 #[true, true, true, false, true, true, true, true, false, true, true, true, false, false, false] (fun s_ => [(6, s_), (11, .string t118)]) (fun s_ w' => (w'.cell? ⟨gb114, 0, none⟩ = some (.int .u8 a0_0) ∧ w'.cell? ⟨gb114, 1, none⟩ = some (.int .u16 a0_1) ∧ w'.cell? ⟨gb114, 2, none⟩ = some (.int .u32 a0_2)) ∧ (Kd.R (Kd.int .u8) 5 w' w.heap.size (fun _ => True) s_ y115) ∧ (w'.heap[gb114]? = some (.cells #[.int .u8 a0_0, .int .u16 a0_1, .int .u32 a0_2] 25 (0, 0))) ∧ (Below w.heap.size w w')) ?_ ?_
                rotate_left
                · intro hJ2_7
                  refine join_ (σ := Unit) 5 #[true, true, false, false, true, true, true, true, false, true, true, true, true, false, false] (fun s_ => [(11, .string t118), (16, .string t119)]) (fun s_ w' => (w'.cell? ⟨gb114, 0, none⟩ = some (.int .u8 a0_0) ∧ w'.cell? ⟨gb114, 1, none⟩ = some (.int .u16 a0_1) ∧ w'.cell? ⟨gb114, 2, none⟩ = some (.int .u32 a0_2)) ∧ (w'.heap[gb114]? = some (.cells #[.int .u8 a0_0, .int .u16 a0_1, .int .u32 a0_2] 25 (0, 0))) ∧ (Below w.heap.size w w')) ?_ ?_
                  rotate_left
                  · intro hJ7_12
                    refine join_ (σ := Value) 6 #[true, true, true, false, true, true, true, false, false, true, true, true, false, false, false] (fun s_ => [(6, s_)]) (fun s_ w' => (w'.cell? ⟨gb114, 0, none⟩ = some (.int .u8 a0_0) ∧ w'.cell? ⟨gb114, 1, none⟩ = some (.int .u16 a0_1) ∧ w'.cell? ⟨gb114, 2, none⟩ = some (.int .u32 a0_2)) ∧ (Kd.R (Kd.int .u8) 5 w' w.heap.size (fun _ => True) s_ y115) ∧ (w'.heap[gb114]? = some (.cells #[.int .u8 a0_0, .int .u16 a0_1, .int .u32 a0_2] 25 (0, 0))) ∧ (Below w.heap.size w w')) ?_ ?_
                    rotate_left
                    · intro hJ2
                      refine join_ (σ := Unit) 6 #[true, true, false, false, true, true, true, true, false, true, true, true, false, false, false] (fun s_ => [(11, .string t118)]) (fun s_ w' => (w'.cell? ⟨gb114, 0, none⟩ = some (.int .u8 a0_0) ∧ w'.cell? ⟨gb114, 1, none⟩ = some (.int .u16 a0_1) ∧ w'.cell? ⟨gb114, 2, none⟩ = some (.int .u32 a0_2)) ∧ (w'.heap[gb114]? = some (.cells #[.int .u8 a0_0, .int .u16 a0_1, .int .u32 a0_2] 25 (0, 0))) ∧ (Below w.heap.size w w')) ?_ ?_
                      rotate_left
                      · intro hJ7
                        refine two_ (i := 2) (j := 7) (Ni := some 6) (Nj := some 11) #[true, true, true, false, true, true, true, false, false, true, true, true, false, false, false] #[true, true, false, false, true, true, true, true, false, true, true, true, false, false, false] rfl rfl rfl rfl (two_of HT_.out (by kernel_rfl)) (by decide) (by decide) (fun K hK => ?_) (fun K hK => ?_)
                        · skip
                          refine Kd.R_lit_step (Kd.int .u8) _ 5 ?hg (N := 6) ?hd (xs := ([a0_0, 0] : List Int)) (inner := [.int .u8 a0_0, .int .u8 0]) (ok := fun _ => True) (okp := fun _ => True) ?hr ?hp (fun _ hk => hk) trivial (Below.refl _ _) (Nat.le_refl _) (by simp) ?_; (case hd => rfl); (case hg => rfl); (case hr => first | (go_simp; done) | (go_simp; rfl)); (case hp => exact (Reps.one (show Kd.M (Kd.int .u8) _ _ _ a0_0 [.int .u8 a0_0] from rfl) (Reps.one (show Kd.M (Kd.int .u8) _ _ _ 0 [.int .u8 0] from rfl) (Reps.none _ _))))
                          intro v116 w10 ho11 hb hg_ hnew_
                          clear hg_ hnew_
                          (first | rw [← Ny115.out] at ho11 | (simp only [Int.reduceToNat] at ho11; rw [← Ny115.out] at ho11))
                          have n0_ := Aside0.mk (Kd.R_lower ho11 (below_size (by repeat (first | (with_reducible first | exact HB.out | apply below_alloc | apply pw_below_drewN | apply below_drew1 | refine below_set ?_ GE114.out) | exact HB.out))))
                          have n1_ := Aside0.mk (blk_below (g := gb114) (o := .cells #[.int .u8 a0_0, .int .u16 a0_1, .int .u32 a0_2] 25 (0, 0)) (by (with_reducible repeat (first | refine blk_drewN ?_ _ | refine blk_drew ?_ | refine blk_alloc ?_ _)); exact BK114.out) hb)
                          have n2_ := Aside0.mk (below_step (by repeat (first | (with_reducible first | exact HB.out | apply below_alloc | apply pw_below_drewN | apply below_drew1 | refine below_set ?_ GE114.out) | exact HB.out)) hb)
                          clear BK114
                          clear HB
                          have HO117 := n0_
                          have BK114 := n1_
                          have HB := n2_
                          clear n0_ n1_ n2_
                          clear hb ho11
                          refine hK.out _ _ ⟨(blk_cell BK114.out 0).trans rfl, (blk_cell BK114.out 1).trans rfl, (blk_cell BK114.out 2).trans rfl⟩ (fun hHeld => ?_)
                          clear hK K
                          refine norm_ (a' := ?_) ?_ ?_
                          rotate_left
                          · show Act.put _ (some 6) _ = _
                            simp only [Act.put, List.setIfInBounds_toArray, List.set_cons_zero, List.set_cons_succ, i64_w, i32_w]
                            rfl
                          exact norm_ (by first | (simp only [putAll, Act.put, List.setIfInBounds_toArray, List.set_cons_zero, List.set_cons_succ]; done) | (simp only [putAll, Act.put, List.setIfInBounds_toArray, List.set_cons_zero, List.set_cons_succ]; rfl)) (hJ2 (v116) _ ⟨hHeld, (by (with_reducible repeat (first | apply Kd.R_alloc | apply Kd.R_drewN | apply Kd.R_drew)); exact HO117.out), (by (with_reducible repeat (first | refine blk_drewN ?_ _ | refine blk_drew ?_ | refine blk_alloc ?_ _)); exact BK114.out), (by repeat (first | (with_reducible first | exact HB.out | apply below_alloc | apply pw_below_drewN | apply below_drew1 | refine below_set ?_ GE114.out) | exact HB.out))⟩)
                        · skip
                          refine goes_ Try.func60 (by kernel_rfl) rfl #[.int .u64 (IntKind.u64.wrap (a0_1)), .int .i64 2] (by rfl) rfl rfl (by (try simp only [List.map_toArray, List.map_cons, List.map_nil]); first | done | rfl | (simp only [List.length_drop, List.length_take]; rfl)) ?_
                          with_reducible refine (rowlockref06_Number.calls k (IntKind.u64.wrap (a0_1)) 2 t118 _ A2.out).mono ?_
                          rintro e w10 ⟨rfl, hb⟩
                          refine ⟨_, rfl, ?_⟩
                          have n0_ := Aside0.mk (blk_below (g := gb114) (o := .cells #[.int .u8 a0_0, .int .u16 a0_1, .int .u32 a0_2] 25 (0, 0)) (by (with_reducible repeat (first | refine blk_drewN ?_ _ | refine blk_drew ?_ | refine blk_alloc ?_ _)); exact BK114.out) hb)
                          have n1_ := Aside0.mk (below_step (by repeat (first | (with_reducible first | exact HB.out | apply below_alloc | apply pw_below_drewN | apply below_drew1 | refine below_set ?_ GE114.out) | exact HB.out)) hb)
                          clear BK114
                          clear HB
                          have BK114 := n0_
                          have HB := n1_
                          clear n0_ n1_
                          (try clear hb)
                          (try clear hb2)
                          (try clear hk)
                          (try clear hi)
                          refine hK.out _ _ ⟨(blk_cell BK114.out 0).trans rfl, (blk_cell BK114.out 1).trans rfl, (blk_cell BK114.out 2).trans rfl⟩ (fun hHeld => ?_)
                          clear hK K
                          refine norm_ (a' := ?_) ?_ ?_
                          rotate_left
                          · show Act.put _ (some 11) _ = _
                            simp only [Act.put, List.setIfInBounds_toArray, List.set_cons_zero, List.set_cons_succ, i64_w, i32_w]
                            rfl
                          exact norm_ (by first | (simp only [putAll, Act.put, List.setIfInBounds_toArray, List.set_cons_zero, List.set_cons_succ]; done) | (simp only [putAll, Act.put, List.setIfInBounds_toArray, List.set_cons_zero, List.set_cons_succ]; rfl)) (hJ7 () _ ⟨hHeld, (by (with_reducible repeat (first | refine blk_drewN ?_ _ | refine blk_drew ?_ | refine blk_alloc ?_ _)); exact BK114.out), (by repeat (first | (with_reducible first | exact HB.out | apply below_alloc | apply pw_below_drewN | apply below_drew1 | refine below_set ?_ GE114.out) | exact HB.out))⟩)
                      · skip
                        rintro _ w11 ⟨hS_, h0_, h1_⟩
                        have n0_ : Aside0 (w11.heap[gb114]? = some (.cells #[.int .u8 a0_0, .int .u16 a0_1, .int .u32 a0_2] 25 (0, 0))) := ⟨h0_⟩
                        have n1_ : Aside0 (Below w.heap.size w w11) := ⟨h1_⟩
                        clear BK114
                        clear HB
                        clear h0_ h1_
                        have BK114 := n0_
                        have HB := n1_
                        clear n0_ n1_
                        have hHeld : w11.cell? ⟨gb114, 0, none⟩ = some (.int .u8 a0_0) ∧ w11.cell? ⟨gb114, 1, none⟩ = some (.int .u16 a0_1) ∧ w11.cell? ⟨gb114, 2, none⟩ = some (.int .u32 a0_2) := hS_
                        refine norm_ (a' := ?_) ?_ ?_
                        rotate_left
                        · simp only [putAll, Act.put, List.setIfInBounds_toArray, List.set_cons_zero, List.set_cons_succ]
                          rfl
                        refine two_ (i := 2) (j := 12) (Ni := some 6) (Nj := some 16) #[true, true, true, false, true, true, true, true, false, true, true, true, false, false, false] #[true, true, false, false, true, true, true, true, false, true, true, true, true, false, false] rfl rfl rfl rfl (two_of HT_.out (by kernel_rfl)) (by decide) (by decide) (fun K hK => ?_) (fun K hK => ?_)
                        · skip
                          refine Kd.R_lit_step (Kd.int .u8) _ 5 ?hg (N := 6) ?hd (xs := ([a0_0, 0] : List Int)) (inner := [.int .u8 a0_0, .int .u8 0]) (ok := fun _ => True) (okp := fun _ => True) ?hr ?hp (fun _ hk => hk) trivial (Below.refl _ _) (Nat.le_refl _) (by simp) ?_; (case hd => rfl); (case hg => rfl); (case hr => first | (go_simp; done) | (go_simp; rfl)); (case hp => exact (Reps.one (show Kd.M (Kd.int .u8) _ _ _ a0_0 [.int .u8 a0_0] from rfl) (Reps.one (show Kd.M (Kd.int .u8) _ _ _ 0 [.int .u8 0] from rfl) (Reps.none _ _))))
                          intro v116 w12 ho13 hb hg_ hnew_
                          clear hg_ hnew_
                          (first | rw [← Ny115.out] at ho13 | (simp only [Int.reduceToNat] at ho13; rw [← Ny115.out] at ho13))
                          have n0_ := Aside0.mk (Kd.R_lower ho13 (below_size (by repeat (first | (with_reducible first | exact HB.out | apply below_alloc | apply pw_below_drewN | apply below_drew1 | refine below_set ?_ GE114.out) | exact HB.out))))
                          have n1_ := Aside0.mk (blk_below (g := gb114) (o := .cells #[.int .u8 a0_0, .int .u16 a0_1, .int .u32 a0_2] 25 (0, 0)) (by (with_reducible repeat (first | refine blk_drewN ?_ _ | refine blk_drew ?_ | refine blk_alloc ?_ _)); exact BK114.out) hb)
                          have n2_ := Aside0.mk (below_step (by repeat (first | (with_reducible first | exact HB.out | apply below_alloc | apply pw_below_drewN | apply below_drew1 | refine below_set ?_ GE114.out) | exact HB.out)) hb)
                          clear BK114
                          clear HB
                          have HO117 := n0_
                          have BK114 := n1_
                          have HB := n2_
                          clear n0_ n1_ n2_
                          clear hb ho13
                          refine hK.out _ _ ⟨(blk_cell BK114.out 0).trans rfl, (blk_cell BK114.out 1).trans rfl, (blk_cell BK114.out 2).trans rfl⟩ (fun hHeld => ?_)
                          clear hK K
                          refine norm_ (a' := ?_) ?_ ?_
                          rotate_left
                          · show Act.put _ (some 6) _ = _
                            simp only [Act.put, List.setIfInBounds_toArray, List.set_cons_zero, List.set_cons_succ, i64_w, i32_w]
                            rfl
                          exact norm_ (by first | (simp only [putAll, Act.put, List.setIfInBounds_toArray, List.set_cons_zero, List.set_cons_succ]; done) | (simp only [putAll, Act.put, List.setIfInBounds_toArray, List.set_cons_zero, List.set_cons_succ]; rfl)) (hJ2_7 (v116) _ ⟨hHeld, (by (with_reducible repeat (first | apply Kd.R_alloc | apply Kd.R_drewN | apply Kd.R_drew)); exact HO117.out), (by (with_reducible repeat (first | refine blk_drewN ?_ _ | refine blk_drew ?_ | refine blk_alloc ?_ _)); exact BK114.out), (by repeat (first | (with_reducible first | exact HB.out | apply below_alloc | apply pw_below_drewN | apply below_drew1 | refine below_set ?_ GE114.out) | exact HB.out))⟩)
                        · skip
                          refine goes_ Try.func60 (by kernel_rfl) rfl #[.int .u64 (IntKind.u64.wrap (a0_2)), .int .i64 4] (by rfl) rfl rfl (by (try simp only [List.map_toArray, List.map_cons, List.map_nil]); first | done | rfl | (simp only [List.length_drop, List.length_take]; rfl)) ?_
                          with_reducible refine (rowlockref06_Number.calls k (IntKind.u64.wrap (a0_2)) 4 t119 _ A4.out).mono ?_
                          rintro e w12 ⟨rfl, hb⟩
                          refine ⟨_, rfl, ?_⟩
                          have n0_ := Aside0.mk (blk_below (g := gb114) (o := .cells #[.int .u8 a0_0, .int .u16 a0_1, .int .u32 a0_2] 25 (0, 0)) (by (with_reducible repeat (first | refine blk_drewN ?_ _ | refine blk_drew ?_ | refine blk_alloc ?_ _)); exact BK114.out) hb)
                          have n1_ := Aside0.mk (below_step (by repeat (first | (with_reducible first | exact HB.out | apply below_alloc | apply pw_below_drewN | apply below_drew1 | refine below_set ?_ GE114.out) | exact HB.out)) hb)
                          clear BK114
                          clear HB
                          have BK114 := n0_
                          have HB := n1_
                          clear n0_ n1_
                          (try clear hb)
                          (try clear hb2)
                          (try clear hk)
                          (try clear hi)
                          refine hK.out _ _ ⟨(blk_cell BK114.out 0).trans rfl, (blk_cell BK114.out 1).trans rfl, (blk_cell BK114.out 2).trans rfl⟩ (fun hHeld => ?_)
                          clear hK K
                          refine norm_ (a' := ?_) ?_ ?_
                          rotate_left
                          · show Act.put _ (some 16) _ = _
                            simp only [Act.put, List.setIfInBounds_toArray, List.set_cons_zero, List.set_cons_succ, i64_w, i32_w]
                            rfl
                          exact norm_ (by first | (simp only [putAll, Act.put, List.setIfInBounds_toArray, List.set_cons_zero, List.set_cons_succ]; done) | (simp only [putAll, Act.put, List.setIfInBounds_toArray, List.set_cons_zero, List.set_cons_succ]; rfl)) (hJ7_12 () _ ⟨hHeld, (by (with_reducible repeat (first | refine blk_drewN ?_ _ | refine blk_drew ?_ | refine blk_alloc ?_ _)); exact BK114.out), (by repeat (first | (with_reducible first | exact HB.out | apply below_alloc | apply pw_below_drewN | apply below_drew1 | refine below_set ?_ GE114.out) | exact HB.out))⟩)
                    · skip
                      rintro v116 w12 ⟨hS_, h0_, h1_, h2_⟩
                      have n0_ : Aside0 (Kd.R (Kd.int .u8) 5 w12 w.heap.size (fun _ => True) v116 y115) := ⟨h0_⟩
                      have n1_ : Aside0 (w12.heap[gb114]? = some (.cells #[.int .u8 a0_0, .int .u16 a0_1, .int .u32 a0_2] 25 (0, 0))) := ⟨h1_⟩
                      have n2_ : Aside0 (Below w.heap.size w w12) := ⟨h2_⟩
                      clear BK114
                      clear HB
                      clear h0_ h1_ h2_
                      have HO117 := n0_
                      have BK114 := n1_
                      have HB := n2_
                      clear n0_ n1_ n2_
                      have hHeld : w12.cell? ⟨gb114, 0, none⟩ = some (.int .u8 a0_0) ∧ w12.cell? ⟨gb114, 1, none⟩ = some (.int .u16 a0_1) ∧ w12.cell? ⟨gb114, 2, none⟩ = some (.int .u32 a0_2) := hS_
                      refine norm_ (a' := ?_) ?_ ?_
                      rotate_left
                      · simp only [putAll, Act.put, List.setIfInBounds_toArray, List.set_cons_zero, List.set_cons_succ]
                        rfl
                      refine two_ (i := 3) (j := 7) (Ni := some 7) (Nj := some 11) #[true, true, true, true, true, true, true, false, false, true, true, true, false, false, false] #[true, true, true, false, true, true, true, true, false, true, true, true, false, false, false] rfl rfl rfl rfl (two_of HT_.out (by kernel_rfl)) (by decide) (by decide) (fun K hK => ?_) (fun K hK => ?_)
                      · skip
                        have hcv13 := own_string (P := Try.prog) Try.underlying26 Try.underlying5 Try.underlying9 (Kd.own_of_R HO117.out)
                        refine value_ (w1 := ?_) (v := ?_) (by rfl) rfl ?_ ?_
                        rotate_left 2
                        · go_simp
                          constructor
                          · rfl
                          · rfl
                        clear hcv13
                        refine hK.out _ _ ⟨(blk_cell BK114.out 0).trans rfl, (blk_cell BK114.out 1).trans rfl, (blk_cell BK114.out 2).trans rfl⟩ (fun hHeld => ?_)
                        clear hK K
                        refine norm_ (a' := ?_) ?_ ?_
                        rotate_left
                        · show Act.put _ (some 7) _ = _
                          simp only [Act.put, List.setIfInBounds_toArray, List.set_cons_zero, List.set_cons_succ, i64_w, i32_w]
                          rfl
                        exact norm_ (by first | (simp only [putAll, Act.put, List.setIfInBounds_toArray, List.set_cons_zero, List.set_cons_succ]; done) | (simp only [putAll, Act.put, List.setIfInBounds_toArray, List.set_cons_zero, List.set_cons_succ]; rfl)) (hJ2_3 (v116) _ ⟨hHeld, (by (with_reducible repeat (first | apply Kd.R_alloc | apply Kd.R_drewN | apply Kd.R_drew)); exact HO117.out), (by (with_reducible repeat (first | refine blk_drewN ?_ _ | refine blk_drew ?_ | refine blk_alloc ?_ _)); exact BK114.out), (by repeat (first | (with_reducible first | exact HB.out | apply below_alloc | apply pw_below_drewN | apply below_drew1 | refine below_set ?_ GE114.out) | exact HB.out))⟩)
                      · skip
                        refine goes_ Try.func60 (by kernel_rfl) rfl #[.int .u64 (IntKind.u64.wrap (a0_1)), .int .i64 2] (by rfl) rfl rfl (by (try simp only [List.map_toArray, List.map_cons, List.map_nil]); first | done | rfl | (simp only [List.length_drop, List.length_take]; rfl)) ?_
                        with_reducible refine (rowlockref06_Number.calls k (IntKind.u64.wrap (a0_1)) 2 t118 _ A2.out).mono ?_
                        rintro e w13 ⟨rfl, hb⟩
                        refine ⟨_, rfl, ?_⟩
                        have n0_ := Aside0.mk (Kd.R_below (by (with_reducible repeat (first | apply Kd.R_alloc | apply Kd.R_drewN | apply Kd.R_drew)); exact HO117.out) hb)
                        have n1_ := Aside0.mk (blk_below (g := gb114) (o := .cells #[.int .u8 a0_0, .int .u16 a0_1, .int .u32 a0_2] 25 (0, 0)) (by (with_reducible repeat (first | refine blk_drewN ?_ _ | refine blk_drew ?_ | refine blk_alloc ?_ _)); exact BK114.out) hb)
                        have n2_ := Aside0.mk (below_step (by repeat (first | (with_reducible first | exact HB.out | apply below_alloc | apply pw_below_drewN | apply below_drew1 | refine below_set ?_ GE114.out) | exact HB.out)) hb)
                        clear HO117
                        clear BK114
                        clear HB
                        have HO117 := n0_
                        have BK114 := n1_
                        have HB := n2_
                        clear n0_ n1_ n2_
                        (try clear hb)
                        (try clear hb2)
                        (try clear hk)
                        (try clear hi)
                        refine hK.out _ _ ⟨(blk_cell BK114.out 0).trans rfl, (blk_cell BK114.out 1).trans rfl, (blk_cell BK114.out 2).trans rfl⟩ (fun hHeld => ?_)
                        clear hK K
                        refine norm_ (a' := ?_) ?_ ?_
                        rotate_left
                        · show Act.put _ (some 11) _ = _
                          simp only [Act.put, List.setIfInBounds_toArray, List.set_cons_zero, List.set_cons_succ, i64_w, i32_w]
                          rfl
                        exact norm_ (by first | (simp only [putAll, Act.put, List.setIfInBounds_toArray, List.set_cons_zero, List.set_cons_succ]; done) | (simp only [putAll, Act.put, List.setIfInBounds_toArray, List.set_cons_zero, List.set_cons_succ]; rfl)) (hJ2_7 (v116) _ ⟨hHeld, (by (with_reducible repeat (first | apply Kd.R_alloc | apply Kd.R_drewN | apply Kd.R_drew)); exact HO117.out), (by (with_reducible repeat (first | refine blk_drewN ?_ _ | refine blk_drew ?_ | refine blk_alloc ?_ _)); exact BK114.out), (by repeat (first | (with_reducible first | exact HB.out | apply below_alloc | apply pw_below_drewN | apply below_drew1 | refine below_set ?_ GE114.out) | exact HB.out))⟩)
                  · skip
                    rintro _ w12 ⟨hS_, h0_, h1_⟩
                    have n0_ : Aside0 (w12.heap[gb114]? = some (.cells #[.int .u8 a0_0, .int .u16 a0_1, .int .u32 a0_2] 25 (0, 0))) := ⟨h0_⟩
                    have n1_ : Aside0 (Below w.heap.size w w12) := ⟨h1_⟩
                    clear BK114
                    clear HB
                    clear h0_ h1_
                    have BK114 := n0_
                    have HB := n1_
                    clear n0_ n1_
                    have hHeld : w12.cell? ⟨gb114, 0, none⟩ = some (.int .u8 a0_0) ∧ w12.cell? ⟨gb114, 1, none⟩ = some (.int .u16 a0_1) ∧ w12.cell? ⟨gb114, 2, none⟩ = some (.int .u32 a0_2) := hS_
                    refine norm_ (a' := ?_) ?_ ?_
                    rotate_left
                    · simp only [putAll, Act.put, List.setIfInBounds_toArray, List.set_cons_zero, List.set_cons_succ]
                      rfl
                    refine one_ (i := 2) (N := some 6) #[true, true, true, false, true, true, true, true, false, true, true, true, true, false, false] rfl rfl (one_of HT_.out (by kernel_rfl)) (by decide) (fun K hK => ?_)
                    refine Kd.R_lit_step (Kd.int .u8) _ 5 ?hg (N := 6) ?hd (xs := ([a0_0, 0] : List Int)) (inner := [.int .u8 a0_0, .int .u8 0]) (ok := fun _ => True) (okp := fun _ => True) ?hr ?hp (fun _ hk => hk) trivial (Below.refl _ _) (Nat.le_refl _) (by simp) ?_; (case hd => rfl); (case hg => rfl); (case hr => first | (go_simp; done) | (go_simp; rfl)); (case hp => exact (Reps.one (show Kd.M (Kd.int .u8) _ _ _ a0_0 [.int .u8 a0_0] from rfl) (Reps.one (show Kd.M (Kd.int .u8) _ _ _ 0 [.int .u8 0] from rfl) (Reps.none _ _))))
                    intro v116 w13 ho14 hb hg_ hnew_
                    clear hg_ hnew_
                    (first | rw [← Ny115.out] at ho14 | (simp only [Int.reduceToNat] at ho14; rw [← Ny115.out] at ho14))
                    have n0_ := Aside0.mk (Kd.R_lower ho14 (below_size (by repeat (first | (with_reducible first | exact HB.out | apply below_alloc | apply pw_below_drewN | apply below_drew1 | refine below_set ?_ GE114.out) | exact HB.out))))
                    have n1_ := Aside0.mk (blk_below (g := gb114) (o := .cells #[.int .u8 a0_0, .int .u16 a0_1, .int .u32 a0_2] 25 (0, 0)) (by (with_reducible repeat (first | refine blk_drewN ?_ _ | refine blk_drew ?_ | refine blk_alloc ?_ _)); exact BK114.out) hb)
                    have n2_ := Aside0.mk (below_step (by repeat (first | (with_reducible first | exact HB.out | apply below_alloc | apply pw_below_drewN | apply below_drew1 | refine below_set ?_ GE114.out) | exact HB.out)) hb)
                    clear BK114
                    clear HB
                    have HO117 := n0_
                    have BK114 := n1_
                    have HB := n2_
                    clear n0_ n1_ n2_
                    clear hb ho14
                    refine hK.out _ _ ⟨(blk_cell BK114.out 0).trans rfl, (blk_cell BK114.out 1).trans rfl, (blk_cell BK114.out 2).trans rfl⟩ (fun hHeld => ?_)
                    clear hK K
                    refine norm_ (a' := ?_) ?_ ?_
                    rotate_left
                    · show Act.put _ (some 6) _ = _
                      simp only [Act.put, List.setIfInBounds_toArray, List.set_cons_zero, List.set_cons_succ, i64_w, i32_w]
                      rfl
                    exact norm_ (by first | (simp only [putAll, Act.put, List.setIfInBounds_toArray, List.set_cons_zero, List.set_cons_succ]; done) | (simp only [putAll, Act.put, List.setIfInBounds_toArray, List.set_cons_zero, List.set_cons_succ]; rfl)) (hJ2_7_12 (v116) _ ⟨hHeld, (by (with_reducible repeat (first | apply Kd.R_alloc | apply Kd.R_drewN | apply Kd.R_drew)); exact HO117.out), (by (with_reducible repeat (first | refine blk_drewN ?_ _ | refine blk_drew ?_ | refine blk_alloc ?_ _)); exact BK114.out), (by repeat (first | (with_reducible first | exact HB.out | apply below_alloc | apply pw_below_drewN | apply below_drew1 | refine below_set ?_ GE114.out) | exact HB.out))⟩)
                · skip
                  rintro v116 w13 ⟨hS_, h0_, h1_, h2_⟩
                  have n0_ : Aside0 (Kd.R (Kd.int .u8) 5 w13 w.heap.size (fun _ => True) v116 y115) := ⟨h0_⟩
                  have n1_ : Aside0 (w13.heap[gb114]? = some (.cells #[.int .u8 a0_0, .int .u16 a0_1, .int .u32 a0_2] 25 (0, 0))) := ⟨h1_⟩
                  have n2_ : Aside0 (Below w.heap.size w w13) := ⟨h2_⟩
                  clear BK114
                  clear HB
                  clear h0_ h1_ h2_
                  have HO117 := n0_
                  have BK114 := n1_
                  have HB := n2_
                  clear n0_ n1_ n2_
                  have hHeld : w13.cell? ⟨gb114, 0, none⟩ = some (.int .u8 a0_0) ∧ w13.cell? ⟨gb114, 1, none⟩ = some (.int .u16 a0_1) ∧ w13.cell? ⟨gb114, 2, none⟩ = some (.int .u32 a0_2) := hS_
                  refine norm_ (a' := ?_) ?_ ?_
                  rotate_left
                  · simp only [putAll, Act.put, List.setIfInBounds_toArray, List.set_cons_zero, List.set_cons_succ]
                    rfl
                  refine two_ (i := 3) (j := 12) (Ni := some 7) (Nj := some 16) #[true, true, true, true, true, true, true, true, false, true, true, true, false, false, false] #[true, true, true, false, true, true, true, true, false, true, true, true, true, false, false] rfl rfl rfl rfl (two_of HT_.out (by kernel_rfl)) (by decide) (by decide) (fun K hK => ?_) (fun K hK => ?_)
                  · skip
                    have hcv14 := own_string (P := Try.prog) Try.underlying26 Try.underlying5 Try.underlying9 (Kd.own_of_R HO117.out)
                    refine value_ (w1 := ?_) (v := ?_) (by rfl) rfl ?_ ?_
                    rotate_left 2
                    · go_simp
                      constructor
                      · rfl
                      · rfl
                    clear hcv14
                    refine hK.out _ _ ⟨(blk_cell BK114.out 0).trans rfl, (blk_cell BK114.out 1).trans rfl, (blk_cell BK114.out 2).trans rfl⟩ (fun hHeld => ?_)
                    clear hK K
                    refine norm_ (a' := ?_) ?_ ?_
                    rotate_left
                    · show Act.put _ (some 7) _ = _
                      simp only [Act.put, List.setIfInBounds_toArray, List.set_cons_zero, List.set_cons_succ, i64_w, i32_w]
                      rfl
                    refine pure_ (i := 8) (N := some 12) (v := ?_) (a' := ?_) #[true, true, true, true, true, true, true, true, true, true, true, true, false, false, false] rfl rfl (any_of HT_.out (by kernel_rfl)) (fun _ _ _ h => h) (Or.inl ⟨by rfl, ?_⟩) ?_ ?_
                    rotate_left
                    · intro w'
                      go_simp
                      with_reducible rfl
                    rotate_left
                    · simp only [Act.put, List.setIfInBounds_toArray, List.set_cons_zero, List.set_cons_succ, i64_w, i32_w]
                      rfl
                    exact norm_ (by first | (simp only [putAll, Act.put, List.setIfInBounds_toArray, List.set_cons_zero, List.set_cons_succ]; done) | (simp only [putAll, Act.put, List.setIfInBounds_toArray, List.set_cons_zero, List.set_cons_succ]; rfl)) (hJ2_3_7 (v116) _ ⟨hHeld, (by (with_reducible repeat (first | apply Kd.R_alloc | apply Kd.R_drewN | apply Kd.R_drew)); exact HO117.out), (by (with_reducible repeat (first | refine blk_drewN ?_ _ | refine blk_drew ?_ | refine blk_alloc ?_ _)); exact BK114.out), (by repeat (first | (with_reducible first | exact HB.out | apply below_alloc | apply pw_below_drewN | apply below_drew1 | refine below_set ?_ GE114.out) | exact HB.out))⟩)
                  · skip
                    refine goes_ Try.func60 (by kernel_rfl) rfl #[.int .u64 (IntKind.u64.wrap (a0_2)), .int .i64 4] (by rfl) rfl rfl (by (try simp only [List.map_toArray, List.map_cons, List.map_nil]); first | done | rfl | (simp only [List.length_drop, List.length_take]; rfl)) ?_
                    with_reducible refine (rowlockref06_Number.calls k (IntKind.u64.wrap (a0_2)) 4 t119 _ A4.out).mono ?_
                    rintro e w14 ⟨rfl, hb⟩
                    refine ⟨_, rfl, ?_⟩
                    have n0_ := Aside0.mk (Kd.R_below (by (with_reducible repeat (first | apply Kd.R_alloc | apply Kd.R_drewN | apply Kd.R_drew)); exact HO117.out) hb)
                    have n1_ := Aside0.mk (blk_below (g := gb114) (o := .cells #[.int .u8 a0_0, .int .u16 a0_1, .int .u32 a0_2] 25 (0, 0)) (by (with_reducible repeat (first | refine blk_drewN ?_ _ | refine blk_drew ?_ | refine blk_alloc ?_ _)); exact BK114.out) hb)
                    have n2_ := Aside0.mk (below_step (by repeat (first | (with_reducible first | exact HB.out | apply below_alloc | apply pw_below_drewN | apply below_drew1 | refine below_set ?_ GE114.out) | exact HB.out)) hb)
                    clear HO117
                    clear BK114
                    clear HB
                    have HO117 := n0_
                    have BK114 := n1_
                    have HB := n2_
                    clear n0_ n1_ n2_
                    (try clear hb)
                    (try clear hb2)
                    (try clear hk)
                    (try clear hi)
                    refine hK.out _ _ ⟨(blk_cell BK114.out 0).trans rfl, (blk_cell BK114.out 1).trans rfl, (blk_cell BK114.out 2).trans rfl⟩ (fun hHeld => ?_)
                    clear hK K
                    refine norm_ (a' := ?_) ?_ ?_
                    rotate_left
                    · show Act.put _ (some 16) _ = _
                      simp only [Act.put, List.setIfInBounds_toArray, List.set_cons_zero, List.set_cons_succ, i64_w, i32_w]
                      rfl
                    exact norm_ (by first | (simp only [putAll, Act.put, List.setIfInBounds_toArray, List.set_cons_zero, List.set_cons_succ]; done) | (simp only [putAll, Act.put, List.setIfInBounds_toArray, List.set_cons_zero, List.set_cons_succ]; rfl)) (hJ2_7_12 (v116) _ ⟨hHeld, (by (with_reducible repeat (first | apply Kd.R_alloc | apply Kd.R_drewN | apply Kd.R_drew)); exact HO117.out), (by (with_reducible repeat (first | refine blk_drewN ?_ _ | refine blk_drew ?_ | refine blk_alloc ?_ _)); exact BK114.out), (by repeat (first | (with_reducible first | exact HB.out | apply below_alloc | apply pw_below_drewN | apply below_drew1 | refine below_set ?_ GE114.out) | exact HB.out))⟩)
              · skip
                rintro v116 w13 ⟨hS_, h0_, h1_, h2_⟩
                have n0_ : Aside0 (Kd.R (Kd.int .u8) 5 w13 w.heap.size (fun _ => True) v116 y115) := ⟨h0_⟩
                have n1_ : Aside0 (w13.heap[gb114]? = some (.cells #[.int .u8 a0_0, .int .u16 a0_1, .int .u32 a0_2] 25 (0, 0))) := ⟨h1_⟩
                have n2_ : Aside0 (Below w.heap.size w w13) := ⟨h2_⟩
                clear BK114
                clear HB
                clear h0_ h1_ h2_
                have HO117 := n0_
                have BK114 := n1_
                have HB := n2_
                clear n0_ n1_ n2_
                have hHeld : w13.cell? ⟨gb114, 0, none⟩ = some (.int .u8 a0_0) ∧ w13.cell? ⟨gb114, 1, none⟩ = some (.int .u16 a0_1) ∧ w13.cell? ⟨gb114, 2, none⟩ = some (.int .u32 a0_2) := hS_
                refine norm_ (a' := ?_) ?_ ?_
                rotate_left
                · simp only [putAll, Act.put, List.setIfInBounds_toArray, List.set_cons_zero, List.set_cons_succ]
                  rfl
                refine one_ (i := 7) (N := some 11) #[true, true, true, true, true, true, true, true, false, true, true, true, false, false, false] rfl rfl (one_of HT_.out (by kernel_rfl)) (by decide) (fun K hK => ?_)
                refine goes_ Try.func60 (by kernel_rfl) rfl #[.int .u64 (IntKind.u64.wrap (a0_1)), .int .i64 2] (by rfl) rfl rfl (by (try simp only [List.map_toArray, List.map_cons, List.map_nil]); first | done | rfl | (simp only [List.length_drop, List.length_take]; rfl)) ?_
                with_reducible refine (rowlockref06_Number.calls k (IntKind.u64.wrap (a0_1)) 2 t118 _ A2.out).mono ?_
                rintro e w14 ⟨rfl, hb⟩
                refine ⟨_, rfl, ?_⟩
                have n0_ := Aside0.mk (Kd.R_below (by (with_reducible repeat (first | apply Kd.R_alloc | apply Kd.R_drewN | apply Kd.R_drew)); exact HO117.out) hb)
                have n1_ := Aside0.mk (blk_below (g := gb114) (o := .cells #[.int .u8 a0_0, .int .u16 a0_1, .int .u32 a0_2] 25 (0, 0)) (by (with_reducible repeat (first | refine blk_drewN ?_ _ | refine blk_drew ?_ | refine blk_alloc ?_ _)); exact BK114.out) hb)
                have n2_ := Aside0.mk (below_step (by repeat (first | (with_reducible first | exact HB.out | apply below_alloc | apply pw_below_drewN | apply below_drew1 | refine below_set ?_ GE114.out) | exact HB.out)) hb)
                clear HO117
                clear BK114
                clear HB
                have HO117 := n0_
                have BK114 := n1_
                have HB := n2_
                clear n0_ n1_ n2_
                (try clear hb)
                (try clear hb2)
                (try clear hk)
                (try clear hi)
                refine hK.out _ _ ⟨(blk_cell BK114.out 0).trans rfl, (blk_cell BK114.out 1).trans rfl, (blk_cell BK114.out 2).trans rfl⟩ (fun hHeld => ?_)
                clear hK K
                refine norm_ (a' := ?_) ?_ ?_
                rotate_left
                · show Act.put _ (some 11) _ = _
                  simp only [Act.put, List.setIfInBounds_toArray, List.set_cons_zero, List.set_cons_succ, i64_w, i32_w]
                  rfl
                refine pure_ (i := 8) (N := some 12) (v := ?_) (a' := ?_) #[true, true, true, true, true, true, true, true, true, true, true, true, false, false, false] rfl rfl (any_of HT_.out (by kernel_rfl)) (fun _ _ _ h => h) (Or.inl ⟨by rfl, ?_⟩) ?_ ?_
                rotate_left
                · intro w'
                  go_simp
                  with_reducible rfl
                rotate_left
                · simp only [Act.put, List.setIfInBounds_toArray, List.set_cons_zero, List.set_cons_succ, i64_w, i32_w]
                  rfl
                exact norm_ (by first | (simp only [putAll, Act.put, List.setIfInBounds_toArray, List.set_cons_zero, List.set_cons_succ]; done) | (simp only [putAll, Act.put, List.setIfInBounds_toArray, List.set_cons_zero, List.set_cons_succ]; rfl)) (hJ2_3_7 (v116) _ ⟨hHeld, (by (with_reducible repeat (first | apply Kd.R_alloc | apply Kd.R_drewN | apply Kd.R_drew)); exact HO117.out), (by (with_reducible repeat (first | refine blk_drewN ?_ _ | refine blk_drew ?_ | refine blk_alloc ?_ _)); exact BK114.out), (by repeat (first | (with_reducible first | exact HB.out | apply below_alloc | apply pw_below_drewN | apply below_drew1 | refine below_set ?_ GE114.out) | exact HB.out))⟩)
            · skip
              rintro v116 w14 ⟨hS_, h0_, h1_, h2_⟩
              have n0_ : Aside0 (Kd.R (Kd.int .u8) 5 w14 w.heap.size (fun _ => True) v116 y115) := ⟨h0_⟩
              have n1_ : Aside0 (w14.heap[gb114]? = some (.cells #[.int .u8 a0_0, .int .u16 a0_1, .int .u32 a0_2] 25 (0, 0))) := ⟨h1_⟩
              have n2_ : Aside0 (Below w.heap.size w w14) := ⟨h2_⟩
              clear BK114
              clear HB
              clear h0_ h1_ h2_
              have HO117 := n0_
              have BK114 := n1_
              have HB := n2_
              clear n0_ n1_ n2_
              have hHeld : w14.cell? ⟨gb114, 0, none⟩ = some (.int .u8 a0_0) ∧ w14.cell? ⟨gb114, 1, none⟩ = some (.int .u16 a0_1) ∧ w14.cell? ⟨gb114, 2, none⟩ = some (.int .u32 a0_2) := hS_
              refine norm_ (a' := ?_) ?_ ?_
              rotate_left
              · simp only [putAll, Act.put, List.setIfInBounds_toArray, List.set_cons_zero, List.set_cons_succ]
                rfl
              refine one_ (i := 3) (N := some 7) #[true, true, true, true, true, true, true, true, false, true, true, true, true, false, false] rfl rfl (one_of HT_.out (by kernel_rfl)) (by decide) (fun K hK => ?_)
              have hcv15 := own_string (P := Try.prog) Try.underlying26 Try.underlying5 Try.underlying9 (Kd.own_of_R HO117.out)
              refine value_ (w1 := ?_) (v := ?_) (by rfl) rfl ?_ ?_
              rotate_left 2
              · go_simp
                constructor
                · rfl
                · rfl
              clear hcv15
              refine hK.out _ _ ⟨(blk_cell BK114.out 0).trans rfl, (blk_cell BK114.out 1).trans rfl, (blk_cell BK114.out 2).trans rfl⟩ (fun hHeld => ?_)
              clear hK K
              refine norm_ (a' := ?_) ?_ ?_
              rotate_left
              · show Act.put _ (some 7) _ = _
                simp only [Act.put, List.setIfInBounds_toArray, List.set_cons_zero, List.set_cons_succ, i64_w, i32_w]
                rfl
              refine pure_ (i := 8) (N := some 12) (v := ?_) (a' := ?_) #[true, true, true, true, true, true, true, true, true, true, true, true, true, false, false] rfl rfl (any_of HT_.out (by kernel_rfl)) (fun _ _ _ h => h) (Or.inl ⟨by rfl, ?_⟩) ?_ ?_
              rotate_left
              · intro w'
                go_simp
                with_reducible rfl
              rotate_left
              · simp only [Act.put, List.setIfInBounds_toArray, List.set_cons_zero, List.set_cons_succ, i64_w, i32_w]
                rfl
              exact norm_ (by first | (simp only [putAll, Act.put, List.setIfInBounds_toArray, List.set_cons_zero, List.set_cons_succ]; done) | (simp only [putAll, Act.put, List.setIfInBounds_toArray, List.set_cons_zero, List.set_cons_succ]; rfl)) (hJ2_3_7_12 (v116) _ ⟨hHeld, (by (with_reducible repeat (first | apply Kd.R_alloc | apply Kd.R_drewN | apply Kd.R_drew)); exact HO117.out), (by (with_reducible repeat (first | refine blk_drewN ?_ _ | refine blk_drew ?_ | refine blk_alloc ?_ _)); exact BK114.out), (by repeat (first | (with_reducible first | exact HB.out | apply below_alloc | apply pw_below_drewN | apply below_drew1 | refine below_set ?_ GE114.out) | exact HB.out))⟩)
          · skip
            rintro v116 w14 ⟨hS_, h0_, h1_, h2_⟩
            have n0_ : Aside0 (Kd.R (Kd.int .u8) 5 w14 w.heap.size (fun _ => True) v116 y115) := ⟨h0_⟩
            have n1_ : Aside0 (w14.heap[gb114]? = some (.cells #[.int .u8 a0_0, .int .u16 a0_1, .int .u32 a0_2] 25 (0, 0))) := ⟨h1_⟩
            have n2_ : Aside0 (Below w.heap.size w w14) := ⟨h2_⟩
            clear BK114
            clear HB
            clear h0_ h1_ h2_
            have HO117 := n0_
            have BK114 := n1_
            have HB := n2_
            clear n0_ n1_ n2_
            have hHeld : w14.cell? ⟨gb114, 0, none⟩ = some (.int .u8 a0_0) ∧ w14.cell? ⟨gb114, 1, none⟩ = some (.int .u16 a0_1) ∧ w14.cell? ⟨gb114, 2, none⟩ = some (.int .u32 a0_2) := hS_
            refine norm_ (a' := ?_) ?_ ?_
            rotate_left
            · simp only [putAll, Act.put, List.setIfInBounds_toArray, List.set_cons_zero, List.set_cons_succ]
              rfl
            refine one_ (i := 12) (N := some 16) #[true, true, true, true, true, true, true, true, true, true, true, true, true, false, false] rfl rfl (one_of HT_.out (by kernel_rfl)) (by decide) (fun K hK => ?_)
            refine goes_ Try.func60 (by kernel_rfl) rfl #[.int .u64 (IntKind.u64.wrap (a0_2)), .int .i64 4] (by rfl) rfl rfl (by (try simp only [List.map_toArray, List.map_cons, List.map_nil]); first | done | rfl | (simp only [List.length_drop, List.length_take]; rfl)) ?_
            with_reducible refine (rowlockref06_Number.calls k (IntKind.u64.wrap (a0_2)) 4 t119 _ A4.out).mono ?_
            rintro e w15 ⟨rfl, hb⟩
            refine ⟨_, rfl, ?_⟩
            have n0_ := Aside0.mk (Kd.R_below (by (with_reducible repeat (first | apply Kd.R_alloc | apply Kd.R_drewN | apply Kd.R_drew)); exact HO117.out) hb)
            have n1_ := Aside0.mk (blk_below (g := gb114) (o := .cells #[.int .u8 a0_0, .int .u16 a0_1, .int .u32 a0_2] 25 (0, 0)) (by (with_reducible repeat (first | refine blk_drewN ?_ _ | refine blk_drew ?_ | refine blk_alloc ?_ _)); exact BK114.out) hb)
            have n2_ := Aside0.mk (below_step (by repeat (first | (with_reducible first | exact HB.out | apply below_alloc | apply pw_below_drewN | apply below_drew1 | refine below_set ?_ GE114.out) | exact HB.out)) hb)
            clear HO117
            clear BK114
            clear HB
            have HO117 := n0_
            have BK114 := n1_
            have HB := n2_
            clear n0_ n1_ n2_
            (try clear hb)
            (try clear hb2)
            (try clear hk)
            (try clear hi)
            refine hK.out _ _ ⟨(blk_cell BK114.out 0).trans rfl, (blk_cell BK114.out 1).trans rfl, (blk_cell BK114.out 2).trans rfl⟩ (fun hHeld => ?_)
            clear hK K
            refine norm_ (a' := ?_) ?_ ?_
            rotate_left
            · show Act.put _ (some 16) _ = _
              simp only [Act.put, List.setIfInBounds_toArray, List.set_cons_zero, List.set_cons_succ, i64_w, i32_w]
              rfl
            exact norm_ (by first | (simp only [putAll, Act.put, List.setIfInBounds_toArray, List.set_cons_zero, List.set_cons_succ]; done) | (simp only [putAll, Act.put, List.setIfInBounds_toArray, List.set_cons_zero, List.set_cons_succ]; rfl)) (hJ2_3_7_12 (v116) _ ⟨hHeld, (by (with_reducible repeat (first | apply Kd.R_alloc | apply Kd.R_drewN | apply Kd.R_drew)); exact HO117.out), (by (with_reducible repeat (first | refine blk_drewN ?_ _ | refine blk_drew ?_ | refine blk_alloc ?_ _)); exact BK114.out), (by repeat (first | (with_reducible first | exact HB.out | apply below_alloc | apply pw_below_drewN | apply below_drew1 | refine below_set ?_ GE114.out) | exact HB.out))⟩)
        rintro v116 w15 ⟨hS_, h0_, h1_, h2_⟩
        have n0_ : Aside0 (Kd.R (Kd.int .u8) 5 w15 w.heap.size (fun _ => True) v116 y115) := ⟨h0_⟩
        have n1_ : Aside0 (w15.heap[gb114]? = some (.cells #[.int .u8 a0_0, .int .u16 a0_1, .int .u32 a0_2] 25 (0, 0))) := ⟨h1_⟩
        have n2_ : Aside0 (Below w.heap.size w w15) := ⟨h2_⟩
        clear BK114
        clear HB
        clear h0_ h1_ h2_
        have HO117 := n0_
        have BK114 := n1_
        have HB := n2_
        clear n0_ n1_ n2_
        have hHeld : w15.cell? ⟨gb114, 0, none⟩ = some (.int .u8 a0_0) ∧ w15.cell? ⟨gb114, 1, none⟩ = some (.int .u16 a0_1) ∧ w15.cell? ⟨gb114, 2, none⟩ = some (.int .u32 a0_2) := hS_
        refine norm_ (a' := ?_) ?_ ?_
        rotate_left
        · simp only [putAll, Act.put, List.setIfInBounds_toArray, List.set_cons_zero, List.set_cons_succ]
          rfl
        refine pure_ (i := 13) (N := some 17) (v := ?_) (a' := ?_) #[true, true, true, true, true, true, true, true, true, true, true, true, true, true, false] rfl rfl (any_of HT_.out (by kernel_rfl)) (fun _ _ _ h => h) (Or.inl ⟨by rfl, ?_⟩) ?_ ?_
        rotate_left
        · intro w'
          go_simp
          with_reducible rfl
        rotate_left
        · simp only [Act.put, List.setIfInBounds_toArray, List.set_cons_zero, List.set_cons_succ, i64_w, i32_w]
          rfl
        refine pure_ (i := 14) (N := some 3) (v := ?_) (a' := ?_) #[true, true, true, true, true, true, true, true, true, true, true, true, true, true, true] rfl rfl (any_of HT_.out (by kernel_rfl)) (fun _ _ _ h => h) (Or.inl ⟨by rfl, ?_⟩) ?_ ?_
        rotate_left
        · intro w'
          go_simp
          with_reducible rfl
        rotate_left
        · simp only [Act.put, List.setIfInBounds_toArray, List.set_cons_zero, List.set_cons_succ, i64_w, i32_w]
          rfl
        refine done_ (done_of HT_.out (by kernel_rfl)) ?_
        try go_wp2_with (first | ((with_reducible refine gate_callee (f := 61) rfl ?_); refine goesL_ (some 19) rfl rfl Try.func61 (by kernel_rfl) rfl #[.int .i64 504] rfl (by (try simp only [List.map_toArray, List.map_cons, List.map_nil]); first | done | rfl | (simp only [List.length_drop, List.length_take]; rfl)) ?_; (with_reducible refine (rowlockref06_zeros.calls 504 t120 _ A6.out).mono ?_); rintro e w16 ⟨rfl, hb⟩; refine ⟨_, rfl, ?_⟩; have n0_ := Aside0.mk (Kd.R_below (by (with_reducible repeat (first | apply Kd.R_alloc | apply Kd.R_drewN | apply Kd.R_drew)); exact HO117.out) hb); have n1_ := Aside0.mk (blk_below (g := gb114) (o := .cells #[.int .u8 a0_0, .int .u16 a0_1, .int .u32 a0_2] 25 (0, 0)) (by (with_reducible repeat (first | refine blk_drewN ?_ _ | refine blk_drew ?_ | refine blk_alloc ?_ _)); exact BK114.out) hb); have n2_ := Aside0.mk (below_step (by repeat (first | (with_reducible first | exact HB.out | apply below_alloc | apply pw_below_drewN | apply below_drew1 | refine below_set ?_ GE114.out) | exact HB.out)) hb); clear HO117; clear BK114; clear HB; have HO117 := n0_; have BK114 := n1_; have HB := n2_; clear n0_ n1_ n2_; (try clear hb); (try clear hb2); (try clear hk); (try clear hi)))
        go_ret
        exact ⟨by first | rfl | (simp [errW_none, errW_some] <;> rfl) | (simp [*, errW_none, errW_some] <;> rfl), by repeat (first | (with_reducible first | exact HB.out | apply below_alloc | apply pw_below_drewN | apply below_drew1 | refine below_set ?_ GE114.out) | exact HB.out)⟩
      · rw [if_neg c7] at H
        exact absurd H (by simp)
    · rw [if_neg c5] at H
      exact absurd H (by simp)
  · rw [if_neg c3] at H
    exact absurd H (by simp)

/-! ### rowlockref06_Value: function 62 -/
def rowlockref06_Value.l0 : Nat → ByteArray → Int → Int → Option (Int)
  | 0, _, _, _ => none
  | k + 1, x0, x3, x4 => if x4 < (x0.size : Int) then (if 0 ≤ x4 then (rowlockref06_Value.l0 k x0 (IntKind.u64.wrap ((IntKind.u64.wrap (256 * x3)) + (IntKind.u64.wrap (bt x0 x4)))) (wrap64 (x4 + 1))) else (none)) else (some x3)
def rowlockref06_Value.f (k : Nat) (a0 : ByteArray) : Option (Int) := rowlockref06_Value.l0 k a0 0 0
theorem rowlockref06_Value.mono_l : ∀ k, (∀ y0 y1 y2, LeO (rowlockref06_Value.l0 k y0 y1 y2) (rowlockref06_Value.l0 (k + 1) y0 y1 y2))
  | 0 => fun _ _ _ r h => by simp [rowlockref06_Value.l0] at h
  | k + 1 => by
    have ih0 := rowlockref06_Value.mono_l k
    · intro y0 y1 y2
      unfold rowlockref06_Value.l0
      repeat' first
      | (with_reducible exact ih0 _ _ _)
      | (with_reducible exact LeO.refl _)
      | (with_reducible exact LeO.none _)
      | (with_reducible refine LeO.ite ?_ ?_)
      | (with_reducible refine LeO.bind ?_ (fun _ => ?_))
      | exact ih0 _ _ _
      | exact LeO.none _
      | refine LeO.ite ?_ ?_
      | refine LeO.bind ?_ (fun _ => ?_)
theorem rowlockref06_Value.mono : ∀ a0 k, LeO (rowlockref06_Value.f k a0) (rowlockref06_Value.f (k + 1) a0) := by
  intro a0 k
  have ih0 := rowlockref06_Value.mono_l k
  unfold rowlockref06_Value.f
  repeat' first
      | (with_reducible exact ih0 _ _ _)
      | (with_reducible exact LeO.refl _)
      | (with_reducible exact LeO.none _)
      | (with_reducible refine LeO.ite ?_ ?_)
      | (with_reducible refine LeO.bind ?_ (fun _ => ?_))
      | exact ih0 _ _ _
      | exact LeO.none _
      | refine LeO.ite ?_ ?_
      | refine LeO.bind ?_ (fun _ => ?_)
set_option maxHeartbeats 8000000 in
set_option maxRecDepth 100000 in
theorem rowlockref06_Value.calls (k : Nat) (a0 : ByteArray) (r : Int) (w : World) (h : rowlockref06_Value.f k a0 = some r) :
    Calls Try.prog 62 #[.string a0] w fun e w' => e = .returned (.int .u64 r) ∧ Drawn0 w w' := by
  have H : (rowlockref06_Value.l0 k a0 0 0) = some r := h
  clear h
  have H' := Aside0.mk H
  clear H
  go_enter Try.func62, Try.ntmps62
  go_wp2
  go_loopg [3, 4] k (fun kq v3 v4 w' => ∃ (x3_1 : Int) (x4_1 : Int), v3 = .int .u64 x3_1 ∧ v4 = .int .i64 x4_1 ∧ Aside0 (rowlockref06_Value.l0 kq a0 x3_1 x4_1 = some r) ∧ Aside0 (kq ≤ k) ∧ Drawn0 w w')
  case atStart => exact ⟨(0), (0), (by first | rfl | (simp; done) | (simp [*]; done)), (by first | rfl | (simp; done) | (simp [*]; done)), H', ⟨Nat.le_refl _⟩, by repeat (first | exact Drawn0.refl _ | apply Drawn0.step)⟩
  case round =>
    clear H'
    obtain ⟨x3_1, x4_1, rfl, rfl, HA, HK1, ⟨m1, rfl⟩⟩ := hrel
    cases gk with
    | zero => exact absurd HA.out (by simp [rowlockref06_Value.l0])
    | succ k1 =>
      have H := HA.out
      clear HA
      simp only [rowlockref06_Value.l0] at H
      by_cases c2 : x4_1 < (a0.size : Int)
      · rw [if_pos c2] at H
        have c2b0 : decide (x4_1 < (a0.size : Int)) = true := decide_eq_true c2
        clear c2
        by_cases c3 : 0 ≤ x4_1
        · rw [if_pos c3] at H
          have c3b0 : decide (0 ≤ x4_1) = true := decide_eq_true c3
          clear c3
          have H' := Aside0.mk H
          clear H
          have p4 : 0 ≤ (x4_1 : Int) := of_decide_eq_true (by first | (with_reducible assumption) | assumption)
          have q4 : x4_1 < (a0.size : Int) := of_decide_eq_true (by first | (with_reducible assumption) | assumption)
          have hx4 := bt_at a0 x4_1
          replace p4 := eq_true p4
          replace q4 := eq_true q4
          go_wp2
          go_roundg k1
          case measure => have := HK1.out; omega
          case rel => exact ⟨(IntKind.u64.wrap ((IntKind.u64.wrap (256 * x3_1)) + (IntKind.u64.wrap (bt a0 x4_1)))), (wrap64 (x4_1 + 1)), (by first | rfl | (simp; done) | (simp [*]; done)), (by first | rfl | (simp; done) | (simp [*]; done)), H', ⟨by have := HK1.out; omega⟩, by repeat (first | exact Drawn0.refl _ | apply Drawn0.step)⟩
        · rw [if_neg c3] at H
          exact absurd H (by simp)
      · rw [if_neg c2] at H
        have c2b0 : decide (x4_1 < (a0.size : Int)) = false := decide_eq_false c2
        clear c2
        obtain rfl := Option.some.inj H
        go_wp2
        go_ret
        exact ⟨by first | rfl | (simp; done) | (simp [*]; done), by repeat (first | exact Drawn0.refl _ | apply Drawn0.step)⟩

end Go.Proofs.Ytolgcohmmghehaa.XDiskHeads
