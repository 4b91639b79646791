-- Written by this session's own program (wip/own_print.py) over the kit's print, with this session's hand-proved contracts in their places; Lean checks it.
import Derived.Test.YtpfegfkniilobaaXHeapx0
import Derived.Test.YtpfegfkniilobaaXHeapx5
import Derived.Test.YtpfegfkniilobaaXHeapx6
namespace Go.Proofs.Ytpfegfkniilobaa.XHeap
open Go.RowKit Go.Proofs.YtpfegfkniilobaaW.PrintWords Go.Proofs.YtpfegfkniilobaaW.PrintLast Go.Proofs.YtpfegfkniilobaaW.PrintMore
attribute [local go_sem] max2_int min2_int max_two min_two max_three min_three max_four min_four   -- for this text's walks alone
set_option linter.unusedVariables false
set_option linter.unusedSimpArgs false

/-! ### rowlockref08_Page_Lay: function 88 -/
def rowlockref08_Page_Lay.l0 : Nat → ByteArray → ByteArray → Int → Int → Int → List ByteArray → Option (ByteArray)
 | 0, _, _, _, _, _, _ => none
 | k + 1, x3, x4, x17, x18, x224000, x224001 => if x18 < x17 then (if 0 ≤ x18 then (if x18 < (x224001.length : Int) then (if (rdOf ByteArray.empty x224001 x18).size + x4.size ≤ 9223372036854775807 then ((rowlockref06_Number.f k (IntKind.u64.wrap (wrap64 (512 - (((rdOf ByteArray.empty x224001 x18) ++ x4).size : Int)))) 2).bind fun t226 => (if x3.size + t226.size ≤ 9223372036854775807 then ((rowlockref06_Number.f k (IntKind.u64.wrap (((rdOf ByteArray.empty x224001 x18).size : Int))) 2).bind fun t228 => (if (x3 ++ t226).size + t228.size ≤ 9223372036854775807 then (rowlockref08_Page_Lay.l0 k ((x3 ++ t226) ++ t228) ((rdOf ByteArray.empty x224001 x18) ++ x4) x17 (wrap64 (x18 + 1)) x224000 x224001) else (none))) else (none))) else (none)) else (none)) else (none)) else (if 0 ≤ (wrap64 ((wrap64 (512 - (x3.size : Int))) - (x4.size : Int))) then (if (wrap64 ((wrap64 (512 - (x3.size : Int))) - (x4.size : Int)) : Int).toNat ≤ 281474976710656 then ((some (List.replicate (wrap64 ((wrap64 (512 - (x3.size : Int))) - (x4.size : Int)) : Int).toNat 0 : List Int)).bind fun y229 => (if x3.size + (strOfNums y229).size ≤ 9223372036854775807 then (if (x3 ++ (strOfNums y229)).size + x4.size ≤ 9223372036854775807 then (some ((x3 ++ (strOfNums y229)) ++ x4)) else (none)) else (none))) else (none)) else (none))
def rowlockref08_Page_Lay.f (k : Nat) (a0_0 : Int) (l0_1 : List ByteArray) : Option (ByteArray) := (rowlockref06_Head.f k 1 (IntKind.u16.wrap ((l0_1.length : Int))) a0_0).bind fun t224 => (if 0 ≤ 8 then (if 8 ≤ (t224.size : Int) then (rowlockref08_Page_Lay.l0 k (t224.extract 0 8) (⟨#[]⟩ : ByteArray) (l0_1.length : Int) 0 a0_0 l0_1) else (none)) else (none))
theorem rowlockref08_Page_Lay.mono_l : ∀ k, (∀ y0 y1 y2 y3 y4 y5, LeO (rowlockref08_Page_Lay.l0 k y0 y1 y2 y3 y4 y5) (rowlockref08_Page_Lay.l0 (k + 1) y0 y1 y2 y3 y4 y5))
 | 0 => fun _ _ _ _ _ _ r h => by simp [rowlockref08_Page_Lay.l0] at h
 | k + 1 => by
  have ih0 := rowlockref08_Page_Lay.mono_l k
  ·intro y0 y1 y2 y3 y4 y5
   unfold rowlockref08_Page_Lay.l0
   repeat' first
   | (with_reducible exact ih0 _ _ _ _ _ _)
   | (with_reducible exact rowlockref06_Head.mono _ _ _ _)
   | (with_reducible exact rowlockref06_Number.mono _ _ _)
   | (with_reducible exact LeO.refl _)
   | (with_reducible exact LeO.none _)
   | (with_reducible refine LeO.ite ?_ ?_)
   | (with_reducible refine LeO.bind ?_ (fun _ => ?_))
   | exact ih0 _ _ _ _ _ _
   | exact rowlockref06_Head.mono _ _ _ _
   | exact rowlockref06_Number.mono _ _ _
   | exact LeO.none _
   | refine LeO.ite ?_ ?_
   | refine LeO.bind ?_ (fun _ => ?_)
theorem rowlockref08_Page_Lay.mono : ∀ a0 a1 k, LeO (rowlockref08_Page_Lay.f k a0 a1) (rowlockref08_Page_Lay.f (k + 1) a0 a1) := by
 intro a0 a1 k
 have ih0 := rowlockref08_Page_Lay.mono_l k
 unfold rowlockref08_Page_Lay.f
 repeat' first
   | (with_reducible exact ih0 _ _ _ _ _ _)
   | (with_reducible exact rowlockref06_Head.mono _ _ _ _)
   | (with_reducible exact rowlockref06_Number.mono _ _ _)
   | (with_reducible exact LeO.refl _)
   | (with_reducible exact LeO.none _)
   | (with_reducible refine LeO.ite ?_ ?_)
   | (with_reducible refine LeO.bind ?_ (fun _ => ?_))
   | exact ih0 _ _ _ _ _ _
   | exact rowlockref06_Head.mono _ _ _ _
   | exact rowlockref06_Number.mono _ _ _
   | exact LeO.none _
   | refine LeO.ite ?_ ?_
   | refine LeO.bind ?_ (fun _ => ?_)
def rowlockref08_Page_Lay.T7 : Bool × List (List Nat × List Nat) := (true, [([], []), ([], []), ([1], [1]), ([2], [2]), ([3], [3]), ([4], [4]), ([0, 5], [0, 5]), ([], []), ([7], [7]), ([], []), ([8, 9], [8, 9]), ([10], [10]), ([11], [11]), ([12], [12]), ([13, 5], [13]), ([6, 14], [6, 14]), ([15, 14, 0, 1, 2, 3, 4, 5, 6, 7, 8, 9, 10, 11, 12, 13, 14, 15], [0, 15])])
def rowlockref08_Page_Lay.B7 : List Nat := [0, 0, 2, 6, 14, 30, 63, 0, 128, 0, 896, 1920, 3968, 8064, 16318, 32767, 65535]
theorem rowlockref08_Page_Lay.tab7 : rtab .any (opsOf Try.f88 7) = rowlockref08_Page_Lay.T7 := by kernel_rfl
theorem rowlockref08_Page_Lay.bits7 : waitsOk rowlockref08_Page_Lay.T7.2 rowlockref08_Page_Lay.B7 = true := by kernel_rfl
set_option maxHeartbeats 8000000 in
set_option maxRecDepth 100000 in
theorem rowlockref08_Page_Lay.calls (k : Nat) (a0_0 : Int) (A0_1 : Option Addr) (c0_1 : Nat) (l0_1 : List ByteArray) (r : ByteArray) (w : World) (hr0_1 : Kd.C Kd.string w A0_1 l0_1.length l0_1) (hc0_1 : l0_1.length ≤ c0_1) (h : rowlockref08_Page_Lay.f k a0_0 l0_1 = some r) :
  Calls Try.prog 88 #[.agg #[.int .u32 a0_0, .slice A0_1 l0_1.length c0_1]] w fun e w' => e = .returned (.string r) ∧ Below w.heap.size w w' := by
 have hu41 := Try.underlying41
 have hu130 := Try.underlying130
 have HR0_1 := Aside0.mk hr0_1
 have HC0_1 := Aside0.mk hc0_1
 clear hr0_1 hc0_1
 have HB := Aside0.mk (Below.refl w.heap.size w)
 have H : ((rowlockref06_Head.f k 1 (IntKind.u16.wrap ((l0_1.length : Int))) a0_0).bind fun t224 => (if 0 ≤ 8 then (if 8 ≤ (t224.size : Int) then (rowlockref08_Page_Lay.l0 k (t224.extract 0 8) (⟨#[]⟩ : ByteArray) (l0_1.length : Int) 0 a0_0 l0_1) else (none)) else (none))) = some r := h
 clear h
 replace H := Option.bind_eq_some_iff.mp H
 obtain ⟨t224, A20, H⟩ := H
 replace H : (if 0 ≤ 8 then (if 8 ≤ (t224.size : Int) then (rowlockref08_Page_Lay.l0 k (t224.extract 0 8) (⟨#[]⟩ : ByteArray) (l0_1.length : Int) 0 a0_0 l0_1) else (none)) else (none)) = some r := H
 have A2 := Aside0.mk A20
 clear A20
 by_cases c3 : 0 ≤ 8
 ·rw [if_pos c3] at H
  have c3b0 := eq_true c3
  have c3b1 : decide (0 ≤ 8) = true := decide_eq_true c3
  clear c3
  by_cases c4 : 8 ≤ (t224.size : Int)
  ·rw [if_pos c4] at H
   have c4b0 := eq_true c4
   have c4b1 : decide (8 ≤ (t224.size : Int)) = true := decide_eq_true c4
   clear c4
   have H' := Aside0.mk H
   clear H
   go_enter Try.func88, Try.ntmps88
   go_wp2_with (first | ((with_reducible refine gate_dst (N := 1) rfl ?_); refine box_event ?hg (N := 1) ?hd (cs := #[.int .u32 a0_0, .slice A0_1 l0_1.length c0_1]) (t := 41) ?hr ?_; (case hd => rfl); (case hg => rfl); (case hr => first | (go_simp; done) | (go_simp; rfl)); intro gb223 hg w5 hbox hb; have n0_ := Aside0.mk (below_step (by repeat (first | (with_reducible first | exact HB.out | apply below_alloc | apply pw_below_drewN | apply below_drew1) | exact HB.out)) hb); have n1_ := Aside0.mk (hbox); have n2_ := Aside0.mk ((by rw [hg]; exact (below_size (by repeat (first | (with_reducible first | exact HB.out | apply below_alloc | apply pw_below_drewN | apply below_drew1) | exact HB.out))) : w.heap.size ≤ gb223)); have n3_ := Aside0.mk ((by rw [hg]; exact (below_size (by repeat (first | (with_reducible first | exact HB.out | apply below_alloc | apply pw_below_drewN | apply below_drew1) | exact HB.out))) : w.heap.size ≤ gb223)); clear HB; have HB := n0_; have BK223 := n1_; have GW223 := n2_; have GE223 := n3_; clear n0_ n1_ n2_ n3_; clear hb hbox hg; have hcz6_0 : w5.cell? ⟨gb223, 0, none⟩ = some (.int .u32 a0_0) := (blk_cell BK223.out 0).trans rfl; have hcz6_1 : w5.cell? ⟨gb223, 1, none⟩ = some (.slice A0_1 l0_1.length c0_1) := (blk_cell BK223.out 1).trans rfl; have hfz6_0 := blk_frozen BK223.out 0; have hfz6_1 := blk_frozen BK223.out 1) | ((with_reducible refine gate_callee (f := 111) rfl ?_); refine goesL_ (some 13) rfl rfl Try.func111 (by kernel_rfl) rfl #[.agg #[.int .u8 1, .int .u16 (IntKind.u16.wrap ((l0_1.length : Int))), .int .u32 a0_0]] rfl (by (try simp only [List.map_toArray, List.map_cons, List.map_nil]); first | done | rfl | (simp only [List.length_drop, List.length_take]; rfl) | (simp only [ByteArray.size_append]; rfl) | (simp only [ByteArray.size_append, Int.natCast_add]; rfl) | (simp [ByteArray.size_append]; done)) ?_; (with_reducible refine (rowlockref06_Head.calls k 1 (IntKind.u16.wrap ((l0_1.length : Int))) a0_0 t224 _ A2.out).mono ?_); rintro e w7 ⟨rfl, hb⟩; refine ⟨_, rfl, ?_⟩; have n0_ := Aside0.mk (blk_below (g := gb223) (o := .cells #[.int .u32 a0_0, .slice A0_1 l0_1.length c0_1] 41 (0, 0)) (by (with_reducible repeat (first | refine blk_drewN ?_ _ | refine blk_drew ?_ | refine blk_alloc ?_ _)); exact BK223.out) hb); have n1_ := Aside0.mk (below_step (by repeat (first | (with_reducible first | exact HB.out | apply below_alloc | apply pw_below_drewN | apply below_drew1 | refine below_set ?_ GE223.out) | exact HB.out)) hb); clear BK223; clear HB; have BK223 := n0_; have HB := n1_; clear n0_ n1_; (try clear hb); (try clear hb2); (try clear hk); (try clear hi); have hcz8_0 : w7.cell? ⟨gb223, 0, none⟩ = some (.int .u32 a0_0) := (blk_cell BK223.out 0).trans rfl; have hcz8_1 : w7.cell? ⟨gb223, 1, none⟩ = some (.slice A0_1 l0_1.length c0_1) := (blk_cell BK223.out 1).trans rfl; have hfz8_0 := blk_frozen BK223.out 0; have hfz8_1 := blk_frozen BK223.out 1))
   go_loopg [3, 4, 18] k (fun kq v3 v4 v18 w' => ∃ (x3_1 : ByteArray) (x4_1 : ByteArray) (x18_1 : Int), v3 = .string x3_1 ∧ v4 = .string x4_1 ∧ v18 = .int .i64 x18_1 ∧ Aside0 (rowlockref08_Page_Lay.l0 kq x3_1 x4_1 (l0_1.length : Int) x18_1 a0_0 l0_1 = some r) ∧ Aside0 (kq ≤ k) ∧ Aside0 (w'.heap[gb223]? = some (.cells #[.int .u32 a0_0, (.slice A0_1 l0_1.length c0_1)] 41 (0, 0))) ∧ Aside0 (Below w.heap.size w w'))
   case atStart => exact ⟨(t224.extract 0 8), ((⟨#[]⟩ : ByteArray)), (0), (by first | rfl | (simp; done) | (simp [*]; done)), (by first | rfl | (simp; done) | (simp [*]; done)), (by first | rfl | (simp; done) | (simp [*]; done)), H', ⟨Nat.le_refl _⟩, ⟨by (with_reducible repeat (first | refine blk_drewN ?_ _ | refine blk_drew ?_ | refine blk_alloc ?_ _)); exact BK223.out⟩, ⟨by repeat (first | (with_reducible first | exact HB.out | apply below_alloc | apply pw_below_drewN | apply below_drew1 | refine below_set ?_ GE223.out) | exact HB.out)⟩⟩
   case round =>
    clear H'
    try clear c1
    try clear p2
    try clear c3
    try clear c3b0
    try clear c3b1
    try clear c4
    try clear c4b0
    try clear c4b1
    try clear c8
    try clear hcz6_0
    try clear hcz6_1
    try clear hcz8_0
    try clear hcz8_1
    try clear hfz6_0
    try clear hfz6_1
    try clear hfz8_0
    try clear hfz8_1
    obtain ⟨x3_1, x4_1, x18_1, rfl, rfl, rfl, HA, HK1, BK223, HB⟩ := hrel
    cases gk with
    | zero => exact absurd HA.out (by simp [rowlockref08_Page_Lay.l0])
    | succ k1 =>
     have H := HA.out
     clear HA
     simp only [rowlockref08_Page_Lay.l0] at H
     by_cases c9 : x18_1 < (l0_1.length : Int)
     ·rw [if_pos c9] at H
      have c9b0 : decide (x18_1 < (l0_1.length : Int)) = true := decide_eq_true c9
      clear c9
      by_cases c10 : 0 ≤ x18_1
      ·rw [if_pos c10] at H
       have c10b0 : decide (0 ≤ x18_1) = true := decide_eq_true c10
       clear c10
       by_cases c11 : x18_1 < (l0_1.length : Int)
       ·rw [if_pos c11] at H
        have c11b0 : decide (x18_1 < (l0_1.length : Int)) = true := decide_eq_true c11
        clear c11
        by_cases c12 : (rdOf ByteArray.empty l0_1 x18_1).size + x4_1.size ≤ 9223372036854775807
        ·rw [if_pos c12] at H
         have c12b0 := eq_true c12
         have c12b1 : decide ((rdOf ByteArray.empty l0_1 x18_1).size + x4_1.size ≤ 9223372036854775807) = true := decide_eq_true c12
         try have c12b2 : (9223372036854775807 < (rdOf ByteArray.empty l0_1 x18_1).size + x4_1.size) = False := eq_false (Nat.not_lt.2 c12)
         replace H := Option.bind_eq_some_iff.mp H
         obtain ⟨t226, A130, H⟩ := H
         replace H : (if x3_1.size + t226.size ≤ 9223372036854775807 then ((rowlockref06_Number.f k1 (IntKind.u64.wrap (((rdOf ByteArray.empty l0_1 x18_1).size : Int))) 2).bind fun t228 => (if (x3_1 ++ t226).size + t228.size ≤ 9223372036854775807 then (rowlockref08_Page_Lay.l0 k1 ((x3_1 ++ t226) ++ t228) ((rdOf ByteArray.empty l0_1 x18_1) ++ x4_1) (l0_1.length : Int) (wrap64 (x18_1 + 1)) a0_0 l0_1) else (none))) else (none)) = some r := H
         have A13 := Aside0.mk A130
         clear A130
         by_cases c14 : x3_1.size + t226.size ≤ 9223372036854775807
         ·rw [if_pos c14] at H
          have c14b0 := eq_true c14
          have c14b1 : decide (x3_1.size + t226.size ≤ 9223372036854775807) = true := decide_eq_true c14
          try have c14b2 : (9223372036854775807 < x3_1.size + t226.size) = False := eq_false (Nat.not_lt.2 c14)
          replace H := Option.bind_eq_some_iff.mp H
          obtain ⟨t228, A150, H⟩ := H
          replace H : (if (x3_1 ++ t226).size + t228.size ≤ 9223372036854775807 then (rowlockref08_Page_Lay.l0 k1 ((x3_1 ++ t226) ++ t228) ((rdOf ByteArray.empty l0_1 x18_1) ++ x4_1) (l0_1.length : Int) (wrap64 (x18_1 + 1)) a0_0 l0_1) else (none)) = some r := H
          have A15 := Aside0.mk A150
          clear A150
          by_cases c16 : (x3_1 ++ t226).size + t228.size ≤ 9223372036854775807
          ·rw [if_pos c16] at H
           have c16b0 := eq_true c16
           have c16b1 : decide ((x3_1 ++ t226).size + t228.size ≤ 9223372036854775807) = true := decide_eq_true c16
           try have c16b2 : (9223372036854775807 < (x3_1 ++ t226).size + t228.size) = False := eq_false (Nat.not_lt.2 c16)
           try have c16b3 := c16b2
           try simp only [ByteArray.size_append] at c16b3
           have H' := Aside0.mk H
           clear H
           have hcz17_0 : wr.cell? ⟨gb223, 0, none⟩ = some (.int .u32 a0_0) := (blk_cell BK223.out 0).trans rfl
           have hcz17_1 : wr.cell? ⟨gb223, 1, none⟩ = some (.slice A0_1 l0_1.length c0_1) := (blk_cell BK223.out 1).trans rfl
           have hfz17_0 := blk_frozen BK223.out 0
           have hfz17_1 := blk_frozen BK223.out 1
           have p225 : 0 ≤ (x18_1 : Int) := of_decide_eq_true (by first | (with_reducible assumption) | assumption)
           have q225 : x18_1 < (l0_1.length : Int) := of_decide_eq_true (by first | (with_reducible assumption) | assumption)
           obtain ⟨ad225, e225, hx225_0⟩ := Kd.at_string HR0_1.out x18_1 p225 q225
           cases e225
           replace hx225_0 := (HB.out.cell (World.block_lt_of_cell? w _ hx225_0)).trans hx225_0
           replace p225 := eq_true p225
           have p225D := p225; try simp only [List.length_drop, List.length_take] at p225D
           replace q225 := eq_true q225
           have q225D := q225; try simp only [List.length_drop, List.length_take] at q225D
           try go_wp2
           have n0_ := Aside0.mk (blk_drew BK223.out)
           have n1_ := Aside0.mk (below_drew1 HB.out)
           clear BK223
           clear HB
           have BK223 := n0_
           have HB := n1_
           clear n0_ n1_
           have p227 : 0 ≤ (x18_1 : Int) := of_decide_eq_true (by first | (with_reducible assumption) | assumption)
           have q227 : x18_1 < (l0_1.length : Int) := of_decide_eq_true (by first | (with_reducible assumption) | assumption)
           obtain ⟨ad227, e227, hx227_0⟩ := Kd.at_string HR0_1.out x18_1 p227 q227
           have hw227_0 := hx227_0
           obtain rfl : ad225 = ad227 := (by injection e227)
           replace hx227_0 := (HB.out.cell (World.block_lt_of_cell? w _ hx227_0)).trans hx227_0
           replace p227 := eq_true p227
           have p227D := p227; try simp only [List.length_drop, List.length_take] at p227D
           replace q227 := eq_true q227
           have q227D := q227; try simp only [List.length_drop, List.length_take] at q227D
           refine start_ (n := 17) (S := fun w' => w'.cell? ⟨gb223, 0, none⟩ = some (.int .u32 a0_0) ∧ w'.cell? ⟨gb223, 1, none⟩ = some (.slice (some ad225) l0_1.length c0_1) ∧ w'.cell? (ad225.add (x18_1).toNat) = some (.string (rdOf ByteArray.empty l0_1 x18_1))) (ds := []) #[false, false, false, false, false, false, false, false, false, false, false, false, false, false, false, false, false] (by kernel_rfl) rfl rfl ⟨(blk_cell BK223.out 0).trans rfl, (blk_cell BK223.out 1).trans rfl, ((HB.out.cell (World.block_lt_of_cell? w _ hw227_0)).trans hw227_0)⟩ (fun hHeld => ?_); refine with_tabW rowlockref08_Page_Lay.tab7 rowlockref08_Page_Lay.bits7 (fun HT_ HW_ => ?_)
           generalize wr.drew = w18 at BK223 HB hx227_0 hHeld ⊢
           refine pure_ (i := 0) (N := some 28) (v := ?_) (a' := ?_) #[true, false, false, false, false, false, false, false, false, false, false, false, false, false, false, false, false] rfl rfl (any_of HT_.out (by kernel_rfl)) (fun _ _ _ h => h) (Or.inl ⟨by rfl, ?_⟩) ?_ ?_
           rotate_left
           ·intro w'
            go_simp
            with_reducible rfl
           rotate_left
           ·simp only [Act.put, List.setIfInBounds_toArray, List.set_cons_zero, List.set_cons_succ, i64_w, i32_w]
            rfl
           refine pure_ (i := 1) (N := some 29) (v := ?_) (a' := ?_) #[true, true, false, false, false, false, false, false, false, false, false, false, false, false, false, false, false] rfl rfl (any_of HT_.out (by kernel_rfl)) (fun _ _ _ h => h) (Or.inl ⟨by rfl, ?_⟩) ?_ ?_
           rotate_left
           ·intro w'
            go_simp
            with_reducible rfl
           rotate_left
           ·simp only [Act.put, List.setIfInBounds_toArray, List.set_cons_zero, List.set_cons_succ, i64_w, i32_w]
            rfl
           refine pure_ (i := 2) (N := some 30) (v := ?_) (a' := ?_) #[true, true, true, false, false, false, false, false, false, false, false, false, false, false, false, false, false] rfl rfl (any_of HT_.out (by kernel_rfl)) (fun _ _ _ h => h) (Or.inl ⟨by rfl, ?_⟩) ?_ ?_
           rotate_left
           ·intro w'
            go_simp
            with_reducible rfl
           rotate_left
           ·simp only [Act.put, List.setIfInBounds_toArray, List.set_cons_zero, List.set_cons_succ, i64_w, i32_w]
            rfl
           refine pure_ (i := 3) (N := some 31) (v := ?_) (a' := ?_) #[true, true, true, true, false, false, false, false, false, false, false, false, false, false, false, false, false] rfl rfl (any_of HT_.out (by kernel_rfl)) (fun _ _ _ h => h) (Or.inl ⟨by rfl, ?_⟩) ?_ ?_
           rotate_left
           ·intro w'
            go_simp
            with_reducible rfl
           rotate_left
           ·simp only [Act.put, List.setIfInBounds_toArray, List.set_cons_zero, List.set_cons_succ, i64_w, i32_w]
            rfl
           refine pure_ (i := 4) (N := some 32) (v := ?_) (a' := ?_) #[true, true, true, true, true, false, false, false, false, false, false, false, false, false, false, false, false] rfl rfl (any_of HT_.out (by kernel_rfl)) (fun _ _ _ h => h) (Or.inl ⟨by rfl, ?_⟩) ?_ ?_
           rotate_left
           ·intro w'
            go_simp
            with_reducible rfl
           rotate_left
           ·simp only [Act.put, List.setIfInBounds_toArray, List.set_cons_zero, List.set_cons_succ, i64_w, i32_w]
            rfl
           refine pure_ (i := 7) (N := some 35) (v := ?_) (a' := ?_) #[true, true, true, true, true, false, false, true, false, false, false, false, false, false, false, false, false] rfl rfl (any_of HT_.out (by kernel_rfl)) (fun _ _ _ h => h) (Or.inl ⟨by rfl, ?_⟩) ?_ ?_
           rotate_left
           ·intro w'
            go_simp
            with_reducible rfl
           rotate_left
           ·simp only [Act.put, List.setIfInBounds_toArray, List.set_cons_zero, List.set_cons_succ, i64_w, i32_w]
            rfl
           refine pure_ (i := 9) (N := some 37) (v := ?_) (a' := ?_) #[true, true, true, true, true, false, false, true, false, true, false, false, false, false, false, false, false] rfl rfl (any_of HT_.out (by kernel_rfl)) (fun _ _ _ h => h) (Or.inl ⟨by rfl, ?_⟩) ?_ ?_
           rotate_left
           ·intro w'
            go_simp
            with_reducible rfl
           rotate_left
           ·simp only [Act.put, List.setIfInBounds_toArray, List.set_cons_zero, List.set_cons_succ, i64_w, i32_w]
            rfl
           refine take_ (i := 8) (N := some 36) (v := ?_) (a' := ?_) #[true, true, true, true, true, false, false, true, true, true, false, false, false, false, false, false, false] rfl rfl (take_ofW HT_.out HW_.out (by kernel_rfl)) (fun _ _ _ h => h) (Or.inl ⟨by rfl, ?_⟩) hHeld ?_ ?_
           rotate_left
           ·rintro w' ⟨s0, s1, s2⟩
            go_simp
            with_reducible rfl
           rotate_left
           ·simp only [Act.put, List.setIfInBounds_toArray, List.set_cons_zero, List.set_cons_succ, i64_w, i32_w]
            rfl
           refine pure_ (i := 10) (N := some 38) (v := ?_) (a' := ?_) #[true, true, true, true, true, false, false, true, true, true, true, false, false, false, false, false, false] rfl rfl (any_of HT_.out (by kernel_rfl)) (fun _ _ _ h => h) (Or.inl ⟨by rfl, ?_⟩) ?_ ?_
           rotate_left
           ·intro w'
            go_simp
            with_reducible rfl
           rotate_left
           ·simp only [Act.put, List.setIfInBounds_toArray, List.set_cons_zero, List.set_cons_succ, i64_w, i32_w]
            rfl
           refine take_ (i := 11) (N := some 39) (v := ?_) (a' := ?_) #[true, true, true, true, true, false, false, true, true, true, true, true, false, false, false, false, false] rfl rfl (take_ofW HT_.out HW_.out (by kernel_rfl)) (fun _ _ _ h => h) (Or.inl ⟨by rfl, ?_⟩) hHeld ?_ ?_
           rotate_left
           ·rintro w' ⟨s0, s1, s2⟩
            go_simp
            with_reducible rfl
           rotate_left
           ·simp only [Act.put, List.setIfInBounds_toArray, List.set_cons_zero, List.set_cons_succ, i64_w, i32_w]
            rfl
           refine pure_ (i := 12) (N := some 40) (v := ?_) (a' := ?_) #[true, true, true, true, true, false, false, true, true, true, true, true, true, false, false, false, false] rfl rfl (any_of HT_.out (by kernel_rfl)) (fun _ _ _ h => h) (Or.inl ⟨by rfl, ?_⟩) ?_ ?_
           rotate_left
           ·intro w'
            go_simp
            with_reducible rfl
           rotate_left
           ·simp only [Act.put, List.setIfInBounds_toArray, List.set_cons_zero, List.set_cons_succ, i64_w, i32_w]
            rfl
           refine pure_ (i := 13) (N := some 41) (v := ?_) (a' := ?_) #[true, true, true, true, true, false, false, true, true, true, true, true, true, true, false, false, false] rfl rfl (any_of HT_.out (by kernel_rfl)) (fun _ _ _ h => h) (Or.inl ⟨by rfl, ?_⟩) ?_ ?_
           rotate_left
           ·intro w'
            go_simp
            with_reducible rfl
           rotate_left
           ·simp only [Act.put, List.setIfInBounds_toArray, List.set_cons_zero, List.set_cons_succ, i64_w, i32_w]
            rfl
           refine one_ (i := 5) (N := some 33) #[true, true, true, true, true, true, false, true, true, true, true, true, true, true, false, false, false] rfl rfl (one_of HT_.out (by kernel_rfl)) (by decide) (fun K hK => ?_)
           refine goes_ Try.func96 (by kernel_rfl) rfl #[.int .u64 (IntKind.u64.wrap (wrap64 (512 - (((rdOf ByteArray.empty l0_1 x18_1) ++ x4_1).size : Int)))), .int .i64 2] (by rfl) rfl rfl (by (try simp only [List.map_toArray, List.map_cons, List.map_nil]); first | done | rfl | (simp only [List.length_drop, List.length_take]; rfl) | (simp only [ByteArray.size_append]; rfl) | (simp only [ByteArray.size_append, Int.natCast_add]; rfl) | (simp [ByteArray.size_append]; done)) ?_
           with_reducible refine (rowlockref06_Number.calls k1 (IntKind.u64.wrap (wrap64 (512 - (((rdOf ByteArray.empty l0_1 x18_1) ++ x4_1).size : Int)))) 2 t226 _ A13.out).mono ?_
           rintro e w19 ⟨rfl, hb⟩
           refine ⟨_, rfl, ?_⟩
           have n0_ := Aside0.mk (blk_below (g := gb223) (o := .cells #[.int .u32 a0_0, .slice (some ad225) l0_1.length c0_1] 41 (0, 0)) (by (with_reducible repeat (first | refine blk_drewN ?_ _ | refine blk_drew ?_ | refine blk_alloc ?_ _)); exact BK223.out) hb)
           have n1_ := Aside0.mk (below_step (by repeat (first | (with_reducible first | exact HB.out | apply below_alloc | apply pw_below_drewN | apply below_drew1 | refine below_set ?_ GE223.out) | exact HB.out)) hb)
           clear BK223
           clear HB
           have BK223 := n0_
           have HB := n1_
           clear n0_ n1_
           (try clear hb)
           (try clear hb2)
           (try clear hk)
           (try clear hi)
           refine hK.out _ _ ⟨(blk_cell BK223.out 0).trans rfl, (blk_cell BK223.out 1).trans rfl, ((HB.out.cell (World.block_lt_of_cell? w _ hw227_0)).trans hw227_0)⟩ (fun hHeld => ?_)
           clear hK K
           refine norm_ (a' := ?_) ?_ ?_
           rotate_left
           ·show Act.put _ (some 33) _ = _
            simp only [Act.put, List.setIfInBounds_toArray, List.set_cons_zero, List.set_cons_succ, i64_w, i32_w]
            rfl
           refine pure_ (i := 6) (N := some 34) (v := ?_) (a' := ?_) #[true, true, true, true, true, true, true, true, true, true, true, true, true, true, false, false, false] rfl rfl (any_of HT_.out (by kernel_rfl)) (fun _ _ _ h => h) (Or.inl ⟨by rfl, ?_⟩) ?_ ?_
           rotate_left
           ·intro w'
            go_simp
            with_reducible rfl
           rotate_left
           ·simp only [Act.put, List.setIfInBounds_toArray, List.set_cons_zero, List.set_cons_succ, i64_w, i32_w]
            rfl
           refine one_ (i := 14) (N := some 42) #[true, true, true, true, true, true, true, true, true, true, true, true, true, true, true, false, false] rfl rfl (one_of HT_.out (by kernel_rfl)) (by decide) (fun K hK => ?_)
           refine goes_ Try.func96 (by kernel_rfl) rfl #[.int .u64 (IntKind.u64.wrap (((rdOf ByteArray.empty l0_1 x18_1).size : Int))), .int .i64 2] (by rfl) rfl rfl (by (try simp only [List.map_toArray, List.map_cons, List.map_nil]); first | done | rfl | (simp only [List.length_drop, List.length_take]; rfl) | (simp only [ByteArray.size_append]; rfl) | (simp only [ByteArray.size_append, Int.natCast_add]; rfl) | (simp [ByteArray.size_append]; done)) ?_
           with_reducible refine (rowlockref06_Number.calls k1 (IntKind.u64.wrap (((rdOf ByteArray.empty l0_1 x18_1).size : Int))) 2 t228 _ A15.out).mono ?_
           rintro e w20 ⟨rfl, hb⟩
           refine ⟨_, rfl, ?_⟩
           have n0_ := Aside0.mk (blk_below (g := gb223) (o := .cells #[.int .u32 a0_0, .slice (some ad225) l0_1.length c0_1] 41 (0, 0)) (by (with_reducible repeat (first | refine blk_drewN ?_ _ | refine blk_drew ?_ | refine blk_alloc ?_ _)); exact BK223.out) hb)
           have n1_ := Aside0.mk (below_step (by repeat (first | (with_reducible first | exact HB.out | apply below_alloc | apply pw_below_drewN | apply below_drew1 | refine below_set ?_ GE223.out) | exact HB.out)) hb)
           clear BK223
           clear HB
           have BK223 := n0_
           have HB := n1_
           clear n0_ n1_
           (try clear hb)
           (try clear hb2)
           (try clear hk)
           (try clear hi)
           refine hK.out _ _ ⟨(blk_cell BK223.out 0).trans rfl, (blk_cell BK223.out 1).trans rfl, ((HB.out.cell (World.block_lt_of_cell? w _ hw227_0)).trans hw227_0)⟩ (fun hHeld => ?_)
           clear hK K
           refine norm_ (a' := ?_) ?_ ?_
           rotate_left
           ·show Act.put _ (some 42) _ = _
            simp only [Act.put, List.setIfInBounds_toArray, List.set_cons_zero, List.set_cons_succ, i64_w, i32_w]
            rfl
           refine pure_ (i := 15) (N := some 43) (v := ?_) (a' := ?_) #[true, true, true, true, true, true, true, true, true, true, true, true, true, true, true, true, false] rfl rfl (any_of HT_.out (by kernel_rfl)) (fun _ _ _ h => h) (Or.inl ⟨by rfl, ?_⟩) ?_ ?_
           rotate_left
           ·intro w'
            go_simp
            with_reducible rfl
           rotate_left
           ·simp only [Act.put, List.setIfInBounds_toArray, List.set_cons_zero, List.set_cons_succ, i64_w, i32_w]
            rfl
           refine pure_ (i := 16) (N := some 3) (v := ?_) (a' := ?_) #[true, true, true, true, true, true, true, true, true, true, true, true, true, true, true, true, true] rfl rfl (any_of HT_.out (by kernel_rfl)) (fun _ _ _ h => h) (Or.inl ⟨by rfl, ?_⟩) ?_ ?_
           rotate_left
           ·intro w'
            go_simp
            with_reducible rfl
           rotate_left
           ·simp only [Act.put, List.setIfInBounds_toArray, List.set_cons_zero, List.set_cons_succ, i64_w, i32_w]
            rfl
           refine done_ (done_of HT_.out (by kernel_rfl)) ?_
           try go_wp2
           go_roundg k1
           case measure => have := HK1.out; omega
           case rel => exact ⟨((x3_1 ++ t226) ++ t228), ((rdOf ByteArray.empty l0_1 x18_1) ++ x4_1), (wrap64 (x18_1 + 1)), (by first | rfl | (simp; done) | (simp [*]; done)), (by first | rfl | (simp; done) | (simp [*]; done)), (by first | rfl | (simp; done) | (simp [*]; done)), H', ⟨by have := HK1.out; omega⟩, ⟨by (with_reducible repeat (first | refine blk_drewN ?_ _ | refine blk_drew ?_ | refine blk_alloc ?_ _)); exact BK223.out⟩, ⟨by repeat (first | (with_reducible first | exact HB.out | apply below_alloc | apply pw_below_drewN | apply below_drew1 | refine below_set ?_ GE223.out) | exact HB.out)⟩⟩
          ·rw [if_neg c16] at H
           exact absurd H (by simp)
         ·rw [if_neg c14] at H
          exact absurd H (by simp)
        ·rw [if_neg c12] at H
         exact absurd H (by simp)
       ·rw [if_neg c11] at H
        exact absurd H (by simp)
      ·rw [if_neg c10] at H
       exact absurd H (by simp)
     ·rw [if_neg c9] at H
      have c9b0 : decide (x18_1 < (l0_1.length : Int)) = false := decide_eq_false c9
      clear c9
      obtain ⟨ji21, hji21⟩ : ∃ j_ : Int, (wrap64 ((wrap64 (512 - (x3_1.size : Int))) - (x4_1.size : Int))) = j_ := ⟨_, rfl⟩
      replace H : (if 0 ≤ (ji21) then (if (ji21 : Int).toNat ≤ 281474976710656 then ((some (List.replicate (ji21 : Int).toNat 0 : List Int)).bind fun y229 => (if x3_1.size + (strOfNums y229).size ≤ 9223372036854775807 then (if (x3_1 ++ (strOfNums y229)).size + x4_1.size ≤ 9223372036854775807 then (some ((x3_1 ++ (strOfNums y229)) ++ x4_1)) else (none)) else (none))) else (none)) else (none)) = some r := by first | (rw [hji21] at H; exact H) | (simp only [hji21] at H ⊢; exact H)
      have hji21w : (IntKind.i64.wrap ((wrap64 (512 - (x3_1.size : Int))) - (x4_1.size : Int))) = ji21 := (i64_w _).trans hji21
      by_cases c22 : 0 ≤ (ji21)
      ·rw [if_pos c22] at H
       have c22b0 := eq_true c22
       have c22b1 : decide (0 ≤ (ji21)) = true := decide_eq_true c22
       clear c22
       by_cases c23 : (ji21 : Int).toNat ≤ 281474976710656
       ·rw [if_pos c23] at H
        have c23b0 := eq_true c23
        have c23b1 : decide ((ji21 : Int).toNat ≤ 281474976710656) = true := decide_eq_true c23
        clear c23
        obtain ⟨y229, hy229⟩ : ∃ y_ : List Int, y_ = (List.replicate (ji21 : Int).toNat 0) := ⟨_, rfl⟩
        replace H : (if x3_1.size + (strOfNums y229).size ≤ 9223372036854775807 then (if (x3_1 ++ (strOfNums y229)).size + x4_1.size ≤ 9223372036854775807 then (some ((x3_1 ++ (strOfNums y229)) ++ x4_1)) else (none)) else (none)) = some r := by first | (rw [hy229]; with_reducible exact H) | (have H2_ := (Option.bind_some _ _).symm.trans H; rw [hy229]; with_reducible exact H2_) | (have H2_ := (Option.bind_some _ _).symm.trans H; with_reducible exact H2_) | with_reducible exact H | (rw [hy229]; exact H) | exact H
        have Ny229 := Aside0.mk hy229
        clear hy229
        by_cases c24 : x3_1.size + (strOfNums y229).size ≤ 9223372036854775807
        ·rw [if_pos c24] at H
         have c24b0 := eq_true c24
         have c24b1 : decide (x3_1.size + (strOfNums y229).size ≤ 9223372036854775807) = true := decide_eq_true c24
         try have c24b2 : (9223372036854775807 < x3_1.size + (strOfNums y229).size) = False := eq_false (Nat.not_lt.2 c24)
         by_cases c25 : (x3_1 ++ (strOfNums y229)).size + x4_1.size ≤ 9223372036854775807
         ·rw [if_pos c25] at H
          have c25b0 := eq_true c25
          have c25b1 : decide ((x3_1 ++ (strOfNums y229)).size + x4_1.size ≤ 9223372036854775807) = true := decide_eq_true c25
          try have c25b2 : (9223372036854775807 < (x3_1 ++ (strOfNums y229)).size + x4_1.size) = False := eq_false (Nat.not_lt.2 c25)
          try have c25b3 := c25b2
          try simp only [ByteArray.size_append] at c25b3
          obtain rfl := Option.some.inj H
          have hjw_ : wrap64 (512 - (x3_1.size : Int) - (x4_1.size : Int)) = ji21 := by rw [← hji21]; unfold wrap64; omega
          go_wp2_with (first | ((with_reducible refine gate_dst (N := 52) rfl ?_); refine Kd.R_make (Kd.int .u8) _ 5 rfl (N := 52) rfl 52 _ _ rfl ji21 (by first | rfl | (rw [← hjw_]; rfl) | (rw [← hji21]; rfl) | (rw [← hjw_]; simp [Act.eval]; done)) (by first | rfl | (rw [← hjw_]; rfl) | (rw [← hji21]; rfl) | (rw [← hjw_]; simp [Act.eval]; done)) Try.underlying52 (.int .u8 0) 1 info5 rfl (by decide) (by omega) 0 (ok := fun _ => True) (okp := fun _ => True) rfl (fun _ hk => hk) trivial (of_decide_eq_true (by first | (with_reducible assumption) | assumption)) (Nat.le_trans (Nat.mul_le_mul_right _ (of_decide_eq_true (by first | (with_reducible assumption) | assumption) : ji21.toNat ≤ 281474976710656)) (by omega)) (Below.refl _ _) (Nat.le_refl _) ?_; intro v230 w26 ho27 hb hg_ hnew_; clear hg_ hnew_; (first | rw [← Ny229.out] at ho27 | (simp only [Int.reduceToNat] at ho27; rw [← Ny229.out] at ho27)); have n0_ := Aside0.mk (Kd.R_lower ho27 (below_size (by repeat (first | (with_reducible first | exact HB.out | apply below_alloc | apply pw_below_drewN | apply below_drew1 | refine below_set ?_ GE223.out) | exact HB.out)))); have n1_ := Aside0.mk (blk_below (g := gb223) (o := .cells #[.int .u32 a0_0, .slice A0_1 l0_1.length c0_1] 41 (0, 0)) (by (with_reducible repeat (first | refine blk_drewN ?_ _ | refine blk_drew ?_ | refine blk_alloc ?_ _)); exact BK223.out) hb); have n2_ := Aside0.mk (below_step (by repeat (first | (with_reducible first | exact HB.out | apply below_alloc | apply pw_below_drewN | apply below_drew1 | refine below_set ?_ GE223.out) | exact HB.out)) hb); clear BK223; clear HB; have HO231 := n0_; have BK223 := n1_; have HB := n2_; clear n0_ n1_ n2_; clear hb ho27; have hcv28 := own_string (P := Try.prog) Try.underlying52 Try.underlying5 Try.underlying9 (Kd.own_of_R HO231.out)))
          go_ret
          exact ⟨by first | rfl | (simp [errW_none, errW_some] <;> rfl) | (simp only [← hji21]; first | rfl | (simp [errW_none, errW_some] <;> rfl)) | (simp [*, errW_none, errW_some] <;> rfl), by repeat (first | (with_reducible first | exact HB.out | apply below_alloc | apply pw_below_drewN | apply below_drew1 | refine below_set ?_ GE223.out) | exact HB.out)⟩
         ·rw [if_neg c25] at H
          exact absurd H (by simp)
        ·rw [if_neg c24] at H
         exact absurd H (by simp)
       ·rw [if_neg c23] at H
        exact absurd H (by simp)
      ·rw [if_neg c22] at H
       exact absurd H (by simp)
  ·rw [if_neg c4] at H
   exact absurd H (by simp)
 ·rw [if_neg c3] at H
  exact absurd H (by simp)

end Go.Proofs.Ytpfegfkniilobaa.XHeap
