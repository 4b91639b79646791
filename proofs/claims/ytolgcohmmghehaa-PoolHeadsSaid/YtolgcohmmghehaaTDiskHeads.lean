/- The law DiskHeads walked: true wherever the plain functions answer alike. Conditions: stated in DiskHeads_walk. -/
import Derived.Test.YtolgcohmmghehaaXDiskHeadsx0
import Derived.Test.YtolgcohmmghehaaXDiskHeadsx1
import Derived.Test.YtolgcohmmghehaaXDiskHeadsx2
import Derived.Test.YtolgcohmmghehaaXDiskHeadsx3
import Derived.Test.YtolgcohmmghehaaWEqStruct
import Derived.Test.YtolgcohmmghehaaWZeros
import Derived.Deep.RegionWith
import Derived.Deep.CutRange
import Derived.Deep.OwnRows
namespace Go.Proofs.Ytolgcohmmghehaa.XDiskHeads
open Go.RowKit Go.Proofs.YtolgcohmmghehaaW.PrintWords Go.Proofs.YtolgcohmmghehaaW.PrintLast Go.Proofs.YtolgcohmmghehaaW.PrintMore
set_option linter.unusedVariables false
set_option linter.unusedSimpArgs false
set_option maxRecDepth 100000
theorem eqA25 (d : Nat) (w : World) (x0 y0 : Int) (x1 y1 : Int) (x2 y2 : Int) :
    (Op.equalIn (d + 2) 25 (.agg #[.int .u8 x0, .int .u16 x1, .int .u32 x2]) (.agg #[.int .u8 y0, .int .u16 y1, .int .u32 y2])).run Try.prog w = .ok (x0 == y0 && (x1 == y1 && (x2 == y2))) w := by
  refine eqA_of Try.underlying25 (by kernel_rfl) ?_
  refine eqf_cons (by rfl) (by go_simp; rfl) (by go_simp; rfl) (by go_simp) ?_
  refine eqf_cons (by rfl) (by go_simp; rfl) (by go_simp; rfl) (by go_simp) ?_
  exact eqf_last (by rfl) (by go_simp; rfl) (by go_simp; rfl) (by go_simp)
theorem eql25 (w : World) (a b c x y z : Int) : (binOp .eql 25 (.agg #[.int .u8 a, .int .u16 b, .int .u32 c]) (.agg #[.int .u8 x, .int .u16 y, .int .u32 z])).run Try.prog w = .ok (.bool (a == x && (b == y && c == z))) w := by
  simp only [binOp]
  simp [Op.equal, Op.maxDepth, eqA25 9998]
theorem neq25 (w : World) (a b c : Int) : (binOp .neq 25 (.agg #[.int .u8 a, .int .u16 b, .int .u32 c]) (.agg #[.int .u8 a, .int .u16 b, .int .u32 c])).run Try.prog w = .ok (.bool false) w := by
  simp only [binOp]
  simp [Op.equal, Op.maxDepth, eqA25 9998]
/-- A head's page. -/
def PL (a b c : Int) : List Int := disk_Put.hd a b c ++ List.replicate 504 0
theorem DiskHeads_big (h0 h1 h2 : Int) (A : Option Addr) (n c : Nat) (wh : Bool) (w : World) (hn : 600 < n) : Calls Try.prog 3 #[.agg #[.int .u8 h0, .int .u16 h1, .int .u32 h2], .slice A n c, .bool wh] w fun e w' => e = .returned (.bool true) ∧ Below w.heap.size w w' := by
  have c1 : decide (600 < (n : Int)) = true := decide_eq_true (by omega)
  have c2 : decide (600 < n) = true := decide_eq_true hn
  clear hn
  go_enter Try.func3, Try.ntmps3
  go_wp2_with (go_at_call 15; (with_reducible refine (Dsk.fixed_ok _).mono ?_); rintro en w1 ⟨rfl, hb⟩; have HB := Aside0.mk hb; clear hb)
  go_ret
  exact ⟨rfl, below_then (below_alloc (Below.refl _ _) _) (by simp) HB.out⟩
theorem cut512 (A : Option Addr) (c : Nat) (l : List Int) (hc : (([] : List Int) ++ l ++ List.replicate (Int.toNat 512) 0).length ≤ c) : ∀ W : World, (Instr.slice 26 (.slice A (l.length + 512) c) none (some (.int .i64 512)) none).run Try.prog W = .ok (.slice A 512 c) W := by
  obtain ⟨i0, hi0, _, hsz, _⟩ := info_parts info5
  have hz : (([] : List Int) ++ l ++ List.replicate (Int.toNat 512) 0).length = l.length + 512 := by simp
  obtain ⟨h, _⟩ := print_take_of (P := Try.prog) (Value.int .u8) 0 26 5 .i64 Try.underlying26 hi0 hsz A c (([] : List Int) ++ l ++ List.replicate (Int.toNat 512) 0) 512 (by decide) (by rw [hz]; omega) hc
  rw [hz] at h
  have h2 : ((([] : List Int) ++ l ++ List.replicate (Int.toNat 512) 0).take (Int.toNat 512)).length = 512 := by rw [List.length_take, hz]; simp
  rw [h2] at h
  exact h
theorem cut512C (W : World) (A : Option Addr) (c : Nat) (l L : List Int) (hL : L = (l ++ List.replicate 512 0).take 512) (h : Kd.C (Kd.int .u8) W A (([] : List Int) ++ l ++ List.replicate (Int.toNat 512) 0).length (([] : List Int) ++ l ++ List.replicate (Int.toNat 512) 0)) : Kd.C (Kd.int .u8) W A 512 L := by
  have hz : (([] : List Int) ++ l ++ List.replicate (Int.toNat 512) 0).length = l.length + 512 := by simp
  have := Kd.C_take (m := 512) h (by rw [hz]; omega)
  have h2 : ((([] : List Int) ++ l ++ List.replicate (Int.toNat 512) 0).take 512).length = 512 := by rw [List.length_take, hz]; omega
  rw [h2] at this
  rw [hL]
  simpa using this
set_option maxHeartbeats 8000000 in
theorem DiskHeads_walk (k : Nat) (h0 h1 h2 : Int) (A : Option Addr) (c : Nat) (l : List Int) (w : World) (hC : Kd.C (Kd.int .u8) w A l.length l) (hc : l.length ≤ c) (hl : l.length ≤ 600) (g0 g1 g2 : Int) (gb : Bool) (hp1 : disk_Get.f k (PL h0 h1 h2) = some (h0, h1, h2, true)) (hp2 : rowlockref06_Head.f k h0 h1 h2 = some (strOfNums (PL h0 h1 h2))) (hg : disk_Get.f k l = some (g0, g1, g2, gb)) (hr : rowlockref06_Get.f k (strOfNums l) = some (g0, g1, g2, gb)) :
    Calls Try.prog 3 #[.agg #[.int .u8 h0, .int .u16 h1, .int .u32 h2], .slice A l.length c, .bool false] w fun e w' => e = .returned (.bool true) ∧ Below w.heap.size w w' := by
  have c1 : decide (600 < (l.length : Int)) = false := decide_eq_false (by omega)
  have c2 : decide (600 < l.length) = false := decide_eq_false (by omega)
  have HC := Aside0.mk (And.intro hC hc)
  have HP := Aside0.mk (And.intro hp1 hp2)
  have HQ := Aside0.mk (And.intro hg hr)
  have ne := neq25
  have el := eql25
  clear hC hc hp1 hp2 hg hr hl
  go_enter Try.func3, Try.ntmps3
  go_wp2_with (first
    | (go_at_call 16; (with_reducible refine (disk_Put.calls h0 h1 h2 (PL h0 h1 h2) _ rfl).mono ?_); rintro en w2 ⟨v, rfl, ho, hb⟩; obtain ⟨A2, c2, e2⟩ := Kd.R_slice ho; subst e2; have HO2 := Aside0.mk ho; have HR2 := Aside0.mk (blk_below (blk_new w _) hb); have HB2 := Aside0.mk (below_then (below_alloc (Below.refl w.heap.size w) _) (by simp) hb); clear ho hb)
    | (go_at_call 17; (with_reducible refine (disk_Get.calls k A2 c2 (PL h0 h1 h2) h0 h1 h2 true _ (Kd.R_reads' HO2.out).2.2 (Kd.R_reads' HO2.out).2.1 HP.out.1).mono ?_); rintro en w3 ⟨rfl, hb⟩; have HO3 := Aside0.mk (Kd.R_below HO2.out hb); have HR3 := Aside0.mk (blk_below HR2.out hb); have HB3 := Aside0.mk (below_then HB2.out HB2.out.size hb); clear hb; have HX3 := Aside0.mk (blk_new w3 (.cells #[.int .u8 0, .int .u16 0, .int .u32 0] 25))))
  have hW := blk_new w3 (.cells #[.int .u8 h0, .int .u16 h1, .int .u32 h2] 25)
  have HR4 := Aside0.mk (blk_alloc HR3.out (.cells #[.int .u8 h0, .int .u16 h1, .int .u32 h2] 25))
  have HB4 := Aside0.mk (below_alloc HB3.out (.cells #[.int .u8 h0, .int .u16 h1, .int .u32 h2] 25))
  have HO4 := Aside0.mk (Kd.R_alloc HO3.out (.cells #[.int .u8 h0, .int .u16 h1, .int .u32 h2] 25))
  have HS4 := Aside0.mk HB3.out.size
  generalize hw4 : w3.alloc (.cells #[.int .u8 h0, .int .u16 h1, .int .u32 h2] 25) = w4 at hW HR4 HB4 HO4 ⊢
  generalize hgx : w3.heap.size = gx at hW HS4 ⊢
  have HX4 := Aside0.mk hW
  clear hW hw4 hgx
  have hr0 := (blk_cell HR4.out 0).trans rfl
  have hr1 := (blk_cell HR4.out 1).trans rfl
  have hr2 := (blk_cell HR4.out 2).trans rfl
  have hx0 := (blk_cell HX4.out 0).trans rfl
  have hx1 := (blk_cell HX4.out 1).trans rfl
  have hx2 := (blk_cell HX4.out 2).trans rfl
  have hcv := own_string (P := Try.prog) Try.underlying26 Try.underlying5 Try.underlying9 (Kd.own_of_R (Kd.R_drew HO4.out))
  have hcv' := own_string (P := Try.prog) Try.underlying26 Try.underlying5 Try.underlying9 (Kd.own_of_R HO4.out)
  go_cut [38] from 25 to 38 (fun s38 wc => s38 = .bool false ∧ Aside0 (Below w.heap.size w wc))
  case first =>
    go_region_with (go_at_call 18; ((with_reducible refine (rowlockref06_Head.calls k h0 h1 h2 _ _ HP.out.2).mono ?_); rintro en w5 ⟨rfl, hb⟩; have HO5 := Aside0.mk (Kd.R_below (Kd.R_drew HO4.out) hb); have HR5 := Aside0.mk (blk_below (blk_drew HR4.out) hb); have HX5 := Aside0.mk (blk_below (blk_drew HX4.out) hb); have HB5 := Aside0.mk (below_then (below_drew1 HB4.out) (below_drew1 HB4.out).size hb); clear hb; have hr05 := (blk_cell HR5.out 0).trans rfl; have hr15 := (blk_cell HR5.out 1).trans rfl; have hr25 := (blk_cell HR5.out 2).trans rfl; have hx05 := (blk_cell HX5.out 0).trans rfl; have hx15 := (blk_cell HX5.out 1).trans rfl; have hx25 := (blk_cell HX5.out 2).trans rfl; have hcv5 := own_string (P := Try.prog) Try.underlying26 Try.underlying5 Try.underlying9 (Kd.own_of_R HO5.out)))
    all_goals
      go_wp2
      go_meet
      exact ⟨rfl, HB5⟩
  case rest =>
    obtain ⟨rfl, HB⟩ := hcut
    clear hr0 hr1 hr2 hx0 hx1 hx2 hcv hcv' HR4 HX4 HO4 HB4 HR3 HO3 HB3 HR2 HO2 HB2 HX3
    go_wp2_with (first
      | (go_at_call 17; (with_reducible refine (disk_Get.calls k A c l g0 g1 g2 gb _ (Kd.C_below HC.out.1 HB.out) HC.out.2 HQ.out.1).mono ?_); rintro en w6 ⟨rfl, hb⟩; have HB6 := Aside0.mk (below_then HB.out HB.out.size hb); clear hb; have hcv6 := Kd.C_string (P := Try.prog) (A := A) (c := c) Try.underlying26 Try.underlying5 Try.underlying9 (Kd.C_below HC.out.1 (below_alloc HB6.out (.cells #[.int .u8 g0, .int .u16 g1, .int .u32 g2] 25))); have HX6 := Aside0.mk (blk_new w6 (.cells #[.int .u8 g0, .int .u16 g1, .int .u32 g2] 25)))
      | (go_at_call 19; (with_reducible refine (rowlockref06_Get.calls k _ g0 g1 g2 gb _ HQ.out.2).mono ?_); rintro en w7 ⟨rfl, hb⟩; have HX7 := Aside0.mk (blk_below HX6.out hb); have HB7 := Aside0.mk (below_then (below_alloc HB6.out _) (below_alloc HB6.out _).size hb); clear hb)
      | (go_at_call 15; (with_reducible refine (Dsk.fixed_ok _).mono ?_); rintro en w8 ⟨rfl, hb⟩; have HX8 := Aside0.mk (blk_below (blk_alloc HX7.out _) hb); have HY8 := Aside0.mk (blk_below (blk_new w7 _) hb); have HB8 := Aside0.mk (below_then (below_alloc HB7.out _) (below_alloc HB7.out _).size hb); clear hb; have hx0 := (blk_cell HX8.out 0).trans rfl; have hx1 := (blk_cell HX8.out 1).trans rfl; have hx2 := (blk_cell HX8.out 2).trans rfl; have hy0 := (blk_cell HY8.out 0).trans rfl; have hy1 := (blk_cell HY8.out 1).trans rfl; have hy2 := (blk_cell HY8.out 2).trans rfl))
    go_ret
    exact ⟨by simp, HB8.out⟩
set_option maxHeartbeats 8000000 in
theorem DiskHeads_whole (k : Nat) (h0 h1 h2 : Int) (A : Option Addr) (c : Nat) (l : List Int) (w : World) (hC : Kd.C (Kd.int .u8) w A l.length l) (hc : l.length ≤ c) (hl : l.length ≤ 600) (g0 g1 g2 : Int) (gb : Bool) (hp1 : disk_Get.f k (PL h0 h1 h2) = some (h0, h1, h2, true)) (hp2 : rowlockref06_Head.f k h0 h1 h2 = some (strOfNums (PL h0 h1 h2))) (L : List Int) (hL : L = (l ++ List.replicate 512 0).take 512) (hg : disk_Get.f k L = some (g0, g1, g2, gb)) (hr : rowlockref06_Get.f k (strOfNums L) = some (g0, g1, g2, gb)) :
    Calls Try.prog 3 #[.agg #[.int .u8 h0, .int .u16 h1, .int .u32 h2], .slice A l.length c, .bool true] w fun e w' => e = .returned (.bool true) ∧ Below w.heap.size w w' := by
  have c1 : decide (600 < (l.length : Int)) = false := decide_eq_false (by omega)
  have c2 : decide (600 < l.length) = false := decide_eq_false (by omega)
  have HC := Aside0.mk (And.intro hC hc)
  have HP := Aside0.mk (And.intro hp1 hp2)
  have HQ := Aside0.mk (And.intro hg hr)
  have ne := neq25
  have el := eql25
  have HL := Aside0.mk (And.intro hl hL)
  have hLl : L.length = 512 := by rw [hL, List.length_take, List.length_append, List.length_replicate]; omega
  have HLl := Aside0.mk hLl
  clear hC hc hp1 hp2 hg hr hl hLl hL
  go_enter Try.func3, Try.ntmps3
  go_wp2_with (first
    | (go_at_call 16; (with_reducible refine (disk_Put.calls h0 h1 h2 (PL h0 h1 h2) _ rfl).mono ?_); rintro en w2 ⟨v, rfl, ho, hb⟩; obtain ⟨A2, c2, e2⟩ := Kd.R_slice ho; subst e2; have HO2 := Aside0.mk ho; have HR2 := Aside0.mk (blk_below (blk_new w _) hb); have HB2 := Aside0.mk (below_then (below_alloc (Below.refl w.heap.size w) _) (by simp) hb); clear ho hb)
    | (go_at_call 17; (with_reducible refine (disk_Get.calls k A2 c2 (PL h0 h1 h2) h0 h1 h2 true _ (Kd.R_reads' HO2.out).2.2 (Kd.R_reads' HO2.out).2.1 HP.out.1).mono ?_); rintro en w3 ⟨rfl, hb⟩; have HO3 := Aside0.mk (Kd.R_below HO2.out hb); have HR3 := Aside0.mk (blk_below HR2.out hb); have HB3 := Aside0.mk (below_then HB2.out HB2.out.size hb); clear hb; have HX3 := Aside0.mk (blk_new w3 (.cells #[.int .u8 0, .int .u16 0, .int .u32 0] 25))))
  have hW := blk_new w3 (.cells #[.int .u8 h0, .int .u16 h1, .int .u32 h2] 25)
  have HR4 := Aside0.mk (blk_alloc HR3.out (.cells #[.int .u8 h0, .int .u16 h1, .int .u32 h2] 25))
  have HB4 := Aside0.mk (below_alloc HB3.out (.cells #[.int .u8 h0, .int .u16 h1, .int .u32 h2] 25))
  have HO4 := Aside0.mk (Kd.R_alloc HO3.out (.cells #[.int .u8 h0, .int .u16 h1, .int .u32 h2] 25))
  have HS4 := Aside0.mk HB3.out.size
  generalize hw4 : w3.alloc (.cells #[.int .u8 h0, .int .u16 h1, .int .u32 h2] 25) = w4 at hW HR4 HB4 HO4 ⊢
  generalize hgx : w3.heap.size = gx at hW HS4 ⊢
  have HX4 := Aside0.mk hW
  clear hW hw4 hgx
  have hr0 := (blk_cell HR4.out 0).trans rfl
  have hr1 := (blk_cell HR4.out 1).trans rfl
  have hr2 := (blk_cell HR4.out 2).trans rfl
  have hx0 := (blk_cell HX4.out 0).trans rfl
  have hx1 := (blk_cell HX4.out 1).trans rfl
  have hx2 := (blk_cell HX4.out 2).trans rfl
  have hcv := own_string (P := Try.prog) Try.underlying26 Try.underlying5 Try.underlying9 (Kd.own_of_R (Kd.R_drew HO4.out))
  have hcv' := own_string (P := Try.prog) Try.underlying26 Try.underlying5 Try.underlying9 (Kd.own_of_R HO4.out)
  go_cut [38] from 25 to 38 (fun s38 wc => s38 = .bool false ∧ Aside0 (Below w.heap.size w wc))
  case first =>
    go_region_with (go_at_call 18; ((with_reducible refine (rowlockref06_Head.calls k h0 h1 h2 _ _ HP.out.2).mono ?_); rintro en w5 ⟨rfl, hb⟩; have HO5 := Aside0.mk (Kd.R_below (Kd.R_drew HO4.out) hb); have HR5 := Aside0.mk (blk_below (blk_drew HR4.out) hb); have HX5 := Aside0.mk (blk_below (blk_drew HX4.out) hb); have HB5 := Aside0.mk (below_then (below_drew1 HB4.out) (below_drew1 HB4.out).size hb); clear hb; have hr05 := (blk_cell HR5.out 0).trans rfl; have hr15 := (blk_cell HR5.out 1).trans rfl; have hr25 := (blk_cell HR5.out 2).trans rfl; have hx05 := (blk_cell HX5.out 0).trans rfl; have hx15 := (blk_cell HX5.out 1).trans rfl; have hx25 := (blk_cell HX5.out 2).trans rfl; have hcv5 := own_string (P := Try.prog) Try.underlying26 Try.underlying5 Try.underlying9 (Kd.own_of_R HO5.out)))
    all_goals
      go_wp2
      go_meet
      exact ⟨rfl, HB5⟩
  case rest =>
    obtain ⟨rfl, HB⟩ := hcut
    clear hr0 hr1 hr2 hx0 hx1 hx2 hcv hcv' HR4 HX4 HO4 HB4 HR3 HO3 HB3 HR2 HO2 HB2 HX3
    go_wp2_with (first
      | ((with_reducible refine gate_dst (N := 40) rfl ?_); refine Kd.R_lit (Kd.int .u8) w.heap.size 5 ?hg (N := 40) ?hd (xs := ([] : List Int)) (inner := []) (ok := fun _ => True) (okp := fun _ => True) ?hr ?hp (fun _ hk => hk) trivial HB.out HB.out.size (by simp) ?_; (case hd => rfl); (case hg => rfl); (case hr => first | (go_simp; done) | (go_simp; rfl)); (case hp => exact Reps.none _ _); intro v5 w5 ho hb hg_ hnew_; have HO5 := Aside0.mk ho; have HB5 := Aside0.mk hb; clear ho hb hg_ hnew_)
      | ((with_reducible refine gate_builtin (b := .append) (xs := #[.tmp 40, .tmp 41]) rfl ?_); at_builtin; refine Kd.R_append_rows (Kd.int .u8) (w0 := w) w.heap.size rfl (.tmp 40) (.tmp 41) 26 5 (.int .u8 0) 1 rfl Try.underlying26 info5 rfl (by decide) (by omega) v5 [] l A l.length c (fun _ => True) (fun _ => False) rfl rfl ?aO ?aR (fun _ _ h => h) (fun _ h => h.elim) ?aF ?aB ?aS ?aL ?_; (case aO => exact HO5.out); (case aR => exact Kd.C_below HC.out.1 HB5.out); (case aF => exact fun _ _ => trivial); (case aB => exact HB5.out); (case aS => exact HB5.out.size); (case aL => have := HL.out.1; rw [List.length_nil]; omega); intro v9 w9 ho hb hg_ hat; have HO9 := Aside0.mk ho; have HB9 := Aside0.mk hb; clear ho hb hg_ hat)
      | ((with_reducible refine gate_builtin (b := .append) (xs := #[.tmp 42, (.const (.int .i64 512))]) rfl ?_); at_builtin; refine Kd.R_append_zeros (Kd.int .u8) (w0 := w) w.heap.size rfl (.tmp 42) (.const (.int .i64 512)) 26 3 5 (.int .u8 0) 1 rfl Try.underlying26 Try.underlying3 info5 rfl (by decide) (by omega) v9 ([] ++ l) 0 (512 : Int) (fun _ => True) rfl rfl rfl ?aF ?aO (by omega) ?aB ?aS ?aL ?_; (case aO => exact HO9.out); (case aF => exact fun _ _ => trivial); (case aB => exact HB9.out); (case aS => exact HB9.out.size); (case aL => have := HL.out.1; rw [List.nil_append]; omega); intro v8 w8 ho hb hg_ hat; have HB := Aside0.mk hb; obtain ⟨A8, c8, e8⟩ := Kd.R_slice ho; have HM8 := Aside0.mk (Kd.R_reads' (e8 ▸ ho)); have hv8 : v8 = .slice A8 (l.length + 512) c8 := e8.trans (by simp); clear e8; subst hv8; have hcut8 := cut512 A8 c8 l HM8.out.2.1; have HC8 := Aside0.mk (cut512C w8 A8 c8 l L HL.out.2 HM8.out.2.2); clear ho hb hg_ hat)
      | (go_at_call 17; have hx := disk_Get.calls k A8 c8 L g0 g1 g2 gb _ (by rw [HLl.out]; exact HC8.out) (by rw [HLl.out]; have := HM8.out.2.1; simp at this; omega) HQ.out.1; rw [HLl.out] at hx; (with_reducible refine hx.mono ?_); clear hx; rintro en w6 ⟨rfl, hb⟩; have HB6 := Aside0.mk (below_then HB.out HB.out.size hb); have hb6 := hb; clear hb; have hcv6 := Kd.C_string (P := Try.prog) (A := A8) (c := c8) Try.underlying26 Try.underlying5 Try.underlying9 (Kd.C_alloc (Kd.C_below HC8.out hb6) (.cells #[.int .u8 g0, .int .u16 g1, .int .u32 g2] 25)); clear hb6; have HX6 := Aside0.mk (blk_new w6 (.cells #[.int .u8 g0, .int .u16 g1, .int .u32 g2] 25)))
      | (go_at_call 19; (with_reducible refine (rowlockref06_Get.calls k _ g0 g1 g2 gb _ HQ.out.2).mono ?_); rintro en w7 ⟨rfl, hb⟩; have HX7 := Aside0.mk (blk_below HX6.out hb); have HB7 := Aside0.mk (below_then (below_alloc HB6.out _) (below_alloc HB6.out _).size hb); clear hb)
      | (go_at_call 15; (with_reducible refine (Dsk.fixed_ok _).mono ?_); rintro en w8 ⟨rfl, hb⟩; have HX8 := Aside0.mk (blk_below (blk_alloc HX7.out _) hb); have HY8 := Aside0.mk (blk_below (blk_new w7 _) hb); have HB8 := Aside0.mk (below_then (below_alloc HB7.out _) (below_alloc HB7.out _).size hb); clear hb; have hx0 := (blk_cell HX8.out 0).trans rfl; have hx1 := (blk_cell HX8.out 1).trans rfl; have hx2 := (blk_cell HX8.out 2).trans rfl; have hy0 := (blk_cell HY8.out 0).trans rfl; have hy1 := (blk_cell HY8.out 1).trans rfl; have hy2 := (blk_cell HY8.out 2).trans rfl))
    go_ret
    exact ⟨by simp, HB8.out⟩
end Go.Proofs.Ytolgcohmmghehaa.XDiskHeads
