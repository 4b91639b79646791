/- What the pool's own calls of sync/atomic and of package slices do: counters in a box's cell; rows of numbers from which those that fall out are taken. Conditions: stated in each theorem. -/
import Derived.Test.YtolgcohmmghehaaDskF
import Derived.Test.YtolgcohmmghehaaClr
import Derived.Test.YtolgcohmmghehaaShelf
import Derived.Laws.LoneSync
import Derived.BigRegion
import Derived.Deep.RegionWith
import Derived.Deep.DeepCutAuto
namespace Go.Proofs.Ytolgcohmmghehaa.Pool
open Go.RowKit Go.Proofs.YtolgcohmmghehaaW.PrintWords Go.Proofs.YtolgcohmmghehaaW.PrintLast Go.Proofs.YtolgcohmmghehaaW.PrintMore Go.Proofs.Ytolgcohmmghehaa.Byt Go.Proofs.Ytolgcohmmghehaa.Dsk
set_option linter.unusedVariables false
set_option linter.unusedSimpArgs false
set_option maxRecDepth 100000
/-! ### counters -/
theorem add_ok (w : World) (a : Addr) (x : Int) (hc : w.cell? a = some (.int .u64 x)) (hz : w.frozen? a = false) (ha : ∃ g o, a = ⟨g, o, none⟩) :
    Calls Try.prog 69 #[.pointer (some a), .int .u64 1] w fun e w' => e = .returned (.int .u64 ((x + 1) % 18446744073709551616)) ∧ w' = w.setCell a (.int .u64 ((x + 1) % 18446744073709551616)) := by
  obtain ⟨g, o, rfl⟩ := ha
  have hadd := run_call_add (P := Try.prog) Try.func80 (by kernel_rfl) (by kernel_rfl) (by kernel_rfl) .u64 (by kernel_rfl) (y := 1) (s := (x + 1) % 18446744073709551616) hc hz (by simp [go_sem, IntKind.wrap, IntKind.bits, IntKind.signed])
  go_enter Try.func69, Try.ntmps69
  go_wp2
  go_ret
  exact ⟨rfl, rfl⟩
theorem load_ok (w : World) (a : Addr) (x : Int) (hc : w.cell? a = some (.int .u64 x)) (ha : ∃ g o, a = ⟨g, o, none⟩) :
    Calls Try.prog 73 #[.pointer (some a)] w fun e w' => e = .returned (.int .u64 x) ∧ w' = w := by
  obtain ⟨g, o, rfl⟩ := ha
  have hadd := run_call_load (P := Try.prog) Try.func82 (by kernel_rfl) (by kernel_rfl) (by kernel_rfl) .u64 (by kernel_rfl) hc
  go_enter Try.func73, Try.ntmps73
  go_wp2
  go_ret
  exact ⟨rfl, rfl⟩
theorem store_ok (w : World) (a : Addr) (x : Int) (hc : w.cell? a = some (.int .u64 x)) (hz : w.frozen? a = false) (ha : ∃ g o, a = ⟨g, o, none⟩) :
    Calls Try.prog 74 #[.pointer (some a), .int .u64 0] w fun e w' => e = .returned (.tuple #[]) ∧ w' = w.setCell a (.int .u64 0) := by
  obtain ⟨g, o, rfl⟩ := ha
  have hadd := run_call_store (P := Try.prog) Try.func83 (by kernel_rfl) (by kernel_rfl) (by kernel_rfl) (by kernel_rfl) (k := .u64) (y := 0) hc hz
  go_enter Try.func74, Try.ntmps74
  go_wp2
  go_end0
  exact ⟨rfl, rfl⟩
/-! ### rows of numbers -/
theorem is_ok (w : World) (x p : Int) (gb : Nat) (hx : w.cell? ⟨gb, 0, none⟩ = some (.int .u32 p)) : Calls Try.prog 71 #[.int .u32 x, .pointer (some ⟨gb, 0, none⟩)] w fun e w' => e = .returned (.bool (x == p)) ∧ w' = w := by
  go_enter Try.func71, Try.ntmps71
  go_wp2
  go_ret
  exact ⟨rfl, rfl⟩
theorem rd_pre (pre post : List Int) (p : Int) (i : Nat) (h : i < pre.length) : rd (pre ++ p :: post) (i : Int) ∈ pre := by
  rw [rd, Int.toNat_natCast, List.getD_eq_getElem?_getD, List.getElem?_append_left h, List.getElem?_eq_getElem h]
  exact List.getElem_mem h
theorem rd_at (pre post : List Int) (p : Int) : rd (pre ++ p :: post) (pre.length : Int) = p := by
  rw [rd, Int.toNat_natCast, List.getD_eq_getElem?_getD, List.getElem?_append_right (Nat.le_refl _), Nat.sub_self]
  rfl
theorem rd_post (pre post : List Int) (p : Int) (i : Nat) (h : i < post.length) : rd (pre ++ p :: post) ((pre.length + 1 + i : Nat) : Int) = post[i] ∧ post[i] ∈ post := by
  refine ⟨?_, List.getElem_mem h⟩
  rw [rd, Int.toNat_natCast, List.getD_eq_getElem?_getD, List.getElem?_append_right (by omega), show pre.length + 1 + i - pre.length = i + 1 by omega, List.getElem?_cons_succ, List.getElem?_eq_getElem h]
  rfl
set_option maxHeartbeats 4000000 in
theorem index_ok (w : World) (gb : Nat) (p : Int) (hx : w.cell? ⟨gb, 0, none⟩ = some (.int .u32 p)) (A : Option Addr) (n c : Nat) (pre post : List Int) (hn : n = pre.length + 1 + post.length) (hpre : ∀ x ∈ pre, x ≠ p) (hlen : n ≤ 100000) (hC : Kd.C (Kd.int .u32) w A n (pre ++ p :: post)) :
    Calls Try.prog 81 #[.slice A n c, .func (.func 71) #[] #[.pointer (some ⟨gb, 0, none⟩)]] w fun e w' => e = .returned (.int .i64 (pre.length : Int)) ∧ w' = w := by
  have HC := Aside0.mk (And.intro hC (And.intro hpre (And.intro hn hlen)))
  clear hC hpre hn hlen
  go_enter Try.func81, Try.ntmps81
  go_wp2
  go_loopg [8] (pre.length + 1) (fun kq v8 w' => ∃ i : Nat, v8 = .int .i64 (i : Int) ∧ Aside0 (kq + i = pre.length + 1 ∧ i ≤ pre.length) ∧ w' = w)
  case atStart => exact ⟨0, rfl, ⟨by omega⟩, rfl⟩
  case round =>
    obtain ⟨i, rfl, HI, rfl⟩ := hrel
    have c1 : decide ((i : Int) < (n : Int)) = true := decide_eq_true (by have := HI.out; have := HC.out.2.2.1; omega)
    have c1b : decide (i < n) = true := decide_eq_true (by have := HI.out; have := HC.out.2.2.1; omega)
    obtain ⟨ad, e1, hx0⟩ := Kd.at_int HC.out.1 (i : Int) (by omega) (by have := HI.out; have := HC.out.2.2.1; omega)
    subst e1
    have p9 : (0 ≤ (i : Int)) = True := eq_true (by omega)
    have q9 : ((i : Int) < (n : Int)) = True := eq_true (by have := HI.out; have := HC.out.2.2.1; omega)
    have q9b : (i < n) = True := eq_true (by have := HI.out; have := HC.out.2.2.1; omega)
    rw [Int.toNat_natCast] at hx0
    by_cases h : i < pre.length
    · have hm := HC.out.2.1 _ (rd_pre pre post p i h)
      obtain ⟨y, hy⟩ : ∃ y, y = rd (pre ++ p :: post) (i : Int) := ⟨_, rfl⟩
      rw [← hy] at hx0 hm
      have c2 : (y == p) = false := beq_eq_false_iff_ne.mpr hm
      have H := Aside0.mk h
      clear hy hm h
      go_wp2_with (go_at_call 71; (with_reducible refine (is_ok _ y p gb hx).mono ?_); rintro en w1 ⟨rfl, rfl⟩)
      go_roundg (gk - 1)
      case measure => have h1 := HI.out; have h2 := H.out; omega
      case rel =>
        have h1 := HI.out
        have h2 := H.out
        have h3 := HC.out.2.2
        exact ⟨i + 1, by rw [wr_in ((i : Int) + 1) (by omega)]; rfl, ⟨by omega⟩, rfl⟩
    · have hi : i = pre.length := by have := HI.out; omega
      subst hi
      rw [rd_at] at hx0
      have c2 : (p == p) = true := beq_self_eq_true p
      go_wp2_with (go_at_call 71; (with_reducible refine (is_ok _ p p gb hx).mono ?_); rintro en w1 ⟨rfl, rfl⟩)
      go_ret
      exact ⟨rfl, rfl⟩
theorem C_n {w : World} {base n c : Nat} {ok : Nat → Prop} {A : Option Addr} {xs : List Int} (h : Kd.R (Kd.int .u32) 23 w base ok (.slice A n c) xs) : Kd.C (Kd.int .u32) w A n xs := by
  obtain ⟨rfl, _, h⟩ := Kd.R_reads' h
  exact h
theorem wadd (i : Nat) (h : i ≤ 1000000) : wrap64 ((i : Int) + 1) = ((i + 1 : Nat) : Int) := by
  rw [wr_in _ (by omega)]
  omega
theorem info23 : (Try.prog.info? 23).map (fun i => (i.zero, i.size, i.bytes)) = some (some (.int .u32 0), 1, 4) := by kernel_rfl
theorem cut_last (W : World) (g n c m : Nat) (hm : m + 1 = n) (hc : n ≤ c) : (Instr.slice 67 (.slice (some ⟨g, 0, none⟩) n c) (some (.int .i64 (m : Int))) none none).run Try.prog W = .ok (.slice (some ⟨g, m, none⟩) 1 (c - m)) W := by
  obtain ⟨i0, hi0, _, hsz, _⟩ := info_parts info23
  have hel : Try.prog.elem 67 = 23 := by simp [Program.elem, Try.underlying67]
  rw [run_slice_l W 67 (some ⟨g, 0, none⟩) n c (by rw [hel]; exact Try.underlying67) .i64 (m : Int) (by omega) (by omega), hel]
  have h1 : ¬ c = m := by omega
  have h2 : n - m = 1 := by omega
  simp [typeInfo, hi0, hsz, sliced, h1, h2, add0]
theorem cut_to (W : World) (A : Option Addr) (c n m : Nat) (xs : List Int) (hl : xs.length = n) (hc : n ≤ c) (hm : m ≤ n) : (Instr.slice 67 (.slice A n c) none (some (.int .i64 (m : Int))) none).run Try.prog W = .ok (.slice A m c) W := by
  obtain ⟨i0, hi0, _, hsz, _⟩ := info_parts info23
  obtain ⟨h, _⟩ := print_take_of (P := Try.prog) (Value.int .u32) 0 67 23 .i64 Try.underlying67 hi0 hsz A c xs (m : Int) (by omega) (by omega) (by omega)
  rw [Int.toNat_natCast, List.length_take, hl, Nat.min_eq_left hm] at h
  exact h W
/-- What a row holds while what stands behind a number is moved one place ahead. -/
structure Mv (pre post ys : List Int) (m : Nat) : Prop where
  len : ys.length = pre.length + 1 + post.length
  tk : ys.take (pre.length + m) = pre ++ post.take m
  dr : ys.drop (pre.length + 1 + m) = post.drop m
theorem Mv.start (pre post : List Int) (p : Int) : Mv pre post (pre ++ p :: post) 0 := by
  refine ⟨by rw [List.length_append, List.length_cons]; omega, by simp, ?_⟩
  rw [Nat.add_zero, List.drop_append, List.drop_eq_nil_of_le (by omega), List.nil_append, show pre.length + 1 - pre.length = 1 by omega]
  rfl
theorem Mv.at {pre post ys : List Int} {m : Nat} (h : Mv pre post ys m) (hm : m < post.length) : rd ys ((pre.length + 1 + m : Nat) : Int) = post[m] := by
  have h1 : (ys.drop (pre.length + 1 + m))[0]? = (post.drop m)[0]? := by rw [h.dr]
  simp only [List.getElem?_drop, Nat.add_zero] at h1
  rw [List.getElem?_eq_getElem hm] at h1
  rw [rd, Int.toNat_natCast, List.getD_eq_getElem?_getD, h1]
  rfl
theorem Mv.next {pre post ys : List Int} {m : Nat} (h : Mv pre post ys m) (hm : m < post.length) : Mv pre post (ys.set (pre.length + m) post[m]) (m + 1) := by
  have hl := h.len
  refine ⟨by rw [List.length_set]; exact hl, ?_, ?_⟩
  · have h1 : pre.length + m < ys.length := by omega
    have e : (ys.set (pre.length + m) post[m]).take (pre.length + m + 1) = (ys.set (pre.length + m) post[m]).take (pre.length + m) ++ [post[m]] := by
      rw [List.take_succ_eq_append_getElem (by rw [List.length_set]; exact h1)]
      simp
    rw [show pre.length + (m + 1) = pre.length + m + 1 by omega, e, List.take_set_of_le (Nat.le_refl _), h.tk, List.take_succ_eq_append_getElem hm, List.append_assoc]
  · rw [List.drop_set_of_lt (by omega), show pre.length + 1 + (m + 1) = pre.length + 1 + m + 1 by omega, ← List.drop_drop, h.dr, List.drop_drop]
theorem Mv.last {pre post ys : List Int} (h : Mv pre post ys post.length) : ys.take (pre.length + post.length) = pre ++ post := by
  rw [h.tk, List.take_length]
theorem set1 (W : World) (g i : Nat) (z : Value) : W.setCells g i (List.replicate 1 z) = W.setCell ⟨g, i, none⟩ z := rfl
set_option maxHeartbeats 4000000 in
theorem delfunc_ok (w : World) (gb : Nat) (p : Int) (hb : w.heap[gb]? = some (.cells #[.int .u32 p] 23 (0, 0))) (g cap n base : Nat) (ok : Nat → Prop) (hne : gb ≠ g) (pre post : List Int) (hn : n = pre.length + 1 + post.length) (hpre : ∀ x ∈ pre, x ≠ p) (hpost : ∀ x ∈ post, x ≠ p) (hlen : n ≤ 100000)
    (HO : Kd.R (Kd.int .u32) 23 w base ok (.slice (some ⟨g, 0, none⟩) n cap) (pre ++ p :: post)) :
    Calls Try.prog 70 #[.slice (some ⟨g, 0, none⟩) n cap, .func (.func 71) #[] #[.pointer (some ⟨gb, 0, none⟩)]] w fun e w' => e = .returned (.slice (some ⟨g, 0, none⟩) (n - 1) cap) ∧ Kd.R (Kd.int .u32) 23 w' base ok (.slice (some ⟨g, 0, none⟩) (n - 1) cap) (pre ++ post) ∧ w.grownBy w' (some g) := by
  have hcap := (Kd.R_reads' HO).2.1
  have HP := Aside0.mk (And.intro hpre (And.intro hpost (And.intro hn (And.intro hlen hcap))))
  have HR := Aside0.mk HO
  have HX := Aside0.mk hb
  have HNE := Aside0.mk hne
  have k1 : ((pre.length : Int) == -1) = false := beq_eq_false_iff_ne.mpr (by omega)
  have k2 : wrap64 ((pre.length : Int) + 1) = ((pre.length + 1 + 0 : Nat) : Int) := by rw [wr_in _ (by omega)]; omega
  clear hpre hpost hn hlen HO hcap hb hne
  go_enter Try.func70, Try.ntmps70
  go_wp2_with (go_at_call 81; (with_reducible refine (index_ok w gb p ((blk_cell HX.out 0).trans rfl) (some ⟨g, 0, none⟩) n cap pre post HP.out.2.2.1 HP.out.1 HP.out.2.2.2.1 (C_n HR.out)).mono ?_); rintro en w1 ⟨rfl, rfl⟩)
  go_loopg [5, 6] post.length (fun kq v5 v6 w' => ∃ (m : Nat) (ys : List Int), v5 = .int .i64 ((pre.length + m : Nat) : Int) ∧ v6 = .int .i64 ((pre.length + 1 + m : Nat) : Int) ∧ Aside0 (kq + m = post.length) ∧ Aside0 (Mv pre post ys m) ∧ Aside0 (Kd.R (Kd.int .u32) 23 w' base ok (.slice (some ⟨g, 0, none⟩) n cap) ys) ∧ Aside0 (w1.grownBy w' (some g)))
  case atStart => exact ⟨0, _, rfl, by first | rfl | (rw [k2]), ⟨by omega⟩, ⟨Mv.start pre post p⟩, HR, ⟨World.grownBy.refl _ _⟩⟩
  case round =>
    clear k1 k2
    obtain ⟨m, ys, rfl, rfl, HI, HM, HO, HG⟩ := hrel
    have en : n = ys.length := by rw [HM.out.len]; exact HP.out.2.2.1
    have hl := HM.out.len
    have hlen := HP.out.2.2.2.1
    have hcap := HP.out.2.2.2.2
    obtain ⟨j, hj⟩ : ∃ j, j = pre.length + 1 + m := ⟨_, rfl⟩
    obtain ⟨i, hi⟩ : ∃ i, i = pre.length + m := ⟨_, rfl⟩
    rw [← hj, ← hi]
    have hmp : m ≤ post.length := by have := HI.out; omega
    have gi : i ≤ 1000000 := by omega
    have gj : j ≤ 1000000 := by omega
    have hzi := Kd.R_cell (0 : Int) (en ▸ HO.out) (i : Int) (by omega) (by omega)
    rw [Int.toNat_natCast] at hzi
    obtain ⟨hzi1, hzi2⟩ := hzi
    by_cases h : m < post.length
    · have c1 : decide ((j : Int) < (n : Int)) = true := decide_eq_true (by omega)
      have c1b : decide (j < n) = true := decide_eq_true (by omega)
      have hat := HM.out.at h
      obtain ⟨v, hv⟩ : ∃ v, v = post[m] := ⟨_, rfl⟩
      have hvp : v ≠ p := by rw [hv]; exact HP.out.2.1 _ (List.getElem_mem h)
      have HM2 := Aside0.mk (HM.out.next h)
      rw [← hv, ← hi] at HM2
      rw [← hv, ← hj] at hat
      have hzj := Kd.R_cell (0 : Int) (en ▸ HO.out) (j : Int) (by omega) (by omega)
      rw [Int.toNat_natCast, show rdOf (0 : Int) ys (j : Int) = rd ys (j : Int) from rfl, hat] at hzj
      obtain ⟨hzj1, hzj2⟩ := hzj
      have ea : Addr.add ⟨g, 0, none⟩ j = ⟨g, j, none⟩ := add0 _ _
      have eb : Addr.add ⟨g, 0, none⟩ i = ⟨g, i, none⟩ := add0 _ _
      have p8 : (0 ≤ (j : Int)) = True := eq_true (by omega)
      have q8 : ((j : Int) < (n : Int)) = True := eq_true (by omega)
      have q8b : (j < n) = True := eq_true (by omega)
      have p9 : (0 ≤ (i : Int)) = True := eq_true (by omega)
      have q9 : ((i : Int) < (n : Int)) = True := eq_true (by omega)
      have q9b : (i < n) = True := eq_true (by omega)
      have c2 : (v == p) = false := beq_eq_false_iff_ne.mpr hvp
      have w1' : wrap64 ((i : Int) + 1) = ((i + 1 : Nat) : Int) := wadd i gi
      have w2' : wrap64 ((j : Int) + 1) = ((j + 1 : Nat) : Int) := wadd j gj
      have hxb := (blk_cell (blk_grown HX.out HG.out (by intro e; injection e with e; exact HNE.out e)) 0).trans rfl
      have HJ := Aside0.mk (And.intro hj (And.intro hi h))
      clear hat hv hvp hj hi hl en hlen hcap h hmp
      go_wp2_with (go_at_call 71; (with_reducible refine (is_ok _ v p gb hxb).mono ?_); rintro en w2 ⟨rfl, rfl⟩)
      go_roundg (gk - 1)
      case measure => have h1 := HI.out; have h2 := HJ.out.2.2; omega
      case rel =>
        have h1 := HI.out
        have h2 := HJ.out
        exact ⟨m + 1, ys.set i v, by first | rfl | (rw [w1']; congr 2; omega) | (congr 2; omega), by first | rfl | (rw [w2']; congr 2; omega) | (congr 2; omega), ⟨by omega⟩, HM2, ⟨Kd.R_putn HO.out (i : Int) v⟩, ⟨HG.out.trans (Kd.R_putg HO.out (i : Int) v).2⟩⟩
    · have hm : m = post.length := by omega
      have c1 : decide ((j : Int) < (n : Int)) = false := decide_eq_false (by omega)
      have c1b : decide (j < n) = false := decide_eq_false (by omega)
      have hin : i + 1 = n := by omega
      have hc1 := fun W => cut_last W g n cap i hin hcap
      have hc2 := fun W => cut_to W (some ⟨g, 0, none⟩) cap n i ys en.symm hcap (by omega)
      have hcl := Go.Lib.run_clear_slice wr 67 23 0 (.int .u32 0) Try.underlying67 (fun w => by obtain ⟨i0, hi0, hz, _⟩ := info_parts info23; simp [zeroValue, typeInfo, hi0, hz]) rfl rfl g i 1 (cap - i) (by decide) (fun j hj => by rw [show j = 0 by omega, Nat.add_zero, hzi1]; rfl) (fun j hj => by rw [show j = 0 by omega, Nat.add_zero]; exact hzi2)
      rw [set1] at hcl
      have hfin : Kd.R (Kd.int .u32) 23 (wr.setCell ⟨g, i, none⟩ (.int .u32 0)) base ok (.slice (some ⟨g, 0, none⟩) (n - 1) cap) (pre ++ post) := by
        have h2 := Kd.R_take (m := i) (Kd.R_putn HO.out (i : Int) 0) (by rw [List.length_set]; omega)
        have h3 : (ys.set (i : Int).toNat 0).take i = pre ++ post := by
          have hM := HM.out
          rw [hm] at hM
          rw [Int.toNat_natCast, List.take_set_of_le (Nat.le_refl _), hi, hm]
          exact hM.last
        rw [h3] at h2
        rw [show n - 1 = i by omega]
        exact h2
      have HF := Aside0.mk (And.intro hfin (HG.out.trans (Kd.R_putg HO.out (i : Int) 0).2))
      have HE := Aside0.mk (show i = n - 1 by omega)
      clear hfin hm hin h hj hi hl en hlen hcap hzi1 hzi2 hmp
      go_wp2
      go_ret
      exact ⟨by rw [HE.out]; rfl, HF.out.1, HF.out.2⟩
end Go.Proofs.Ytolgcohmmghehaa.Pool
