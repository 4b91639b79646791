/- What the pool's own calls of sync/atomic and of package slices do: counters in a box's cell; rows of numbers from which those that fall out are taken. Conditions: stated in each theorem. -/
import Derived.Test.YtpfegfkniilobaaDskF
import Derived.Test.YtpfegfkniilobaaProg
import Derived.Test.YtpfegfkniilobaaWWords
import Derived.Test.YtpfegfkniilobaaWMore
import Derived.Lib.SliceRun
import Derived.Laws.IdiomCopy
import Derived.Test.YtpfegfkniilobaaShelf
import Derived.Laws.LoneSync
import Derived.BigRegion
import Derived.Deep.RegionWith
import Derived.Deep.DeepCutAuto
import Derived.Maps.OwnSet
import Derived.Carry
import Derived.BigQuiet
import Derived.Deep.QuietTactic
import Derived.Deep.RegionLaw
namespace Go.Proofs.Ytpfegfkniilobaa.Pool
open Go.RowKit Go.Proofs.YtpfegfkniilobaaW.PrintWords Go.Proofs.YtpfegfkniilobaaW.PrintLast Go.Proofs.YtpfegfkniilobaaW.PrintMore Go.Proofs.Ytpfegfkniilobaa.Byt Go.Proofs.Ytpfegfkniilobaa.Dsk
set_option linter.unusedVariables false
set_option linter.unusedSimpArgs false
set_option maxRecDepth 100000
/-! ### counters -/
theorem add_ok (w : World) (a : Addr) (x : Int) (hc : w.cell? a = some (.int .u64 x)) (hz : w.frozen? a = false) (ha : ∃ g o, a = ⟨g, o, none⟩) :
    Calls Try.prog 113 #[.pointer (some a), .int .u64 1] w fun e w' => e = .returned (.int .u64 ((x + 1) % 18446744073709551616)) ∧ w' = w.setCell a (.int .u64 ((x + 1) % 18446744073709551616)) := by
  obtain ⟨g, o, rfl⟩ := ha
  have hadd := run_call_add (P := Try.prog) Try.func125 (by kernel_rfl) (by kernel_rfl) (by kernel_rfl) .u64 (by kernel_rfl) (y := 1) (s := (x + 1) % 18446744073709551616) hc hz (by simp [go_sem, IntKind.wrap, IntKind.bits, IntKind.signed])
  go_enter Try.func113, Try.ntmps113
  go_wp2
  go_ret
  exact ⟨rfl, rfl⟩
/-! ### rows of numbers -/
theorem is_ok (w : World) (x p : Int) (gb : Nat) (hx : w.cell? ⟨gb, 0, none⟩ = some (.int .u32 p)) : Calls Try.prog 115 #[.int .u32 x, .pointer (some ⟨gb, 0, none⟩)] w fun e w' => e = .returned (.bool (x == p)) ∧ w' = w := by
  go_enter Try.func115, Try.ntmps115
  go_wp2
  go_ret
  exact ⟨rfl, rfl⟩
theorem rd_pre (pre post : List Int) (p : Int) (i : Nat) (h : i < pre.length) : rd (pre ++ p :: post) (i : Int) ∈ pre := by
  rw [rd, Int.toNat_natCast, List.getD_eq_getElem?_getD, List.getElem?_append_left h, List.getElem?_eq_getElem h]
  exact List.getElem_mem h
theorem rd_at (pre post : List Int) (p : Int) : rd (pre ++ p :: post) (pre.length : Int) = p := by
  rw [rd, Int.toNat_natCast, List.getD_eq_getElem?_getD, List.getElem?_append_right (Nat.le_refl _), Nat.sub_self]
  rfl
set_option maxHeartbeats 4000000 in
theorem index_ok (w : World) (gb : Nat) (p : Int) (hx : w.cell? ⟨gb, 0, none⟩ = some (.int .u32 p)) (A : Option Addr) (n c : Nat) (pre post : List Int) (hn : n = pre.length + 1 + post.length) (hpre : ∀ x ∈ pre, x ≠ p) (hlen : n ≤ 100000) (hC : Kd.C (Kd.int .u32) w A n (pre ++ p :: post)) :
    Calls Try.prog 126 #[.slice A n c, .func (.func 115) #[] #[.pointer (some ⟨gb, 0, none⟩)]] w fun e w' => e = .returned (.int .i64 (pre.length : Int)) ∧ w' = w := by
  have HC := Aside0.mk (And.intro hC (And.intro hpre (And.intro hn hlen)))
  clear hC hpre hn hlen
  go_enter Try.func126, Try.ntmps126
  go_wp2
  go_loopg [8] (pre.length + 1) (fun kq v8 w' => ∃ i : Nat, v8 = .int .i64 (i : Int) ∧ Aside0 (kq + i = pre.length + 1 ∧ i ≤ pre.length) ∧ w' = w)
  case atStart => exact ⟨0, rfl, ⟨by omega⟩, rfl⟩
  case round =>
    obtain ⟨i, rfl, HI, rfl⟩ := hrel
    have c1 : decide ((i : Int) < (n : Int)) = true := decide_eq_true (by have := HI.out; have := HC.out.2.2.1; omega)
    have c1b : decide (i < n) = true := decide_eq_true (by have := HI.out; have := HC.out.2.2.1; omega)
    obtain ⟨ad, e1, hx0⟩ := Kd.at_int HC.out.1 (i : Int) (by omega) (by have := HI.out; have := HC.out.2.2.1; omega)
    subst e1
    have p9 : (0 ≤ (i : Int)) = True := eq_true (by omega)
    have q9 : ((i : Int) < (n : Int)) = True := eq_true (by have := HI.out; have := HC.out.2.2.1; omega)
    have q9b : (i < n) = True := eq_true (by have := HI.out; have := HC.out.2.2.1; omega)
    rw [Int.toNat_natCast] at hx0
    by_cases h : i < pre.length
    · have hm := HC.out.2.1 _ (rd_pre pre post p i h)
      obtain ⟨y, hy⟩ : ∃ y, y = rd (pre ++ p :: post) (i : Int) := ⟨_, rfl⟩
      rw [← hy] at hx0 hm
      have c2 : (y == p) = false := beq_eq_false_iff_ne.mpr hm
      have H := Aside0.mk h
      clear hy hm h
      go_wp2_with (go_at_call 115; (with_reducible refine (is_ok _ y p gb hx).mono ?_); rintro en w1 ⟨rfl, rfl⟩)
      go_roundg (gk - 1)
      case measure => have h1 := HI.out; have h2 := H.out; omega
      case rel =>
        have h1 := HI.out
        have h2 := H.out
        have h3 := HC.out.2.2
        exact ⟨i + 1, by rw [wr_in ((i : Int) + 1) (by omega)]; rfl, ⟨by omega⟩, rfl⟩
    · have hi : i = pre.length := by have := HI.out; omega
      subst hi
      rw [rd_at] at hx0
      have c2 : (p == p) = true := beq_self_eq_true p
      go_wp2_with (go_at_call 115; (with_reducible refine (is_ok _ p p gb hx).mono ?_); rintro en w1 ⟨rfl, rfl⟩)
      go_ret
      exact ⟨rfl, rfl⟩
theorem C_n {w : World} {base n c : Nat} {ok : Nat → Prop} {A : Option Addr} {xs : List Int} (h : Kd.R (Kd.int .u32) 36 w base ok (.slice A n c) xs) : Kd.C (Kd.int .u32) w A n xs := by
  obtain ⟨rfl, _, h⟩ := Kd.R_reads' h
  exact h
theorem wadd (i : Nat) (h : i ≤ 1000000) : wrap64 ((i : Int) + 1) = ((i + 1 : Nat) : Int) := by
  rw [wr_in _ (by omega)]
  omega
theorem info36 : (Try.prog.info? 36).map (fun i => (i.zero, i.size, i.bytes)) = some (some (.int .u32 0), 1, 4) := by kernel_rfl
theorem cut_last (W : World) (g n c m : Nat) (hm : m + 1 = n) (hc : n ≤ c) : (Instr.slice 53 (.slice (some ⟨g, 0, none⟩) n c) (some (.int .i64 (m : Int))) none none).run Try.prog W = .ok (.slice (some ⟨g, m, none⟩) 1 (c - m)) W := by
  obtain ⟨i0, hi0, _, hsz, _⟩ := info_parts info36
  have hel : Try.prog.elem 53 = 36 := by simp [Program.elem, Try.underlying53]
  rw [run_slice_l W 53 (some ⟨g, 0, none⟩) n c (by rw [hel]; exact Try.underlying53) .i64 (m : Int) (by omega) (by omega), hel]
  have h1 : ¬ c = m := by omega
  have h2 : n - m = 1 := by omega
  simp [typeInfo, hi0, hsz, sliced, h1, h2, add0]
theorem cut_to (W : World) (A : Option Addr) (c n m : Nat) (xs : List Int) (hl : xs.length = n) (hc : n ≤ c) (hm : m ≤ n) : (Instr.slice 53 (.slice A n c) none (some (.int .i64 (m : Int))) none).run Try.prog W = .ok (.slice A m c) W := by
  obtain ⟨i0, hi0, _, hsz, _⟩ := info_parts info36
  obtain ⟨h, _⟩ := print_take_of (P := Try.prog) (Value.int .u32) 0 53 36 .i64 Try.underlying53 hi0 hsz A c xs (m : Int) (by omega) (by omega) (by omega)
  rw [Int.toNat_natCast, List.length_take, hl, Nat.min_eq_left hm] at h
  exact h W
/-- What a row holds while what stands behind a number is moved one place ahead. -/
structure Mv (pre post ys : List Int) (m : Nat) : Prop where
  len : ys.length = pre.length + 1 + post.length
  tk : ys.take (pre.length + m) = pre ++ post.take m
  dr : ys.drop (pre.length + 1 + m) = post.drop m
theorem Mv.start (pre post : List Int) (p : Int) : Mv pre post (pre ++ p :: post) 0 := by
  refine ⟨by rw [List.length_append, List.length_cons]; omega, by simp, ?_⟩
  rw [Nat.add_zero, List.drop_append, List.drop_eq_nil_of_le (by omega), List.nil_append, show pre.length + 1 - pre.length = 1 by omega]
  rfl
theorem Mv.at {pre post ys : List Int} {m : Nat} (h : Mv pre post ys m) (hm : m < post.length) : rd ys ((pre.length + 1 + m : Nat) : Int) = post[m] := by
  have h1 : (ys.drop (pre.length + 1 + m))[0]? = (post.drop m)[0]? := by rw [h.dr]
  simp only [List.getElem?_drop, Nat.add_zero] at h1
  rw [List.getElem?_eq_getElem hm] at h1
  rw [rd, Int.toNat_natCast, List.getD_eq_getElem?_getD, h1]
  rfl
theorem Mv.next {pre post ys : List Int} {m : Nat} (h : Mv pre post ys m) (hm : m < post.length) : Mv pre post (ys.set (pre.length + m) post[m]) (m + 1) := by
  have hl := h.len
  refine ⟨by rw [List.length_set]; exact hl, ?_, ?_⟩
  · have h1 : pre.length + m < ys.length := by omega
    have e : (ys.set (pre.length + m) post[m]).take (pre.length + m + 1) = (ys.set (pre.length + m) post[m]).take (pre.length + m) ++ [post[m]] := by
      rw [List.take_succ_eq_append_getElem (by rw [List.length_set]; exact h1)]
      simp
    rw [show pre.length + (m + 1) = pre.length + m + 1 by omega, e, List.take_set_of_le (Nat.le_refl _), h.tk, List.take_succ_eq_append_getElem hm, List.append_assoc]
  · rw [List.drop_set_of_lt (by omega), show pre.length + 1 + (m + 1) = pre.length + 1 + m + 1 by omega, ← List.drop_drop, h.dr, List.drop_drop]
theorem Mv.last {pre post ys : List Int} (h : Mv pre post ys post.length) : ys.take (pre.length + post.length) = pre ++ post := by
  rw [h.tk, List.take_length]
theorem set1 (W : World) (g i : Nat) (z : Value) : W.setCells g i (List.replicate 1 z) = W.setCell ⟨g, i, none⟩ z := rfl
set_option maxHeartbeats 4000000 in
theorem delfunc_ok (w : World) (gb : Nat) (p : Int) (hb : w.heap[gb]? = some (.cells #[.int .u32 p] 36 (0, 0))) (g cap n base : Nat) (ok : Nat → Prop) (hne : gb ≠ g) (pre post : List Int) (hn : n = pre.length + 1 + post.length) (hpre : ∀ x ∈ pre, x ≠ p) (hpost : ∀ x ∈ post, x ≠ p) (hlen : n ≤ 100000)
    (HO : Kd.R (Kd.int .u32) 36 w base ok (.slice (some ⟨g, 0, none⟩) n cap) (pre ++ p :: post)) :
    Calls Try.prog 114 #[.slice (some ⟨g, 0, none⟩) n cap, .func (.func 115) #[] #[.pointer (some ⟨gb, 0, none⟩)]] w fun e w' => e = .returned (.slice (some ⟨g, 0, none⟩) (n - 1) cap) ∧ Kd.R (Kd.int .u32) 36 w' base ok (.slice (some ⟨g, 0, none⟩) (n - 1) cap) (pre ++ post) ∧ w.grownBy w' (some g) := by
  have hcap := (Kd.R_reads' HO).2.1
  have HP := Aside0.mk (And.intro hpre (And.intro hpost (And.intro hn (And.intro hlen hcap))))
  have HR := Aside0.mk HO
  have HX := Aside0.mk hb
  have HNE := Aside0.mk hne
  have k1 : ((pre.length : Int) == -1) = false := beq_eq_false_iff_ne.mpr (by omega)
  have k2 : wrap64 ((pre.length : Int) + 1) = ((pre.length + 1 + 0 : Nat) : Int) := by rw [wr_in _ (by omega)]; omega
  clear hpre hpost hn hlen HO hcap hb hne
  go_enter Try.func114, Try.ntmps114
  go_wp2_with (go_at_call 126; (with_reducible refine (index_ok w gb p ((blk_cell HX.out 0).trans rfl) (some ⟨g, 0, none⟩) n cap pre post HP.out.2.2.1 HP.out.1 HP.out.2.2.2.1 (C_n HR.out)).mono ?_); rintro en w1 ⟨rfl, rfl⟩)
  go_loopg [5, 6] post.length (fun kq v5 v6 w' => ∃ (m : Nat) (ys : List Int), v5 = .int .i64 ((pre.length + m : Nat) : Int) ∧ v6 = .int .i64 ((pre.length + 1 + m : Nat) : Int) ∧ Aside0 (kq + m = post.length) ∧ Aside0 (Mv pre post ys m) ∧ Aside0 (Kd.R (Kd.int .u32) 36 w' base ok (.slice (some ⟨g, 0, none⟩) n cap) ys) ∧ Aside0 (w1.grownBy w' (some g)))
  case atStart => exact ⟨0, _, rfl, by first | rfl | (rw [k2]), ⟨by omega⟩, ⟨Mv.start pre post p⟩, HR, ⟨World.grownBy.refl _ _⟩⟩
  case round =>
    clear k1 k2
    obtain ⟨m, ys, rfl, rfl, HI, HM, HO, HG⟩ := hrel
    have en : n = ys.length := by rw [HM.out.len]; exact HP.out.2.2.1
    have hl := HM.out.len
    have hlen := HP.out.2.2.2.1
    have hcap := HP.out.2.2.2.2
    obtain ⟨j, hj⟩ : ∃ j, j = pre.length + 1 + m := ⟨_, rfl⟩
    obtain ⟨i, hi⟩ : ∃ i, i = pre.length + m := ⟨_, rfl⟩
    rw [← hj, ← hi]
    have hmp : m ≤ post.length := by have := HI.out; omega
    have gi : i ≤ 1000000 := by omega
    have gj : j ≤ 1000000 := by omega
    have hzi := Kd.R_cell (0 : Int) (en ▸ HO.out) (i : Int) (by omega) (by omega)
    rw [Int.toNat_natCast] at hzi
    obtain ⟨hzi1, hzi2⟩ := hzi
    by_cases h : m < post.length
    · have c1 : decide ((j : Int) < (n : Int)) = true := decide_eq_true (by omega)
      have c1b : decide (j < n) = true := decide_eq_true (by omega)
      have hat := HM.out.at h
      obtain ⟨v, hv⟩ : ∃ v, v = post[m] := ⟨_, rfl⟩
      have hvp : v ≠ p := by rw [hv]; exact HP.out.2.1 _ (List.getElem_mem h)
      have HM2 := Aside0.mk (HM.out.next h)
      rw [← hv, ← hi] at HM2
      rw [← hv, ← hj] at hat
      have hzj := Kd.R_cell (0 : Int) (en ▸ HO.out) (j : Int) (by omega) (by omega)
      rw [Int.toNat_natCast, show rdOf (0 : Int) ys (j : Int) = rd ys (j : Int) from rfl, hat] at hzj
      obtain ⟨hzj1, hzj2⟩ := hzj
      have ea : Addr.add ⟨g, 0, none⟩ j = ⟨g, j, none⟩ := add0 _ _
      have eb : Addr.add ⟨g, 0, none⟩ i = ⟨g, i, none⟩ := add0 _ _
      have p8 : (0 ≤ (j : Int)) = True := eq_true (by omega)
      have q8 : ((j : Int) < (n : Int)) = True := eq_true (by omega)
      have q8b : (j < n) = True := eq_true (by omega)
      have p9 : (0 ≤ (i : Int)) = True := eq_true (by omega)
      have q9 : ((i : Int) < (n : Int)) = True := eq_true (by omega)
      have q9b : (i < n) = True := eq_true (by omega)
      have c2 : (v == p) = false := beq_eq_false_iff_ne.mpr hvp
      have w1' : wrap64 ((i : Int) + 1) = ((i + 1 : Nat) : Int) := wadd i gi
      have w2' : wrap64 ((j : Int) + 1) = ((j + 1 : Nat) : Int) := wadd j gj
      have hxb := (blk_cell (blk_grown HX.out HG.out (by intro e; injection e with e; exact HNE.out e)) 0).trans rfl
      have HJ := Aside0.mk (And.intro hj (And.intro hi h))
      clear hat hv hvp hj hi hl en hlen hcap h hmp
      go_wp2_with (go_at_call 115; (with_reducible refine (is_ok _ v p gb hxb).mono ?_); rintro en w2 ⟨rfl, rfl⟩)
      go_roundg (gk - 1)
      case measure => have h1 := HI.out; have h2 := HJ.out.2.2; omega
      case rel =>
        have h1 := HI.out
        have h2 := HJ.out
        exact ⟨m + 1, ys.set i v, by first | rfl | (rw [w1']; congr 2; omega) | (congr 2; omega), by first | rfl | (rw [w2']; congr 2; omega) | (congr 2; omega), ⟨by omega⟩, HM2, ⟨Kd.R_putn HO.out (i : Int) v⟩, ⟨HG.out.trans (Kd.R_putg HO.out (i : Int) v).2⟩⟩
    · have hm : m = post.length := by omega
      have c1 : decide ((j : Int) < (n : Int)) = false := decide_eq_false (by omega)
      have c1b : decide (j < n) = false := decide_eq_false (by omega)
      have hin : i + 1 = n := by omega
      have hc1 := fun W => cut_last W g n cap i hin hcap
      have hc2 := fun W => cut_to W (some ⟨g, 0, none⟩) cap n i ys en.symm hcap (by omega)
      have hcl := Go.Lib.run_clear_slice wr 53 36 0 (.int .u32 0) Try.underlying53 (fun w => by obtain ⟨i0, hi0, hz, _⟩ := info_parts info36; simp [zeroValue, typeInfo, hi0, hz]) rfl rfl g i 1 (cap - i) (by decide) (fun j hj => by rw [show j = 0 by omega, Nat.add_zero, hzi1]; rfl) (fun j hj => by rw [show j = 0 by omega, Nat.add_zero]; exact hzi2)
      rw [set1] at hcl
      have hfin : Kd.R (Kd.int .u32) 36 (wr.setCell ⟨g, i, none⟩ (.int .u32 0)) base ok (.slice (some ⟨g, 0, none⟩) (n - 1) cap) (pre ++ post) := by
        have h2 := Kd.R_take (m := i) (Kd.R_putn HO.out (i : Int) 0) (by rw [List.length_set]; omega)
        have h3 : (ys.set (i : Int).toNat 0).take i = pre ++ post := by
          have hM := HM.out
          rw [hm] at hM
          rw [Int.toNat_natCast, List.take_set_of_le (Nat.le_refl _), hi, hm]
          exact hM.last
        rw [h3] at h2
        rw [show n - 1 = i by omega]
        exact h2
      have HF := Aside0.mk (And.intro hfin (HG.out.trans (Kd.R_putg HO.out (i : Int) 0).2))
      have HE := Aside0.mk (show i = n - 1 by omega)
      clear hfin hm hin h hj hi hl en hlen hcap hzi1 hzi2 hmp
      go_wp2
      go_ret
      exact ⟨by rw [HE.out]; rfl, HF.out.1, HF.out.2⟩
end Go.Proofs.Ytpfegfkniilobaa.Pool
namespace Go.Proofs.Ytpfegfkniilobaa.Pool
open Go.Proofs.YtpfegfkniilobaaW
open Go.RowKit Go.Proofs.YtpfegfkniilobaaW.PrintWords Go.Proofs.YtpfegfkniilobaaW.PrintLast Go.Proofs.YtpfegfkniilobaaW.PrintMore Go.Proofs.Ytpfegfkniilobaa.Byt Go.Proofs.Ytpfegfkniilobaa.Dsk
set_option linter.unusedVariables false
set_option linter.unusedSimpArgs false
set_option maxRecDepth 100000
/-- What is kept of a world: all blocks but those of S, and what is no memory. -/
structure Kp (w W : World) (S : Nat → Prop) : Prop where
  size : w.heap.size ≤ W.heap.size
  same : ∀ i, i < w.heap.size → ¬ S i → W.heap[i]? = w.heap[i]?
  os : W.os = w.os
  tape : W.tape = w.tape
  output : W.output = w.output
section
variable {w W W2 : World} {S : Nat → Prop}
theorem Kp.kept (h : Kp w W S) : Kept w W S := ⟨h.size, h.same⟩
theorem Kp.of_below (h : Below w.heap.size w W) (S : Nat → Prop) : Kp w W S := ⟨h.size, fun i hi _ => h.block i hi, h.os, h.tape, h.output⟩
theorem Kp.below (h : Kp w W S) (hb : Below W.heap.size W W2) : Kp w W2 S := by
  have k := h.kept.below hb
  exact ⟨k.1, k.2, hb.os.trans h.os, hb.tape.trans h.tape, hb.output.trans h.output⟩
theorem Kp.drewN (h : Kp w W S) (m : Nat) : Kp w (W.drewN m) S := h.below (pw_below_drewN (Below.refl _ _) m)
theorem Kp.drew (h : Kp w W S) : Kp w W.drew S := h.below (below_drew1 (Below.refl _ _))
theorem Kp.setCell (h : Kp w W S) {p : Addr} (hp : S p.block ∨ w.heap.size ≤ p.block) (u : Value) : Kp w (W.setCell p u) S := by
  have k := h.kept.setCell hp u
  have b := (Below.refl 0 W).setCell (Nat.zero_le p.block) u
  exact ⟨k.1, k.2, b.os.trans h.os, b.tape.trans h.tape, b.output.trans h.output⟩
theorem Kp.of_grown {row : Option Nat} (hg : W.grownBy W2 row) (h : Kp w W S) (hr : ∀ k, row = some k → S k ∨ w.heap.size ≤ k) : Kp w W2 S := by
  have k := Kept.of_grown hg h.kept hr
  exact ⟨k.1, k.2, hg.os.trans h.os, hg.tape.trans h.tape, hg.output.trans h.output⟩
theorem Kp.to_below (h : Kp w W S) (B : Nat) (hB : ∀ k, S k → B ≤ k) (hw : B ≤ w.heap.size) : Below B w W := ⟨h.os, h.tape, h.output, h.size, fun k hk => h.same k (Nat.lt_of_lt_of_le hk hw) fun hs => Nat.lt_irrefl _ (Nat.lt_of_lt_of_le hk (hB k hs))⟩
end
/-- A row's head as a datum: which block, how long, how much room. -/
def Rv : Value → Option (DataW Unit × List MemPlace)
  | .slice none 0 0 => some (.agg [], [])
  | .slice (some ⟨g, 0, none⟩) n c => some (.agg [.lit (.int .i64 g), .lit (.int .i64 n), .lit (.int .i64 c)], [])
  | _ => none
theorem Rv_nil : Rv (.slice none 0 0) = some (.agg [], []) := rfl
theorem Rv_mk (g n c : Nat) : Rv (.slice (some ⟨g, 0, none⟩) n c) = some (.agg [.lit (.int .i64 g), .lit (.int .i64 n), .lit (.int .i64 c)], []) := rfl
theorem Rv_inj {v v' : Value} {d : DataW Unit} {ps ps' : List MemPlace} (h : Rv v = some (d, ps)) (h' : Rv v' = some (d, ps')) : v = v' := by
  unfold Rv at h h'
  split at h
  · split at h'
    · rfl
    · simp at h h'
      rw [← h.1] at h'
      simp at h'
    · simp at h'
  · split at h'
    · simp at h h'
      rw [← h'.1] at h
      simp at h
    · simp at h h'
      rw [← h.1] at h'
      simp at h'
      obtain ⟨⟨h1, h2, h3⟩, _⟩ := h'
      have e1 := Int.natCast_inj.mp h1
      have e2 := Int.natCast_inj.mp h2
      have e3 := Int.natCast_inj.mp h3
      subst e1 e2 e3
      rfl
    · simp at h'
  · simp at h
/-- A page's number as a key. -/
def kl (p : Int) : Lit := .int .u32 p
theorem key_of (p : Int) (h : 0 ≤ p ∧ p < 4294967296) : keyOf Try.prog 36 (.int .u32 p) = some (kl p) := Maps.keyOf_int_mk Try.underlying36 (by simp [Lit.wf, IntKind.min, IntKind.max, IntKind.signed, IntKind.bits]; omega)
theorem key_ne {p q : Int} (h : p ≠ q) : kl p ≠ kl q := fun e => h (by injection e)
/-- A pool, and what stands in its blocks. -/
structure Pl (w : World) (ok : Nat → Prop) (g gd : Nat) (size : Int) (order ks : List Int) (rd ht : Int) (pgf : Int → List Int) (N : Nat) (gm n : Nat) (D : DataW Unit) (vo : Value) : Prop where
  og : ok g
  om : ok gm
  box : w.heap[g]? = some (.cells #[.pointer (some ⟨gd, 0, none⟩), .int .i64 size, .map (some gm), vo, .int .u64 rd, .int .u64 ht] 123 (0, 0))
  row : Kd.R (Kd.int .u32) 36 w 0 ok vo order
  map : w.ownsMap Try.prog 36 Rv gm n D
  has : ∀ p, 0 ≤ p → p < 4294967296 → Maps.has D (kl p) = decide (p ∈ ks)
  val : ∀ p ∈ ks, ∃ v, (∀ z, ∃ ps, Rv v = some (D.atKey (kl p) z, ps)) ∧ Kd.R (Kd.int .u8) 5 w 0 ok v (pgf p)
  rng : ∀ p ∈ ks, 0 ≤ p ∧ p < 4294967296
  nod : order.Nodup
  len : (order.length : Int) ≤ size
  len2 : order.length ≤ 4096
  plen : ∀ p ∈ ks, (pgf p).length = 512
  nb : n ≤ N
section
variable {w w' : World} {ok ok' : Nat → Prop} {g gd : Nat} {size : Int} {order ks : List Int} {rd ht : Int} {pgf : Int → List Int} {N gm n : Nat} {D : DataW Unit} {vo : Value}
theorem Pl.mlt (h : Pl w ok g gd size order ks rd ht pgf N gm n D vo) : gm < w.heap.size := h.map.lt
theorem Pl.step (h : Pl w ok g gd size order ks rd ht pgf N gm n D vo) (hm : ∀ k, ok k → k < w.heap.size → w'.heap[k]? = w.heap[k]?) : Pl w' ok g gd size order ks rd ht pgf N gm n D vo where
  og := h.og
  om := h.om
  box := (hm g h.og (blk_lt h.box)).trans h.box
  row := Kd.R_step h.row hm
  map := by
    obtain ⟨es, clock, hb, hF⟩ := h.map
    exact ⟨es, clock, (hm gm h.om h.mlt).trans hb, hF⟩
  has := h.has
  val := fun p hp => by
    obtain ⟨v, h1, h2⟩ := h.val p hp
    exact ⟨v, h1, Kd.R_step h2 hm⟩
  rng := h.rng
  nod := h.nod
  len := h.len
  len2 := h.len2
  plen := h.plen
  nb := h.nb
theorem Pl.below (h : Pl w ok g gd size order ks rd ht pgf N gm n D vo) (hb : Below w.heap.size w w') : Pl w' ok g gd size order ks rd ht pgf N gm n D vo := h.step fun k _ hk => hb.block k hk
theorem Pl.alloc (h : Pl w ok g gd size order ks rd ht pgf N gm n D vo) (o : Obj) : Pl (w.alloc o) ok g gd size order ks rd ht pgf N gm n D vo := h.below (below_alloc (Below.refl _ _) o)
theorem Pl.drewN (h : Pl w ok g gd size order ks rd ht pgf N gm n D vo) (m : Nat) : Pl (w.drewN m) ok g gd size order ks rd ht pgf N gm n D vo := h.below (pw_below_drewN (Below.refl _ _) m)
theorem Pl.mono (h : Pl w ok g gd size order ks rd ht pgf N gm n D vo) (hm : ∀ k, ok k → ok' k) : Pl w ok' g gd size order ks rd ht pgf N gm n D vo where
  og := hm _ h.og
  om := hm _ h.om
  box := h.box
  row := Kd.R_mono h.row hm
  map := h.map
  has := h.has
  val := fun p hp => by
    obtain ⟨v, h1, h2⟩ := h.val p hp
    exact ⟨v, h1, Kd.R_mono h2 hm⟩
  rng := h.rng
  nod := h.nod
  len := h.len
  len2 := h.len2
  plen := h.plen
  nb := h.nb
theorem Pl.bound (h : Pl w ok g gd size order ks rd ht pgf N gm n D vo) : Pl w (fun k => ok k ∧ k < w.heap.size) g gd size order ks rd ht pgf N gm n D vo where
  og := ⟨h.og, blk_lt h.box⟩
  om := ⟨h.om, h.mlt⟩
  box := h.box
  row := Kd.R_mono (Kd.R_bound h.row) fun _ hk => ⟨hk.1, hk.2.2.1⟩
  map := h.map
  has := h.has
  val := fun p hp => by
    obtain ⟨v, h1, h2⟩ := h.val p hp
    exact ⟨v, h1, Kd.R_mono (Kd.R_bound h2) fun _ hk => ⟨hk.1, hk.2.2.1⟩⟩
  rng := h.rng
  nod := h.nod
  len := h.len
  len2 := h.len2
  plen := h.plen
  nb := h.nb
/-- The keys in another order. -/
theorem Pl.keys {ks' : List Int} (h : Pl w ok g gd size order ks rd ht pgf N gm n D vo) (he : ∀ p, p ∈ ks' ↔ p ∈ ks) : Pl w ok g gd size order ks' rd ht pgf N gm n D vo where
  og := h.og
  om := h.om
  box := h.box
  row := h.row
  map := h.map
  has := fun p h0 h1 => by rw [h.has p h0 h1]; exact decide_eq_decide.2 (he p).symm
  val := fun p hp => h.val p ((he p).1 hp)
  rng := fun p hp => h.rng p ((he p).1 hp)
  nod := h.nod
  len := h.len
  len2 := h.len2
  plen := fun p hp => h.plen p ((he p).1 hp)
  nb := h.nb
theorem Pl.mne (h : Pl w ok g gd size order ks rd ht pgf N gm n D vo) : gm ≠ g := fun e => by
  obtain ⟨es, clock, hb, _⟩ := h.map
  rw [e, h.box] at hb
  cases hb
/-- A cell of the box is written: a counter. -/
theorem Pl.setReads (h : Pl w ok g gd size order ks rd ht pgf N gm n D vo) (x : Int) : Pl (w.setCell ⟨g, 4, none⟩ (.int .u64 x)) ok g gd size order ks x ht pgf N gm n D vo where
  og := h.og
  om := h.om
  box := blk_put h.box 4 _ rfl
  row := Kd.R_set h.row h.box (by decide) 4 _
  map := h.map.setCell h.mne _
  has := h.has
  val := fun p hp => by
    obtain ⟨v, h1, h2⟩ := h.val p hp
    exact ⟨v, h1, Kd.R_set h2 h.box (by decide) 4 _⟩
  rng := h.rng
  nod := h.nod
  len := h.len
  len2 := h.len2
  plen := h.plen
  nb := h.nb
theorem Pl.setHits (h : Pl w ok g gd size order ks rd ht pgf N gm n D vo) (x : Int) : Pl (w.setCell ⟨g, 5, none⟩ (.int .u64 x)) ok g gd size order ks rd x pgf N gm n D vo where
  og := h.og
  om := h.om
  box := blk_put h.box 5 _ rfl
  row := Kd.R_set h.row h.box (by decide) 5 _
  map := h.map.setCell h.mne _
  has := h.has
  val := fun p hp => by
    obtain ⟨v, h1, h2⟩ := h.val p hp
    exact ⟨v, h1, Kd.R_set h2 h.box (by decide) 5 _⟩
  rng := h.rng
  nod := h.nod
  len := h.len
  len2 := h.len2
  plen := h.plen
  nb := h.nb
/-- The order's row has turned, and its head is laid into the box. -/
theorem Pl.setRow {order' : List Int} {vo' : Value} (h : Pl w ok g gd size order ks rd ht pgf N gm n D vo) (hg : w.grownBy w' vo.ownBlock) (hR : Kd.R (Kd.int .u32) 36 w' 0 ok vo' order') (hn : order'.Nodup) (hl : (order'.length : Int) ≤ size) (hl2 : order'.length ≤ 4096) :
    Pl (w'.setCell ⟨g, 3, none⟩ vo') ok g gd size order' ks rd ht pgf N gm n D vo' := by
  have hbox := blk_grown h.box hg (Kd.R_ne h.row h.box (by decide))
  have hmo : some gm ≠ vo.ownBlock := fun e => by
    obtain ⟨cells, hc⟩ := Kd.R_typed h.row gm e.symm
    obtain ⟨es, clock, hb, _⟩ := h.map
    rw [hc] at hb
    cases hb
  exact {
    og := h.og
    om := h.om
    box := blk_put hbox 3 _ rfl
    row := Kd.R_set hR hbox (by decide) 3 _
    map := (h.map.kept hg hmo).setCell h.mne _
    has := h.has
    val := fun p hp => by
      obtain ⟨v, h1, h2⟩ := h.val p hp
      exact ⟨v, h1, Kd.R_set (Kd.R_over' h2 (Kd.R_typed h.row) (by decide) hg) hbox (by decide) 3 _⟩
    rng := h.rng
    nod := hn
    len := hl
    len2 := hl2
    plen := h.plen
    nb := h.nb }
/-- What the map holds of a page. -/
theorem look_run {W : World} {gm n : Nat} {D : DataW Unit} (hm : W.ownsMap Try.prog 36 Rv gm n D) {p : Int} (hp : 0 ≤ p ∧ p < 4294967296) {v : Value} {ps : List MemPlace} (hv : Rv v = some (D.atKey (kl p) (.agg []), ps)) {b : Bool} (hb : Maps.has D (kl p) = b) :
    (Instr.lookup 115 (.map (some gm)) (.int .u32 p) true).run Try.prog W = .ok (.tuple #[v, .bool b]) W := by
  have hz : (zeroValue 52).run Try.prog W = .ok (.slice none 0 0) W := Try.zeroValue52 W
  obtain ⟨v', ps', h1, h2⟩ := hm.look_ok (Maps.int_keyed Try.underlying36) Try.underlying115 hz Rv_nil (key_of p hp)
  rw [Rv_inj hv h2, ← hb]
  exact h1
/-! ### what is read -/
theorem pages_ok {okd : Nat → Prop} {d : List Int} {t : List Bool} (h : Pl w ok g gd size order ks rd ht pgf N gm n D vo) (hd : Dk w okd gd d t) : Calls Try.prog 89 #[.pointer (some ⟨g, 0, none⟩)] w fun e w' => e = .returned (.int .i64 t.length) ∧ w' = w := by
  have hc := (blk_cell h.box 0).trans rfl
  go_enter Try.func89, Try.ntmps89
  go_wp2_with (go_at_call 109; (with_reducible refine (len_ok hd).mono ?_); rintro en w1 ⟨rfl, rfl⟩)
  go_ret
  exact ⟨rfl, rfl⟩
end
theorem new_ok' (w : World) (gd : Nat) (size : Int) (h : 1 ≤ size) (pgf : Int → List Int) :
    Calls Try.prog 20 #[.pointer (some ⟨gd, 0, none⟩), .int .i64 size] w fun e w' => ∃ g gm, e = .returned (.tuple #[.pointer (some ⟨g, 0, none⟩), .int .i64 0]) ∧ Pl w' (fun k => w.heap.size ≤ k) g gd size [] [] 0 0 pgf 0 gm 0 (.map []) (.slice none 0 0) ∧ Below w.heap.size w w' := by
  have c1 : decide (size < 1) = false := decide_eq_false (by omega)
  have HS := Aside0.mk h
  clear h
  have hmk : ∀ W : World, (Instr.makeMap 115 none).run Try.prog W = .ok (.map (some W.heap.size)) (W.alloc (.map #[] 0)) := fun W => run_makeMap 115 W
  go_enter Try.func20, Try.ntmps20
  go_wp2
  go_ret2
  refine ⟨w.heap.size + 1, w.heap.size, rfl, ?_, below_alloc (below_alloc (Below.refl _ _) _) _⟩
  refine ⟨Nat.le_succ _, Nat.le_refl _, ?_, Kd.R_nil _ _ _ _ _, (World.ownsMap_made w Try.prog 36 Rv).alloc _, fun p _ _ => rfl, (fun p hp => nomatch hp), (fun p hp => nomatch hp), List.Pairwise.nil, by have := HS.out; simp; omega, Nat.zero_le _, (fun p hp => nomatch hp), Nat.le_refl _⟩
  have := blk_new (w.alloc (.map #[] 0)) (.cells #[.pointer (some ⟨gd, 0, none⟩), .int .i64 size, .map (some w.heap.size), .slice none 0 0, .int .u64 0, .int .u64 0] 123)
  rw [World.size_alloc] at this
  exact this
end Go.Proofs.Ytpfegfkniilobaa.Pool
namespace Go.Proofs.Ytpfegfkniilobaa.Pool
open Go.Proofs.YtpfegfkniilobaaW
open Go.RowKit Go.Proofs.YtpfegfkniilobaaW.PrintWords Go.Proofs.YtpfegfkniilobaaW.PrintLast Go.Proofs.YtpfegfkniilobaaW.PrintMore Go.Proofs.Ytpfegfkniilobaa.Byt Go.Proofs.Ytpfegfkniilobaa.Dsk
set_option linter.unusedVariables false
set_option linter.unusedSimpArgs false
set_option maxRecDepth 100000
theorem nodup_mid {pre post : List Int} {p : Int} (h : (pre ++ p :: post).Nodup) : (∀ x ∈ pre, x ≠ p) ∧ (∀ x ∈ post, x ≠ p) ∧ (pre ++ post).Nodup ∧ (pre ++ post ++ [p]).Nodup := by
  obtain ⟨h1, h2, h3⟩ := List.nodup_append.1 h
  obtain ⟨h4, h5⟩ := List.nodup_cons.1 h2
  have a1 : ∀ x ∈ pre, x ≠ p := fun x hx => h3 x hx p List.mem_cons_self
  have a2 : ∀ x ∈ post, x ≠ p := fun x hx e => h4 (e ▸ hx)
  have a3 : (pre ++ post).Nodup := List.nodup_append.2 ⟨h1, h5, fun x hx y hy => h3 x hx y (List.mem_cons_of_mem _ hy)⟩
  refine ⟨a1, a2, a3, List.nodup_append.2 ⟨a3, List.nodup_cons.2 ⟨by simp, List.nodup_nil⟩, fun x hx y hy => ?_⟩⟩
  rw [List.mem_singleton.1 hy]
  rcases List.mem_append.1 hx with hx | hx
  · exact a1 x hx
  · exact a2 x hx
theorem mem_mid (pre post : List Int) (p q : Int) : q ∈ pre ++ post ++ [p] ↔ q ∈ pre ++ p :: post := by
  simp only [List.mem_append, List.mem_cons, List.not_mem_nil, or_false]
  constructor
  · rintro ((h | h) | h)
    · exact .inl h
    · exact .inr (.inr h)
    · exact .inr (.inl h)
  · rintro (h | h | h)
    · exact .inl (.inl h)
    · exact .inr h
    · exact .inl (.inr h)
theorem len_mid (pre post : List Int) (p : Int) : (pre ++ p :: post).length = pre.length + 1 + post.length ∧ (pre ++ post).length = pre.length + post.length ∧ (pre ++ post ++ [p]).length = pre.length + 1 + post.length := by
  refine ⟨?_, ?_, ?_⟩ <;> simp only [List.length_append, List.length_cons, List.length_nil] <;> omega
theorem step_run {P : Program} {ops : Array Oper} {o : Oper} {a : Act} {Q : Exit → Act → World → Prop} {K : Act → World → Prop} {w w1 : World} {v v0 x0 : Value} (hw : Region.wanted o (yielded ops a.tmps) = true) (s x : Operand) (t : TypeId) (ho : o.op = .call { callee := .builtin .append, args := #[s, x], argTypes := #[t, t] })
    (hs : a.eval s = v0) (hx : a.eval x = x0) (hr : (Builtin.append_ #[t, t] o.type #[v0, x0]).run P w = .ok v w1) (h : K (a.put o.dst v) w1) : if Region.wanted o (yielded ops a.tmps) = true then Oper.wp P o a w K Q else K (a.put o.dst undef) w := by
  rw [if_pos hw]
  unfold Oper.wp execOp
  simp only [ho, resolve, invoke, builtin, Sem.run_bind, Sem.run_pure, Result.andThen_ok, List.map_toArray, List.map_cons, List.map_nil, hs, hx, hr]
  exact h
/-- A number is appended to a row of the pool's own. -/
theorem row_append (W : World) {ok : Nat → Prop} {v : Value} {xs : List Int} (HO : Kd.R (Kd.int .u32) 36 W 0 ok v xs) (p : Int) (hf : ∀ k, W.heap.size ≤ k → ok k) (hl : xs.length ≤ 4096) (n : Nat) (hn : xs.length + 1 = n) :
    ∃ v1 w1, (Builtin.append_ #[53, 53] 53 #[v, .slice (some ⟨W.heap.size, 0, none⟩) 1 1]).run Try.prog (W.alloc (.cells #[.int .u32 p] 36)) = .ok v1 w1 ∧ Kd.R (Kd.int .u32) 36 w1 0 ok v1 (xs ++ [p]) ∧ W.grownBy w1 v.ownBlock ∧ ∃ g c, v1 = .slice (some ⟨g, 0, none⟩) n c := by
  obtain ⟨i0, hi0, hz, hsz, hby⟩ := info_parts info36
  have hown := Kd.own_of_R HO
  obtain ⟨v1, w1, hr, ho, hg, _, hat⟩ := run_append_own_at (P := Try.prog) (W.alloc (.cells #[.int .u32 p] 36)) 0 53 53 36 i0 (.int .u32 0) 1 4 Try.underlying53 hi0 hz hsz hby rfl (by decide) v xs.length _ (hown.alloc _) ⟨W.heap.size, 0, none⟩ 1 1 [.int .u32 p] rfl
    (by simpa using World.news_of_block (cs := #[.int .u32 p]) (t := 36) (fr := (0, 0)) (heap_alloc_new W (.cells #[.int .u32 p] 36))) (by intro u hu; rw [List.mem_singleton.1 hu]; rfl) (by simp only [maxLen]; omega) (by omega) (Nat.zero_le _)
  have hR : Kd.R (Kd.int .u32) 36 w1 0 ok v1 (xs ++ [p]) := by
    refine Kd.R_of_own (h1 := fun _ => rfl) ?_ ?_
    · have e1 : (xs ++ [p]).length = xs.length + 1 := by simp
      have e2 : encs (Value.int .u32) (xs ++ [p]) = encs (Value.int .u32) xs ++ [.int .u32 p] := by simp [encs]
      rw [e1, e2]
      exact ho
    · intro k hk
      rcases hat with hat | hat
      · exact HO.1 k (hat ▸ hk)
      · rw [hat] at hk
        injection hk with hk
        refine hf k ?_
        rw [← hk, World.size_alloc]
        omega
  obtain ⟨g, c, e, _⟩ := Kd.R_form hR (by simp)
  refine ⟨v1, w1, hr, hR, World.grownBy.trans (World.grownBy_alloc W _ _) hg, g, c, ?_⟩
  rw [e, ← hn]
  simp
set_option maxHeartbeats 8000000 in
theorem get_hit {w : World} {ok : Nat → Prop} {g gd : Nat} {size : Int} {rd ht : Int} {pgf : Int → List Int} {N gm n : Nat} {D : DataW Unit} {vo : Value} (pre post : List Int) (p : Int) (h : Pl w ok g gd size (pre ++ p :: post) (pre ++ p :: post) rd ht pgf N gm n D vo) :
    Calls Try.prog 92 #[.pointer (some ⟨g, 0, none⟩), .int .u32 p] w fun e w' => ∃ v vo', e = .returned (.tuple #[v, .int .i64 0]) ∧ Kd.R (Kd.int .u8) 5 w' w.heap.size (fun _ => True) v (pgf p) ∧ Pl w' (fun k => (ok k ∨ w.heap.size ≤ k) ∧ some k ≠ v.ownBlock) g gd size (pre ++ post ++ [p]) (pre ++ post ++ [p]) rd ((ht + 1) % 18446744073709551616) pgf N gm n D vo' ∧ Kp w w' ok := by
  have hmem : p ∈ pre ++ p :: post := List.mem_append_right _ List.mem_cons_self
  have hrng := h.rng p hmem
  obtain ⟨m1, m2, m3, m4⟩ := nodup_mid h.nod
  obtain ⟨l1, l2, l3⟩ := len_mid pre post p
  obtain ⟨no, hno⟩ : ∃ no, no = pre.length + 1 + post.length := ⟨_, rfl⟩
  have hlen := h.len
  have hlen2 := h.len2
  rw [l1] at hlen hlen2
  obtain ⟨vb, hvb, hRb⟩ := h.val p hmem
  obtain ⟨psb, hvb⟩ := hvb (.agg [])
  obtain ⟨Ab, cb, evb⟩ := Kd.R_slice hRb
  subst evb
  have HVB := Aside0.mk (And.intro hvb (h.plen p hmem))
  obtain ⟨gr, cr, evo, _, hgr, _⟩ := Kd.R_form h.row (by rw [l1]; omega)
  rw [l1, ← hno] at evo
  subst evo
  have hhas := h.has p hrng.1 hrng.2
  rw [decide_eq_true hmem] at hhas
  have hgw := blk_lt h.box
  have HB1 := Aside0.mk (blk_new w (.cells #[.int .u32 p] 36))
  have HP1 := Aside0.mk ((h.mono (ok' := fun k => ok k ∨ w.heap.size ≤ k) fun _ hk => .inl hk).alloc (.cells #[.int .u32 p] 36))
  have hl := fun m : Nat => look_run ((HP1.out.drewN m).map) hrng hvb hhas
  have hx2 := (blk_cell HP1.out.box 2).trans rfl
  have hb0 := (blk_cell HB1.out 0).trans rfl
  have HK1 := Aside0.mk (Kp.of_below (below_alloc (Below.refl w.heap.size w) (.cells #[.int .u32 p] 36)) ok)
  obtain ⟨gb, hgb⟩ : ∃ gb, gb = w.heap.size := ⟨_, rfl⟩
  have HG := Aside0.mk (And.intro hgr (And.intro hgw (And.intro hgb hrng)))
  have HM := Aside0.mk (And.intro m1 (And.intro m2 (And.intro m3 m4)))
  have HL := Aside0.mk (And.intro hno (And.intro l2 (And.intro l3 (And.intro hlen hlen2))))
  have HR := Aside0.mk hRb
  have HO := Aside0.mk h.og
  clear hvb hhas hmem hrng hRb hgr h m1 m2 m3 m4 l1 l2 l3 hlen hlen2 hno hgw
  go_enter Try.func92, Try.ntmps92
  go_wp2
  generalize hw1 : w.alloc (.cells #[.int .u32 p] 36) = w1 at HB1 HP1 hl hx2 hb0 HK1 ⊢
  rw [← hgb] at HB1 hb0 HP1 ⊢
  have HW1 := Aside0.mk hw1
  clear hgb hw1
  go_quiet (fail)
  have HP2 := Aside0.mk (HP1.out.drewN nq)
  have HB2 := Aside0.mk (blk_drewN HB1.out nq)
  have HK2 := Aside0.mk (HK1.out.drewN nq)
  generalize w1.drewN nq = w2 at HP2 HB2 HK2 ⊢
  clear hl hx2 hb0
  go_upto_region 7 with (first
    | (go_at_call 113; (with_reducible refine (add_ok _ _ ht ((blk_cell HP2.out.box 5).trans rfl) (blk_frozen HP2.out.box 5) ⟨_, _, rfl⟩).mono ?_); rintro en w3 ⟨rfl, rfl⟩; have HP3 := Aside0.mk (HP2.out.setHits ((ht + 1) % 18446744073709551616)); have HB3 := Aside0.mk (blk_far HB2.out (p := ⟨g, 5, none⟩) (by have := HG.out; show gb ≠ g; omega) (.int .u64 ((ht + 1) % 18446744073709551616))); have HK3 := Aside0.mk (HK2.out.setCell (p := ⟨g, 5, none⟩) (.inl HO.out) (.int .u64 ((ht + 1) % 18446744073709551616))); clear HP2 HB2 HK2; have hc3 := (blk_cell HP3.out.box 3).trans rfl)
    | (go_at_call 114; (with_reducible refine (delfunc_ok _ gb p HB3.out gr cr no 0 _ (by have := HG.out; omega) pre post HL.out.1 HM.out.1 HM.out.2.1 (by have := HL.out; omega) HP3.out.row).mono ?_); rintro en w4 ⟨rfl, hr, hg⟩; have HR4 := Aside0.mk hr; have HG4 := Aside0.mk hg; have hbox4 := blk_grown HP3.out.box hg (Kd.R_ne HP3.out.row HP3.out.box (by decide)); have hz3 := blk_frozen hbox4 3; have hcz := (blk_cell hbox4 3).trans rfl; clear hr hg hbox4 hc3))
  have HP5 := Aside0.mk (HP3.out.setRow (vo' := .slice (some ⟨gr, 0, none⟩) (no - 1) cr) (order' := pre ++ post) HG4.out HR4.out HM.out.2.2.1 (by have := HL.out; omega) (by have := HL.out; omega))
  have HB5 := Aside0.mk (blk_far (blk_grown HB3.out HG4.out (by have := HG.out; intro e; injection e with e; omega)) (p := ⟨g, 3, none⟩) (by have := HG.out; show gb ≠ g; omega) (.slice (some ⟨gr, 0, none⟩) (no - 1) cr))
  have HK5 := Aside0.mk ((Kp.of_grown HG4.out HK3.out (fun k hk => (HP3.out.row.1 k hk).imp id (fun h => by have := HG.out.2.2.1; omega))).setCell (p := ⟨g, 3, none⟩) (.inl HO.out) (.slice (some ⟨gr, 0, none⟩) (no - 1) cr))
  generalize w4.setCell ⟨g, 3, none⟩ (.slice (some ⟨gr, 0, none⟩) (no - 1) cr) = w5 at HP5 HB5 HK5 ⊢
  clear hz3 hcz HP3 HB3 HK3 HR4 HG4
  obtain ⟨v6, w6, hap, hR6, hG6, g6, c6, e6⟩ := row_append w5.drew (Kd.R_drew HP5.out.row) p (by intro k hk; exact .inr (by have h1 := HK5.out.1; have h2 := HG.out.2.2.1; have h3 : w5.drew.heap.size = w5.heap.size := rfl; omega)) (by have := HL.out; omega) no (by have := HL.out; omega)
  subst e6
  have hap2 : (Builtin.append_ #[53, 53] 53 #[.slice (some ⟨gr, 0, none⟩) (no - 1) cr, .slice (some ⟨w5.heap.size, 0, none⟩) 1 1]).run Try.prog (w5.alloc (.cells #[.int .u32 p] 36)).drew = _ := hap
  have hx3 := (blk_cell HP5.out.box 3).trans rfl
  have hx3a := (blk_cell (blk_alloc HP5.out.box (.cells #[.int .u32 p] 36)) 3).trans rfl
  have hb0 := (blk_cell HB5.out 0).trans rfl
  have hbox6 := blk_grown (blk_drew HP5.out.box) hG6 (Kd.R_ne (Kd.R_drew HP5.out.row) (blk_drew HP5.out.box) (by decide))
  have hx36 := (blk_cell hbox6 3).trans rfl
  have hf36 := blk_frozen hbox6 3
  have HR6 := Aside0.mk (And.intro hR6 hG6)
  have HAP := Aside0.mk hap2
  clear hR6 hG6 hbox6 hap hap2
  go_region_law (refine step_run rfl (.tmp 39) (.tmp 41) 53 rfl (by simp [Act.eval, Act.put]) (by simp [Act.eval, Act.put]) HAP.out ?_)
  all_goals
    have HP7 := Aside0.mk ((Pl.setRow (order' := pre ++ post ++ [p]) (HP5.out.drewN 1) HR6.out.2 HR6.out.1 HM.out.2.2.2 (by have := HL.out; omega) (by have := HL.out; omega)).keys (mem_mid pre post p))
    have HK7 := Aside0.mk ((Kp.of_grown HR6.out.2 HK5.out.drew (fun k hk => (HP5.out.row.1 k hk).imp id (fun h => by have := HG.out.2.2.1; omega))).setCell (p := ⟨g, 3, none⟩) (.inl HO.out) (.slice (some ⟨g6, 0, none⟩) no c6))
    generalize w6.setCell ⟨g, 3, none⟩ (.slice (some ⟨g6, 0, none⟩) no c6) = w7 at HP7 HK7 ⊢
    clear hx3 hx3a hb0 hx36 hf36
    have HV7 : Aside0 (Kd.R (Kd.int .u8) 5 w7 0 (fun k => ok k ∨ gb ≤ k) (.slice Ab (pgf p).length cb) (pgf p)) := by
      obtain ⟨v', h1, h2⟩ := HP7.out.val p (by simp)
      obtain ⟨ps', h1⟩ := h1 (.agg [])
      rw [← Rv_inj HVB.out.1 h1] at h2
      exact ⟨h2⟩
    go_wp2_with (go_at_call 49; (with_reducible refine (clone_ok Ab cb (pgf p) _ (Kd.R_reads' HV7.out).2.2 (by have := HVB.out.2; omega)).mono ?_); rintro en w8 ⟨v8, rfl, ho, hb⟩; have HO8 := Aside0.mk ho; have HB8 := Aside0.mk hb; clear ho hb)
    go_ret2
    refine ⟨v8, _, rfl, Kd.R_lower HO8.out HK7.out.1, ((HP7.out.bound.below HB8.out).mono fun k hk => ⟨hk.1.imp id (fun h => by have := HG.out.2.2.1; omega), fun e => ?_⟩), HK7.out.below HB8.out⟩
    have := Kd.R_base HO8.out k e.symm
    have := hk.2
    omega
end Go.Proofs.Ytpfegfkniilobaa.Pool
