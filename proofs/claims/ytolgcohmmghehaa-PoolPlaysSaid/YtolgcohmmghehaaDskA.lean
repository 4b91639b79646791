/- The disk as a block in memory: its pages' bytes and which are taken; Len, at, Read, Image of a disk, and of none. Conditions: the disk's blocks are known (Dk). -/
import Derived.Test.YtolgcohmmghehaaProg
import Derived.Test.YtolgcohmmghehaaWMore
import Derived.Test.YtolgcohmmghehaaWKept
import Derived.Test.YtolgcohmmghehaaWAt
import Derived.Test.YtolgcohmmghehaaShelf
import Derived.WalkKit
import Derived.KernelRfl
import Derived.Laws.MakeOwn
import Derived.Laws.CopyOwn
import Derived.Deep.LoopGhost
import Derived.Lib.ConvBytes
import Derived.Lib.SliceRun
namespace Go.Proofs.Ytolgcohmmghehaa.Dsk
open Go.RowKit Go.Proofs.YtolgcohmmghehaaW.PrintWords Go.Proofs.YtolgcohmmghehaaW.PrintLast Go.Proofs.YtolgcohmmghehaaW.PrintMore
set_option linter.unusedVariables false
set_option linter.unusedSimpArgs false
set_option maxRecDepth 100000
theorem info5 : (Try.prog.info? 5).map (fun i => (i.zero, i.size, i.bytes)) = some (some (.int .u8 0), 1, 1) := by kernel_rfl
theorem info4 : (Try.prog.info? 4).map (fun i => (i.zero, i.size, i.bytes)) = some (some (.bool false), 1, 1) := by kernel_rfl
/-- A disk: its block, the row of its bytes, the row of what is taken; all of them are ok. -/
def Dk (w : World) (ok : Nat → Prop) (g : Nat) (d : List Int) (t : List Bool) : Prop :=
  ok g ∧ d.length = 512 * t.length ∧ 0 < t.length ∧ t.length ≤ 4096 ∧ ∃ v1 v2, w.heap[g]? = some (.cells #[v1, v2] 110 (0, 0)) ∧ Kd.R (Kd.int .u8) 5 w 0 ok v1 d ∧ Kd.R Kd.bool 4 w 0 ok v2 t
theorem Dk.step {w w' : World} {ok : Nat → Prop} {g : Nat} {d : List Int} {t : List Bool} (h : Dk w ok g d t) (hm : ∀ k, ok k → k < w.heap.size → w'.heap[k]? = w.heap[k]?) : Dk w' ok g d t := by
  obtain ⟨h1, h2, h3, h4, v1, v2, hb, hd, ht⟩ := h
  exact ⟨h1, h2, h3, h4, v1, v2, (hm g h1 (blk_lt hb)).trans hb, Kd.R_step hd hm, Kd.R_step ht hm⟩
theorem Dk.below {w w' : World} {ok : Nat → Prop} {g : Nat} {d : List Int} {t : List Bool} (h : Dk w ok g d t) (hb : Below w.heap.size w w') : Dk w' ok g d t := h.step fun k _ hk => hb.block k hk
theorem Dk.alloc {w : World} {ok : Nat → Prop} {g : Nat} {d : List Int} {t : List Bool} (h : Dk w ok g d t) (o : Obj) : Dk (w.alloc o) ok g d t := h.below (below_alloc (Below.refl _ _) o)
theorem Dk.drewN {w : World} {ok : Nat → Prop} {g : Nat} {d : List Int} {t : List Bool} (h : Dk w ok g d t) (m : Nat) : Dk (w.drewN m) ok g d t := h.below (pw_below_drewN (Below.refl _ _) m)
theorem Dk.kept {w w' : World} {ok S : Nat → Prop} {g : Nat} {d : List Int} {t : List Bool} (h : Dk w ok g d t) (hk : Kept w w' S) (hn : ∀ k, ok k → ¬ S k) : Dk w' ok g d t := h.step fun k ho hlt => hk.2 k hlt (hn k ho)
theorem Dk.mono {w : World} {ok ok' : Nat → Prop} {g : Nat} {d : List Int} {t : List Bool} (h : Dk w ok g d t) (hm : ∀ k, ok k → ok' k) : Dk w ok' g d t := by
  obtain ⟨h1, h2, h3, h4, v1, v2, hb, hd, ht⟩ := h
  exact ⟨hm _ h1, h2, h3, h4, v1, v2, hb, Kd.R_mono hd hm, Kd.R_mono ht hm⟩
theorem Dk.form {w : World} {ok : Nat → Prop} {g : Nat} {d : List Int} {t : List Bool} (h : Dk w ok g d t) : ∃ gd cd gt ct, w.heap[g]? = some (.cells #[.slice (some ⟨gd, 0, none⟩) d.length cd, .slice (some ⟨gt, 0, none⟩) t.length ct] 110 (0, 0)) ∧ d.length ≤ cd ∧ t.length ≤ ct ∧ Kd.R (Kd.int .u8) 5 w 0 ok (.slice (some ⟨gd, 0, none⟩) d.length cd) d ∧ Kd.R Kd.bool 4 w 0 ok (.slice (some ⟨gt, 0, none⟩) t.length ct) t ∧ ok gd ∧ ok gt := by
  obtain ⟨h1, h2, h3, h4, v1, v2, hb, hd, ht⟩ := h
  obtain ⟨gd, cd, rfl, _⟩ := Kd.R_form hd (by omega)
  obtain ⟨gt, ct, rfl, _⟩ := Kd.R_form ht (by omega)
  exact ⟨gd, cd, gt, ct, hb, (Kd.R_reads' hd).2.1, (Kd.R_reads' ht).2.1, hd, ht, hd.1 gd rfl, ht.1 gt rfl⟩
theorem add0 (g n : Nat) : Addr.add ⟨g, 0, none⟩ n = ⟨g, n, none⟩ := by
  unfold Addr.add
  split <;> simp_all
theorem eqn_none (W : World) : (binOp .eql 26 (.slice none 0 0) (.slice none 0 0)).run Try.prog W = .ok (.bool true) W := by rw [Go.Lib.run_eql_slice_nil W 26 5 none 0 0 0 0 Try.underlying26]; rfl
theorem eqn_some (W : World) (a : Addr) (n c : Nat) : (binOp .eql 26 (.slice (some a) n c) (.slice none 0 0)).run Try.prog W = .ok (.bool false) W := by rw [Go.Lib.run_eql_slice_nil W 26 5 (some a) n c 0 0 Try.underlying26]; rfl
/-! ### none -/
theorem len_nil (w : World) : Calls Try.prog 33 #[.pointer none] w fun e w' => e = .returned (.int .i64 0) ∧ w' = w := by
  go_enter Try.func33, Try.ntmps33
  go_wp2
  go_ret
  exact ⟨rfl, rfl⟩
theorem at_nil (w : World) (p : Int) (h0 : 0 ≤ p) : Calls Try.prog 63 #[.pointer none, .int .u32 p] w fun e w' => e = .returned (.slice none 0 0) ∧ w' = w := by
  have c0 : decide (p % 18446744073709551616 < 0) = false := decide_eq_false (by omega)
  go_enter Try.func63, Try.ntmps63
  go_wp2_with (go_at_call 33; (with_reducible refine (len_nil _).mono ?_); rintro en w1 ⟨rfl, rfl⟩)
  go_ret
  exact ⟨rfl, rfl⟩
theorem read_nil (w : World) (p : Int) (h0 : 0 ≤ p) : Calls Try.prog 28 #[.pointer none, .int .u32 p] w fun e w' => e = .returned (.tuple #[.slice none 0 0, .int .i64 8]) ∧ w' = w := by
  have en := eqn_none
  go_enter Try.func28, Try.ntmps28
  go_wp2_with (go_at_call 63; (with_reducible refine (at_nil _ p h0).mono ?_); rintro en w1 ⟨rfl, rfl⟩)
  go_ret2
  exact ⟨rfl, rfl⟩
theorem take_nil (w : World) : Calls Try.prog 30 #[.pointer none] w fun e w' => e = .returned (.tuple #[.int .u32 0, .int .i64 7]) ∧ w' = w := by
  go_enter Try.func30, Try.ntmps30
  go_wp2
  go_ret2
  exact ⟨rfl, rfl⟩
theorem write_nil (w : World) (p : Int) (v : Value) (h0 : 0 ≤ p) : Calls Try.prog 21 #[.pointer none, .int .u32 p, v] w fun e w' => e = .returned (.int .i64 8) ∧ w' = w := by
  have en := eqn_none
  go_enter Try.func21, Try.ntmps21
  go_wp2_with (go_at_call 63; (with_reducible refine (at_nil _ p h0).mono ?_); rintro en w1 ⟨rfl, rfl⟩)
  go_ret
  exact ⟨rfl, rfl⟩
theorem left_nil (w : World) : Calls Try.prog 34 #[.pointer none] w fun e w' => e = .returned (.int .i64 0) ∧ w' = w := by
  go_enter Try.func34, Try.ntmps34
  go_wp2
  go_ret
  exact ⟨rfl, rfl⟩
theorem image_nil (w : World) : Calls Try.prog 23 #[.pointer none] w fun e w' => e = .returned (.slice none 0 0) ∧ w' = w := by
  go_enter Try.func23, Try.ntmps23
  go_wp2
  go_ret
  exact ⟨rfl, rfl⟩
theorem copy_nil (w : World) : Calls Try.prog 32 #[.pointer none] w fun e w' => e = .returned (.pointer none) ∧ w' = w := by
  go_enter Try.func32, Try.ntmps32
  go_wp2
  go_ret
  exact ⟨rfl, rfl⟩
/-! ### a disk -/
theorem len_ok {w : World} {ok : Nat → Prop} {g : Nat} {d : List Int} {t : List Bool} (h : Dk w ok g d t) : Calls Try.prog 33 #[.pointer (some ⟨g, 0, none⟩)] w fun e w' => e = .returned (.int .i64 t.length) ∧ w' = w := by
  obtain ⟨gd, cd, gt, ct, hb, _⟩ := h.form
  have hc1 := (blk_cell hb 1).trans rfl
  have hf1 := blk_frozen hb 1
  clear hb
  go_enter Try.func33, Try.ntmps33
  go_wp2
  go_ret
  exact ⟨rfl, rfl⟩
theorem at_out {w : World} {ok : Nat → Prop} {g : Nat} {d : List Int} {t : List Bool} (h : Dk w ok g d t) (p : Int) (h0 : 0 ≤ p) (hp : (t.length : Int) ≤ p) (hp2 : p < 4294967296) : Calls Try.prog 63 #[.pointer (some ⟨g, 0, none⟩), .int .u32 p] w fun e w' => e = .returned (.slice none 0 0) ∧ w' = w := by
  have H := Aside0.mk h
  have h4 : t.length ≤ 4096 := h.2.2.2.1
  have c0 : decide (p % 18446744073709551616 < (t.length : Int) % 18446744073709551616) = false := decide_eq_false (by omega)
  clear h
  go_enter Try.func63, Try.ntmps63
  go_wp2_with (go_at_call 33; (with_reducible refine (len_ok H.out).mono ?_); rintro en w1 ⟨rfl, rfl⟩)
  go_ret
  exact ⟨rfl, rfl⟩
theorem read_out {w : World} {ok : Nat → Prop} {g : Nat} {d : List Int} {t : List Bool} (h : Dk w ok g d t) (p : Int) (h0 : 0 ≤ p) (hp : (t.length : Int) ≤ p) (hp2 : p < 4294967296) : Calls Try.prog 28 #[.pointer (some ⟨g, 0, none⟩), .int .u32 p] w fun e w' => e = .returned (.tuple #[.slice none 0 0, .int .i64 8]) ∧ w' = w := by
  have H := Aside0.mk h
  have HP := Aside0.mk hp
  have HP2 := Aside0.mk hp2
  clear h hp hp2
  have en := eqn_none
  go_enter Try.func28, Try.ntmps28
  go_wp2_with (go_at_call 63; (with_reducible refine (at_out H.out p h0 HP.out HP2.out).mono ?_); rintro en w1 ⟨rfl, rfl⟩)
  go_ret2
  exact ⟨rfl, rfl⟩
theorem cut_mid (W : World) (g c a : Nat) (xs : List Int) (j : Int) (h0 : 0 ≤ j) (h1 : j + 512 ≤ xs.length) (hc : xs.length ≤ c) : (Instr.slice 26 (.slice (some ⟨g, 0, none⟩) xs.length c) (some (.int .i64 j)) (some (.int .i64 (j + 512))) none).run Try.prog W = .ok (.slice (some ⟨g, j.toNat, none⟩) 512 (c - j.toNat)) W := by
  obtain ⟨i0, hi0, _, hsz, _⟩ := info_parts info5
  have hel : Try.prog.elem 26 = 5 := by simp [Program.elem, Try.underlying26]
  have hu : Try.prog.underlying 26 = some (.slice (Try.prog.elem 26)) := by rw [hel]; exact Try.underlying26
  rw [run_slice_lh W 26 _ xs.length c hu .i64 .i64 j (j + 512) h0 (by omega) (by omega), hel]
  have hj : ¬ c = j.toNat := by omega
  have h2 : (j + 512).toNat - j.toNat = 512 := by omega
  simp [typeInfo, hi0, hsz, sliced, hj, h2, add0]
/-- A page's bytes. -/
def pg (d : List Int) (p : Nat) : List Int := (d.drop (512 * p)).take 512
theorem pg_len {d : List Int} {t : List Bool} (h : d.length = 512 * t.length) {p : Nat} (hp : p < t.length) : (pg d p).length = 512 := by
  rw [pg, List.length_take, List.length_drop]
  omega
theorem cut_C {w : World} {g c : Nat} {d : List Int} (h : Kd.C (Kd.int .u8) w (some ⟨g, 0, none⟩) d.length d) (p : Nat) (hp : 512 * p + 512 ≤ d.length) (hc : d.length ≤ c) : Kd.C (Kd.int .u8) w (some ⟨g, 512 * p, none⟩) (pg d p).length (pg d p) := by
  have hm := Kd.C_mid (lo := 512 * p) (hi := 512 * p + 512) (c := c) h (by omega) (by omega) hc
  have e : (d.take (512 * p + 512)).drop (512 * p) = pg d p := by rw [pg, List.drop_take]; congr 1; omega
  rw [e, if_neg (by omega)] at hm
  have e2 : (some (⟨g, 0, none⟩ : Addr)).map (·.add (512 * p * (Kd.int .u8).sz)) = some ⟨g, 512 * p, none⟩ := by
    show some (Addr.add ⟨g, 0, none⟩ (512 * p * 1)) = _
    rw [add0, Nat.mul_one]
  rw [e2] at hm
  exact hm
theorem at_in {w : World} {g gd cd : Nat} {d : List Int} {t : List Bool} {v2 : Value} {ok : Nat → Prop} (H : Dk w ok g d t) (hb : w.heap[g]? = some (.cells #[.slice (some ⟨gd, 0, none⟩) d.length cd, v2] 110 (0, 0))) (hc : d.length ≤ cd) (p : Int) (h0 : 0 ≤ p) (hp : p < t.length) : Calls Try.prog 63 #[.pointer (some ⟨g, 0, none⟩), .int .u32 p] w fun e w' => e = .returned (.slice (some ⟨gd, (p * 512).toNat, none⟩) 512 (cd - (p * 512).toNat)) ∧ w' = w := by
  have h4 : t.length ≤ 4096 := H.2.2.2.1
  have hl := H.2.1
  have c0 : decide (IntKind.u64.wrap (t.length : Int) ≤ IntKind.u64.wrap p) = false := decide_eq_false (by show ¬ (t.length : Int) % 18446744073709551616 ≤ p % 18446744073709551616; omega)
  have hc0 := (blk_cell hb 0).trans rfl
  have hf0 := blk_frozen hb 0
  have hcut := cut_mid w gd cd 0 d (p * 512) (by omega) (by omega) hc
  have w1 : wrap64 (p * 512) = p * 512 := by unfold wrap64; omega
  have w2 : wrap64 (p * 512 + 512) = p * 512 + 512 := by unfold wrap64; omega
  have w3 : wrap64 p = p := by unfold wrap64; omega
  have HH := Aside0.mk H
  clear hb hl h4 hp hc H
  go_enter Try.func63, Try.ntmps63
  go_wp2_with (go_at_call 33; (with_reducible refine (len_ok HH.out).mono ?_); rintro en w1 ⟨rfl, rfl⟩)
  go_ret
  exact ⟨rfl, rfl⟩
theorem clone_ok (A0 : Option Addr) (c0 : Nat) (l0 : List Int) (w : World) (hr0 : Kd.C (Kd.int .u8) w A0 l0.length l0) (hb : l0.length ≤ 140737488355328) :
    Calls Try.prog 64 #[.slice A0 l0.length c0] w fun e w' => ∃ v : Value, e = .returned v ∧ Kd.R (Kd.int .u8) 5 w' w.heap.size (fun _ => True) v l0 ∧ Below w.heap.size w w' := by
  cases A0 with
  | none =>
    have h0 : l0.length = 0 := by
      rcases Nat.eq_zero_or_pos l0.length with h0 | h0
      · exact h0
      · obtain ⟨ad, he, _⟩ := Kd.at_int hr0 0 (by omega) (by omega)
        cases he
    obtain rfl := List.eq_nil_of_length_eq_zero h0
    refine (Try.bytes_Clone_nil _ c0 w).mono ?_
    rintro e w' ⟨rfl, rfl⟩
    exact ⟨_, rfl, Kd.R_nil _ _ _ _ _, Below.refl _ _⟩
  | some a =>
    refine (Try.bytes_Clone_at a l0.length c0 l0 w rfl hb ?_).mono ?_
    · intro i hi
      obtain ⟨ad, he, hx⟩ := Kd.at_int hr0 (i : Int) (by omega) (by omega)
      injection he with he
      subst he
      exact hx
    · rintro e w' ⟨v, rfl, ho, _, hB⟩
      exact ⟨v, rfl, Kd.R_of_own (h1 := fun _ => rfl) ho (fun _ _ => trivial), hB⟩
theorem read_in {w : World} {g : Nat} {d : List Int} {t : List Bool} {ok : Nat → Prop} (H : Dk w ok g d t) (p : Int) (h0 : 0 ≤ p) (hp : p < t.length) : Calls Try.prog 28 #[.pointer (some ⟨g, 0, none⟩), .int .u32 p] w fun e w' => ∃ v, e = .returned (.tuple #[v, .int .i64 0]) ∧ Kd.R (Kd.int .u8) 5 w' w.heap.size (fun _ => True) v (pg d p.toNat) ∧ Below w.heap.size w w' := by
  obtain ⟨gd, cd, gt, ct, hb, hcd, hct, hd, ht, _, _⟩ := H.form
  have hl := H.2.1
  have hC := cut_C (Kd.R_reads' hd).2.2 p.toNat (by omega) hcd
  have hpl : (pg d p.toNat).length = 512 := pg_len H.2.1 (by omega)
  rw [hpl, show 512 * p.toNat = (p * 512).toNat by omega] at hC
  have HC := Aside0.mk hC
  have HB := Aside0.mk hb
  have HH := Aside0.mk H
  have HP := Aside0.mk hp
  have HCD := Aside0.mk hcd
  have HL := Aside0.mk hpl
  have en := eqn_some
  clear hC hb H hp hcd hl hd ht hct hpl
  go_enter Try.func28, Try.ntmps28
  go_wp2_with (first | (go_at_call 63; (with_reducible refine (at_in HH.out HB.out HCD.out p h0 HP.out).mono ?_); rintro en w1 ⟨rfl, rfl⟩) | (go_at_call 64; (have hx := clone_ok (some ⟨gd, (p * 512).toNat, none⟩) (cd - (p * 512).toNat) (pg d p.toNat) _ (by rw [HL.out]; exact HC.out) (by rw [HL.out]; decide)); rw [HL.out] at hx; (with_reducible refine hx.mono ?_); rintro en w1 ⟨v, rfl, ho, hbl⟩; have HO := Aside0.mk ho; have HBL := Aside0.mk hbl; clear ho hbl))
  go_ret2
  exact ⟨v, rfl, HO.out, HBL.out⟩
theorem image_ok {w : World} {g : Nat} {d : List Int} {t : List Bool} {ok : Nat → Prop} (H : Dk w ok g d t) : Calls Try.prog 23 #[.pointer (some ⟨g, 0, none⟩)] w fun e w' => ∃ v, e = .returned v ∧ Kd.R (Kd.int .u8) 5 w' w.heap.size (fun _ => True) v d ∧ Below w.heap.size w w' := by
  obtain ⟨gd, cd, gt, ct, hb, hcd, hct, hd, ht, _, _⟩ := H.form
  have hl := H.2.1
  have hl4 := H.2.2.2.1
  have hC := (Kd.R_reads' hd).2.2
  have HC := Aside0.mk hC
  have HL := Aside0.mk (show d.length ≤ 140737488355328 by omega)
  have hc0 := (blk_cell hb 0).trans rfl
  have hf0 := blk_frozen hb 0
  clear hC hb H hcd hl hd ht hct hl4
  go_enter Try.func23, Try.ntmps23
  go_wp2_with (go_at_call 64; (with_reducible refine (clone_ok (some ⟨gd, 0, none⟩) cd d _ HC.out HL.out).mono ?_); rintro en w1 ⟨v, rfl, ho, hbl⟩; have HO := Aside0.mk ho; have HBL := Aside0.mk hbl; clear ho hbl)
  go_ret
  exact ⟨v, rfl, HO.out, HBL.out⟩
/-- How many are free. -/
def lf : List Bool → Int
  | [] => 0
  | b :: r => (if b then 0 else 1) + lf r
theorem lf_in : ∀ t : List Bool, 0 ≤ lf t ∧ lf t ≤ t.length
  | [] => by simp [lf]
  | b :: r => by
    have := lf_in r
    cases b <;> simp [lf] <;> omega
theorem drop_b (l : List Bool) (i : Int) (h0 : 0 ≤ i) (h1 : i < (l.length : Int)) : l.drop i.toNat = rdOf false l i :: l.drop (i + 1).toNat := by
  have h : i.toNat < l.length := by omega
  rw [List.drop_eq_getElem_cons h, show (i + 1).toNat = i.toNat + 1 by omega]
  simp [rdOf, List.getD_eq_getElem?_getD, h]
theorem wr_in (n : Int) (h : -9223372036854775808 ≤ n ∧ n ≤ 9223372036854775807) : wrap64 n = n := by
  unfold wrap64
  omega
theorem left_ok {w : World} {g : Nat} {d : List Int} {t : List Bool} {ok : Nat → Prop} (H : Dk w ok g d t) : Calls Try.prog 34 #[.pointer (some ⟨g, 0, none⟩)] w fun e w' => e = .returned (.int .i64 (lf t)) ∧ w' = w := by
  obtain ⟨gd, cd, gt, ct, hb, hcd, hct, hd, ht, _, _⟩ := H.form
  have HC := Aside0.mk (Kd.R_reads' ht).2.2
  have HL := Aside0.mk H.2.2.2.1
  have hc1 := (blk_cell hb 1).trans rfl
  have hf1 := blk_frozen hb 1
  clear hb hd ht hct hcd H
  go_enter Try.func34, Try.ntmps34
  go_wp2
  go_loopg [3, 14] t.length (fun kq v3 v14 w' => ∃ n i : Int, v3 = .int .i64 n ∧ v14 = .int .i64 i ∧ Aside0 (0 ≤ i ∧ (kq : Int) + i = (t.length : Int)) ∧ Aside0 (n + lf (t.drop i.toNat) = lf t ∧ 0 ≤ n) ∧ w' = w)
  case atStart => exact ⟨0, 0, rfl, rfl, ⟨by omega⟩, ⟨by simp⟩, rfl⟩
  case round =>
    obtain ⟨n, i, rfl, rfl, HI, HN, rfl⟩ := hrel
    by_cases c2 : i < (t.length : Int)
    · have c2b0 : decide (i < (t.length : Int)) = true := decide_eq_true c2
      obtain ⟨ad, e1, hx0⟩ := Kd.at_bool HC.out i HI.out.1 c2
      injection e1 with e1
      subst e1
      have e2 : Addr.add ⟨gt, 0, none⟩ i.toNat = ⟨gt, i.toNat, none⟩ := add0 _ _
      rw [e2] at hx0
      have p9 : (0 ≤ i) = True := eq_true HI.out.1
      have q9 : (i < (t.length : Int)) = True := eq_true c2
      have hn := HN.out.1
      rw [drop_b t i HI.out.1 c2, lf] at hn
      have HC2 := Aside0.mk c2
      have hr := lf_in (t.drop (i + 1).toNat)
      have hr2 := lf_in t
      have HR := Aside0.mk (And.intro hr hr2)
      cases hbv : rdOf false t i
      all_goals
        rw [hbv] at hx0 hn
        simp only [if_true, if_neg (show ¬ (false = true) by decide)] at hn
        have HN2 := Aside0.mk hn
        have h4 := HL.out
        have w1 : wrap64 (n + 1) = n + 1 := wr_in _ (by have := HN.out.2; have := HN.out.1; have := (lf_in (t.drop i.toNat)).1; have := hr2; omega)
        have w2 : wrap64 (i + 1) = i + 1 := wr_in _ (by have := HI.out; omega)
        clear hn c2 hbv hr hr2 h4
        go_wp2
        go_roundg (gk - 1)
        case measure => have h1 := HI.out; have h2 := HC2.out; omega
        case rel =>
          have h1 := HI.out
          have h2 := HC2.out
          have h3 := HN2.out
          have h4 := HN.out.2
          exact ⟨_, i + 1, rfl, by rw [wr_in (i + 1) (by have := HL.out; omega)], ⟨by omega⟩, ⟨by first | omega | (rw [wr_in (n + 1) (by have := HL.out; have := HR.out; omega)]; omega)⟩, rfl⟩
    · have c2b0 : decide (i < (t.length : Int)) = false := decide_eq_false c2
      have hn := HN.out.1
      rw [List.drop_of_length_le (by have := HI.out; omega)] at hn
      have hn' : n = lf t := by simpa [lf] using hn
      subst hn'
      clear hn c2
      go_wp2
      go_ret
      exact ⟨rfl, rfl⟩
end Go.Proofs.Ytolgcohmmghehaa.Dsk
