/- The disk as a block in memory: its pages' bytes and which are taken; Len, at, Read, Image of a disk, and of none. Conditions: the disk's blocks are known (Dk). -/
import Derived.Test.YtpfegfkniilobaaProg
import Derived.Test.YtpfegfkniilobaaWMore
import Derived.Test.YtpfegfkniilobaaWKept
import Derived.Test.YtpfegfkniilobaaWFootNe
import Derived.Test.YtpfegfkniilobaaShelf
import Derived.WalkKit
import Derived.KernelRfl
import Derived.Laws.MakeOwn
import Derived.Laws.CopyOwn
import Derived.Deep.LoopGhost
import Derived.Lib.ConvBytes
import Derived.Lib.SliceRun
import Derived.Deep.OwnRows
import Derived.Deep.CutRange
import Derived.Deep.RegionWith
import Derived.Test.YtpfegfkniilobaaByt
import Derived.Laws.Strings3
import Derived.Laws.DeepStrings4
namespace Go.Proofs.Ytpfegfkniilobaa.Dsk
open Go.RowKit Go.Proofs.YtpfegfkniilobaaW.PrintWords Go.Proofs.YtpfegfkniilobaaW.PrintLast Go.Proofs.YtpfegfkniilobaaW.PrintMore
set_option linter.unusedVariables false
set_option linter.unusedSimpArgs false
set_option maxRecDepth 100000
theorem info5 : (Try.prog.info? 5).map (fun i => (i.zero, i.size, i.bytes)) = some (some (.int .u8 0), 1, 1) := by kernel_rfl
theorem info4 : (Try.prog.info? 4).map (fun i => (i.zero, i.size, i.bytes)) = some (some (.bool false), 1, 1) := by kernel_rfl
/-- A disk: its block, the row of its bytes, the row of what is taken; all of them are ok. -/
def Dk (w : World) (ok : Nat → Prop) (g : Nat) (d : List Int) (t : List Bool) : Prop :=
  ok g ∧ d.length = 512 * t.length ∧ 0 < t.length ∧ t.length ≤ 4096 ∧ ∃ v1 v2, w.heap[g]? = some (.cells #[v1, v2] 114 (0, 0)) ∧ Kd.R (Kd.int .u8) 5 w 0 ok v1 d ∧ Kd.R Kd.bool 4 w 0 ok v2 t
theorem Dk.step {w w' : World} {ok : Nat → Prop} {g : Nat} {d : List Int} {t : List Bool} (h : Dk w ok g d t) (hm : ∀ k, ok k → k < w.heap.size → w'.heap[k]? = w.heap[k]?) : Dk w' ok g d t := by
  obtain ⟨h1, h2, h3, h4, v1, v2, hb, hd, ht⟩ := h
  exact ⟨h1, h2, h3, h4, v1, v2, (hm g h1 (blk_lt hb)).trans hb, Kd.R_step hd hm, Kd.R_step ht hm⟩
theorem Dk.below {w w' : World} {ok : Nat → Prop} {g : Nat} {d : List Int} {t : List Bool} (h : Dk w ok g d t) (hb : Below w.heap.size w w') : Dk w' ok g d t := h.step fun k _ hk => hb.block k hk
theorem Dk.alloc {w : World} {ok : Nat → Prop} {g : Nat} {d : List Int} {t : List Bool} (h : Dk w ok g d t) (o : Obj) : Dk (w.alloc o) ok g d t := h.below (below_alloc (Below.refl _ _) o)
theorem Dk.drewN {w : World} {ok : Nat → Prop} {g : Nat} {d : List Int} {t : List Bool} (h : Dk w ok g d t) (m : Nat) : Dk (w.drewN m) ok g d t := h.below (pw_below_drewN (Below.refl _ _) m)
theorem Dk.kept {w w' : World} {ok S : Nat → Prop} {g : Nat} {d : List Int} {t : List Bool} (h : Dk w ok g d t) (hk : Kept w w' S) (hn : ∀ k, ok k → ¬ S k) : Dk w' ok g d t := h.step fun k ho hlt => hk.2 k hlt (hn k ho)
theorem Dk.mono {w : World} {ok ok' : Nat → Prop} {g : Nat} {d : List Int} {t : List Bool} (h : Dk w ok g d t) (hm : ∀ k, ok k → ok' k) : Dk w ok' g d t := by
  obtain ⟨h1, h2, h3, h4, v1, v2, hb, hd, ht⟩ := h
  exact ⟨hm _ h1, h2, h3, h4, v1, v2, hb, Kd.R_mono hd hm, Kd.R_mono ht hm⟩
theorem Dk.form {w : World} {ok : Nat → Prop} {g : Nat} {d : List Int} {t : List Bool} (h : Dk w ok g d t) : ∃ gd cd gt ct, w.heap[g]? = some (.cells #[.slice (some ⟨gd, 0, none⟩) d.length cd, .slice (some ⟨gt, 0, none⟩) t.length ct] 114 (0, 0)) ∧ d.length ≤ cd ∧ t.length ≤ ct ∧ Kd.R (Kd.int .u8) 5 w 0 ok (.slice (some ⟨gd, 0, none⟩) d.length cd) d ∧ Kd.R Kd.bool 4 w 0 ok (.slice (some ⟨gt, 0, none⟩) t.length ct) t ∧ ok gd ∧ ok gt := by
  obtain ⟨h1, h2, h3, h4, v1, v2, hb, hd, ht⟩ := h
  obtain ⟨gd, cd, rfl, _⟩ := Kd.R_form hd (by omega)
  obtain ⟨gt, ct, rfl, _⟩ := Kd.R_form ht (by omega)
  exact ⟨gd, cd, gt, ct, hb, (Kd.R_reads' hd).2.1, (Kd.R_reads' ht).2.1, hd, ht, hd.1 gd rfl, ht.1 gt rfl⟩
theorem add0 (g n : Nat) : Addr.add ⟨g, 0, none⟩ n = ⟨g, n, none⟩ := by
  unfold Addr.add
  split <;> simp_all
theorem eqn_none (W : World) : (binOp .eql 52 (.slice none 0 0) (.slice none 0 0)).run Try.prog W = .ok (.bool true) W := by rw [Go.Lib.run_eql_slice_nil W 52 5 none 0 0 0 0 Try.underlying52]; rfl
theorem eqn_some (W : World) (a : Addr) (n c : Nat) : (binOp .eql 52 (.slice (some a) n c) (.slice none 0 0)).run Try.prog W = .ok (.bool false) W := by rw [Go.Lib.run_eql_slice_nil W 52 5 (some a) n c 0 0 Try.underlying52]; rfl
/-! ### none -/
/-! ### a disk -/
theorem len_ok {w : World} {ok : Nat → Prop} {g : Nat} {d : List Int} {t : List Bool} (h : Dk w ok g d t) : Calls Try.prog 109 #[.pointer (some ⟨g, 0, none⟩)] w fun e w' => e = .returned (.int .i64 t.length) ∧ w' = w := by
  obtain ⟨gd, cd, gt, ct, hb, _⟩ := h.form
  have hc1 := (blk_cell hb 1).trans rfl
  have hf1 := blk_frozen hb 1
  clear hb
  go_enter Try.func109, Try.ntmps109
  go_wp2
  go_ret
  exact ⟨rfl, rfl⟩
theorem at_out {w : World} {ok : Nat → Prop} {g : Nat} {d : List Int} {t : List Bool} (h : Dk w ok g d t) (p : Int) (h0 : 0 ≤ p) (hp : (t.length : Int) ≤ p) (hp2 : p < 4294967296) : Calls Try.prog 84 #[.pointer (some ⟨g, 0, none⟩), .int .u32 p] w fun e w' => e = .returned (.slice none 0 0) ∧ w' = w := by
  have H := Aside0.mk h
  have h4 : t.length ≤ 4096 := h.2.2.2.1
  have c0 : decide (p % 18446744073709551616 < (t.length : Int) % 18446744073709551616) = false := decide_eq_false (by omega)
  clear h
  go_enter Try.func84, Try.ntmps84
  go_wp2_with (go_at_call 109; (with_reducible refine (len_ok H.out).mono ?_); rintro en w1 ⟨rfl, rfl⟩)
  go_ret
  exact ⟨rfl, rfl⟩
theorem read_out {w : World} {ok : Nat → Prop} {g : Nat} {d : List Int} {t : List Bool} (h : Dk w ok g d t) (p : Int) (h0 : 0 ≤ p) (hp : (t.length : Int) ≤ p) (hp2 : p < 4294967296) : Calls Try.prog 116 #[.pointer (some ⟨g, 0, none⟩), .int .u32 p] w fun e w' => e = .returned (.tuple #[.slice none 0 0, .int .i64 8]) ∧ w' = w := by
  have H := Aside0.mk h
  have HP := Aside0.mk hp
  have HP2 := Aside0.mk hp2
  clear h hp hp2
  have en := eqn_none
  go_enter Try.func116, Try.ntmps116
  go_wp2_with (go_at_call 84; (with_reducible refine (at_out H.out p h0 HP.out HP2.out).mono ?_); rintro en w1 ⟨rfl, rfl⟩)
  go_ret2
  exact ⟨rfl, rfl⟩
theorem cut_mid (W : World) (g c a : Nat) (xs : List Int) (j : Int) (h0 : 0 ≤ j) (h1 : j + 512 ≤ xs.length) (hc : xs.length ≤ c) : (Instr.slice 52 (.slice (some ⟨g, 0, none⟩) xs.length c) (some (.int .i64 j)) (some (.int .i64 (j + 512))) none).run Try.prog W = .ok (.slice (some ⟨g, j.toNat, none⟩) 512 (c - j.toNat)) W := by
  obtain ⟨i0, hi0, _, hsz, _⟩ := info_parts info5
  have hel : Try.prog.elem 52 = 5 := by simp [Program.elem, Try.underlying52]
  have hu : Try.prog.underlying 52 = some (.slice (Try.prog.elem 52)) := by rw [hel]; exact Try.underlying52
  rw [run_slice_lh W 52 _ xs.length c hu .i64 .i64 j (j + 512) h0 (by omega) (by omega), hel]
  have hj : ¬ c = j.toNat := by omega
  have h2 : (j + 512).toNat - j.toNat = 512 := by omega
  simp [typeInfo, hi0, hsz, sliced, hj, h2, add0]
/-- A page's bytes. -/
def pg (d : List Int) (p : Nat) : List Int := (d.drop (512 * p)).take 512
theorem pg_len {d : List Int} {t : List Bool} (h : d.length = 512 * t.length) {p : Nat} (hp : p < t.length) : (pg d p).length = 512 := by
  rw [pg, List.length_take, List.length_drop]
  omega
theorem cut_C {w : World} {g c : Nat} {d : List Int} (h : Kd.C (Kd.int .u8) w (some ⟨g, 0, none⟩) d.length d) (p : Nat) (hp : 512 * p + 512 ≤ d.length) (hc : d.length ≤ c) : Kd.C (Kd.int .u8) w (some ⟨g, 512 * p, none⟩) (pg d p).length (pg d p) := by
  have hm := Kd.C_mid (lo := 512 * p) (hi := 512 * p + 512) (c := c) h (by omega) (by omega) hc
  have e : (d.take (512 * p + 512)).drop (512 * p) = pg d p := by rw [pg, List.drop_take]; congr 1; omega
  rw [e, if_neg (by omega)] at hm
  have e2 : (some (⟨g, 0, none⟩ : Addr)).map (·.add (512 * p * (Kd.int .u8).sz)) = some ⟨g, 512 * p, none⟩ := by
    show some (Addr.add ⟨g, 0, none⟩ (512 * p * 1)) = _
    rw [add0, Nat.mul_one]
  rw [e2] at hm
  exact hm
theorem at_in {w : World} {g gd cd : Nat} {d : List Int} {t : List Bool} {v2 : Value} {ok : Nat → Prop} (H : Dk w ok g d t) (hb : w.heap[g]? = some (.cells #[.slice (some ⟨gd, 0, none⟩) d.length cd, v2] 114 (0, 0))) (hc : d.length ≤ cd) (p : Int) (h0 : 0 ≤ p) (hp : p < t.length) : Calls Try.prog 84 #[.pointer (some ⟨g, 0, none⟩), .int .u32 p] w fun e w' => e = .returned (.slice (some ⟨gd, (p * 512).toNat, none⟩) 512 (cd - (p * 512).toNat)) ∧ w' = w := by
  have h4 : t.length ≤ 4096 := H.2.2.2.1
  have hl := H.2.1
  have c0 : decide (IntKind.u64.wrap (t.length : Int) ≤ IntKind.u64.wrap p) = false := decide_eq_false (by show ¬ (t.length : Int) % 18446744073709551616 ≤ p % 18446744073709551616; omega)
  have hc0 := (blk_cell hb 0).trans rfl
  have hf0 := blk_frozen hb 0
  have hcut := cut_mid w gd cd 0 d (p * 512) (by omega) (by omega) hc
  have w1 : wrap64 (p * 512) = p * 512 := by unfold wrap64; omega
  have w2 : wrap64 (p * 512 + 512) = p * 512 + 512 := by unfold wrap64; omega
  have w3 : wrap64 p = p := by unfold wrap64; omega
  have HH := Aside0.mk H
  clear hb hl h4 hp hc H
  go_enter Try.func84, Try.ntmps84
  go_wp2_with (go_at_call 109; (with_reducible refine (len_ok HH.out).mono ?_); rintro en w1 ⟨rfl, rfl⟩)
  go_ret
  exact ⟨rfl, rfl⟩
theorem clone_ok (A0 : Option Addr) (c0 : Nat) (l0 : List Int) (w : World) (hr0 : Kd.C (Kd.int .u8) w A0 l0.length l0) (hb : l0.length ≤ 140737488355328) :
    Calls Try.prog 49 #[.slice A0 l0.length c0] w fun e w' => ∃ v : Value, e = .returned v ∧ Kd.R (Kd.int .u8) 5 w' w.heap.size (fun _ => True) v l0 ∧ Below w.heap.size w w' := by
  cases A0 with
  | none =>
    have h0 : l0.length = 0 := by
      rcases Nat.eq_zero_or_pos l0.length with h0 | h0
      · exact h0
      · obtain ⟨ad, he, _⟩ := Kd.at_int hr0 0 (by omega) (by omega)
        cases he
    obtain rfl := List.eq_nil_of_length_eq_zero h0
    refine (Try.bytes_Clone_nil _ c0 w).mono ?_
    rintro e w' ⟨rfl, rfl⟩
    exact ⟨_, rfl, Kd.R_nil _ _ _ _ _, Below.refl _ _⟩
  | some a =>
    refine (Try.bytes_Clone_at a l0.length c0 l0 w rfl hb ?_).mono ?_
    · intro i hi
      obtain ⟨ad, he, hx⟩ := Kd.at_int hr0 (i : Int) (by omega) (by omega)
      injection he with he
      subst he
      exact hx
    · rintro e w' ⟨v, rfl, ho, _, hB⟩
      exact ⟨v, rfl, Kd.R_of_own (h1 := fun _ => rfl) ho (fun _ _ => trivial), hB⟩
theorem read_in {w : World} {g : Nat} {d : List Int} {t : List Bool} {ok : Nat → Prop} (H : Dk w ok g d t) (p : Int) (h0 : 0 ≤ p) (hp : p < t.length) : Calls Try.prog 116 #[.pointer (some ⟨g, 0, none⟩), .int .u32 p] w fun e w' => ∃ v, e = .returned (.tuple #[v, .int .i64 0]) ∧ Kd.R (Kd.int .u8) 5 w' w.heap.size (fun _ => True) v (pg d p.toNat) ∧ Below w.heap.size w w' := by
  obtain ⟨gd, cd, gt, ct, hb, hcd, hct, hd, ht, _, _⟩ := H.form
  have hl := H.2.1
  have hC := cut_C (Kd.R_reads' hd).2.2 p.toNat (by omega) hcd
  have hpl : (pg d p.toNat).length = 512 := pg_len H.2.1 (by omega)
  rw [hpl, show 512 * p.toNat = (p * 512).toNat by omega] at hC
  have HC := Aside0.mk hC
  have HB := Aside0.mk hb
  have HH := Aside0.mk H
  have HP := Aside0.mk hp
  have HCD := Aside0.mk hcd
  have HL := Aside0.mk hpl
  have en := eqn_some
  clear hC hb H hp hcd hl hd ht hct hpl
  go_enter Try.func116, Try.ntmps116
  go_wp2_with (first | (go_at_call 84; (with_reducible refine (at_in HH.out HB.out HCD.out p h0 HP.out).mono ?_); rintro en w1 ⟨rfl, rfl⟩) | (go_at_call 49; (have hx := clone_ok (some ⟨gd, (p * 512).toNat, none⟩) (cd - (p * 512).toNat) (pg d p.toNat) _ (by rw [HL.out]; exact HC.out) (by rw [HL.out]; decide)); rw [HL.out] at hx; (with_reducible refine hx.mono ?_); rintro en w1 ⟨v, rfl, ho, hbl⟩; have HO := Aside0.mk ho; have HBL := Aside0.mk hbl; clear ho hbl))
  go_ret2
  exact ⟨v, rfl, HO.out, HBL.out⟩
/-- How many are free. -/
def lf : List Bool → Int
  | [] => 0
  | b :: r => (if b then 0 else 1) + lf r
theorem lf_in : ∀ t : List Bool, 0 ≤ lf t ∧ lf t ≤ t.length
  | [] => by simp [lf]
  | b :: r => by
    have := lf_in r
    cases b <;> simp [lf] <;> omega
theorem drop_b (l : List Bool) (i : Int) (h0 : 0 ≤ i) (h1 : i < (l.length : Int)) : l.drop i.toNat = rdOf false l i :: l.drop (i + 1).toNat := by
  have h : i.toNat < l.length := by omega
  rw [List.drop_eq_getElem_cons h, show (i + 1).toNat = i.toNat + 1 by omega]
  simp [rdOf, List.getD_eq_getElem?_getD, h]
theorem wr_in (n : Int) (h : -9223372036854775808 ≤ n ∧ n ≤ 9223372036854775807) : wrap64 n = n := by
  unfold wrap64
  omega
theorem left_ok {w : World} {g : Nat} {d : List Int} {t : List Bool} {ok : Nat → Prop} (H : Dk w ok g d t) : Calls Try.prog 46 #[.pointer (some ⟨g, 0, none⟩)] w fun e w' => e = .returned (.int .i64 (lf t)) ∧ w' = w := by
  obtain ⟨gd, cd, gt, ct, hb, hcd, hct, hd, ht, _, _⟩ := H.form
  have HC := Aside0.mk (Kd.R_reads' ht).2.2
  have HL := Aside0.mk H.2.2.2.1
  have hc1 := (blk_cell hb 1).trans rfl
  have hf1 := blk_frozen hb 1
  clear hb hd ht hct hcd H
  go_enter Try.func46, Try.ntmps46
  go_wp2
  go_loopg [3, 14] t.length (fun kq v3 v14 w' => ∃ n i : Int, v3 = .int .i64 n ∧ v14 = .int .i64 i ∧ Aside0 (0 ≤ i ∧ (kq : Int) + i = (t.length : Int)) ∧ Aside0 (n + lf (t.drop i.toNat) = lf t ∧ 0 ≤ n) ∧ w' = w)
  case atStart => exact ⟨0, 0, rfl, rfl, ⟨by omega⟩, ⟨by simp⟩, rfl⟩
  case round =>
    obtain ⟨n, i, rfl, rfl, HI, HN, rfl⟩ := hrel
    by_cases c2 : i < (t.length : Int)
    · have c2b0 : decide (i < (t.length : Int)) = true := decide_eq_true c2
      obtain ⟨ad, e1, hx0⟩ := Kd.at_bool HC.out i HI.out.1 c2
      injection e1 with e1
      subst e1
      have e2 : Addr.add ⟨gt, 0, none⟩ i.toNat = ⟨gt, i.toNat, none⟩ := add0 _ _
      rw [e2] at hx0
      have p9 : (0 ≤ i) = True := eq_true HI.out.1
      have q9 : (i < (t.length : Int)) = True := eq_true c2
      have hn := HN.out.1
      rw [drop_b t i HI.out.1 c2, lf] at hn
      have HC2 := Aside0.mk c2
      have hr := lf_in (t.drop (i + 1).toNat)
      have hr2 := lf_in t
      have HR := Aside0.mk (And.intro hr hr2)
      cases hbv : rdOf false t i
      all_goals
        rw [hbv] at hx0 hn
        simp only [if_true, if_neg (show ¬ (false = true) by decide)] at hn
        have HN2 := Aside0.mk hn
        have h4 := HL.out
        have w1 : wrap64 (n + 1) = n + 1 := wr_in _ (by have := HN.out.2; have := HN.out.1; have := (lf_in (t.drop i.toNat)).1; have := hr2; omega)
        have w2 : wrap64 (i + 1) = i + 1 := wr_in _ (by have := HI.out; omega)
        clear hn c2 hbv hr hr2 h4
        go_wp2
        go_roundg (gk - 1)
        case measure => have h1 := HI.out; have h2 := HC2.out; omega
        case rel =>
          have h1 := HI.out
          have h2 := HC2.out
          have h3 := HN2.out
          have h4 := HN.out.2
          exact ⟨_, i + 1, rfl, by rw [wr_in (i + 1) (by have := HL.out; omega)], ⟨by omega⟩, ⟨by first | omega | (rw [wr_in (n + 1) (by have := HL.out; have := HR.out; omega)]; omega)⟩, rfl⟩
    · have c2b0 : decide (i < (t.length : Int)) = false := decide_eq_false c2
      have hn := HN.out.1
      rw [List.drop_of_length_le (by have := HI.out; omega)] at hn
      have hn' : n = lf t := by simpa [lf] using hn
      subst hn'
      clear hn c2
      go_wp2
      go_ret
      exact ⟨rfl, rfl⟩
end Go.Proofs.Ytpfegfkniilobaa.Dsk
namespace Go.Proofs.Ytpfegfkniilobaa.Dsk
open Go.RowKit Go.Proofs.YtpfegfkniilobaaW.PrintWords Go.Proofs.YtpfegfkniilobaaW.PrintLast Go.Proofs.YtpfegfkniilobaaW.PrintMore
set_option linter.unusedVariables false
set_option linter.unusedSimpArgs false
set_option maxRecDepth 100000
theorem setRow_grown (w : World) (g : Nat) (cs : Array Value) : w.grownBy (w.setRow g cs) (some g) := ⟨rfl, rfl, rfl, by simp [World.setRow], fun k _ hne => setRow_other w g k cs (fun e => hne (by rw [e]))⟩
/-- copy(b[off:..], ys) into a row of one's own. -/
theorem copy_cut {P : Program} {W : World} {ops : Array Oper} {rest : List Oper} {o : Oper} {a : Act} {Q : Exit → Act → World → Prop} (hgd : o.guard = none) (d s : Operand) (dT sT : TypeId)
    (ho : o.op = .call { callee := .builtin .copy, args := #[d, s], argTypes := #[dT, sT] }) (e : TypeId) (hu : P.underlying dT = some (.slice e)) (hsz : (P.info? e).map (·.size) = some 1)
    (g off cap : Nat) (xs ys : List Int) (base : Nat) (ok : Nat → Prop) (HO : Kd.R (Kd.int .u8) e W base ok (.slice (some ⟨g, 0, none⟩) xs.length cap) xs)
    (dp sp : Option Addr) (dLen dCap sCap : Nat) (hd : a.eval d = .slice dp dLen dCap) (hs : a.eval s = .slice sp ys.length sCap)
    (hdp : 0 < ys.length → dp = some ⟨g, off, none⟩) (hle : ys.length ≤ dLen) (hfit : off + ys.length ≤ xs.length) (HR : Kd.C (Kd.int .u8) W sp ys.length ys)
    (h : ∀ w1, Kd.R (Kd.int .u8) e w1 base ok (.slice (some ⟨g, 0, none⟩) xs.length cap) (splice xs off ys) → W.grownBy w1 (some g) → wpList P ops Q rest (a.put o.dst (.int .i64 (ys.length : Int))) w1) :
    wpList P ops Q (o :: rest) a W := by
  by_cases h0 : ys.length = 0
  · obtain rfl := List.eq_nil_of_length_eq_zero h0
    refine wpList_copy_nothing hgd d s dT sT ho e hu hsz dp sp dLen dCap 0 sCap hd hs (by simp) ?_
    exact h W (by simpa [splice] using HO) (World.grownBy.refl W _)
  · have hp : 0 < ys.length := by omega
    obtain rfl := hdp hp
    obtain ⟨ad, rfl, hc⟩ := (Kd.reads_of_C (enc := Value.int .u8) (d := (0 : Int)) (h1 := fun _ => rfl) HR).2.2 hp
    have hown := Kd.own_of_R HO
    rcases hown.2 with ⟨hv, hx0⟩ | ⟨g', cap', cur, hv, hb, hh, hnc, hcm, hcs, htake⟩
    · cases hv
    injection hv with hv1 hv2 hv3
    injection hv1 with hv1
    injection hv1 with hv1
    subst hv1
    subst hv3
    rw [Nat.mul_one] at hcs htake
    have hcl : cur.toList.length = cap := by simpa using hcs
    have hlen : (encs (Value.int .u8) ys).length = ys.length := encs_length _
    have hsrc : ∀ j v, (encs (Value.int .u8) ys)[j]? = some v → W.cell? (ad.add j) = some v := by
      intro j u hu
      have hj : j < ys.length := by
        rcases Nat.lt_or_ge j ys.length with h | h
        · exact h
        · rw [List.getElem?_eq_none (by rw [encs_length]; exact h)] at hu
          cases hu
      rw [encs_get (d := 0) _ j hj] at hu
      rw [hc j hj]
      exact hu
    refine wpList_copy_own hgd d s dT sT ho e hu hsz g off dLen dCap ad ys.length sCap hd hs cur e hh (encs (Value.int .u8) ys) (by rw [hlen]; exact (Nat.min_eq_left hle).symm) hsrc (by rw [hlen]; omega) (by intro v hv; simp only [encs, List.mem_map] at hv; obtain ⟨q, _, rfl⟩ := hv; rfl) ?_
    rw [hlen]
    refine h _ ?_ (setRow_grown _ _ _)
    have hln : (splice xs off ys).length = xs.length := length_splice _ _ _ hfit
    have ho2 : (W.setRow g (cur.toList.take off ++ (encs (Value.int .u8) ys ++ cur.toList.drop (off + ys.length))).toArray).ownsRow base e 1 (.slice (some ⟨g, 0, none⟩) (splice xs off ys).length cap) (splice xs off ys).length (encs (Value.int .u8) (splice xs off ys)) := by
      refine ⟨by rw [encs_length, Nat.mul_one], .inr ⟨g, cap, _, rfl, hb, setRow_heap W g cur _ e (0, 0) hh, by rw [hln]; exact hnc, hcm, ?_, ?_⟩⟩
      · rw [Nat.mul_one]
        simp only [List.size_toArray, List.length_append, List.length_take, List.length_drop, hlen]
        omega
      · rw [Nat.mul_one, hln]
        have ht : xs.map (Value.int .u8) = cur.toList.take xs.length := htake.symm
        simp only [encs, splice, List.map_append, List.map_take, List.map_drop, ht, List.take_take, List.drop_take]
        rw [Nat.min_eq_left (by omega), List.take_append, List.take_append, List.take_of_length_le (by simp; omega), List.take_of_length_le (l := ys.map _) (by simp; omega)]
        congr 2
        congr 1
        simp
        omega
    rw [← hln]
    exact Kd.R_of_own (h1 := fun _ => rfl) ho2 HO.1
/-- The first free page: its number, or -1. -/
def ix : List Bool → Int → Int
  | [], _ => -1
  | b :: r, i => if b then ix r (i + 1) else i
theorem index_ok (w : World) (A : Option Addr) (t : List Bool) (c : Nat) (hC : Kd.C Kd.bool w A t.length t) (hl : t.length ≤ 1000000) : Calls Try.prog 106 #[.slice A t.length c, .bool false] w fun e w' => e = .returned (.int .i64 (ix t 0)) ∧ w' = w := by
  have HC := Aside0.mk hC
  have HL := Aside0.mk hl
  clear hC hl
  go_enter Try.func106, Try.ntmps106
  go_wp2
  go_loopg [8] t.length (fun kq v8 w' => ∃ i : Int, v8 = .int .i64 i ∧ Aside0 (0 ≤ i ∧ (kq : Int) + i = (t.length : Int)) ∧ Aside0 (ix (t.drop i.toNat) i = ix t 0) ∧ w' = w)
  case atStart => exact ⟨0, rfl, ⟨by omega⟩, ⟨by simp⟩, rfl⟩
  case round =>
    obtain ⟨i, rfl, HI, HN, rfl⟩ := hrel
    by_cases c2 : i < (t.length : Int)
    · have c2b0 : decide (i < (t.length : Int)) = true := decide_eq_true c2
      obtain ⟨ad, e1, hx0⟩ := Kd.at_bool HC.out i HI.out.1 c2
      subst e1
      have p9 : (0 ≤ i) = True := eq_true HI.out.1
      have q9 : (i < (t.length : Int)) = True := eq_true c2
      have hn := HN.out
      rw [drop_b t i HI.out.1 c2, ix] at hn
      have HC2 := Aside0.mk c2
      have w2 : wrap64 (i + 1) = i + 1 := wr_in _ (by have := HI.out; have := HL.out; omega)
      cases hbv : rdOf false t i
      · rw [hbv] at hx0 hn
        simp only [if_neg (show ¬ (false = true) by decide)] at hn
        have HN2 := Aside0.mk hn
        clear hn c2 hbv
        go_wp2
        go_ret
        exact ⟨by rw [← HN2.out]; rfl, rfl⟩
      · rw [hbv] at hx0 hn
        simp only [if_true] at hn
        have HN2 := Aside0.mk hn
        clear hn c2 hbv
        go_wp2
        go_roundg (gk - 1)
        case measure => have h1 := HI.out; have h2 := HC2.out; omega
        case rel =>
          have h1 := HI.out
          have h2 := HC2.out
          exact ⟨i + 1, by rw [wr_in (i + 1) (by have := HL.out; omega)], ⟨by omega⟩, HN2, rfl⟩
    · have c2b0 : decide (i < (t.length : Int)) = false := decide_eq_false c2
      have hn := HN.out
      rw [List.drop_of_length_le (by have := HI.out; omega), ix] at hn
      have HN2 := Aside0.mk hn
      clear hn c2
      go_wp2
      go_ret
      exact ⟨by rw [← HN2.out]; rfl, rfl⟩
theorem ix_in : ∀ (t : List Bool) (i : Int), ix t i = -1 ∨ (i ≤ ix t i ∧ ix t i < i + t.length)
  | [], i => .inl rfl
  | true :: r, i => by
    rcases ix_in r (i + 1) with h | h
    · exact .inl h
    · refine .inr ?_
      simp only [ix, if_true, List.length_cons]
      omega
  | false :: r, i => by
    refine .inr ?_
    simp only [ix, if_neg (show ¬ (false = true) by decide), List.length_cons]
    omega
theorem take_full {w : World} {g : Nat} {d : List Int} {t : List Bool} {ok : Nat → Prop} (H : Dk w ok g d t) (hx : ix t 0 = -1) : Calls Try.prog 80 #[.pointer (some ⟨g, 0, none⟩)] w fun e w' => e = .returned (.tuple #[.int .u32 0, .int .i64 7]) ∧ w' = w := by
  obtain ⟨gd, cd, gt, ct, hb, hcd, hct, hd, ht, _, _⟩ := H.form
  have HC := Aside0.mk (Kd.R_reads' ht).2.2
  have HL := Aside0.mk (show t.length ≤ 1000000 by have := H.2.2.2.1; omega)
  have hc1 := (blk_cell hb 1).trans rfl
  have hf1 := blk_frozen hb 1
  have c0 : decide (ix t 0 < 0) = true := decide_eq_true (by omega)
  clear hb hd ht hct hcd H hx
  go_enter Try.func80, Try.ntmps80
  go_wp2_with (go_at_call 106; (with_reducible refine (index_ok _ _ t ct HC.out HL.out).mono ?_); rintro en w1 ⟨rfl, rfl⟩)
  go_ret2
  exact ⟨rfl, rfl⟩
theorem take_some {w : World} {g : Nat} {d : List Int} {t : List Bool} {ok : Nat → Prop} (H : Dk w ok g d t) (hx : ix t 0 ≠ -1) : Calls Try.prog 80 #[.pointer (some ⟨g, 0, none⟩)] w fun e w' => e = .returned (.tuple #[.int .u32 (ix t 0), .int .i64 0]) ∧ Dk w' ok g d (t.set (ix t 0).toNat true) ∧ Kept w w' ok ∧ ∀ B, (∀ k, ok k → B ≤ k) → Below B w w' := by
  obtain ⟨gd, cd, gt, ct, hb, hcd, hct, hd, ht, hkd, hkt⟩ := H.form
  obtain ⟨h1, h2, h3, h4, _⟩ := H
  have hin := ix_in t 0
  have hi0 : 0 ≤ ix t 0 := by omega
  have hi1 : ix t 0 < t.length := by omega
  have HC := Aside0.mk (Kd.R_reads' ht).2.2
  have HL := Aside0.mk (show t.length ≤ 1000000 by omega)
  have hc1 := (blk_cell hb 1).trans rfl
  have hf1 := blk_frozen hb 1
  obtain ⟨hcell, hfr⟩ := Kd.R_cell false ht (ix t 0) hi0 hi1
  have c0 : decide (ix t 0 < 0) = false := decide_eq_false (by omega)
  have p9 : (0 ≤ ix t 0) = True := eq_true hi0
  have q9 : (ix t 0 < (t.length : Int)) = True := eq_true hi1
  have e2 : Addr.add ⟨gt, 0, none⟩ (ix t 0).toNat = ⟨gt, (ix t 0).toNat, none⟩ := add0 _ _
  have u0 : IntKind.u32.wrap (ix t 0) = ix t 0 := by show ix t 0 % 4294967296 = _; omega
  obtain ⟨_, _, _, _, cells, hbt⟩ := Kd.R_form ht h3
  have hgt : gt < w.heap.size := World.block_lt_of_cell? w _ hcell
  have hne : g ≠ gt := by
    obtain ⟨g', cap', e', _, _, cells, hbt⟩ := Kd.R_form ht h3
    injection e' with e'
    injection e' with e'
    injection e' with e'
    subst e'
    exact blk_ne hb hbt (by decide)
  have hres : Dk (w.setCell ⟨gt, (ix t 0).toNat, none⟩ (.bool true)) ok g d (t.set (ix t 0).toNat true) := by
    refine ⟨h1, by rw [List.length_set]; exact h2, by rw [List.length_set]; exact h3, by rw [List.length_set]; exact h4, _, _, blk_far hb hne _, ?_, ?_⟩
    · obtain ⟨g', cap', e', _, _, cells, hbt⟩ := Kd.R_form ht h3
      injection e' with e'
      injection e' with e'
      injection e' with e'
      subst e'
      exact Kd.R_set hd hbt (by decide) _ _
    · have := (Kd.R_put ht (ix t 0) true).1
      exact this
  have HRes := Aside0.mk hres
  have HKT := Aside0.mk hkt
  clear hb hd ht hct hcd hx hin hi0 hi1 h1 h2 h3 h4 hres hkt hkd hbt
  go_enter Try.func80, Try.ntmps80
  go_wp2_with (go_at_call 106; (with_reducible refine (index_ok _ _ t ct HC.out HL.out).mono ?_); rintro en w1 ⟨rfl, rfl⟩)
  go_ret2
  exact ⟨rfl, HRes.out, (Kept.refl _ _).setCell (.inl HKT.out) _, fun B hB => (Below.refl _ _).setCell (hB _ HKT.out) _⟩
theorem write_out {w : World} {ok : Nat → Prop} {g : Nat} {d : List Int} {t : List Bool} (h : Dk w ok g d t) (p : Int) (v : Value) (h0 : 0 ≤ p) (hp : (t.length : Int) ≤ p) (hp2 : p < 4294967296) : Calls Try.prog 42 #[.pointer (some ⟨g, 0, none⟩), .int .u32 p, v] w fun e w' => e = .returned (.int .i64 8) ∧ w' = w := by
  have H := Aside0.mk h
  have HP := Aside0.mk hp
  have HP2 := Aside0.mk hp2
  have en := eqn_none
  clear h hp hp2
  go_enter Try.func42, Try.ntmps42
  go_wp2_with (go_at_call 84; (with_reducible refine (at_out H.out p h0 HP.out HP2.out).mono ?_); rintro en w1 ⟨rfl, rfl⟩)
  go_ret
  exact ⟨rfl, rfl⟩
theorem write_bad {w : World} {ok : Nat → Prop} {g : Nat} {d : List Int} {t : List Bool} (h : Dk w ok g d t) (p : Int) (A : Option Addr) (n c : Nat) (h0 : 0 ≤ p) (hp : p < t.length) (hn : n ≠ 512) : Calls Try.prog 42 #[.pointer (some ⟨g, 0, none⟩), .int .u32 p, .slice A n c] w fun e w' => e = .returned (.int .i64 1) ∧ w' = w := by
  obtain ⟨gd, cd, gt, ct, hb, hcd, hct, hd, ht, _, _⟩ := h.form
  have H := Aside0.mk h
  have HB := Aside0.mk hb
  have HP := Aside0.mk hp
  have HCD := Aside0.mk hcd
  have en := eqn_some
  have c0 : ((n : Int) != 512) = true := bne_iff_ne.mpr (by omega)
  clear h hp hd ht hct hcd hb hn
  go_enter Try.func42, Try.ntmps42
  go_wp2_with (go_at_call 84; (with_reducible refine (at_in H.out HB.out HCD.out p h0 HP.out).mono ?_); rintro en w1 ⟨rfl, rfl⟩)
  go_ret
  exact ⟨rfl, rfl⟩
theorem write_ok {w : World} {ok : Nat → Prop} {g : Nat} {d : List Int} {t : List Bool} (h : Dk w ok g d t) (p : Int) (A : Option Addr) (c : Nat) (bs : List Int) (h0 : 0 ≤ p) (hp : p < t.length) (hn : bs.length = 512) (hC : Kd.C (Kd.int .u8) w A 512 bs) : Calls Try.prog 42 #[.pointer (some ⟨g, 0, none⟩), .int .u32 p, .slice A 512 c] w fun e w' => e = .returned (.int .i64 0) ∧ Dk w' ok g (splice d (512 * p.toNat) bs) (t.set p.toNat true) ∧ Kept w w' ok ∧ ∀ B, (∀ k, ok k → B ≤ k) → Below B w w' := by
  obtain ⟨gd, cd, gt, ct, hb, hcd, hct, hd, ht, hkd, hkt⟩ := h.form
  have H := Aside0.mk h
  obtain ⟨h1, h2, h3, h4, _⟩ := h
  have HB := Aside0.mk hb
  have HP := Aside0.mk hp
  have HCD := Aside0.mk hcd
  have en := eqn_some
  have hne : g ≠ gt ∧ g ≠ gd ∧ gd ≠ gt := by
    obtain ⟨g', cap', e', _, _, cells, hbt⟩ := Kd.R_form ht h3
    injection e' with e'
    injection e' with e'
    injection e' with e'
    subst e'
    obtain ⟨g', cap', e', _, _, cells', hbd⟩ := Kd.R_form hd (by omega)
    injection e' with e'
    injection e' with e'
    injection e' with e'
    subst e'
    exact ⟨blk_ne hb hbt (by decide), blk_ne hb hbd (by decide), blk_ne hbd hbt (by decide)⟩
  have HD := Aside0.mk hd
  have HT := Aside0.mk ht
  have HN := Aside0.mk hn
  have HR := Aside0.mk hC
  have HL := Aside0.mk (And.intro h2 (And.intro h3 h4))
  have HK := Aside0.mk (And.intro h1 (And.intro hkd hkt))
  have HNE := Aside0.mk hne
  have e2 : Addr.add ⟨gt, 0, none⟩ p.toNat = ⟨gt, p.toNat, none⟩ := add0 _ _
  have p9 : (0 ≤ p) = True := eq_true h0
  have q9 : (p < (t.length : Int)) = True := eq_true hp
  have hsz : 512 * p.toNat + 512 ≤ d.length := by omega
  have HS := Aside0.mk hsz
  clear h1 h2 h3 h4 hp hd ht hct hcd hb hn hC hkd hkt hne hsz
  go_enter Try.func42, Try.ntmps42
  go_wp2_with (first | (go_at_call 84; (with_reducible refine (at_in H.out HB.out HCD.out p h0 HP.out).mono ?_); rintro en w1 ⟨rfl, rfl⟩) | ((with_reducible refine gate_builtin (b := .copy) (xs := #[.tmp 18, .tmp 19]) rfl ?_); refine copy_cut rfl (.tmp 18) (.tmp 19) 52 52 rfl 5 Try.underlying52 (by kernel_rfl) gd (512 * p.toNat) cd d bs 0 ok HD.out _ A 512 _ c rfl (by rw [HN.out]; rfl) (fun _ => by rw [show (p * 512).toNat = 512 * p.toNat by omega]) (by rw [HN.out]; decide) (by rw [HN.out]; exact HS.out) (by rw [HN.out]; exact HR.out) ?_; intro w4 ho4 hg4; have HB4 := Aside0.mk (blk_grown HB.out hg4 (by simp; exact HNE.out.2.1)); have HT4 := Aside0.mk (Kd.R_grown1 HT.out rfl hg4 (by simp [Value.ownBlock]; exact HNE.out.2.2)); have HO4 := Aside0.mk ho4; have HG4 := Aside0.mk hg4; clear ho4 hg4; have hc1 := (blk_cell HB4.out 1).trans rfl; have hf1 := blk_frozen HB4.out 1; obtain ⟨hcell, hfr⟩ := Kd.R_cell false HT4.out p h0 HP.out))
  go_ret
  obtain ⟨h2, h3, h4⟩ := HL.out
  obtain ⟨k1, k2, k3⟩ := HK.out
  have hgt : Kd.R Kd.bool 4 w4 0 ok (.slice (some ⟨gt, 0, none⟩) t.length ct) t := HT4.out
  have hln : (splice d (512 * p.toNat) bs).length = d.length := length_splice _ _ _ (by rw [HN.out]; exact HS.out)
  refine ⟨rfl, ⟨k1, by rw [hln, List.length_set]; exact h2, by rw [List.length_set]; exact h3, by rw [List.length_set]; exact h4, _, _, blk_far HB4.out HNE.out.1 _, ?_, ?_⟩, ?_, ?_⟩
  · obtain ⟨g', cap', e', _, _, cells, hbt⟩ := Kd.R_form hgt h3
    injection e' with e'
    injection e' with e'
    injection e' with e'
    subst e'
    exact Kd.R_set HO4.out hbt (by decide) _ _
  · exact (Kd.R_put hgt p true).1
  · exact (Kept.of_grown HG4.out (Kept.refl _ _) (fun k hk => by injection hk with hk; subst hk; exact .inl k2)).setCell (.inl k3) _
  · intro B hB
    exact ((Below.refl B _).trans ⟨HG4.out.os, HG4.out.tape, HG4.out.output, HG4.out.size, fun k hk => HG4.out.block k (by have := hB _ k2; have := Kd.R_lt HD.out gd rfl; omega) (by intro e; injection e with e; have := hB _ k2; omega)⟩).setCell (hB _ k3) _
end Go.Proofs.Ytpfegfkniilobaa.Dsk
namespace Go.Proofs.Ytpfegfkniilobaa.Dsk
open Go.RowKit Go.Proofs.YtpfegfkniilobaaW.PrintWords Go.Proofs.YtpfegfkniilobaaW.PrintLast Go.Proofs.YtpfegfkniilobaaW.PrintMore
set_option linter.unusedVariables false
set_option linter.unusedSimpArgs false
set_option maxRecDepth 100000
theorem Dk.bound {w : World} {ok : Nat → Prop} {g : Nat} {d : List Int} {t : List Bool} (h : Dk w ok g d t) : Dk w (fun k => ok k ∧ k < w.heap.size) g d t := by
  obtain ⟨h1, h2, h3, h4, v1, v2, hb, hd, ht⟩ := h
  exact ⟨⟨h1, blk_lt hb⟩, h2, h3, h4, v1, v2, hb, Kd.R_mono (Kd.R_bound hd) (fun _ hk => ⟨hk.1, hk.2.2.1⟩), Kd.R_mono (Kd.R_bound ht) (fun _ hk => ⟨hk.1, hk.2.2.1⟩)⟩
/-- Is a page taken, as an image says? -/
def lt (xs : List Int) (i : Nat) : Bool := decide (i = 0) || rd xs (i * 512) != 0
def ld (xs : List Int) : List Bool := (List.range (xs.length / 512)).map (lt xs)
theorem Dk.setT {w : World} {ok : Nat → Prop} {g gt ct : Nat} {d : List Int} {t : List Bool} {v1 : Value} (h : Dk w ok g d t) (hb : w.heap[g]? = some (.cells #[v1, .slice (some ⟨gt, 0, none⟩) t.length ct] 114 (0, 0))) (i : Int) (b : Bool) : Dk (w.setCell ⟨gt, i.toNat, none⟩ (.bool b)) ok g d (t.set i.toNat b) := by
  obtain ⟨h1, h2, h3, h4, v1', v2', hb', hd, ht⟩ := h
  rw [hb] at hb'
  injection hb' with hb'
  injection hb' with hb'
  injection hb' with hb'
  injection hb' with e1 e2
  injection e2 with e2
  subst e1
  subst e2
  obtain ⟨g', cap', e', _, _, cells, hbt⟩ := Kd.R_form ht h3
  injection e' with e'
  injection e' with e'
  injection e' with e'
  subst e'
  have hne : g ≠ gt := blk_ne hb hbt (by decide)
  exact ⟨h1, by rw [List.length_set]; exact h2, by rw [List.length_set]; exact h3, by rw [List.length_set]; exact h4, _, _, blk_far hb hne _, Kd.R_set hd hbt (by decide) _ _, (Kd.R_put ht i b).1⟩
theorem set_to {ts : List Bool} {xs : List Int} {i : Int} {n : Nat} {b : Bool} (hl : ts.length = n) (h : ∀ j : Nat, (j : Int) < i → ts[j]? = some (lt xs j)) (h0 : 0 ≤ i) (hi : i < n) (hb : lt xs i.toNat = b) : (ts.set i.toNat b).length = n ∧ ∀ j : Nat, (j : Int) < i + 1 → (ts.set i.toNat b)[j]? = some (lt xs j) := by
  refine ⟨by rw [List.length_set]; exact hl, fun j hj => ?_⟩
  rw [List.getElem?_set]
  by_cases e : i.toNat = j
  · subst e
    rw [if_pos rfl, if_pos (by omega), hb]
  · rw [if_neg e]
    exact h j (by omega)
theorem lt_pos {xs : List Int} {i : Int} (h0 : 0 ≤ i) (hne : ¬ i = 0) : lt xs i.toNat = (rdOf 0 xs (i * 512) != 0) := by
  rw [lt, decide_eq_false (by omega), show ((i.toNat : Nat) : Int) = i by omega]
  rfl
theorem ld_of {ts : List Bool} {xs : List Int} {n : Nat} (hn : n = xs.length / 512) (hl : ts.length = n) (h : ∀ j : Nat, (j : Int) < n → ts[j]? = some (lt xs j)) : ts = ld xs := by
  refine List.ext_getElem? fun j => ?_
  rw [ld, ← hn]
  by_cases hj : j < n
  · rw [h j (by omega)]
    simp [hj]
  · rw [List.getElem?_eq_none (by omega), List.getElem?_eq_none (by simp; omega)]
theorem made_R (w : World) (n base : Nat) (hb : base ≤ w.heap.size) (hn : n ≤ 4096) : Kd.R Kd.bool 4 (w.alloc (.cells (madeCells #[.bool false] n) 4)) base (fun _ => True) (.slice (some ⟨w.heap.size, 0, none⟩) n n) (List.replicate n false) := by
  have ho := World.ownsRow_lit (base := base) (e := 4) (size := 1) w (madeCells #[.bool false] n) n hb (by unfold maxLen; omega) (by rw [size_madeCells, Nat.mul_one])
  rw [toList_madeCells_one] at ho
  have he : (List.replicate n (Value.bool false)) = encs Value.bool (List.replicate n false) := by simp [encs]
  rw [he] at ho
  refine Kd.R_of_own (h1 := fun _ => rfl) ?_ (fun _ _ => trivial)
  rw [List.length_replicate]
  exact ho
theorem mk_dk {w W : World} {g : Nat} {xs : List Int} {ts : List Bool} {v vt : Value} (hg : W.heap.size = g) (hl : xs.length = 512 * ts.length) (h1 : 0 < ts.length) (h2 : ts.length ≤ 4096) (hB : Below w.heap.size w W) (hd : Kd.R (Kd.int .u8) 5 W w.heap.size (fun _ => True) v xs) (ht : Kd.R Kd.bool 4 W w.heap.size (fun _ => True) vt ts) : Dk (W.alloc (.cells #[v, vt] 114)) (fun k => w.heap.size ≤ k) g xs ts ∧ Below w.heap.size w (W.alloc (.cells #[v, vt] 114)) := by
  subst hg
  refine ⟨⟨hB.size, hl, h1, h2, v, vt, blk_new W _, ?_, ?_⟩, below_alloc hB _⟩
  · exact Kd.R_lower (Kd.R_mono (Kd.R_bound (Kd.R_alloc hd _)) (fun _ hk => hk.2.1)) (Nat.zero_le _)
  · exact Kd.R_lower (Kd.R_mono (Kd.R_bound (Kd.R_alloc ht _)) (fun _ hk => hk.2.1)) (Nat.zero_le _)
theorem load_ok (w : World) (A : Option Addr) (c : Nat) (xs : List Int) (hC : Kd.C (Kd.int .u8) w A xs.length xs) (hok : 1 ≤ xs.length / 512 ∧ xs.length / 512 ≤ 4096 ∧ xs.length % 512 = 0) : Calls Try.prog 18 #[.slice A xs.length c] w fun e w' => ∃ g, e = .returned (.tuple #[.pointer (some ⟨g, 0, none⟩), .int .i64 0]) ∧ Dk w' (fun k => w.heap.size ≤ k) g xs (ld xs) ∧ Below w.heap.size w w' := by
  obtain ⟨n, hn⟩ : ∃ n, n = xs.length / 512 := ⟨_, rfl⟩
  rw [← hn] at hok
  have hl : xs.length = n * 512 := by omega
  have w1 : wrap64 ((xs.length : Int) / 512) = (n : Int) := by
    rw [wr_in _ (by omega)]
    omega
  have w2 : (xs.length : Int) % 512 = 0 := by omega
  have c1 : decide ((n : Int) < 1) = false := decide_eq_false (by omega)
  have c2 : decide (4096 < (n : Int)) = false := decide_eq_false (by omega)
  have HC := Aside0.mk hC
  have HN := Aside0.mk (And.intro hn (And.intro hok hl))
  clear hok hC hn hl
  go_enter Try.func18, Try.ntmps18
  go_wp2
  have hmk := run_make_row' (P := Try.prog) 30 4 (.bool false) 1 Try.underlying30 info4 rfl .i64 .i64 n (by have := HN.out; omega) (by have := HN.out; omega)
  simp only [w1, w2]
  go_cut [5] from 22 to 27 (fun s5 wc => ∃ g, s5 = .pointer (some ⟨g, 0, none⟩) ∧ Aside0 (Dk wc (fun k => w.heap.size ≤ k) g xs (List.replicate n false) ∧ Below w.heap.size w wc))
  case first =>
    go_region_with (first | (go_at_call 49; go_loud (with_reducible refine (clone_ok A c xs _ (Kd.C_below HC.out (by repeat (first | exact Below.refl _ _ | apply below_alloc | apply pw_below_drewN | apply below_drew1))) (by have := HN.out; omega)).mono ?_; rintro en w1 ⟨v, rfl, ho, hbl⟩; obtain ⟨A1, c1, e1⟩ := Kd.R_slice ho; subst e1; have HO := Aside0.mk ho; have HBL := Aside0.mk hbl; clear ho hbl)))
    · go_wp2
      go_meet
      refine ⟨_, rfl, ⟨mk_dk (W := w1.alloc _) (xs := xs) (ts := List.replicate n false) (by simp) (by rw [List.length_replicate]; have := HN.out; omega) (by rw [List.length_replicate]; have := HN.out; omega) (by rw [List.length_replicate]; have := HN.out; omega) ?_ ?_ ?_⟩⟩
      · exact below_alloc (below_then (below_drew1 (Below.refl w.heap.size w)) (Nat.le_refl _) HBL.out) _
      · exact Kd.R_alloc HO.out _
      · exact made_R w1 n _ HBL.out.size (by have := HN.out; omega)
    · go_wp2
      go_meet
      refine ⟨_, rfl, ⟨mk_dk (ts := List.replicate n false) rfl (by rw [List.length_replicate]; have := HN.out; omega) (by rw [List.length_replicate]; have := HN.out; omega) (by rw [List.length_replicate]; have := HN.out; omega) ?_ ?_ ?_⟩⟩
      · exact below_then (below_drew1 (below_alloc (Below.refl _ _) _)) (by simp) HBL.out
      · exact Kd.R_lower HO.out (by simp)
      · exact Kd.R_below (Kd.R_drew (made_R w n _ (Nat.le_refl _) (by have := HN.out; omega))) HBL.out
  case rest =>
    obtain ⟨g, rfl, HD⟩ := hcut
    clear hmk
    have hgb := HD.out.1.form
    obtain ⟨gd, cd, gt, ct, hb, hcd, hct, _⟩ := hgb
    have hc0 := (blk_cell hb 0).trans rfl
    have hc1 := (blk_cell hb 1).trans rfl
    have hf0 := blk_frozen hb 0
    have hf1 := blk_frozen hb 1
    rw [List.length_replicate] at hc1
    have HBk := Aside0.mk hb
    clear hb hcd hct
    go_wp2
    go_loopg [33] n (fun kq v33 w' => ∃ (i : Int) (ts : List Bool), v33 = .int .i64 i ∧ Aside0 (0 ≤ i ∧ (kq : Int) + i = n) ∧ Aside0 (ts.length = n ∧ ∀ j : Nat, (j : Int) < i → ts[j]? = some (lt xs j)) ∧ Aside0 (Dk w' (fun k => w.heap.size ≤ k) g xs ts ∧ Below w.heap.size w w'))
    case atStart => exact ⟨0, _, rfl, ⟨by omega⟩, ⟨by simp, fun j hj => by omega⟩, HD⟩
    case round =>
      clear HD HBk hc0 hc1 hf0 hf1
      obtain ⟨i, ts, rfl, HI, HT, HD⟩ := hrel
      obtain ⟨gd, cd, gt, ct, hb, hcd, hct, hd, ht, hkd, hkt⟩ := HD.out.1.form
      have hc0 := (blk_cell hb 0).trans rfl
      have hc1 := (blk_cell hb 1).trans rfl
      have hf0 := blk_frozen hb 0
      have hf1 := blk_frozen hb 1
      have HBk := Aside0.mk hb
      have HCD := Aside0.mk (And.intro hcd (And.intro hct (And.intro hkd hkt)))
      have HRd := Aside0.mk hd
      have HRt := Aside0.mk ht
      clear hb hcd hct hd ht hkd hkt
      by_cases c5 : i < (n : Int)
      · have c5b : decide (i < (n : Int)) = true := decide_eq_true c5
        have p9 : (0 ≤ i) = True := eq_true HI.out.1
        have q9 : (i < (ts.length : Int)) = True := eq_true (by have := HT.out.1; omega)
        have w5 : wrap64 (i * 512) = i * 512 := wr_in _ (by have := HI.out; have := HN.out; omega)
        have p8 : (0 ≤ i * 512) = True := eq_true (by have := HI.out.1; omega)
        have q8 : (i * 512 < (xs.length : Int)) = True := eq_true (by have := HN.out.2.2; omega)
        obtain ⟨ht1, ht2⟩ := Kd.R_cell false HRt.out i HI.out.1 (by have := HT.out.1; omega)
        obtain ⟨hd1, hd2⟩ := Kd.R_cell 0 HRd.out (i * 512) (by have := HI.out.1; omega) (by have := HN.out.2.2; omega)
        have e1 : Addr.add ⟨gt, 0, none⟩ i.toNat = ⟨gt, i.toNat, none⟩ := add0 _ _
        have e2 : Addr.add ⟨gd, 0, none⟩ (i * 512).toNat = ⟨gd, (i * 512).toNat, none⟩ := add0 _ _
        by_cases c6 : i = 0
        · have c6b : (i == 0) = true := beq_iff_eq.mpr c6
          have HC5 := Aside0.mk c5
          have HC6 := Aside0.mk c6
          clear c5 c6
          go_wp2
          go_region
          go_wp2
          go_roundg (gk - 1)
          case measure => have h1 := HI.out; have h2 := HC5.out; omega
          case rel =>
            have h1 := HI.out
            have h2 := HC5.out
            have h3 := HN.out
            have hs := set_to (b := true) HT.out.1 HT.out.2 h1.1 h2 (by simp [lt, HC6.out])
            refine ⟨i + 1, ts.set i.toNat true, by rw [wr_in (i + 1) (by omega)], ⟨by omega⟩, ⟨hs⟩, ⟨?_, ?_⟩⟩
            · exact ((HD.out.1.setT HBk.out i true)).step (fun _ _ _ => rfl)
            · exact (HD.out.2.setCell (p := ⟨gt, i.toNat, none⟩) HCD.out.2.2.2 (.bool true)).trans ⟨rfl, rfl, rfl, Nat.le_refl _, fun _ _ => rfl⟩
        · have c6b : (i == 0) = false := beq_eq_false_iff_ne.mpr c6
          have HC5 := Aside0.mk c5
          have HC6 := Aside0.mk c6
          clear c5 c6
          go_wp2
          go_region
          go_wp2
          go_roundg (gk - 1)
          case measure => have h1 := HI.out; have h2 := HC5.out; omega
          case rel =>
            have h1 := HI.out
            have h2 := HC5.out
            have h3 := HN.out
            have hs := set_to (b := (rdOf 0 xs (i * 512) != 0)) HT.out.1 HT.out.2 h1.1 h2 (lt_pos h1.1 HC6.out)
            refine ⟨i + 1, ts.set i.toNat (rdOf 0 xs (i * 512) != 0), by rw [wr_in (i + 1) (by omega)], ⟨by omega⟩, ⟨hs⟩, ⟨?_, ?_⟩⟩
            · exact ((HD.out.1.setT HBk.out i (rdOf 0 xs (i * 512) != 0))).step (fun _ _ _ => rfl)
            · exact (HD.out.2.setCell (p := ⟨gt, i.toNat, none⟩) HCD.out.2.2.2 (.bool (rdOf 0 xs (i * 512) != 0))).trans ⟨rfl, rfl, rfl, Nat.le_refl _, fun _ _ => rfl⟩
      · have c5b : decide (i < (n : Int)) = false := decide_eq_false c5
        have hi : i = n := by have := HI.out; omega
        have ht := ld_of HN.out.1 HT.out.1 (by rw [← hi]; exact HT.out.2)
        subst ht
        clear c5 hi
        go_wp2
        go_ret2
        exact ⟨g, rfl, HD.out.1, HD.out.2⟩
theorem zeros_div (p : Nat) (h1 : 1 ≤ p) (h2 : p ≤ 4096) : 1 ≤ (List.replicate (p * 512) (0 : Int)).length / 512 ∧ (List.replicate (p * 512) (0 : Int)).length / 512 ≤ 4096 ∧ (List.replicate (p * 512) (0 : Int)).length % 512 = 0 := by
  rw [List.length_replicate]
  omega
/-- A new disk's pages: so many, all free but the first. -/
theorem new_ok (w : World) (p : Int) (hp : 1 ≤ p ∧ p ≤ 4096) : Calls Try.prog 12 #[.int .i64 p] w fun e w' => ∃ g, e = .returned (.tuple #[.pointer (some ⟨g, 0, none⟩), .int .i64 0]) ∧ Dk w' (fun k => w.heap.size ≤ k) g (List.replicate (p.toNat * 512) 0) (ld (List.replicate (p.toNat * 512) 0)) ∧ Below w.heap.size w w' := by
  have c1 : decide (p < 1) = false := decide_eq_false (by omega)
  have c2 : decide (4096 < p) = false := decide_eq_false (by omega)
  have w1 := Aside0.mk (wr_in (p * 512) (by omega))
  have HP := Aside0.mk hp
  clear hp
  go_enter Try.func12, Try.ntmps12
  go_wp2_with (first | ((with_reducible refine gate_dst (N := 12) rfl ?_); refine Kd.R_make (Kd.int .u8) _ 5 rfl (N := 12) rfl 52 _ _ rfl (wrap64 (p * 512)) rfl rfl Try.underlying52 (.int .u8 0) 1 info5 rfl (by decide) (by omega) 0 (ok := fun _ => True) (okp := fun _ => True) rfl (fun _ hk => hk) trivial (by rw [w1.out]; have := HP.out; omega) (by rw [w1.out]; have := HP.out; omega) (Below.refl _ _) (Nat.le_refl _) ?_; intro v w2 ho2 hb2 hg2 hnew2; obtain ⟨A2, c2', e2⟩ := Kd.R_slice ho2; subst e2; have HO2 := Aside0.mk ho2; have HL2 := Aside0.mk hb2; clear ho2 hb2 hg2 hnew2) | (go_at_call 18; (have hx := load_ok _ A2 c2' (List.replicate (wrap64 (p * 512)).toNat 0) (Kd.R_reads' HO2.out).2.2 (by have := zeros_div p.toNat (by have := HP.out; omega) (by have := HP.out; omega); have e : (wrap64 (p * 512)).toNat = p.toNat * 512 := (by rw [w1.out]; have := HP.out; omega); rw [e]; exact this)); rw [List.length_replicate] at hx; (with_reducible refine hx.mono ?_); clear hx; rintro en w3 ⟨g, rfl, hd3, hb3⟩; have HD3 := Aside0.mk hd3; have HB3 := Aside0.mk hb3; clear hd3 hb3))
  go_ret2
  have e : (wrap64 (p * 512)).toNat = p.toNat * 512 := by rw [w1.out]; have := HP.out; omega
  have hd := HD3.out
  rw [e] at hd
  exact ⟨g, rfl, hd.mono (fun k hk => Nat.le_trans HL2.out.size hk), below_then HL2.out HL2.out.size HB3.out⟩
theorem ld_zeros (p : Nat) : ld (List.replicate (p * 512) 0) = (List.range p).map (fun i => decide (i = 0)) := by
  rw [ld, List.length_replicate, Nat.mul_div_cancel _ (by omega)]
  refine List.map_congr_left fun i hi => ?_
  have hi := List.mem_range.1 hi
  have hr : rd (List.replicate (p * 512) 0) ((i : Int) * 512) = 0 := by
    rw [rd, List.getD_eq_getElem?_getD, List.getElem?_replicate]
    split <;> rfl
  rw [lt, hr]
  simp
end Go.Proofs.Ytpfegfkniilobaa.Dsk
namespace Go.Proofs.Ytpfegfkniilobaa.Dsk
open Go.RowKit Go.Proofs.YtpfegfkniilobaaW.PrintWords Go.Proofs.YtpfegfkniilobaaW.PrintLast Go.Proofs.YtpfegfkniilobaaW.PrintMore Go.Proofs.Ytpfegfkniilobaa.Byt
set_option linter.unusedVariables false
set_option linter.unusedSimpArgs false
set_option maxRecDepth 100000
theorem R_Cn {w : World} {base n c : Nat} {ok : Nat → Prop} {A : Option Addr} {xs : List Int} (h : Kd.R (Kd.int .u8) 5 w base ok (.slice A n c) xs) : Kd.C (Kd.int .u8) w A n xs := by
  have h3 := Kd.R_reads' h
  rw [h3.1]
  exact h3.2.2
theorem By.splice {d bs : List Int} (h : By d) (k : By bs) (n : Nat) : By (splice d n bs) := (h.take _).append (k.append (h.drop _))
end Go.Proofs.Ytpfegfkniilobaa.Dsk
