/- A reader of bytes (its block: the bytes that are left; whether something wasn't there) and its take. Conditions: the reader's block is known, its bytes lie below it. -/
import Derived.Test.YtihmkdjambdfjaaProg
import Derived.Test.YtihmkdjambdfjaaWMore
import Derived.Test.YtihmkdjambdfjaaWKept
import Derived.WalkKit
import Derived.KernelRfl
import Derived.Laws.MakeOwn
import Derived.Deep.LoopGhost
import Derived.Lib.ConvBytes
namespace Go.Proofs.Ytihmkdjambdfjaa.Tk
open Go.RowKit Go.Proofs.YtihmkdjambdfjaaW.PrintWords Go.Proofs.YtihmkdjambdfjaaW.PrintLast Go.Proofs.YtihmkdjambdfjaaW.PrintMore
set_option linter.unusedVariables false
set_option linter.unusedSimpArgs false
set_option maxRecDepth 100000
/-- The reader's block. -/
def Cur (w0 W : World) (g : Nat) (xs : List Int) (s : Bool) : Prop := ∃ A c, W.heap[g]? = some (.cells #[.slice A xs.length c, .bool s] 85 (0, 0)) ∧ xs.length ≤ c ∧ w0.heap.size ≤ g ∧ Kd.C (Kd.int .u8) w0 A xs.length xs
theorem info5 : (Try.prog.info? 5).map (fun i => (i.zero, i.size, i.bytes)) = some (some (.int .u8 0), 1, 1) := by kernel_rfl
/-- What a take gives, what is left, whether something wasn't there. -/
def tk (xs : List Int) (s : Bool) (n : Int) : List Int × List Int × Bool := if n ≤ xs.length then (xs.take n.toNat, xs.drop n.toNat, s) else (List.replicate n.toNat 0, xs, true)
theorem tk_le (xs : List Int) (s : Bool) (n : Int) : (tk xs s n).2.1.length ≤ xs.length := by
  unfold tk
  split
  · exact Nat.le_trans (Nat.le_of_eq (List.length_drop ..)) (Nat.sub_le _ _)
  · exact Nat.le_refl _
theorem tk_len (xs : List Int) (s : Bool) (n : Int) (h0 : 0 ≤ n) : (tk xs s n).1.length = n.toNat := by
  unfold tk
  split
  · rename_i h; rw [List.length_take]; omega
  · exact List.length_replicate
theorem take_ok (w : World) (g : Nat) (A : Option Addr) (c : Nat) (xs : List Int) (s : Bool) (n : Int) (hb : w.heap[g]? = some (.cells #[.slice A xs.length c, .bool s] 85 (0, 0))) (hc : xs.length ≤ c) (hm : xs.length ≤ 9223372036854775807) (h0 : 0 ≤ n) (hn : n ≤ xs.length) :
    ∃ A', (∀ W : World, Kd.C (Kd.int .u8) W A xs.length xs → Kd.C (Kd.int .u8) W A' (xs.drop n.toNat).length (xs.drop n.toNat)) ∧
    Calls Try.prog 72 #[.pointer (some ⟨g, 0, none⟩), .int .i64 n] w fun e w' => e = .returned (.slice A n.toNat c) ∧ w.setCell ⟨g, 0, none⟩ (.slice A' (xs.drop n.toNat).length (c - n.toNat)) = w' := by
  obtain ⟨i0, hi0, _, hsz, _⟩ := info_parts info5
  obtain ⟨A', hcut, hA, _⟩ := print_drop_of (P := Try.prog) (Value.int .u8) 0 36 5 .i64 Try.underlying36 hi0 hsz A c xs n h0 hn hc
  obtain ⟨htk, _, _⟩ := print_take_of (P := Try.prog) (Value.int .u8) 0 36 5 .i64 Try.underlying36 hi0 hsz A c xs n h0 hn hc
  refine ⟨A', fun W hC => Kd.C_of_reads (h1 := fun _ => rfl) (hA W (Kd.reads_of_C hC)), ?_⟩
  clear hi0 hsz hA
  have hc0 : w.cell? ⟨g, 0, none⟩ = some (.slice A xs.length c) := (blk_cell hb 0).trans rfl
  have hc1 : w.cell? ⟨g, 1, none⟩ = some (.bool s) := (blk_cell hb 1).trans rfl
  have hf0 := blk_frozen hb 0
  have hf1 := blk_frozen hb 1
  have hlt : decide ((xs.length : Int) < n) = false := decide_eq_false (by omega)
  go_enter Try.func72, Try.ntmps72
  go_wp2
  go_ret
  exact ⟨rfl, by rw [List.length_drop]⟩
theorem take_bad (w : World) (g : Nat) (A : Option Addr) (c : Nat) (xs : List Int) (s : Bool) (n : Int) (hb : w.heap[g]? = some (.cells #[.slice A xs.length c, .bool s] 85 (0, 0))) (h0 : 0 ≤ n) (hn : n ≤ 70000) (hbad : ¬ n ≤ xs.length) :
    Calls Try.prog 72 #[.pointer (some ⟨g, 0, none⟩), .int .i64 n] w fun en w' => ∃ v, en = .returned v ∧ Kd.R (Kd.int .u8) 5 w' w.heap.size (fun _ => True) v (List.replicate n.toNat 0) ∧ w'.heap[g]? = some (.cells #[.slice A xs.length c, .bool true] 85 (0, 0)) ∧ KeepBut w w' g none ∧ ∀ B, B ≤ g → Below B w w' := by
  have hc0 : w.cell? ⟨g, 0, none⟩ = some (.slice A xs.length c) := (blk_cell hb 0).trans rfl
  have hc1 : w.cell? ⟨g, 1, none⟩ = some (.bool s) := (blk_cell hb 1).trans rfl
  have hf0 := blk_frozen hb 0
  have hf1 := blk_frozen hb 1
  have HB := Aside0.mk hb
  clear hb
  have hglt : g < w.heap.size := blk_lt HB.out
  have HN := Aside0.mk hn
  have H0 := Aside0.mk h0
  have hlt : decide ((xs.length : Int) < n) = true := decide_eq_true (by omega)
  clear hbad
  go_enter Try.func72, Try.ntmps72
  go_wp2_with ((with_reducible refine gate_dst (N := 17) rfl ?_); refine Kd.R_make (Kd.int .u8) _ 5 rfl (N := 17) rfl 36 _ _ rfl n rfl rfl Try.underlying36 (.int .u8 0) 1 info5 rfl (by decide) (by omega) 0 (ok := fun _ => True) (okp := fun _ => True) rfl (fun _ hk => hk) trivial H0.out (by have := HN.out; omega) (Below.refl _ _) (Nat.le_refl _) ?_; intro v w2 ho2 hb2 hg2 hnew2; have HO2 := Aside0.mk ho2; have HL2 := Aside0.mk hb2; clear ho2 hb2 hg2 hnew2)
  go_ret
  have hs : (w.setCell ⟨g, 1, none⟩ (.bool true)).heap.size = w.heap.size := by simp [World.setCell]
  refine ⟨v, rfl, ?_, ?_, ?_, ?_⟩
  · have := HO2.out
    rw [hs] at this
    exact this
  · exact blk_below (blk_put HB.out 1 _ rfl) HL2.out
  · exact ((KeepBut.refl w g none).set_ 1 _).trans (KeepBut.of_below HL2.out _ _) (.inl rfl)
  · intro B hB
    exact below_then ((Below.refl B w).setCell (p := ⟨g, 1, none⟩) hB _) (by rw [hs]; omega) HL2.out
/-- A take, whatever is left. -/
theorem take_any (w0 w : World) (g : Nat) (xs : List Int) (s : Bool) (n : Int) (hI : Cur w0 w g xs s) (hB : Below w0.heap.size w0 w) (hm : xs.length ≤ 9223372036854775807) (h0 : 0 ≤ n) (hn : n ≤ 70000) :
    Calls Try.prog 72 #[.pointer (some ⟨g, 0, none⟩), .int .i64 n] w fun en w' => ∃ A c, en = .returned (.slice A (tk xs s n).1.length c) ∧ (tk xs s n).1.length ≤ c ∧ Kd.C (Kd.int .u8) w' A (tk xs s n).1.length (tk xs s n).1 ∧ Cur w0 w' g (tk xs s n).2.1 (tk xs s n).2.2 ∧ Below w0.heap.size w0 w' ∧ KeepBut w w' g none := by
  obtain ⟨A, c, hb, hc, hg, hC⟩ := hI
  by_cases hok : n ≤ xs.length
  · obtain ⟨A', hA, hcall⟩ := take_ok w g A c xs s n hb hc hm h0 hok
    refine hcall.mono ?_
    rintro en w' ⟨rfl, rfl⟩
    have ht : tk xs s n = (xs.take n.toNat, xs.drop n.toNat, s) := by rw [tk, if_pos hok]
    have hlen : (xs.take n.toNat).length = n.toNat := by rw [List.length_take]; omega
    obtain ⟨i0, hi0, _, hsz, _⟩ := info_parts info5
    obtain ⟨_, htk, _⟩ := print_take_of (P := Try.prog) (Value.int .u8) 0 36 5 .i64 Try.underlying36 hi0 hsz A c xs n h0 hok hc
    have hB' := hB.setCell (p := ⟨g, 0, none⟩) hg (.slice A' (xs.drop n.toNat).length (c - n.toNat))
    rw [ht]
    refine ⟨A, c, by rw [hlen], by rw [hlen]; omega, ?_, ⟨A', c - n.toNat, blk_put hb 0 _ rfl, by rw [List.length_drop]; omega, hg, hA w0 hC⟩, hB', (KeepBut.refl w g none).set_ 0 _⟩
    exact Kd.C_below (Kd.C_of_reads (h1 := fun _ => rfl) (htk w0 (Kd.reads_of_C hC))) hB'
  · refine (take_bad w g A c xs s n hb h0 hn hok).mono ?_
    rintro en w' ⟨v, rfl, ho, hb', hk, hbl⟩
    have ht : tk xs s n = (List.replicate n.toNat 0, xs, true) := by rw [tk, if_neg hok]
    obtain ⟨A1, c1, rfl⟩ := Kd.R_slice ho
    rw [ht]
    exact ⟨A1, c1, rfl, (Kd.R_reads' ho).2.1, (Kd.R_reads' ho).2.2, ⟨A, c, hb', hc, hg, hC⟩, hB.trans (hbl _ hg), hk⟩
theorem Cur.mk {w0 W : World} {g : Nat} {xs : List Int} {s : Bool} {A : Option Addr} {c : Nat} (hb : W.heap[g]? = some (.cells #[.slice A xs.length c, .bool s] 85 (0, 0))) (hc : xs.length ≤ c) (hg : w0.heap.size ≤ g) (hC : Kd.C (Kd.int .u8) w0 A xs.length xs) : Cur w0 W g xs s := ⟨A, c, hb, hc, hg, hC⟩
theorem Cur.keep_ {w0 W W' : World} {g : Nat} {xs : List Int} {s : Bool} (h : Cur w0 W g xs s) (hb : W'.heap[g]? = W.heap[g]?) : Cur w0 W' g xs s := by
  obtain ⟨A, c, h1, h2⟩ := h
  exact ⟨A, c, hb.trans h1, h2⟩
theorem Cur.lt {w0 W : World} {g : Nat} {xs : List Int} {s : Bool} (h : Cur w0 W g xs s) : g < W.heap.size := by
  obtain ⟨A, c, h1, _⟩ := h
  exact blk_lt h1
theorem Cur.blk {w0 W : World} {g : Nat} {xs : List Int} {s : Bool} (h : Cur w0 W g xs s) : ∃ A c, W.heap[g]? = some (.cells #[.slice A xs.length c, .bool s] 85 (0, 0)) := by
  obtain ⟨A, c, h1, _⟩ := h
  exact ⟨A, c, h1⟩
theorem Cur.alloc {w0 W : World} {g : Nat} {xs : List Int} {s : Bool} (h : Cur w0 W g xs s) (o : Obj) : Cur w0 (W.alloc o) g xs s := h.keep_ (Below.heap_alloc W o g h.lt)
theorem Cur.below {w0 W W' : World} {g : Nat} {xs : List Int} {s : Bool} (h : Cur w0 W g xs s) (hb : Below W.heap.size W W') : Cur w0 W' g xs s := h.keep_ (hb.block g h.lt)
theorem Cur.far {w0 W : World} {g : Nat} {xs : List Int} {s : Bool} (h : Cur w0 W g xs s) {p : Addr} (hp : g ≠ p.block) (u : Value) : Cur w0 (W.setCell p u) g xs s := h.keep_ (Below.heap_setCell W p u g hp)
theorem add_block (a : Addr) (n : Nat) : (a.add n).block = a.block := by
  unfold Addr.add
  split <;> rfl
theorem wr_in (n : Int) (h : -9223372036854775808 ≤ n ∧ n ≤ 9223372036854775807) : wrap64 n = n := by
  unfold wrap64
  omega
/-- All are bytes. -/
def By (xs : List Int) : Prop := ∀ x ∈ xs, 0 ≤ x ∧ x ≤ 255
theorem By.tk1 {xs : List Int} (h : By xs) (s : Bool) (n : Int) : By (tk xs s n).1 := by
  unfold tk
  split
  · exact fun x hx => h x (List.mem_of_mem_take hx)
  · intro x hx
    rw [(List.mem_replicate.mp hx).2]
    omega
theorem By.tk2 {xs : List Int} (h : By xs) (s : Bool) (n : Int) : By (tk xs s n).2.1 := by
  unfold tk
  split
  · exact fun x hx => h x (List.mem_of_mem_drop hx)
  · exact h
end Go.Proofs.Ytihmkdjambdfjaa.Tk
