/- Law 09, HeapRaw, walked. Conditions: bytes and numbers of their kinds. -/
import Derived.Test.YtpfegfkniilobaaHpY
import Derived.Test.YtpfegfkniilobaaHpL
import Derived.Deep.RegionLaw
namespace Go.Proofs.Ytpfegfkniilobaa.Hp
open Go.RowKit Go.Proofs.YtpfegfkniilobaaW.PrintWords Go.Proofs.YtpfegfkniilobaaW.PrintLast Go.Proofs.YtpfegfkniilobaaW.PrintMore Go.Proofs.Ytpfegfkniilobaa.Byt Go.Proofs.Ytpfegfkniilobaa.Dsk Go.Proofs.Ytpfegfkniilobaa.XHeap
open Go.Proofs.Ytpfegfkniilobaa.PureSl (room Ok txt)
set_option linter.unusedVariables false
set_option linter.unusedSimpArgs false
set_option maxRecDepth 100000
abbrev BX (ap asl : Int) : Obj := .cells #[.int .u32 ap, .int .u16 asl] 50
/-- HeapRaw's own row of bytes, and the place in a box. -/
structure Mk (w W : World) (gx g cap N : Nat) (ap asl : Int) (xs : List Int) : Prop where
  row : Kd.R (Kd.int .u8) 5 W w.heap.size (fun _ => True) (.slice (some ⟨g, 0, none⟩) N cap) xs
  box : W.heap[gx]? = some (.cells #[.int .u32 ap, .int .u16 asl] 50 (0, 0))
  hb : Below w.heap.size w W
section
variable {w W W2 : World} {gx g cap N : Nat} {ap asl : Int} {xs ys : List Int}
theorem Mk.below (h : Mk w W gx g cap N ap asl xs) (hb : Below W.heap.size W W2) : Mk w W2 gx g cap N ap asl xs := ⟨Kd.R_below h.row hb, blk_below h.box hb, below_then h.hb h.hb.size hb⟩
theorem Mk.ge (h : Mk w W gx g cap N ap asl xs) : w.heap.size ≤ g := Kd.R_base h.row g rfl
theorem Mk.grown (h : Mk w W gx g cap N ap asl xs) (hr : Kd.R (Kd.int .u8) 5 W2 w.heap.size (fun _ => True) (.slice (some ⟨g, 0, none⟩) N cap) ys) (hg : W.grownBy W2 (some g)) : Mk w W2 gx g cap N ap asl ys :=
  ⟨hr, blk_grown h.box hg (Kd.R_ne h.row h.box (by decide)), Below.grown h.hb hg h.hb.size (fun k hk => by injection hk with hk; have := h.ge; omega)⟩
theorem Mk.put (h : Mk w W gx g cap N ap asl xs) (i x : Int) : Mk w (W.setCell ⟨g, i.toNat, none⟩ (.int .u8 x)) gx g cap N ap asl (xs.set i.toNat x) :=
  h.grown (Kd.R_putg h.row i x).1 (Kd.R_putg h.row i x).2
end
/-- What lives on behind the disk: two boxes, the reference's rows. -/
structure Al (w W : World) (B gx g14 : Nat) (ap asl : Int) (v0 v1 : Value) (P : List ByteArray) (t : List Bool) : Prop where
  box : W.heap[gx]? = some (.cells #[.int .u32 ap, .int .u16 asl] 50 (0, 0))
  b14 : W.heap[g14]? = some (.cells #[v0, v1] 32 (0, 0))
  r0 : Kd.R Kd.string 9 W w.heap.size (fun k => k < B) v0 P
  r1 : Kd.R Kd.bool 4 W w.heap.size (fun k => k < B) v1 t
  lt : gx < B ∧ g14 < B
  hb : Below w.heap.size w W
  big : w.heap.size ≤ B ∧ B ≤ W.heap.size
section
variable {w W W2 : World} {B gx g14 : Nat} {ap asl : Int} {v0 v1 : Value} {P : List ByteArray} {t : List Bool}
theorem Al.below (h : Al w W B gx g14 ap asl v0 v1 P t) (hb : Below W.heap.size W W2) : Al w W2 B gx g14 ap asl v0 v1 P t :=
  ⟨blk_below h.box hb, blk_below h.b14 hb, Kd.R_below h.r0 hb, Kd.R_below h.r1 hb, h.lt, below_then h.hb h.hb.size hb, h.big.1, Nat.le_trans h.big.2 hb.size⟩
theorem Al.kept {S : Nat → Prop} (h : Al w W B gx g14 ap asl v0 v1 P t) (hk : Pool.Kp W W2 S) (hS : ∀ k, S k → B ≤ k) : Al w W2 B gx g14 ap asl v0 v1 P t :=
  ⟨blk_kept h.box hk.kept (fun hs => by have := hS _ hs; have := h.lt; omega), blk_kept h.b14 hk.kept (fun hs => by have := hS _ hs; have := h.lt; omega), Kd.R_kept h.r0 hk.kept (fun k hi hs => by have h1 : k < B := hi; have := hS _ hs; omega), Kd.R_kept h.r1 hk.kept (fun k hi hs => by have h1 : k < B := hi; have := hS _ hs; omega), h.lt, h.hb.trans (hk.to_below w.heap.size (fun k hk2 => Nat.le_trans h.big.1 (hS k hk2)) h.hb.size), h.big.1, Nat.le_trans h.big.2 hk.size⟩
end
theorem load_n (w : World) (A : Option Addr) (c N : Nat) (xs : List Int) (hN : xs.length = N) (hC : Kd.C (Kd.int .u8) w A N xs) (hok : 1 ≤ N / 512 ∧ N / 512 ≤ 4096 ∧ N % 512 = 0) : Calls Try.prog 18 #[.slice A N c] w fun e w' => ∃ g, e = .returned (.tuple #[.pointer (some ⟨g, 0, none⟩), .int .i64 0]) ∧ Dk w' (fun k => w.heap.size ≤ k) g xs (ld xs) ∧ Below w.heap.size w w' := by
  subst hN
  exact load_ok w A c xs hC hok
theorem made8 (w : World) (n base : Nat) (hb : base ≤ w.heap.size) (hn : n ≤ 4096) : Kd.R (Kd.int .u8) 5 (w.alloc (.cells (madeCells #[.int .u8 0] n) 5)) base (fun _ => True) (.slice (some ⟨w.heap.size, 0, none⟩) n n) (List.replicate n 0) := by
  have ho := World.ownsRow_lit (base := base) (e := 5) (size := 1) w (madeCells #[.int .u8 0] n) n hb (by unfold maxLen; omega) (by rw [size_madeCells, Nat.mul_one])
  rw [toList_madeCells_one] at ho
  have he : (List.replicate n (Value.int .u8 0)) = encs (Value.int .u8) (List.replicate n 0) := by simp [encs]
  rw [he] at ho
  refine Kd.R_of_own (h1 := fun _ => rfl) ?_ (fun _ _ => trivial)
  rw [List.length_replicate]
  exact ho
theorem cut_to8 (W : World) (A : Option Addr) (c n m : Nat) (xs : List Int) (hl : xs.length = n) (hc : n ≤ c) (hm : m ≤ n) : (Instr.slice 52 (.slice A n c) none (some (.int .i64 (m : Int))) none).run Try.prog W = .ok (.slice A m c) W := by
  obtain ⟨i0, hi0, _, hsz, _⟩ := info_parts Dsk.info5
  obtain ⟨h, _⟩ := print_take_of (P := Try.prog) (Value.int .u8) 0 52 5 .i64 Try.underlying52 hi0 hsz A c xs (m : Int) (by omega) (by omega) (by omega)
  rw [Int.toNat_natCast, List.length_take, hl, Nat.min_eq_left hm] at h
  exact h W
theorem cut_off8 (W : World) (g n c : Nat) (i : Int) (h0 : 0 ≤ i) (h1 : i < n) (hc : n ≤ c) : (Instr.slice 52 (.slice (some ⟨g, 0, none⟩) n c) (some (.int .i64 i)) none none).run Try.prog W = .ok (.slice (some ⟨g, i.toNat, none⟩) (n - i.toNat) (c - i.toNat)) W := by
  obtain ⟨i0, hi0, _, hsz, _⟩ := info_parts Dsk.info5
  have hel : Try.prog.elem 52 = 5 := by simp [Program.elem, Try.underlying52]
  have hu : Try.prog.underlying 52 = some (.slice (Try.prog.elem 52)) := by rw [hel]; exact Try.underlying52
  rw [run_slice_l W 52 _ n c hu .i64 i (by omega) (by omega), hel]
  have hj : ¬ c = i.toNat := by omega
  simp [typeInfo, hi0, hsz, sliced, hj, add0]
end Go.Proofs.Ytpfegfkniilobaa.Hp
