/- A reader of bytes (its block: the bytes that are left; whether something wasn't there) and its take. Conditions: the reader's block is known, its bytes lie below it. -/
import Derived.Test.YtpfegfkniilobaaProg
import Derived.Test.YtpfegfkniilobaaWMore
import Derived.Test.YtpfegfkniilobaaWKept
import Derived.WalkKit
import Derived.KernelRfl
import Derived.Laws.MakeOwn
import Derived.Deep.LoopGhost
import Derived.Lib.ConvBytes
import Derived.Test.YtpfegfkniilobaaByt
import Derived.Test.YtpfegfkniilobaaXSchemax0
import Derived.Deep.RegionLaw
import Derived.Test.YtpfegfkniilobaaXSchemax6
namespace Go.Proofs.Ytpfegfkniilobaa.Tk
open Go.RowKit Go.Proofs.YtpfegfkniilobaaW.PrintWords Go.Proofs.YtpfegfkniilobaaW.PrintLast Go.Proofs.YtpfegfkniilobaaW.PrintMore
set_option linter.unusedVariables false
set_option linter.unusedSimpArgs false
set_option maxRecDepth 100000
/-- The reader's block. -/
def Cur (w0 W : World) (g : Nat) (xs : List Int) (s : Bool) : Prop := ∃ A c, W.heap[g]? = some (.cells #[.slice A xs.length c, .bool s] 155 (0, 0)) ∧ xs.length ≤ c ∧ w0.heap.size ≤ g ∧ Kd.C (Kd.int .u8) w0 A xs.length xs
theorem info5 : (Try.prog.info? 5).map (fun i => (i.zero, i.size, i.bytes)) = some (some (.int .u8 0), 1, 1) := by kernel_rfl
/-- What a take gives, what is left, whether something wasn't there. -/
def tk (xs : List Int) (s : Bool) (n : Int) : List Int × List Int × Bool := if n ≤ xs.length then (xs.take n.toNat, xs.drop n.toNat, s) else (List.replicate n.toNat 0, xs, true)
theorem tk_le (xs : List Int) (s : Bool) (n : Int) : (tk xs s n).2.1.length ≤ xs.length := by
  unfold tk
  split
  · exact Nat.le_trans (Nat.le_of_eq (List.length_drop ..)) (Nat.sub_le _ _)
  · exact Nat.le_refl _
theorem tk_len (xs : List Int) (s : Bool) (n : Int) (h0 : 0 ≤ n) : (tk xs s n).1.length = n.toNat := by
  unfold tk
  split
  · rename_i h; rw [List.length_take]; omega
  · exact List.length_replicate
theorem take_ok (w : World) (g : Nat) (A : Option Addr) (c : Nat) (xs : List Int) (s : Bool) (n : Int) (hb : w.heap[g]? = some (.cells #[.slice A xs.length c, .bool s] 155 (0, 0))) (hc : xs.length ≤ c) (hm : xs.length ≤ 9223372036854775807) (h0 : 0 ≤ n) (hn : n ≤ xs.length) :
    ∃ A', (∀ W : World, Kd.C (Kd.int .u8) W A xs.length xs → Kd.C (Kd.int .u8) W A' (xs.drop n.toNat).length (xs.drop n.toNat)) ∧
    Calls Try.prog 100 #[.pointer (some ⟨g, 0, none⟩), .int .i64 n] w fun e w' => e = .returned (.slice A n.toNat c) ∧ w.setCell ⟨g, 0, none⟩ (.slice A' (xs.drop n.toNat).length (c - n.toNat)) = w' := by
  obtain ⟨i0, hi0, _, hsz, _⟩ := info_parts info5
  obtain ⟨A', hcut, hA, _⟩ := print_drop_of (P := Try.prog) (Value.int .u8) 0 52 5 .i64 Try.underlying52 hi0 hsz A c xs n h0 hn hc
  obtain ⟨htk, _, _⟩ := print_take_of (P := Try.prog) (Value.int .u8) 0 52 5 .i64 Try.underlying52 hi0 hsz A c xs n h0 hn hc
  refine ⟨A', fun W hC => Kd.C_of_reads (h1 := fun _ => rfl) (hA W (Kd.reads_of_C hC)), ?_⟩
  clear hi0 hsz hA
  have hc0 : w.cell? ⟨g, 0, none⟩ = some (.slice A xs.length c) := (blk_cell hb 0).trans rfl
  have hc1 : w.cell? ⟨g, 1, none⟩ = some (.bool s) := (blk_cell hb 1).trans rfl
  have hf0 := blk_frozen hb 0
  have hf1 := blk_frozen hb 1
  have hlt : decide ((xs.length : Int) < n) = false := decide_eq_false (by omega)
  go_enter Try.func100, Try.ntmps100
  go_wp2
  go_ret
  exact ⟨rfl, by rw [List.length_drop]⟩
theorem take_bad (w : World) (g : Nat) (A : Option Addr) (c : Nat) (xs : List Int) (s : Bool) (n : Int) (hb : w.heap[g]? = some (.cells #[.slice A xs.length c, .bool s] 155 (0, 0))) (h0 : 0 ≤ n) (hn : n ≤ 70000) (hbad : ¬ n ≤ xs.length) :
    Calls Try.prog 100 #[.pointer (some ⟨g, 0, none⟩), .int .i64 n] w fun en w' => ∃ v, en = .returned v ∧ Kd.R (Kd.int .u8) 5 w' w.heap.size (fun _ => True) v (List.replicate n.toNat 0) ∧ w'.heap[g]? = some (.cells #[.slice A xs.length c, .bool true] 155 (0, 0)) ∧ KeepBut w w' g none ∧ ∀ B, B ≤ g → Below B w w' := by
  have hc0 : w.cell? ⟨g, 0, none⟩ = some (.slice A xs.length c) := (blk_cell hb 0).trans rfl
  have hc1 : w.cell? ⟨g, 1, none⟩ = some (.bool s) := (blk_cell hb 1).trans rfl
  have hf0 := blk_frozen hb 0
  have hf1 := blk_frozen hb 1
  have HB := Aside0.mk hb
  clear hb
  have hglt : g < w.heap.size := blk_lt HB.out
  have HN := Aside0.mk hn
  have H0 := Aside0.mk h0
  have hlt : decide ((xs.length : Int) < n) = true := decide_eq_true (by omega)
  clear hbad
  go_enter Try.func100, Try.ntmps100
  go_wp2_with ((with_reducible refine gate_dst (N := 17) rfl ?_); refine Kd.R_make (Kd.int .u8) _ 5 rfl (N := 17) rfl 52 _ _ rfl n rfl rfl Try.underlying52 (.int .u8 0) 1 info5 rfl (by decide) (by omega) 0 (ok := fun _ => True) (okp := fun _ => True) rfl (fun _ hk => hk) trivial H0.out (by have := HN.out; omega) (Below.refl _ _) (Nat.le_refl _) ?_; intro v w2 ho2 hb2 hg2 hnew2; have HO2 := Aside0.mk ho2; have HL2 := Aside0.mk hb2; clear ho2 hb2 hg2 hnew2)
  go_ret
  have hs : (w.setCell ⟨g, 1, none⟩ (.bool true)).heap.size = w.heap.size := by simp [World.setCell]
  refine ⟨v, rfl, ?_, ?_, ?_, ?_⟩
  · have := HO2.out
    rw [hs] at this
    exact this
  · exact blk_below (blk_put HB.out 1 _ rfl) HL2.out
  · exact ((KeepBut.refl w g none).set_ 1 _).trans (KeepBut.of_below HL2.out _ _) (.inl rfl)
  · intro B hB
    exact below_then ((Below.refl B w).setCell (p := ⟨g, 1, none⟩) hB _) (by rw [hs]; omega) HL2.out
/-- A take, whatever is left. -/
theorem take_any (w0 w : World) (g : Nat) (xs : List Int) (s : Bool) (n : Int) (hI : Cur w0 w g xs s) (hB : Below w0.heap.size w0 w) (hm : xs.length ≤ 9223372036854775807) (h0 : 0 ≤ n) (hn : n ≤ 70000) :
    Calls Try.prog 100 #[.pointer (some ⟨g, 0, none⟩), .int .i64 n] w fun en w' => ∃ A c, en = .returned (.slice A (tk xs s n).1.length c) ∧ (tk xs s n).1.length ≤ c ∧ Kd.C (Kd.int .u8) w' A (tk xs s n).1.length (tk xs s n).1 ∧ Cur w0 w' g (tk xs s n).2.1 (tk xs s n).2.2 ∧ Below w0.heap.size w0 w' ∧ KeepBut w w' g none := by
  obtain ⟨A, c, hb, hc, hg, hC⟩ := hI
  by_cases hok : n ≤ xs.length
  · obtain ⟨A', hA, hcall⟩ := take_ok w g A c xs s n hb hc hm h0 hok
    refine hcall.mono ?_
    rintro en w' ⟨rfl, rfl⟩
    have ht : tk xs s n = (xs.take n.toNat, xs.drop n.toNat, s) := by rw [tk, if_pos hok]
    have hlen : (xs.take n.toNat).length = n.toNat := by rw [List.length_take]; omega
    obtain ⟨i0, hi0, _, hsz, _⟩ := info_parts info5
    obtain ⟨_, htk, _⟩ := print_take_of (P := Try.prog) (Value.int .u8) 0 52 5 .i64 Try.underlying52 hi0 hsz A c xs n h0 hok hc
    have hB' := hB.setCell (p := ⟨g, 0, none⟩) hg (.slice A' (xs.drop n.toNat).length (c - n.toNat))
    rw [ht]
    refine ⟨A, c, by rw [hlen], by rw [hlen]; omega, ?_, ⟨A', c - n.toNat, blk_put hb 0 _ rfl, by rw [List.length_drop]; omega, hg, hA w0 hC⟩, hB', (KeepBut.refl w g none).set_ 0 _⟩
    exact Kd.C_below (Kd.C_of_reads (h1 := fun _ => rfl) (htk w0 (Kd.reads_of_C hC))) hB'
  · refine (take_bad w g A c xs s n hb h0 hn hok).mono ?_
    rintro en w' ⟨v, rfl, ho, hb', hk, hbl⟩
    have ht : tk xs s n = (List.replicate n.toNat 0, xs, true) := by rw [tk, if_neg hok]
    obtain ⟨A1, c1, rfl⟩ := Kd.R_slice ho
    rw [ht]
    exact ⟨A1, c1, rfl, (Kd.R_reads' ho).2.1, (Kd.R_reads' ho).2.2, ⟨A, c, hb', hc, hg, hC⟩, hB.trans (hbl _ hg), hk⟩
theorem Cur.mk {w0 W : World} {g : Nat} {xs : List Int} {s : Bool} {A : Option Addr} {c : Nat} (hb : W.heap[g]? = some (.cells #[.slice A xs.length c, .bool s] 155 (0, 0))) (hc : xs.length ≤ c) (hg : w0.heap.size ≤ g) (hC : Kd.C (Kd.int .u8) w0 A xs.length xs) : Cur w0 W g xs s := ⟨A, c, hb, hc, hg, hC⟩
theorem Cur.keep_ {w0 W W' : World} {g : Nat} {xs : List Int} {s : Bool} (h : Cur w0 W g xs s) (hb : W'.heap[g]? = W.heap[g]?) : Cur w0 W' g xs s := by
  obtain ⟨A, c, h1, h2⟩ := h
  exact ⟨A, c, hb.trans h1, h2⟩
theorem Cur.lt {w0 W : World} {g : Nat} {xs : List Int} {s : Bool} (h : Cur w0 W g xs s) : g < W.heap.size := by
  obtain ⟨A, c, h1, _⟩ := h
  exact blk_lt h1
theorem Cur.blk {w0 W : World} {g : Nat} {xs : List Int} {s : Bool} (h : Cur w0 W g xs s) : ∃ A c, W.heap[g]? = some (.cells #[.slice A xs.length c, .bool s] 155 (0, 0)) := by
  obtain ⟨A, c, h1, _⟩ := h
  exact ⟨A, c, h1⟩
theorem Cur.alloc {w0 W : World} {g : Nat} {xs : List Int} {s : Bool} (h : Cur w0 W g xs s) (o : Obj) : Cur w0 (W.alloc o) g xs s := h.keep_ (Below.heap_alloc W o g h.lt)
theorem Cur.below {w0 W W' : World} {g : Nat} {xs : List Int} {s : Bool} (h : Cur w0 W g xs s) (hb : Below W.heap.size W W') : Cur w0 W' g xs s := h.keep_ (hb.block g h.lt)
theorem Cur.far {w0 W : World} {g : Nat} {xs : List Int} {s : Bool} (h : Cur w0 W g xs s) {p : Addr} (hp : g ≠ p.block) (u : Value) : Cur w0 (W.setCell p u) g xs s := h.keep_ (Below.heap_setCell W p u g hp)
theorem add_block (a : Addr) (n : Nat) : (a.add n).block = a.block := by
  unfold Addr.add
  split <;> rfl
theorem wr_in (n : Int) (h : -9223372036854775808 ≤ n ∧ n ≤ 9223372036854775807) : wrap64 n = n := by
  unfold wrap64
  omega
/-- All are bytes. -/
def By (xs : List Int) : Prop := ∀ x ∈ xs, 0 ≤ x ∧ x ≤ 255
theorem By.tk1 {xs : List Int} (h : By xs) (s : Bool) (n : Int) : By (tk xs s n).1 := by
  unfold tk
  split
  · exact fun x hx => h x (List.mem_of_mem_take hx)
  · intro x hx
    rw [(List.mem_replicate.mp hx).2]
    omega
theorem By.tk2 {xs : List Int} (h : By xs) (s : Bool) (n : Int) : By (tk xs s n).2.1 := by
  unfold tk
  split
  · exact fun x hx => h x (List.mem_of_mem_drop hx)
  · exact h
end Go.Proofs.Ytpfegfkniilobaa.Tk
namespace Go.Proofs.Ytpfegfkniilobaa.Tk
open Go.RowKit Go.Proofs.YtpfegfkniilobaaW.PrintWords Go.Proofs.YtpfegfkniilobaaW.PrintLast Go.Proofs.YtpfegfkniilobaaW.PrintMore
open Go.Proofs.Ytpfegfkniilobaa.XSchema
set_option linter.unusedVariables false
set_option linter.unusedSimpArgs false
set_option maxRecDepth 100000
/-- What is left, and whether something wasn't there. -/
def St : Type := List Int × Bool
def St.ok (s : St) : Prop := By s.1 ∧ s.1.length ≤ 1000000000
/-- The eye's state. -/
def Ey (w0 W : World) (g : Nat) (s : St) : Prop := Cur w0 W g s.1 s.2 ∧ Below w0.heap.size w0 W ∧ St.ok s
theorem Ey.bel {w0 W : World} {g : Nat} {s : St} (h : Ey w0 W g s) : Below w0.heap.size w0 W := h.2.1
theorem Ey.below {w0 W W' : World} {g : Nat} {s : St} (h : Ey w0 W g s) (hb : Below W.heap.size W W') : Ey w0 W' g s := ⟨h.1.below hb, below_then h.2.1 h.2.1.size hb, h.2.2⟩
theorem Ey.alloc {w0 W : World} {g : Nat} {s : St} (h : Ey w0 W g s) (o : Obj) : Ey w0 (W.alloc o) g s := h.below (below_alloc (Below.refl _ _) o)
theorem Ey.drew {w0 W : World} {g : Nat} {s : St} (h : Ey w0 W g s) : Ey w0 W.drew g s := h.below (below_drew1 (Below.refl _ _))
theorem Ey.far {w0 W : World} {g gb t : Nat} {s : St} {cs : Array Value} (h : Ey w0 W g s) (hx : W.heap[gb]? = some (.cells cs t (0, 0))) (ht : t ≠ 155) (hge : w0.heap.size ≤ gb) (i : Nat) (v : Value) : Ey w0 (W.setCell ⟨gb, i, none⟩ v) g s := by
  obtain ⟨A, c, hb⟩ := h.1.blk
  have hne : g ≠ gb := blk_ne hb hx (fun e => ht e.symm)
  exact ⟨h.1.far hne v, below_set h.2.1 hge, h.2.2⟩
theorem Ey.grown {α : Type} {d : Kd α} {w0 W W' : World} {g e base : Nat} {s : St} {ok : Nat → Prop} {v : Value} {rows : List α} (h : Ey w0 W g s) (ho : Kd.R d e W base ok v rows) (he : e ≠ 155) (hb : Below w0.heap.size w0 W') (hg : W.grownBy W' v.ownBlock) : Ey w0 W' g s := by
  obtain ⟨A, c, hbk⟩ := h.1.blk
  exact ⟨h.1.keep_ (hg.block g h.1.lt (Kd.R_ne ho hbk he)), hb, h.2.2⟩
/-- Another block stays while the eye reads. -/
theorem Ey.keep {w0 W W' : World} {g gb t : Nat} {s : St} {cs : Array Value} (h : Ey w0 W g s) (hk : KeepBut W W' g none) (hx : W.heap[gb]? = some (.cells cs t (0, 0))) (ht : t ≠ 155) : W'.heap[gb]? = some (.cells cs t (0, 0)) := by
  obtain ⟨A, c, hb⟩ := h.1.blk
  exact hk.blk hx (blk_ne hx hb ht) (by simp)
/-- A row stays while the eye reads. -/
theorem Ey.row {α : Type} {d : Kd α} {w0 W W' : World} {g e base : Nat} {s : St} {ok : Nat → Prop} {v : Value} {rows : List α} (h : Ey w0 W g s) (hk : KeepBut W W' g none) (ho : Kd.R d e W base ok v rows) (ht : ∀ q, q ∈ e :: d.E → q ≠ 155) : Kd.R d e W' base ok v rows := by
  obtain ⟨A, c, hb⟩ := h.1.blk
  exact Kd.R_mono (Kd.R_keep (Kd.R_types ho hb ht) hk (fun _ hk => hk.2)) (fun _ hk => hk.1)
theorem KeepBut.tr {w w1 w2 : World} {g : Nat} (h : KeepBut w w1 g none) (k : KeepBut w1 w2 g none) : KeepBut w w2 g none := h.trans k (.inl rfl)
theorem KeepBut.bl {w w1 w2 : World} {g : Nat} (h : KeepBut w w1 g none) (k : Below w1.heap.size w1 w2) : KeepBut w w2 g none := h.trans (KeepBut.of_below k g none) (.inl rfl)
/-- A store to a block that is new. -/
theorem KeepBut.nw {w w1 : World} {g gb i : Nat} {v : Value} (h : KeepBut w w1 g none) (hg : w.heap.size ≤ gb) : KeepBut w (w1.setCell ⟨gb, i, none⟩ v) g none :=
  ⟨by have := h.1; simpa [World.setCell] using this, fun k hk hne hr => (Below.heap_setCell w1 ⟨gb, i, none⟩ v k (by simp only; omega)).trans (h.2 k hk hne hr)⟩
/-- A row of the eye's own time that grew. -/
theorem KeepBut.gr {α : Type} {d : Kd α} {w w1 w2 : World} {g e base : Nat} {ok : Nat → Prop} {v : Value} {rows : List α} (h : KeepBut w w1 g none) (ho : Kd.R d e w1 base ok v rows) (hb : ∀ k, ok k → w.heap.size ≤ k) (hg : w1.grownBy w2 v.ownBlock) : KeepBut w w2 g none :=
  ⟨Nat.le_trans h.1 hg.size, fun k hk hne hr => (hg.block k (Nat.lt_of_lt_of_le hk h.1) (fun he => by
    have := hb k (ho.1 k he.symm)
    omega)).trans (h.2 k hk hne hr)⟩
/-- A count that is read. -/
def cnt (s : St) : Int × St := (rd (tk s.1 s.2 1).1 0, (tk s.1 s.2 1).2)
/-- A text that is read. -/
def txR (s : St) : ByteArray × St := (strOfNums (tk (cnt s).2.1 (cnt s).2.2 (cnt s).1).1, (tk (cnt s).2.1 (cnt s).2.2 (cnt s).1).2)
/-- The number that bytes are, the highest first. -/
def nv (bs : List Int) : Int := bs.foldl (fun a x => a * 256 + x) 0
def nmR (s : St) : Int × St := (nv (tk s.1 s.2 4).1, (tk s.1 s.2 4).2)
theorem st_tk {s : St} (h : St.ok s) (n : Int) : St.ok (tk s.1 s.2 n).2 := ⟨h.1.tk2 _ _, Nat.le_trans (tk_le _ _ _) h.2⟩
theorem cnt_in {s : St} (h : St.ok s) : 0 ≤ (cnt s).1 ∧ (cnt s).1 ≤ 255 := Byt.By.rdb (l := (Tk.tk s.1 s.2 1).1) (h.1.tk1 s.2 1) 0
theorem cnt_ok {s : St} (h : St.ok s) : St.ok (cnt s).2 := st_tk h 1
theorem txR_ok {s : St} (h : St.ok s) : St.ok (txR s).2 := st_tk (cnt_ok h) _
theorem nmR_ok {s : St} (h : St.ok s) : St.ok (nmR s).2 := st_tk h 4
theorem take_ey (w0 w : World) (g : Nat) (s : St) (n : Int) (h : Ey w0 w g s) (h0 : 0 ≤ n) (hn : n ≤ 70000) :
    Calls Try.prog 100 #[.pointer (some ⟨g, 0, none⟩), .int .i64 n] w fun en w' => ∃ A c, en = .returned (.slice A (tk s.1 s.2 n).1.length c) ∧ (tk s.1 s.2 n).1.length ≤ c ∧ Kd.C (Kd.int .u8) w' A (tk s.1 s.2 n).1.length (tk s.1 s.2 n).1 ∧ Ey w0 w' g (tk s.1 s.2 n).2 ∧ KeepBut w w' g none := by
  refine (take_any w0 w g s.1 s.2 n h.1 h.2.1 (by have := h.2.2.2; omega) h0 hn).mono ?_
  rintro en w' ⟨A, c, e, hc, hC, hI, hB, hK⟩
  exact ⟨A, c, e, hc, hC, ⟨hI, hB, st_tk h.2.2 n⟩, hK⟩
theorem count_ey (w0 w : World) (g : Nat) (s : St) (h : Ey w0 w g s) :
    Calls Try.prog 74 #[.pointer (some ⟨g, 0, none⟩)] w fun en w' => en = .returned (.int .i64 (cnt s).1) ∧ Ey w0 w' g (cnt s).2 ∧ KeepBut w w' g none := by
  have hr := cnt_in h.2.2
  have hlen := tk_len s.1 s.2 1 (by omega)
  have HI := Aside0.mk h
  obtain ⟨bs, hbs⟩ : ∃ bs, bs = (tk s.1 s.2 1).1 := ⟨_, rfl⟩
  obtain ⟨s1, hs1⟩ : ∃ s1, s1 = (tk s.1 s.2 1).2 := ⟨_, rfl⟩
  have e : cnt s = (rd bs 0, s1) := by rw [hbs, hs1]; rfl
  rw [e] at hr ⊢
  rw [← hbs] at hlen
  have HE := Aside0.mk (And.intro hbs (And.intro hs1 hlen))
  have h0 := hr.1
  have h1 := hr.2
  have hl0 : (0 < bs.length) = True := eq_true (by rw [hlen]; decide)
  clear h e hbs hs1 hr hlen
  go_enter Try.func74, Try.ntmps74
  go_wp2_with (go_at_call 100; (with_reducible refine (take_ey w0 _ g s 1 HI.out (by omega) (by omega)).mono ?_); rintro en w1 ⟨A, c, rfl, hc, hC, hI1, hK1⟩; rw [← HE.out.1] at hC; rw [← HE.out.2.1] at hI1; rw [← HE.out.1]; obtain ⟨ad, e9, hx9⟩ := Kd.at_int hC 0 (by omega) (by have := HE.out.2.2; omega); subst e9; replace hx9 : w1.cell? ad = some (.int .u8 (rd bs 0)) := hx9; have HI1 := Aside0.mk hI1; have HK1 := Aside0.mk hK1; clear hC hI1 hK1 hc)
  go_ret
  exact ⟨rfl, HI1.out, HK1.out⟩
theorem text_ey (w0 w : World) (g : Nat) (s : St) (h : Ey w0 w g s) :
    Calls Try.prog 101 #[.pointer (some ⟨g, 0, none⟩)] w fun en w' => en = .returned (.string (txR s).1) ∧ Ey w0 w' g (txR s).2 ∧ KeepBut w w' g none := by
  have hr := cnt_in h.2.2
  have HI := Aside0.mk h
  obtain ⟨n, hn⟩ : ∃ n, n = (cnt s).1 := ⟨_, rfl⟩
  obtain ⟨s1, hs1⟩ : ∃ s1, s1 = (cnt s).2 := ⟨_, rfl⟩
  obtain ⟨bs, hbs⟩ : ∃ bs, bs = (tk s1.1 s1.2 n).1 := ⟨_, rfl⟩
  have e : txR s = (strOfNums bs, (tk s1.1 s1.2 n).2) := by rw [hbs, hs1, hn]; rfl
  rw [e]
  rw [← hn] at hr
  have HE := Aside0.mk (And.intro hn (And.intro hs1 hbs))
  have HN := Aside0.mk hr
  clear h e hn hs1 hbs hr
  go_enter Try.func101, Try.ntmps101
  go_wp2_with (first
    | (go_at_call 74; (with_reducible refine (count_ey w0 _ g s HI.out).mono ?_); rintro en w1 ⟨rfl, hI1, hK1⟩; rw [← HE.out.2.1] at hI1; rw [← HE.out.1]; have HI1 := Aside0.mk hI1; have HK1 := Aside0.mk hK1; clear hI1 hK1)
    | (go_at_call 100; (with_reducible refine (take_ey w0 _ g s1 n HI1.out HN.out.1 (by have := HN.out.2; omega)).mono ?_); rintro en w2 ⟨A, c, rfl, hc, hC, hI2, hK2⟩; rw [← HE.out.2.2] at hC; rw [← HE.out.2.2]; have hcv := Kd.C_string (P := Try.prog) (A := A) (c := c) Try.underlying52 Try.underlying5 Try.underlying9 hC; have HI2 := Aside0.mk hI2; have HK2 := Aside0.mk (KeepBut.tr HK1.out hK2); clear hC hI2 hK2 hc))
  go_ret
  exact ⟨rfl, HI2.out, HK2.out⟩
theorem By.take {xs : List Int} (h : By xs) (n : Nat) : By (xs.take n) := fun x hx => h x (List.mem_of_mem_take hx)
theorem nv_in : ∀ (bs : List Int) (a : Int) (m : Int), By bs → 0 ≤ a → a < m → 0 ≤ bs.foldl (fun a x => a * 256 + x) a ∧ bs.foldl (fun a x => a * 256 + x) a < m * 256 ^ bs.length
  | [], a, m, h, h0, h1 => by simpa using ⟨h0, h1⟩
  | x :: bs, a, m, h, h0, h1 => by
    have hx := h x (List.mem_cons_self ..)
    have := nv_in bs (a * 256 + x) (m * 256) (fun y hy => h y (List.mem_cons_of_mem _ hy)) (by omega) (by omega)
    rw [List.foldl_cons, List.length_cons, Int.pow_succ]
    refine ⟨this.1, ?_⟩
    have e : m * (256 ^ bs.length * 256) = m * 256 * 256 ^ bs.length := by rw [Int.mul_comm (256 ^ bs.length) 256, Int.mul_assoc]
    rw [e]
    exact this.2
theorem nv_bd {bs : List Int} (h : By bs) : 0 ≤ nv bs ∧ nv bs < 256 ^ bs.length := by
  have := nv_in bs 0 1 h (by omega) (by omega)
  rw [Int.one_mul] at this
  exact this
theorem nv_lt {bs : List Int} (h : By bs) (hl : bs.length ≤ 4) : 0 ≤ nv bs ∧ nv bs < 4294967296 := by
  have hp := nv_bd h
  have : (256 : Int) ^ bs.length ≤ 256 ^ 4 := by
    rcases (by omega : bs.length = 0 ∨ bs.length = 1 ∨ bs.length = 2 ∨ bs.length = 3 ∨ bs.length = 4) with e | e | e | e | e <;> rw [e] <;> decide
  have e4 : (256 : Int) ^ 4 = 4294967296 := by decide
  omega
theorem nmR_in {s : St} (h : St.ok s) : 0 ≤ (nmR s).1 ∧ (nmR s).1 < 4294967296 := nv_lt (h.1.tk1 _ _) (by rw [tk_len s.1 s.2 4 (by omega)]; decide)
theorem or_join (a x : Int) (h0 : 0 ≤ x) (h1 : x ≤ 255) : Go.bits .or .i64 (wrap64 (a * 256)) (wrap64 x) = wrap64 (a * 256 + x) := by
  obtain ⟨b, rfl⟩ := Int.eq_ofNat_of_zero_le h0
  have hx : wrap64 ((b : Nat) : Int) = b := by unfold wrap64; omega
  obtain ⟨m, hm⟩ : ∃ m : Nat, (m : Int) = a % 72057594037927936 := ⟨(a % 72057594037927936).toNat, by omega⟩
  have e1 : BitVec.ofInt 64 (wrap64 (a * 256)) = BitVec.ofNat 64 (256 * m) := by
    apply BitVec.eq_of_toNat_eq
    rw [BitVec.toNat_ofInt, BitVec.toNat_ofNat]
    unfold wrap64
    omega
  have e2 : BitVec.ofInt 64 (wrap64 ((b : Nat) : Int)) = BitVec.ofNat 64 b := by
    rw [hx]
    exact BitVec.ofInt_natCast ..
  have e3 : 256 * m ||| b = 256 * m + b := (Nat.two_pow_add_eq_or_of_lt (i := 8) (by omega) m).symm
  have hm2 : m < 72057594037927936 := by omega
  simp only [Go.bits]
  rw [show IntKind.i64.bits = 64 from rfl, e1, e2, ← BitVec.ofNat_or, e3, BitVec.toNat_ofNat, Byt.w64_eq]
  unfold wrap64
  omega
/-- Bytes as a number, the highest first. -/
def num (z : Int) (l : List Int) : Int := l.foldl (fun a x => a * 256 + x) z
theorem nv_step (l : List Int) (h : By l) (n : Nat) (hn : n < l.length) (hl : l.length ≤ 4) : nv (l.take (n + 1)) = Go.bits .or .i64 (wrap64 (nv (l.take n) * 256)) (wrap64 (rd l n)) := by
  have e : rd l (n : Int) = l[n] := by simp [rd, List.getD_eq_getElem?_getD, hn]
  have hb := h _ (List.getElem_mem hn)
  have hp := nv_lt (h.take n) (by rw [List.length_take]; omega)
  rw [e, or_join _ _ hb.1 hb.2, wr_in _ (by omega), nv, nv, List.take_add_one, List.foldl_append]
  simp [hn]
set_option maxHeartbeats 4000000 in
theorem number_ey (w0 w : World) (g : Nat) (s : St) (h : Ey w0 w g s) :
    Calls Try.prog 102 #[.pointer (some ⟨g, 0, none⟩)] w fun en w' => en = .returned (.int .i64 (nmR s).1) ∧ Ey w0 w' g (nmR s).2 ∧ KeepBut w w' g none := by
  have hlen := tk_len s.1 s.2 4 (by omega)
  have hby := h.2.2.1.tk1 s.2 4
  have HI := Aside0.mk h
  obtain ⟨bs, hbs⟩ : ∃ bs, bs = (tk s.1 s.2 4).1 := ⟨_, rfl⟩
  obtain ⟨s1, hs1⟩ : ∃ s1, s1 = (tk s.1 s.2 4).2 := ⟨_, rfl⟩
  have e : nmR s = (nv bs, s1) := by rw [hbs, hs1]; rfl
  rw [e]
  rw [← hbs] at hlen hby
  have HE := Aside0.mk (And.intro hbs (And.intro hs1 hlen))
  have HY := Aside0.mk hby
  clear h e hbs hs1 hlen hby
  go_enter Try.func102, Try.ntmps102
  go_wp2_with (go_at_call 100; (with_reducible refine (take_ey w0 _ g s 4 HI.out (by omega) (by omega)).mono ?_); rintro en w1 ⟨A, c, rfl, hc, hC, hI1, hK1⟩; rw [← HE.out.1] at hC; rw [← HE.out.2.1] at hI1; rw [← HE.out.1]; have HC1 := Aside0.mk hC; have HI1 := Aside0.mk hI1; have HK1 := Aside0.mk hK1; clear hC hI1 hK1 hc)
  go_loopg [3, 9] bs.length (fun kq v3 v9 w' => ∃ i : Nat, v3 = .int .i64 (nv (bs.take i)) ∧ v9 = .int .i64 (i : Int) ∧ Aside0 ((kq : Int) + i = bs.length) ∧ w' = w1)
  case atStart => exact ⟨0, rfl, rfl, ⟨by omega⟩, rfl⟩
  case round =>
    obtain ⟨i, rfl, rfl, HI_, rfl⟩ := hrel
    by_cases c2 : i < bs.length
    · have c2b0 : decide ((i : Int) < (bs.length : Int)) = true := decide_eq_true (by omega)
      have c2b1 : decide (i < bs.length) = true := decide_eq_true c2
      obtain ⟨ad9, e9, hx9⟩ := Kd.at_int HC1.out (i : Int) (by omega) (by omega)
      subst e9
      rw [Int.toNat_natCast] at hx9
      have p9 : (0 ≤ (i : Int)) = True := eq_true (by omega)
      have q9 : ((i : Int) < (bs.length : Int)) = True := eq_true (by omega)
      have q9b : (i < bs.length) = True := eq_true c2
      have hst := nv_step bs HY.out i c2 (by rw [HE.out.2.2]; decide)
      have HST := Aside0.mk hst
      have HC9 := Aside0.mk c2
      have HWW := Aside0.mk (show wrap64 (rd bs (i : Int)) = rd bs (i : Int) from wr_in _ (by have := Byt.By.rdb (l := bs) HY.out i; omega))
      clear c2 hst
      go_wp2
      go_roundg (gk - 1)
      case measure => have h1 := HI_.out; have h2 := HC9.out; omega
      case rel =>
        have h1 := HI_.out
        have h2 := HC9.out
        have h3 := HE.out.2.2
        have h4 : ((4 : Int).toNat : Nat) = 4 := rfl
        exact ⟨i + 1, by first | rw [HST.out] | (rw [HST.out, HWW.out]), by first | rfl | rw [wr_in ((i : Int) + 1) (by omega)]; rfl, ⟨by omega⟩, rfl⟩
    · have c2b0 : decide ((i : Int) < (bs.length : Int)) = false := decide_eq_false (by omega)
      have c2b1 : decide (i < bs.length) = false := decide_eq_false c2
      have hta : bs.take i = bs := List.take_of_length_le (by omega)
      rw [hta]
      clear c2 hta
      go_wp2
      go_ret
      exact ⟨rfl, HI1.out, HK1.out⟩
end Go.Proofs.Ytpfegfkniilobaa.Tk
namespace Go.Proofs.Ytpfegfkniilobaa.Tk
open Go.RowKit Go.Proofs.YtpfegfkniilobaaW.PrintWords Go.Proofs.YtpfegfkniilobaaW.PrintLast Go.Proofs.YtpfegfkniilobaaW.PrintMore
open Go.Proofs.Ytpfegfkniilobaa.XSchema
set_option linter.unusedVariables false
set_option linter.unusedSimpArgs false
set_option maxRecDepth 100000
theorem text_is {w0 w : World} {g : Nat} {s s1 : St} {a : ByteArray} (h : Ey w0 w g s) (e : txR s = (a, s1)) :
    Calls Try.prog 101 #[.pointer (some ⟨g, 0, none⟩)] w fun en w' => en = .returned (.string a) ∧ Ey w0 w' g s1 ∧ KeepBut w w' g none := by
  have := text_ey w0 w g s h
  rwa [e] at this
theorem count_is {w0 w : World} {g : Nat} {s s1 : St} {a : Int} (h : Ey w0 w g s) (e : cnt s = (a, s1)) :
    Calls Try.prog 74 #[.pointer (some ⟨g, 0, none⟩)] w fun en w' => en = .returned (.int .i64 a) ∧ Ey w0 w' g s1 ∧ KeepBut w w' g none := by
  have := count_ey w0 w g s h
  rwa [e] at this
theorem number_is {w0 w : World} {g : Nat} {s s1 : St} {a : Int} (h : Ey w0 w g s) (e : nmR s = (a, s1)) :
    Calls Try.prog 102 #[.pointer (some ⟨g, 0, none⟩)] w fun en w' => en = .returned (.int .i64 a) ∧ Ey w0 w' g s1 ∧ KeepBut w w' g none := by
  have := number_ey w0 w g s h
  rwa [e] at this
/-- A column, columns, a table that are read. -/
def colR (s : St) : S87 × St := (⟨(txR s).1, (cnt (txR s).2).1, (nmR (cnt (txR s).2).2).1, (nmR (nmR (cnt (txR s).2).2).2).1⟩, (nmR (nmR (cnt (txR s).2).2).2).2)
def colsR : Nat → List S87 → St → List S87 × St
  | 0, cs, s => (cs, s)
  | n + 1, cs, s => colsR n (cs ++ [(colR s).1]) (colR s).2
def tabE (a : ByteArray) (c : List S87 × St) : S84 × St := (⟨a, c.1, (nmR c.2).1, (nmR (nmR c.2).2).1, (nmR (nmR (nmR c.2).2).2).1⟩, (nmR (nmR (nmR c.2).2).2).2)
def tabR (s : St) : S84 × St := tabE (txR s).1 (colsR (cnt (txR s).2).1.toNat [] (cnt (txR s).2).2)
def idsR : Nat → List Int → St → List Int × St
  | 0, cs, s => (cs, s)
  | n + 1, cs, s => idsR n (cs ++ [(cnt s).1]) (cnt s).2
def numsR : Nat → List Int → St → List Int × St
  | 0, cs, s => (cs, s)
  | n + 1, cs, s => numsR n (cs ++ [(nmR s).1]) (nmR s).2
theorem colR_ok {s : St} (h : St.ok s) : St.ok (colR s).2 := nmR_ok (nmR_ok (cnt_ok (txR_ok h)))
theorem mod8 (n : Int) (h : 0 ≤ n ∧ n ≤ 255) : n % 256 = n := by omega
theorem mod32 (n : Int) (h : 0 ≤ n ∧ n < 4294967296) : n % 4294967296 = n := by omega
theorem type_ok {α : Type} {d : Kd α} {w : World} {base e : Nat} {ok : Nat → Prop} {v : Value} {xs : List α} (h : d.R e w base ok v xs) : d.R e w base (fun k => ok k ∧ ∃ q, q ∈ e :: d.E ∧ ∃ cells, w.heap[k]? = some (.cells cells q (0, 0))) v xs := Kd.R_mono (Kd.R_bound h) (fun _ hk => ⟨hk.1, hk.2.2.2⟩)

set_option maxHeartbeats 16000000 in
theorem table_ey (w0 w : World) (g : Nat) (s : St) (h : Ey w0 w g s) :
    Calls Try.prog 75 #[.pointer (some ⟨g, 0, none⟩)] w fun en w' => ∃ v, en = .returned (.agg #[.string (tabR s).1.f0, v, .int .u32 (tabR s).1.f2, .int .i64 (tabR s).1.f3, .int .i64 (tabR s).1.f4]) ∧ Kd.R k87 87 w' w0.heap.size (fun k => w.heap.size ≤ k) v (tabR s).1.f1 ∧ Ey w0 w' g (tabR s).2 ∧ KeepBut w w' g none := by
  obtain ⟨a, s1, e1⟩ : ∃ a s1, txR s = (a, s1) := ⟨_, _, rfl⟩
  obtain ⟨n, s2, e2⟩ : ∃ n s2, cnt s1 = (n, s2) := ⟨_, _, rfl⟩
  have o1 : St.ok s1 := by have := txR_ok h.2.2; rwa [e1] at this
  have o2 : St.ok s2 := by have := cnt_ok o1; rwa [e2] at this
  have hn := cnt_in o1
  rw [e2] at hn
  simp only at hn
  obtain ⟨C, s3, e3⟩ : ∃ C s3, colsR n.toNat [] s2 = (C, s3) := ⟨_, _, rfl⟩
  obtain ⟨f, s4, e4⟩ : ∃ f s4, nmR s3 = (f, s4) := ⟨_, _, rfl⟩
  obtain ⟨r, s5, e5⟩ : ∃ r s5, nmR s4 = (r, s5) := ⟨_, _, rfl⟩
  obtain ⟨p, s6, e6⟩ : ∃ p s6, nmR s5 = (p, s6) := ⟨_, _, rfl⟩
  have e : tabR s = (⟨a, C, f, r, p⟩, s6) := by simp only [tabR, tabE, e1, e2, e3, e4, e5, e6]
  rw [e]
  simp only
  have HE := Aside0.mk (And.intro e1 (And.intro e2 (And.intro e3 (And.intro e4 (And.intro e5 e6)))))
  have HN := Aside0.mk hn
  have hn0 := hn.1
  have HI := Aside0.mk (h.alloc (.cells #[.string ⟨#[]⟩, .slice none 0 0, .int .u32 0, .int .i64 0, .int .i64 0] 84))
  have HK := Aside0.mk (KeepBut.bl (KeepBut.refl w g none) (below_alloc (Below.refl _ _) (.cells #[.string ⟨#[]⟩, .slice none 0 0, .int .u32 0, .int .i64 0, .int .i64 0] 84)))
  have H2 := Aside0.mk (blk_new w (.cells #[.string ⟨#[]⟩, .slice none 0 0, .int .u32 0, .int .i64 0, .int .i64 0] 84))
  have HW0 := Aside0.mk h.bel.size
  have HG := Aside0.mk h.1.lt
  clear h e e1 e2 e3 e4 e5 e6 o1 o2 hn
  go_enter Try.func75, Try.ntmps75
  go_wp2_with (first
    | (go_at_call 101; (with_reducible refine (text_is HI.out HE.out.1).mono ?_); rintro en wa ⟨rfl, hI, hK⟩; replace H2 := Aside0.mk (HI.out.keep hK H2.out (by decide)); replace HK := Aside0.mk (KeepBut.tr HK.out hK); replace HI := Aside0.mk hI; clear hI hK;  have HL := Aside0.mk (blk_lt H2.out))
    | (go_at_call 74; (have H3 := Aside0.mk (blk_new wa (.cells #[.string a, .slice none 0 0, .int .u32 0, .int .i64 0, .int .i64 0] 84))); (have HG3 := Aside0.mk (show w.heap.size ≤ wa.heap.size from Nat.le_of_lt HL.out)); (have HNE := Aside0.mk (show w.heap.size ≠ wa.heap.size from Nat.ne_of_lt HL.out)); replace H2 := Aside0.mk (blk_alloc H2.out (.cells #[.string a, .slice none 0 0, .int .u32 0, .int .i64 0, .int .i64 0] 84)); replace HK := Aside0.mk (KeepBut.bl HK.out (below_alloc (Below.refl _ _) (.cells #[.string a, .slice none 0 0, .int .u32 0, .int .i64 0, .int .i64 0] 84))); replace HI := Aside0.mk (HI.out.alloc (.cells #[.string a, .slice none 0 0, .int .u32 0, .int .i64 0, .int .i64 0] 84)); (with_reducible refine (count_is HI.out HE.out.2.1).mono ?_); rintro en wb ⟨rfl, hI, hK⟩; replace H2 := Aside0.mk (HI.out.keep hK H2.out (by decide)); replace H3 := Aside0.mk (HI.out.keep hK H3.out (by decide));  replace HK := Aside0.mk (KeepBut.tr HK.out hK); replace HI := Aside0.mk hI; clear hI hK;  generalize wa.heap.size = g3 at H3 HG3 HNE ⊢))
  clear HL
  go_loopg [10] n.toNat (fun kq v10 w' => ∃ (i : Nat) (cs : List S87) (sq : St) (v : Value), v10 = .int .i64 (i : Int) ∧ Aside0 (kq + i = n.toNat) ∧ Aside0 (colsR kq cs sq = (C, s3)) ∧ Aside0 (cs.length ≤ i) ∧ Aside0 (Kd.R k87 87 w' w0.heap.size (fun k => w.heap.size ≤ k) v cs) ∧ Aside0 (Ey w0 w' g sq) ∧ Aside0 (KeepBut w w' g none) ∧ Aside0 (w'.heap[w.heap.size]? = some (.cells #[.string ⟨#[]⟩, .slice none 0 0, .int .u32 0, .int .i64 0, .int .i64 0] 84 (0, 0))) ∧ Aside0 (w'.heap[g3]? = some (.cells #[.string a, v, .int .u32 0, .int .i64 0, .int .i64 0] 84 (0, 0))))
  case atStart => exact ⟨0, [], s2, _, rfl, ⟨by omega⟩, ⟨HE.out.2.2.1⟩, ⟨by simp⟩, ⟨Kd.R_nil _ _ _ _ _⟩, HI, HK, H2, H3⟩
  case round =>
    clear HI HK H2 H3
    obtain ⟨i, cs, sq, v, rfl, HJ, HQ, HCL, HO, HI, HK, H2, H3⟩ := hrel
    have h0 := (blk_cell H3.out 0).trans rfl; have h1 := (blk_cell H3.out 1).trans rfl; have h2 := (blk_cell H3.out 2).trans rfl; have h3 := (blk_cell H3.out 3).trans rfl; have h4 := (blk_cell H3.out 4).trans rfl; have hf0 := blk_frozen H3.out 0; have hf1 := blk_frozen H3.out 1; have hf2 := blk_frozen H3.out 2; have hf3 := blk_frozen H3.out 3; have hf4 := blk_frozen H3.out 4; have hl := blk_lt H3.out; 
    by_cases c5 : (i : Int) < n
    · have c1 : decide ((i : Int) < n) = true := decide_eq_true c5
      obtain ⟨k1, hk1⟩ : ∃ k1, gk = k1 + 1 := ⟨gk - 1, by have := HJ.out; omega⟩
      obtain ⟨q0, t1, e1⟩ : ∃ a s1, txR sq = (a, s1) := ⟨_, _, rfl⟩
      obtain ⟨k, t2, e2⟩ : ∃ n s2, cnt t1 = (n, s2) := ⟨_, _, rfl⟩
      obtain ⟨d, t3, e3⟩ : ∃ f s4, nmR t2 = (f, s4) := ⟨_, _, rfl⟩
      obtain ⟨m, t4, e4⟩ : ∃ r s5, nmR t3 = (r, s5) := ⟨_, _, rfl⟩
      have o1 : St.ok t1 := by have := txR_ok HI.out.2.2; rwa [e1] at this
      have hk := cnt_in o1
      rw [e2] at hk
      simp only at hk
      have e5 : colR sq = (⟨q0, k, d, m⟩, t4) := by simp only [colR, e1, e2, e3, e4]
      have hq := HQ.out
      rw [hk1, colsR, e5] at hq
      simp only at hq
      have HER := Aside0.mk (And.intro e1 (And.intro e2 (And.intro e3 e4)))
      have HQ1 := Aside0.mk (And.intro hk1 (And.intro hq c5))
      have hkm := mod8 k hk
      have hk0 := hk.1
      have hk9 := hk.2
      have hku : IntKind.u8.wrap k = k := by show k % 256 = k; exact hkm
      clear e1 e2 e3 e4 e5 o1 hk hk1 hq c5 HQ
      go_wp2_with (first
        | (go_at_call 101; (with_reducible refine (text_is HI.out HER.out.1).mono ?_); rintro en wa ⟨rfl, hI, hK⟩; (try clear h0 hf0 h1 hf1 h2 hf2 h3 hf3 h4 hf4); (try clear hl);  replace H2 := Aside0.mk (HI.out.keep hK H2.out (by decide)); replace H3 := Aside0.mk (HI.out.keep hK H3.out (by decide));  replace HO := Aside0.mk (HI.out.row hK HO.out (by decide));  replace HK := Aside0.mk (KeepBut.tr HK.out hK); replace HI := Aside0.mk hI; clear hI hK;  have h0 := (blk_cell H3.out 0).trans rfl; have h1 := (blk_cell H3.out 1).trans rfl; have h2 := (blk_cell H3.out 2).trans rfl; have h3 := (blk_cell H3.out 3).trans rfl; have h4 := (blk_cell H3.out 4).trans rfl; have hf0 := blk_frozen H3.out 0; have hf1 := blk_frozen H3.out 1; have hf2 := blk_frozen H3.out 2; have hf3 := blk_frozen H3.out 3; have hf4 := blk_frozen H3.out 4; have hl := blk_lt H3.out; )
        | (go_at_call 74; (have HC := Aside0.mk (blk_new wa (.cells #[.string q0, .int .u8 0, .int .i64 0, .int .i64 0] 87))); (have HGC := Aside0.mk (show w.heap.size ≤ wa.heap.size from HK.out.1)); replace HO := Aside0.mk (Kd.R_alloc (Kd.R_mono (ok' := fun k => w.heap.size ≤ k ∧ k < wa.heap.size) (Kd.R_bound HO.out) (fun k hk => ⟨hk.1, hk.2.2.1⟩)) (.cells #[.string q0, .int .u8 0, .int .i64 0, .int .i64 0] 87)); replace H2 := Aside0.mk (blk_alloc H2.out (.cells #[.string q0, .int .u8 0, .int .i64 0, .int .i64 0] 87)); replace H3 := Aside0.mk (blk_alloc H3.out (.cells #[.string q0, .int .u8 0, .int .i64 0, .int .i64 0] 87)); replace HK := Aside0.mk (KeepBut.bl HK.out (below_alloc (Below.refl _ _) (.cells #[.string q0, .int .u8 0, .int .i64 0, .int .i64 0] 87))); replace HI := Aside0.mk (HI.out.alloc (.cells #[.string q0, .int .u8 0, .int .i64 0, .int .i64 0] 87)); (with_reducible refine (count_is HI.out HER.out.2.1).mono ?_); rintro en wb ⟨rfl, hI, hK⟩; (try clear h0 hf0 h1 hf1 h2 hf2 h3 hf3 h4 hf4); (try clear hl);  replace H2 := Aside0.mk (HI.out.keep hK H2.out (by decide)); replace H3 := Aside0.mk (HI.out.keep hK H3.out (by decide));  replace HC := Aside0.mk (HI.out.keep hK HC.out (by decide));  replace HO := Aside0.mk (HI.out.row hK HO.out (by decide));  replace HK := Aside0.mk (KeepBut.tr HK.out hK); replace HI := Aside0.mk hI; clear hI hK;  generalize wa.heap.size = gc at HC HGC HO ⊢; have hn31 : gc ≠ g3 := blk_ne HC.out H3.out (by decide); have hn32 : g3 ≠ gc := Ne.symm hn31; have h0 := (blk_cell H3.out 0).trans rfl; have h1 := (blk_cell H3.out 1).trans rfl; have h2 := (blk_cell H3.out 2).trans rfl; have h3 := (blk_cell H3.out 3).trans rfl; have h4 := (blk_cell H3.out 4).trans rfl; have hf0 := blk_frozen H3.out 0; have hf1 := blk_frozen H3.out 1; have hf2 := blk_frozen H3.out 2; have hf3 := blk_frozen H3.out 3; have hf4 := blk_frozen H3.out 4; have hl := blk_lt H3.out;  have c0 := (blk_cell HC.out 0).trans rfl; have c1 := (blk_cell HC.out 1).trans rfl; have c2 := (blk_cell HC.out 2).trans rfl; have c3 := (blk_cell HC.out 3).trans rfl; have cf0 := blk_frozen HC.out 0; have cf1 := blk_frozen HC.out 1; have cf2 := blk_frozen HC.out 2; have cf3 := blk_frozen HC.out 3; have cl := blk_lt HC.out; )
        | (go_at_call 102; replace H2 := Aside0.mk (blk_far (p := ⟨gc, 1, none⟩) H2.out (blk_ne H2.out HC.out (by decide)) (.int .u8 k)); replace H3 := Aside0.mk (blk_far (p := ⟨gc, 1, none⟩) H3.out (blk_ne H3.out HC.out (by decide)) (.int .u8 k)); replace HO := Aside0.mk (Kd.R_far (p := ⟨gc, 1, none⟩) HO.out (fun k hk => Nat.ne_of_lt hk.2) (.int .u8 k)); replace HI := Aside0.mk (HI.out.far HC.out (by decide) (Nat.le_trans HW0.out HGC.out) 1 (.int .u8 k)); replace HK := Aside0.mk (KeepBut.nw (i := 1) (v := .int .u8 k) HK.out HGC.out); replace HC := Aside0.mk (blk_put HC.out 1 (.int .u8 k) rfl);  (with_reducible refine (number_is HI.out HER.out.2.2.1).mono ?_); rintro en wc ⟨rfl, hI, hK⟩; (try clear h0 hf0 h1 hf1 h2 hf2 h3 hf3 h4 hf4); (try clear hl);  (try clear c0 cf0 c1 cf1 c2 cf2 c3 cf3); (try clear cl);  replace H2 := Aside0.mk (HI.out.keep hK H2.out (by decide)); replace H3 := Aside0.mk (HI.out.keep hK H3.out (by decide));  replace HC := Aside0.mk (HI.out.keep hK HC.out (by decide));  replace HO := Aside0.mk (HI.out.row hK HO.out (by decide));  replace HK := Aside0.mk (KeepBut.tr HK.out hK); replace HI := Aside0.mk hI; clear hI hK;  have h0 := (blk_cell H3.out 0).trans rfl; have h1 := (blk_cell H3.out 1).trans rfl; have h2 := (blk_cell H3.out 2).trans rfl; have h3 := (blk_cell H3.out 3).trans rfl; have h4 := (blk_cell H3.out 4).trans rfl; have hf0 := blk_frozen H3.out 0; have hf1 := blk_frozen H3.out 1; have hf2 := blk_frozen H3.out 2; have hf3 := blk_frozen H3.out 3; have hf4 := blk_frozen H3.out 4; have hl := blk_lt H3.out;  have c0 := (blk_cell HC.out 0).trans rfl; have c1 := (blk_cell HC.out 1).trans rfl; have c2 := (blk_cell HC.out 2).trans rfl; have c3 := (blk_cell HC.out 3).trans rfl; have cf0 := blk_frozen HC.out 0; have cf1 := blk_frozen HC.out 1; have cf2 := blk_frozen HC.out 2; have cf3 := blk_frozen HC.out 3; have cl := blk_lt HC.out; )
        | (go_at_call 102; replace H2 := Aside0.mk (blk_far (p := ⟨gc, 2, none⟩) H2.out (blk_ne H2.out HC.out (by decide)) (.int .i64 d)); replace H3 := Aside0.mk (blk_far (p := ⟨gc, 2, none⟩) H3.out (blk_ne H3.out HC.out (by decide)) (.int .i64 d)); replace HO := Aside0.mk (Kd.R_far (p := ⟨gc, 2, none⟩) HO.out (fun k hk => Nat.ne_of_lt hk.2) (.int .i64 d)); replace HI := Aside0.mk (HI.out.far HC.out (by decide) (Nat.le_trans HW0.out HGC.out) 2 (.int .i64 d)); replace HK := Aside0.mk (KeepBut.nw (i := 2) (v := .int .i64 d) HK.out HGC.out); replace HC := Aside0.mk (blk_put HC.out 2 (.int .i64 d) rfl);  (with_reducible refine (number_is HI.out HER.out.2.2.2).mono ?_); rintro en wd ⟨rfl, hI, hK⟩; (try clear h0 hf0 h1 hf1 h2 hf2 h3 hf3 h4 hf4); (try clear hl);  (try clear c0 cf0 c1 cf1 c2 cf2 c3 cf3); (try clear cl);  replace H2 := Aside0.mk (HI.out.keep hK H2.out (by decide)); replace H3 := Aside0.mk (HI.out.keep hK H3.out (by decide));  replace HC := Aside0.mk (HI.out.keep hK HC.out (by decide));  replace HO := Aside0.mk (HI.out.row hK HO.out (by decide));  replace HK := Aside0.mk (KeepBut.tr HK.out hK); replace HI := Aside0.mk hI; clear hI hK;  have h0 := (blk_cell H3.out 0).trans rfl; have h1 := (blk_cell H3.out 1).trans rfl; have h2 := (blk_cell H3.out 2).trans rfl; have h3 := (blk_cell H3.out 3).trans rfl; have h4 := (blk_cell H3.out 4).trans rfl; have hf0 := blk_frozen H3.out 0; have hf1 := blk_frozen H3.out 1; have hf2 := blk_frozen H3.out 2; have hf3 := blk_frozen H3.out 3; have hf4 := blk_frozen H3.out 4; have hl := blk_lt H3.out;  have c0 := (blk_cell HC.out 0).trans rfl; have c1 := (blk_cell HC.out 1).trans rfl; have c2 := (blk_cell HC.out 2).trans rfl; have c3 := (blk_cell HC.out 3).trans rfl; have cf0 := blk_frozen HC.out 0; have cf1 := blk_frozen HC.out 1; have cf2 := blk_frozen HC.out 2; have cf3 := blk_frozen HC.out 3; have cl := blk_lt HC.out; )
        | ((with_reducible refine gate_builtin (b := .append) (xs := #[.tmp 26, .tmp 28]) rfl ?_); replace H2 := Aside0.mk (blk_far (p := ⟨gc, 3, none⟩) H2.out (blk_ne H2.out HC.out (by decide)) (.int .i64 m)); replace H3 := Aside0.mk (blk_far (p := ⟨gc, 3, none⟩) H3.out (blk_ne H3.out HC.out (by decide)) (.int .i64 m)); replace HO := Aside0.mk (Kd.R_far (p := ⟨gc, 3, none⟩) HO.out (fun k hk => Nat.ne_of_lt hk.2) (.int .i64 m)); replace HI := Aside0.mk (HI.out.far HC.out (by decide) (Nat.le_trans HW0.out HGC.out) 3 (.int .i64 m)); replace HK := Aside0.mk (KeepBut.nw (i := 3) (v := .int .i64 m) HK.out HGC.out); replace HC := Aside0.mk (blk_put HC.out 3 (.int .i64 m) rfl);  at_builtin; (have HOm := Aside0.mk (Kd.R_mono (ok' := fun k => w.heap.size ≤ k) HO.out (fun k hk => hk.1))); refine Kd.R_append k87 (w0 := w0) w0.heap.size rfl (.tmp 26) (.tmp 28) 82 87 (.agg #[(.string ⟨#[]⟩), (.int .u8 0), (.int .i64 0), (.int .i64 0)]) 40 rfl Try.underlying82 info87 rfl (by decide) (by omega) v cs ⟨q0, k, d, m⟩ [.string q0, .int .u8 k, .int .i64 d, .int .i64 m] (fun k => w.heap.size ≤ k) (fun _ => False) rfl (by first | (go_simp; done) | (go_simp; rfl)) ?aP (fun _ hk => hk.elim) ?aF ?aO ?aB ?aS ?aL ?_; (case aP => exact k87_mkM _ _ _ ⟨q0, k, d, m⟩); (case aF => exact (fun k hk => Nat.le_trans HK.out.1 hk)); (case aO => exact HOm.out); (case aB => exact HI.out.bel); (case aS => exact HI.out.bel.size); (case aL => have h1 := HCL.out; have h2 := HQ1.out.2.2; have h3 := HN.out; omega); intro v6 w6 ho hb hg_ hat; (obtain ⟨A6, c6, e6⟩ := Kd.R_slice ho); generalize List.length _ = nn at e6; subst e6; (try clear h0 hf0 h1 hf1 h2 hf2 h3 hf3 h4 hf4); (try clear hl);  (try clear c0 cf0 c1 cf1 c2 cf2 c3 cf3); (try clear cl);  replace H2 := Aside0.mk (blk_grown H2.out hg_ (Kd.R_ne HOm.out H2.out (by decide))); replace H3 := Aside0.mk (blk_grown H3.out hg_ (Kd.R_ne HOm.out H3.out (by decide))); replace HI := Aside0.mk (HI.out.grown HOm.out (by decide) hb hg_); replace HK := Aside0.mk (KeepBut.gr HK.out HOm.out (fun _ h => h) hg_); replace HO := Aside0.mk ho; clear HOm HC ho hb hg_ hat; have h0 := (blk_cell H3.out 0).trans rfl; have h1 := (blk_cell H3.out 1).trans rfl; have h2 := (blk_cell H3.out 2).trans rfl; have h3 := (blk_cell H3.out 3).trans rfl; have h4 := (blk_cell H3.out 4).trans rfl; have hf0 := blk_frozen H3.out 0; have hf1 := blk_frozen H3.out 1; have hf2 := blk_frozen H3.out 2; have hf3 := blk_frozen H3.out 3; have hf4 := blk_frozen H3.out 4; have hl := blk_lt H3.out; ))
      go_roundg k1
      case measure => have := HQ1.out.1; omega
      case rel =>
        have h1 := HJ.out
        have h2 := HQ1.out
        have h3 := HCL.out
        replace H2 := Aside0.mk (blk_far (p := ⟨g3, 1, none⟩) H2.out HNE.out (.slice A6 nn c6)); replace HO := Aside0.mk (Kd.R_set HO.out H3.out (by decide) 1 (.slice A6 nn c6)); replace HI := Aside0.mk (HI.out.far H3.out (by decide) (Nat.le_trans HW0.out HG3.out) 1 (.slice A6 nn c6)); replace HK := Aside0.mk (KeepBut.nw (i := 1) (v := .slice A6 nn c6) HK.out HG3.out); replace H3 := Aside0.mk (blk_put H3.out 1 (.slice A6 nn c6) rfl); 
        exact ⟨i + 1, cs ++ [⟨q0, k, d, m⟩], t4, .slice A6 nn c6, by first | rfl | (rw [wr_in ((i : Int) + 1) (by have := HN.out; omega)]; rfl), ⟨by omega⟩, ⟨h2.2.1⟩, ⟨by rw [List.length_append, List.length_singleton]; omega⟩, HO, HI, HK, H2, H3⟩
    · have c1 : decide ((i : Int) < n) = false := decide_eq_false c5
      have hk0 : gk = 0 := by have := HJ.out; omega
      have hq := HQ.out
      rw [hk0, colsR] at hq
      injection hq with hq1 hq2
      obtain ⟨A7, c7, e7⟩ := Kd.R_slice HO.out
      generalize List.length _ = n7 at e7
      subst e7
      subst hq1 hq2
      have o3 := HI.out.2.2
      have hf := nmR_in o3
      rw [HE.out.2.2.2.1] at hf
      simp only at hf
      have hfm := mod32 f hf
      have hfu : IntKind.u32.wrap f = f := by show f % 4294967296 = f; exact hfm
      have HF := Aside0.mk hf
      have hn23 := HNE.out
      have hn32 : g3 ≠ w.heap.size := Ne.symm HNE.out
      have z0 := (blk_cell H2.out 0).trans rfl; have z1 := (blk_cell H2.out 1).trans rfl; have z2 := (blk_cell H2.out 2).trans rfl; have z3 := (blk_cell H2.out 3).trans rfl; have z4 := (blk_cell H2.out 4).trans rfl; have zf0 := blk_frozen H2.out 0; have zf1 := blk_frozen H2.out 1; have zf2 := blk_frozen H2.out 2; have zf3 := blk_frozen H2.out 3; have zf4 := blk_frozen H2.out 4; have zl := blk_lt H2.out; 
      clear hk0 c5 o3 hf HQ
      go_wp2_with (first
        | (go_at_call 102; (with_reducible refine (number_is HI.out HE.out.2.2.2.1).mono ?_); rintro en wa ⟨rfl, hI, hK⟩; (try clear h0 hf0 h1 hf1 h2 hf2 h3 hf3 h4 hf4); (try clear hl);  (try clear z0 zf0 z1 zf1 z2 zf2 z3 zf3 z4 zf4); (try clear zl);  replace H2 := Aside0.mk (HI.out.keep hK H2.out (by decide)); replace H3 := Aside0.mk (HI.out.keep hK H3.out (by decide));  replace HO := Aside0.mk (HI.out.row hK HO.out (by decide));  replace HK := Aside0.mk (KeepBut.tr HK.out hK); replace HI := Aside0.mk hI; clear hI hK;  have h0 := (blk_cell H3.out 0).trans rfl; have h1 := (blk_cell H3.out 1).trans rfl; have h2 := (blk_cell H3.out 2).trans rfl; have h3 := (blk_cell H3.out 3).trans rfl; have h4 := (blk_cell H3.out 4).trans rfl; have hf0 := blk_frozen H3.out 0; have hf1 := blk_frozen H3.out 1; have hf2 := blk_frozen H3.out 2; have hf3 := blk_frozen H3.out 3; have hf4 := blk_frozen H3.out 4; have hl := blk_lt H3.out;  have z0 := (blk_cell H2.out 0).trans rfl; have z1 := (blk_cell H2.out 1).trans rfl; have z2 := (blk_cell H2.out 2).trans rfl; have z3 := (blk_cell H2.out 3).trans rfl; have z4 := (blk_cell H2.out 4).trans rfl; have zf0 := blk_frozen H2.out 0; have zf1 := blk_frozen H2.out 1; have zf2 := blk_frozen H2.out 2; have zf3 := blk_frozen H2.out 3; have zf4 := blk_frozen H2.out 4; have zl := blk_lt H2.out; )
        | (go_at_call 102; replace H2 := Aside0.mk (blk_far (p := ⟨g3, 2, none⟩) H2.out HNE.out (.int .u32 f)); replace HO := Aside0.mk (Kd.R_set HO.out H3.out (by decide) 2 (.int .u32 f)); replace HI := Aside0.mk (HI.out.far H3.out (by decide) (Nat.le_trans HW0.out HG3.out) 2 (.int .u32 f)); replace HK := Aside0.mk (KeepBut.nw (i := 2) (v := .int .u32 f) HK.out HG3.out); replace H3 := Aside0.mk (blk_put H3.out 2 (.int .u32 f) rfl);  (with_reducible refine (number_is HI.out HE.out.2.2.2.2.1).mono ?_); rintro en wb ⟨rfl, hI, hK⟩; (try clear h0 hf0 h1 hf1 h2 hf2 h3 hf3 h4 hf4); (try clear hl);  (try clear z0 zf0 z1 zf1 z2 zf2 z3 zf3 z4 zf4); (try clear zl);  replace H2 := Aside0.mk (HI.out.keep hK H2.out (by decide)); replace H3 := Aside0.mk (HI.out.keep hK H3.out (by decide));  replace HO := Aside0.mk (HI.out.row hK HO.out (by decide));  replace HK := Aside0.mk (KeepBut.tr HK.out hK); replace HI := Aside0.mk hI; clear hI hK;  have h0 := (blk_cell H3.out 0).trans rfl; have h1 := (blk_cell H3.out 1).trans rfl; have h2 := (blk_cell H3.out 2).trans rfl; have h3 := (blk_cell H3.out 3).trans rfl; have h4 := (blk_cell H3.out 4).trans rfl; have hf0 := blk_frozen H3.out 0; have hf1 := blk_frozen H3.out 1; have hf2 := blk_frozen H3.out 2; have hf3 := blk_frozen H3.out 3; have hf4 := blk_frozen H3.out 4; have hl := blk_lt H3.out;  have z0 := (blk_cell H2.out 0).trans rfl; have z1 := (blk_cell H2.out 1).trans rfl; have z2 := (blk_cell H2.out 2).trans rfl; have z3 := (blk_cell H2.out 3).trans rfl; have z4 := (blk_cell H2.out 4).trans rfl; have zf0 := blk_frozen H2.out 0; have zf1 := blk_frozen H2.out 1; have zf2 := blk_frozen H2.out 2; have zf3 := blk_frozen H2.out 3; have zf4 := blk_frozen H2.out 4; have zl := blk_lt H2.out; )
        | (go_at_call 102; replace H2 := Aside0.mk (blk_far (p := ⟨g3, 3, none⟩) H2.out HNE.out (.int .i64 r)); replace HO := Aside0.mk (Kd.R_set HO.out H3.out (by decide) 3 (.int .i64 r)); replace HI := Aside0.mk (HI.out.far H3.out (by decide) (Nat.le_trans HW0.out HG3.out) 3 (.int .i64 r)); replace HK := Aside0.mk (KeepBut.nw (i := 3) (v := .int .i64 r) HK.out HG3.out); replace H3 := Aside0.mk (blk_put H3.out 3 (.int .i64 r) rfl);  (with_reducible refine (number_is HI.out HE.out.2.2.2.2.2).mono ?_); rintro en wc ⟨rfl, hI, hK⟩; (try clear h0 hf0 h1 hf1 h2 hf2 h3 hf3 h4 hf4); (try clear hl);  (try clear z0 zf0 z1 zf1 z2 zf2 z3 zf3 z4 zf4); (try clear zl);  replace H2 := Aside0.mk (HI.out.keep hK H2.out (by decide)); replace H3 := Aside0.mk (HI.out.keep hK H3.out (by decide));  replace HO := Aside0.mk (HI.out.row hK HO.out (by decide));  replace HK := Aside0.mk (KeepBut.tr HK.out hK); replace HI := Aside0.mk hI; clear hI hK;  have h0 := (blk_cell H3.out 0).trans rfl; have h1 := (blk_cell H3.out 1).trans rfl; have h2 := (blk_cell H3.out 2).trans rfl; have h3 := (blk_cell H3.out 3).trans rfl; have h4 := (blk_cell H3.out 4).trans rfl; have hf0 := blk_frozen H3.out 0; have hf1 := blk_frozen H3.out 1; have hf2 := blk_frozen H3.out 2; have hf3 := blk_frozen H3.out 3; have hf4 := blk_frozen H3.out 4; have hl := blk_lt H3.out;  have z0 := (blk_cell H2.out 0).trans rfl; have z1 := (blk_cell H2.out 1).trans rfl; have z2 := (blk_cell H2.out 2).trans rfl; have z3 := (blk_cell H2.out 3).trans rfl; have z4 := (blk_cell H2.out 4).trans rfl; have zf0 := blk_frozen H2.out 0; have zf1 := blk_frozen H2.out 1; have zf2 := blk_frozen H2.out 2; have zf3 := blk_frozen H2.out 3; have zf4 := blk_frozen H2.out 4; have zl := blk_lt H2.out; ))
      replace H2 := Aside0.mk (blk_far (p := ⟨g3, 4, none⟩) H2.out HNE.out (.int .i64 p)); replace HO := Aside0.mk (Kd.R_set HO.out H3.out (by decide) 4 (.int .i64 p)); replace HI := Aside0.mk (HI.out.far H3.out (by decide) (Nat.le_trans HW0.out HG3.out) 4 (.int .i64 p)); replace HK := Aside0.mk (KeepBut.nw (i := 4) (v := .int .i64 p) HK.out HG3.out); replace H3 := Aside0.mk (blk_put H3.out 4 (.int .i64 p) rfl); replace H3 := Aside0.mk (blk_far (p := ⟨w.heap.size, 0, none⟩) H3.out (Ne.symm HNE.out) (.string a)); replace HO := Aside0.mk (Kd.R_set HO.out H2.out (by decide) 0 (.string a)); replace HI := Aside0.mk (HI.out.far H2.out (by decide) HW0.out 0 (.string a)); replace HK := Aside0.mk (KeepBut.nw (i := 0) (v := .string a) HK.out (Nat.le_refl _)); replace H2 := Aside0.mk (blk_put H2.out 0 (.string a) rfl); replace H3 := Aside0.mk (blk_far (p := ⟨w.heap.size, 1, none⟩) H3.out (Ne.symm HNE.out) (.slice A7 n7 c7)); replace HO := Aside0.mk (Kd.R_set HO.out H2.out (by decide) 1 (.slice A7 n7 c7)); replace HI := Aside0.mk (HI.out.far H2.out (by decide) HW0.out 1 (.slice A7 n7 c7)); replace HK := Aside0.mk (KeepBut.nw (i := 1) (v := .slice A7 n7 c7) HK.out (Nat.le_refl _)); replace H2 := Aside0.mk (blk_put H2.out 1 (.slice A7 n7 c7) rfl); replace H3 := Aside0.mk (blk_far (p := ⟨w.heap.size, 2, none⟩) H3.out (Ne.symm HNE.out) (.int .u32 f)); replace HO := Aside0.mk (Kd.R_set HO.out H2.out (by decide) 2 (.int .u32 f)); replace HI := Aside0.mk (HI.out.far H2.out (by decide) HW0.out 2 (.int .u32 f)); replace HK := Aside0.mk (KeepBut.nw (i := 2) (v := .int .u32 f) HK.out (Nat.le_refl _)); replace H2 := Aside0.mk (blk_put H2.out 2 (.int .u32 f) rfl); replace H3 := Aside0.mk (blk_far (p := ⟨w.heap.size, 3, none⟩) H3.out (Ne.symm HNE.out) (.int .i64 r)); replace HO := Aside0.mk (Kd.R_set HO.out H2.out (by decide) 3 (.int .i64 r)); replace HI := Aside0.mk (HI.out.far H2.out (by decide) HW0.out 3 (.int .i64 r)); replace HK := Aside0.mk (KeepBut.nw (i := 3) (v := .int .i64 r) HK.out (Nat.le_refl _)); replace H2 := Aside0.mk (blk_put H2.out 3 (.int .i64 r) rfl); replace H3 := Aside0.mk (blk_far (p := ⟨w.heap.size, 4, none⟩) H3.out (Ne.symm HNE.out) (.int .i64 p)); replace HO := Aside0.mk (Kd.R_set HO.out H2.out (by decide) 4 (.int .i64 p)); replace HI := Aside0.mk (HI.out.far H2.out (by decide) HW0.out 4 (.int .i64 p)); replace HK := Aside0.mk (KeepBut.nw (i := 4) (v := .int .i64 p) HK.out (Nat.le_refl _)); replace H2 := Aside0.mk (blk_put H2.out 4 (.int .i64 p) rfl); 
      refine bodyPost_ret (results_cell_row rfl _ _ w.heap.size 84 #[.string a, .slice A7 n7 c7, .int .u32 f, .int .i64 r, .int .i64 p] (0, 0) _ rfl H2.out Try.underlying84 rfl (by kernel_rfl)) rfl ?_
      exact ⟨_, rfl, HO.out, HI.out, HK.out⟩
end Go.Proofs.Ytpfegfkniilobaa.Tk
namespace Go.Proofs.Ytpfegfkniilobaa.Tk
open Go.RowKit Go.Proofs.YtpfegfkniilobaaW.PrintWords Go.Proofs.YtpfegfkniilobaaW.PrintLast Go.Proofs.YtpfegfkniilobaaW.PrintMore
open Go.Proofs.Ytpfegfkniilobaa.XSchema
set_option linter.unusedVariables false
set_option linter.unusedSimpArgs false
set_option maxRecDepth 100000
def idxE (a : ByteArray) (t : Int) (c : List Int × St) : List Int × St := numsR c.1.length [] (nmR (nmR (nmR c.2).2).2).2
def idxF (a : ByteArray) (t : Int) (c d : List Int × St) : S135 × St := (⟨a, t, c.1, (nmR c.2).1, (nmR (nmR c.2).2).1, (nmR (nmR (nmR c.2).2).2).1, d.1⟩, d.2)
def idxG (a : ByteArray) (t : Int) (c : List Int × St) : S135 × St := idxF a t c (idxE a t c)
def idxR (s : St) : S135 × St := idxG (txR s).1 (cnt (txR s).2).1 (idsR (cnt (cnt (txR s).2).2).1.toNat [] (cnt (cnt (txR s).2).2).2)
theorem row_grown {α β : Type} {d : Kd α} {d2 : Kd β} {W W' : World} {e base e2 base2 : Nat} {ok ok2 : Nat → Prop} {v v2 : Value} {xs : List α} {ys : List β} (h : d.R e W base ok v xs) (h2 : d2.R e2 W base2 ok2 v2 ys) (hne : ∀ k, ok k → ¬ ok2 k) (hg : W.grownBy W' v2.ownBlock) : d.R e W' base ok v xs :=
  Kd.R_step h (fun k hk hlt => hg.block k hlt (fun he => hne k hk (h2.1 k he.symm)))

set_option maxHeartbeats 16000000 in
theorem index_ey (w0 w : World) (g : Nat) (s : St) (h : Ey w0 w g s) :
    Calls Try.prog 76 #[.pointer (some ⟨g, 0, none⟩)] w fun en w' => ∃ v u, en = .returned (.agg #[.string (idxR s).1.f0, .int .i64 (idxR s).1.f1, v, .int .u32 (idxR s).1.f3, .int .i64 (idxR s).1.f4, .int .i64 (idxR s).1.f5, u]) ∧ Kd.R (Kd.int .i64) 3 w' w0.heap.size (fun k => w.heap.size ≤ k) v (idxR s).1.f2 ∧ Kd.R (Kd.int .i64) 3 w' w0.heap.size (fun k => w.heap.size ≤ k) u (idxR s).1.f6 ∧ Ey w0 w' g (idxR s).2 ∧ KeepBut w w' g none := by
  obtain ⟨a, s1, e1⟩ : ∃ a s1, txR s = (a, s1) := ⟨_, _, rfl⟩
  obtain ⟨tn, s2, e2⟩ : ∃ n s2, cnt s1 = (n, s2) := ⟨_, _, rfl⟩
  obtain ⟨n, s3, e3⟩ : ∃ n s3, cnt s2 = (n, s3) := ⟨_, _, rfl⟩
  have o1 : St.ok s1 := by have := txR_ok h.2.2; rwa [e1] at this
  have o2 : St.ok s2 := by have := cnt_ok o1; rwa [e2] at this
  have hn := cnt_in o2
  rw [e3] at hn
  simp only at hn
  obtain ⟨C, s4, e4⟩ : ∃ C s4, idsR n.toNat [] s3 = (C, s4) := ⟨_, _, rfl⟩
  obtain ⟨f, s5, e5⟩ : ∃ f s5, nmR s4 = (f, s5) := ⟨_, _, rfl⟩
  obtain ⟨r, s6, e6⟩ : ∃ r s6, nmR s5 = (r, s6) := ⟨_, _, rfl⟩
  obtain ⟨p, s7, e7⟩ : ∃ p s7, nmR s6 = (p, s7) := ⟨_, _, rfl⟩
  obtain ⟨D, s8, e8⟩ : ∃ D s8, numsR C.length [] s7 = (D, s8) := ⟨_, _, rfl⟩
  have e : idxR s = (⟨a, tn, C, f, r, p, D⟩, s8) := by simp only [idxR, idxG, idxF, idxE, e1, e2, e3, e4, e5, e6, e7, e8]
  rw [e]
  simp only
  have HE := Aside0.mk (And.intro e1 (And.intro e2 (And.intro e3 (And.intro e4 (And.intro e5 (And.intro e6 (And.intro e7 e8)))))))
  have HN := Aside0.mk hn
  have hn0 := hn.1
  have HI := Aside0.mk (h.alloc (.cells #[.string ⟨#[]⟩, .int .i64 0, .slice none 0 0, .int .u32 0, .int .i64 0, .int .i64 0, .slice none 0 0] 135))
  have HK := Aside0.mk (KeepBut.bl (KeepBut.refl w g none) (below_alloc (Below.refl _ _) (.cells #[.string ⟨#[]⟩, .int .i64 0, .slice none 0 0, .int .u32 0, .int .i64 0, .int .i64 0, .slice none 0 0] 135)))
  have H2 := Aside0.mk (blk_new w (.cells #[.string ⟨#[]⟩, .int .i64 0, .slice none 0 0, .int .u32 0, .int .i64 0, .int .i64 0, .slice none 0 0] 135))
  have HW0 := Aside0.mk h.bel.size
  clear h e e1 e2 e3 e4 e5 e6 e7 e8 o1 o2 hn
  go_enter Try.func76, Try.ntmps76
  go_wp2_with (first
    | (go_at_call 101; (with_reducible refine (text_is HI.out HE.out.1).mono ?_); rintro en wa ⟨rfl, hI, hK⟩; replace H2 := Aside0.mk (HI.out.keep hK H2.out (by decide)); replace HK := Aside0.mk (KeepBut.tr HK.out hK); replace HI := Aside0.mk hI; clear hI hK;  have HL := Aside0.mk (blk_lt H2.out))
    | (go_at_call 74; (have H3 := Aside0.mk (blk_new wa (.cells #[.string a, .int .i64 0, .slice none 0 0, .int .u32 0, .int .i64 0, .int .i64 0, .slice none 0 0] 135))); (have HG3 := Aside0.mk (show w.heap.size ≤ wa.heap.size from Nat.le_of_lt HL.out)); (have HNE := Aside0.mk (show w.heap.size ≠ wa.heap.size from Nat.ne_of_lt HL.out)); replace H2 := Aside0.mk (blk_alloc H2.out (.cells #[.string a, .int .i64 0, .slice none 0 0, .int .u32 0, .int .i64 0, .int .i64 0, .slice none 0 0] 135)); replace HK := Aside0.mk (KeepBut.bl HK.out (below_alloc (Below.refl _ _) (.cells #[.string a, .int .i64 0, .slice none 0 0, .int .u32 0, .int .i64 0, .int .i64 0, .slice none 0 0] 135))); replace HI := Aside0.mk (HI.out.alloc (.cells #[.string a, .int .i64 0, .slice none 0 0, .int .u32 0, .int .i64 0, .int .i64 0, .slice none 0 0] 135)); (with_reducible refine (count_is HI.out HE.out.2.1).mono ?_); rintro en wb ⟨rfl, hI, hK⟩; replace H2 := Aside0.mk (HI.out.keep hK H2.out (by decide)); replace H3 := Aside0.mk (HI.out.keep hK H3.out (by decide));  replace HK := Aside0.mk (KeepBut.tr HK.out hK); replace HI := Aside0.mk hI; clear hI hK;  generalize wa.heap.size = g3 at H3 HG3 HNE ⊢; have h0 := (blk_cell H3.out 0).trans rfl; have h1 := (blk_cell H3.out 1).trans rfl; have h2 := (blk_cell H3.out 2).trans rfl; have h3 := (blk_cell H3.out 3).trans rfl; have h4 := (blk_cell H3.out 4).trans rfl; have h5 := (blk_cell H3.out 5).trans rfl; have h6 := (blk_cell H3.out 6).trans rfl; have hf0 := blk_frozen H3.out 0; have hf1 := blk_frozen H3.out 1; have hf2 := blk_frozen H3.out 2; have hf3 := blk_frozen H3.out 3; have hf4 := blk_frozen H3.out 4; have hf5 := blk_frozen H3.out 5; have hf6 := blk_frozen H3.out 6; have hl := blk_lt H3.out; )
    | (go_at_call 74; replace H2 := Aside0.mk (blk_far (p := ⟨g3, 1, none⟩) H2.out HNE.out (.int .i64 tn)); replace HI := Aside0.mk (HI.out.far H3.out (by decide) (Nat.le_trans HW0.out HG3.out) 1 (.int .i64 tn)); replace HK := Aside0.mk (KeepBut.nw (i := 1) (v := .int .i64 tn) HK.out HG3.out); replace H3 := Aside0.mk (blk_put H3.out 1 (.int .i64 tn) rfl);  (with_reducible refine (count_is HI.out HE.out.2.2.1).mono ?_); rintro en wc ⟨rfl, hI, hK⟩; (try clear h0 hf0 h1 hf1 h2 hf2 h3 hf3 h4 hf4 h5 hf5 h6 hf6); (try clear hl);  replace H2 := Aside0.mk (HI.out.keep hK H2.out (by decide)); replace H3 := Aside0.mk (HI.out.keep hK H3.out (by decide));  replace HK := Aside0.mk (KeepBut.tr HK.out hK); replace HI := Aside0.mk hI; clear hI hK; ))
  clear HL
  go_loopg [12] n.toNat (fun kq v12 w' => ∃ (i : Nat) (cs : List Int) (sq : St) (v : Value), v12 = .int .i64 (i : Int) ∧ Aside0 (kq + i = n.toNat) ∧ Aside0 (idsR kq cs sq = (C, s4)) ∧ Aside0 (cs.length ≤ i) ∧ Aside0 (Kd.R (Kd.int .i64) 3 w' w0.heap.size (fun k => w.heap.size ≤ k) v cs) ∧ Aside0 (Ey w0 w' g sq) ∧ Aside0 (KeepBut w w' g none) ∧ Aside0 (w'.heap[w.heap.size]? = some (.cells #[.string ⟨#[]⟩, .int .i64 0, .slice none 0 0, .int .u32 0, .int .i64 0, .int .i64 0, .slice none 0 0] 135 (0, 0))) ∧ Aside0 (w'.heap[g3]? = some (.cells #[.string a, .int .i64 tn, v, .int .u32 0, .int .i64 0, .int .i64 0, .slice none 0 0] 135 (0, 0))))
  case atStart => exact ⟨0, [], s3, _, rfl, ⟨by omega⟩, ⟨HE.out.2.2.2.1⟩, ⟨by simp⟩, ⟨Kd.R_nil _ _ _ _ _⟩, HI, HK, H2, H3⟩
  case round =>
    clear HI HK H2 H3
    obtain ⟨i, cs, sq, v, rfl, HJ, HQ, HCL, HO, HI, HK, H2, H3⟩ := hrel
    obtain ⟨Av, cv, ev⟩ := Kd.R_slice HO.out
    generalize List.length _ = nv_ at ev
    subst ev
    have h0 := (blk_cell H3.out 0).trans rfl; have h1 := (blk_cell H3.out 1).trans rfl; have h2 := (blk_cell H3.out 2).trans rfl; have h3 := (blk_cell H3.out 3).trans rfl; have h4 := (blk_cell H3.out 4).trans rfl; have h5 := (blk_cell H3.out 5).trans rfl; have h6 := (blk_cell H3.out 6).trans rfl; have hf0 := blk_frozen H3.out 0; have hf1 := blk_frozen H3.out 1; have hf2 := blk_frozen H3.out 2; have hf3 := blk_frozen H3.out 3; have hf4 := blk_frozen H3.out 4; have hf5 := blk_frozen H3.out 5; have hf6 := blk_frozen H3.out 6; have hl := blk_lt H3.out; 
    by_cases c5 : (i : Int) < n
    · have c1 : decide ((i : Int) < n) = true := decide_eq_true c5
      obtain ⟨k1, hk1⟩ : ∃ k1, gk = k1 + 1 := ⟨gk - 1, by have := HJ.out; omega⟩
      obtain ⟨k, t1, e1⟩ : ∃ n s2, cnt sq = (n, s2) := ⟨_, _, rfl⟩
      have hq := HQ.out
      rw [hk1, idsR, e1] at hq
      simp only at hq
      have HER := Aside0.mk e1
      have HQ1 := Aside0.mk (And.intro hk1 (And.intro hq c5))
      clear e1 hk1 hq c5 HQ
      go_upto_region 5 with fail
      go_region_law (first
        | (refine Kd.R_append_step (Kd.int .i64) (w0 := w0) w0.heap.size rfl (.tmp 15) (.tmp 18) 74 3 (.int .i64 0) 8 rfl Try.underlying74 XSchema.info3 rfl (by decide) (by omega) (.slice Av nv_ cv) cs k [.int .i64 k] (fun k => w.heap.size ≤ k) (fun _ => False) (by first | rfl | (simp [Act.eval, Act.put]; done) | (simp [Act.eval, Act.put]; rfl)) (by first | rfl | (simp [Act.eval, Act.put]; done) | (simp [Act.eval, Act.put]; rfl)) rfl (fun _ hk => hk.elim) (fun k hk => Nat.le_trans HK.out.1 hk) HO.out HI.out.bel HI.out.bel.size (by have h1 := HCL.out; have h2 := HQ1.out.2.2; have h3 := HN.out;  omega) ?_; intro v6 w6 ho hb hg_ hat; (obtain ⟨A6, c6, e6⟩ := Kd.R_slice ho); generalize List.length _ = nn at e6; subst e6; (try clear h0 hf0 h1 hf1 h2 hf2 h3 hf3 h4 hf4 h5 hf5 h6 hf6); (try clear hl);  replace H2 := Aside0.mk (blk_grown H2.out hg_ (Kd.R_ne HO.out H2.out (by decide))); replace H3 := Aside0.mk (blk_grown H3.out hg_ (Kd.R_ne HO.out H3.out (by decide)));  replace HI := Aside0.mk (HI.out.grown HO.out (by decide) hb hg_); replace HK := Aside0.mk (KeepBut.gr HK.out HO.out (fun _ h => h) hg_);  replace HO := Aside0.mk ho; clear ho hb hg_ hat; have h0 := (blk_cell H3.out 0).trans rfl; have h1 := (blk_cell H3.out 1).trans rfl; have h2 := (blk_cell H3.out 2).trans rfl; have h3 := (blk_cell H3.out 3).trans rfl; have h4 := (blk_cell H3.out 4).trans rfl; have h5 := (blk_cell H3.out 5).trans rfl; have h6 := (blk_cell H3.out 6).trans rfl; have hf0 := blk_frozen H3.out 0; have hf1 := blk_frozen H3.out 1; have hf2 := blk_frozen H3.out 2; have hf3 := blk_frozen H3.out 3; have hf4 := blk_frozen H3.out 4; have hf5 := blk_frozen H3.out 5; have hf6 := blk_frozen H3.out 6; have hl := blk_lt H3.out; )
        | (refine goes_ Try.func74 (by kernel_rfl) rfl #[.pointer (some ⟨g, 0, none⟩)] rfl rfl rfl (by simp [Act.eval, Act.put]) ?_; (with_reducible refine (count_is HI.out.drew HER.out).mono ?_); rintro en wa ⟨rfl, hI, hK⟩; refine ⟨_, rfl, ?_⟩; (try clear h0 hf0 h1 hf1 h2 hf2 h3 hf3 h4 hf4 h5 hf5 h6 hf6); (try clear hl);  replace hK := KeepBut.tr (KeepBut.bl (KeepBut.refl wr g none) (below_drew1 (Below.refl _ _))) hK;  replace H2 := Aside0.mk (HI.out.keep hK H2.out (by decide)); replace H3 := Aside0.mk (HI.out.keep hK H3.out (by decide));  replace HO := Aside0.mk (HI.out.row hK HO.out (by decide));  replace HK := Aside0.mk (KeepBut.tr HK.out hK); replace HI := Aside0.mk hI; clear hI hK;  have h0 := (blk_cell H3.out 0).trans rfl; have h1 := (blk_cell H3.out 1).trans rfl; have h2 := (blk_cell H3.out 2).trans rfl; have h3 := (blk_cell H3.out 3).trans rfl; have h4 := (blk_cell H3.out 4).trans rfl; have h5 := (blk_cell H3.out 5).trans rfl; have h6 := (blk_cell H3.out 6).trans rfl; have hf0 := blk_frozen H3.out 0; have hf1 := blk_frozen H3.out 1; have hf2 := blk_frozen H3.out 2; have hf3 := blk_frozen H3.out 3; have hf4 := blk_frozen H3.out 4; have hf5 := blk_frozen H3.out 5; have hf6 := blk_frozen H3.out 6; have hl := blk_lt H3.out; ))
      all_goals
        go_wp2
        go_roundg k1
        case measure => have := HQ1.out.1; omega
        case rel =>
          have h1 := HJ.out
          have h2 := HQ1.out
          have h3 := HCL.out
          replace H2 := Aside0.mk (blk_far (p := ⟨g3, 2, none⟩) H2.out HNE.out (.slice A6 nn c6)); replace HO := Aside0.mk (Kd.R_set HO.out H3.out (by decide) 2 (.slice A6 nn c6)); replace HI := Aside0.mk (HI.out.far H3.out (by decide) (Nat.le_trans HW0.out HG3.out) 2 (.slice A6 nn c6)); replace HK := Aside0.mk (KeepBut.nw (i := 2) (v := .slice A6 nn c6) HK.out HG3.out); replace H3 := Aside0.mk (blk_put H3.out 2 (.slice A6 nn c6) rfl); 
          exact ⟨i + 1, cs ++ [k], t1, .slice A6 nn c6, by first | rfl | (rw [wr_in ((i : Int) + 1) (by have := HN.out; omega)]; rfl), ⟨by omega⟩, ⟨h2.2.1⟩, ⟨by rw [List.length_append, List.length_singleton]; omega⟩, HO, HI, HK, H2, H3⟩
    · have c1 : decide ((i : Int) < n) = false := decide_eq_false c5
      have hk0 : gk = 0 := by have := HJ.out; omega
      have hq := HQ.out
      rw [hk0, idsR] at hq
      injection hq with hq1 hq2
      subst hq1 hq2
      obtain ⟨rfl, _⟩ := Kd.R_reads' HO.out
      have o3 := HI.out.2.2
      have hf := nmR_in o3
      rw [HE.out.2.2.2.2.1] at hf
      simp only at hf
      have hfm := mod32 f hf
      have hfu : IntKind.u32.wrap f = f := by show f % 4294967296 = f; exact hfm
      have HCI := Aside0.mk (show cs.length ≤ 255 by have h1 := HCL.out; have h2 := HJ.out; have h3 := HN.out; omega)
      clear hk0 c5 o3 hf HQ
      go_wp2_with (first
        | (go_at_call 102; (with_reducible refine (number_is HI.out HE.out.2.2.2.2.1).mono ?_); rintro en wa ⟨rfl, hI, hK⟩; (try clear h0 hf0 h1 hf1 h2 hf2 h3 hf3 h4 hf4 h5 hf5 h6 hf6); (try clear hl);  replace H2 := Aside0.mk (HI.out.keep hK H2.out (by decide)); replace H3 := Aside0.mk (HI.out.keep hK H3.out (by decide));  replace HO := Aside0.mk (HI.out.row hK HO.out (by decide));  replace HK := Aside0.mk (KeepBut.tr HK.out hK); replace HI := Aside0.mk hI; clear hI hK;  have h0 := (blk_cell H3.out 0).trans rfl; have h1 := (blk_cell H3.out 1).trans rfl; have h2 := (blk_cell H3.out 2).trans rfl; have h3 := (blk_cell H3.out 3).trans rfl; have h4 := (blk_cell H3.out 4).trans rfl; have h5 := (blk_cell H3.out 5).trans rfl; have h6 := (blk_cell H3.out 6).trans rfl; have hf0 := blk_frozen H3.out 0; have hf1 := blk_frozen H3.out 1; have hf2 := blk_frozen H3.out 2; have hf3 := blk_frozen H3.out 3; have hf4 := blk_frozen H3.out 4; have hf5 := blk_frozen H3.out 5; have hf6 := blk_frozen H3.out 6; have hl := blk_lt H3.out; )
        | (go_at_call 102; replace H2 := Aside0.mk (blk_far (p := ⟨g3, 3, none⟩) H2.out HNE.out (.int .u32 f)); replace HO := Aside0.mk (Kd.R_set HO.out H3.out (by decide) 3 (.int .u32 f)); replace HI := Aside0.mk (HI.out.far H3.out (by decide) (Nat.le_trans HW0.out HG3.out) 3 (.int .u32 f)); replace HK := Aside0.mk (KeepBut.nw (i := 3) (v := .int .u32 f) HK.out HG3.out); replace H3 := Aside0.mk (blk_put H3.out 3 (.int .u32 f) rfl);  (with_reducible refine (number_is HI.out HE.out.2.2.2.2.2.1).mono ?_); rintro en wb ⟨rfl, hI, hK⟩; (try clear h0 hf0 h1 hf1 h2 hf2 h3 hf3 h4 hf4 h5 hf5 h6 hf6); (try clear hl);  replace H2 := Aside0.mk (HI.out.keep hK H2.out (by decide)); replace H3 := Aside0.mk (HI.out.keep hK H3.out (by decide));  replace HO := Aside0.mk (HI.out.row hK HO.out (by decide));  replace HK := Aside0.mk (KeepBut.tr HK.out hK); replace HI := Aside0.mk hI; clear hI hK;  have h0 := (blk_cell H3.out 0).trans rfl; have h1 := (blk_cell H3.out 1).trans rfl; have h2 := (blk_cell H3.out 2).trans rfl; have h3 := (blk_cell H3.out 3).trans rfl; have h4 := (blk_cell H3.out 4).trans rfl; have h5 := (blk_cell H3.out 5).trans rfl; have h6 := (blk_cell H3.out 6).trans rfl; have hf0 := blk_frozen H3.out 0; have hf1 := blk_frozen H3.out 1; have hf2 := blk_frozen H3.out 2; have hf3 := blk_frozen H3.out 3; have hf4 := blk_frozen H3.out 4; have hf5 := blk_frozen H3.out 5; have hf6 := blk_frozen H3.out 6; have hl := blk_lt H3.out; )
        | (go_at_call 102; replace H2 := Aside0.mk (blk_far (p := ⟨g3, 4, none⟩) H2.out HNE.out (.int .i64 r)); replace HO := Aside0.mk (Kd.R_set HO.out H3.out (by decide) 4 (.int .i64 r)); replace HI := Aside0.mk (HI.out.far H3.out (by decide) (Nat.le_trans HW0.out HG3.out) 4 (.int .i64 r)); replace HK := Aside0.mk (KeepBut.nw (i := 4) (v := .int .i64 r) HK.out HG3.out); replace H3 := Aside0.mk (blk_put H3.out 4 (.int .i64 r) rfl);  (with_reducible refine (number_is HI.out HE.out.2.2.2.2.2.2.1).mono ?_); rintro en wc ⟨rfl, hI, hK⟩; (try clear h0 hf0 h1 hf1 h2 hf2 h3 hf3 h4 hf4 h5 hf5 h6 hf6); (try clear hl);  replace H2 := Aside0.mk (HI.out.keep hK H2.out (by decide)); replace H3 := Aside0.mk (HI.out.keep hK H3.out (by decide));  replace HO := Aside0.mk (HI.out.row hK HO.out (by decide));  replace HK := Aside0.mk (KeepBut.tr HK.out hK); replace HI := Aside0.mk hI; clear hI hK;  have h0 := (blk_cell H3.out 0).trans rfl; have h1 := (blk_cell H3.out 1).trans rfl; have h2 := (blk_cell H3.out 2).trans rfl; have h3 := (blk_cell H3.out 3).trans rfl; have h4 := (blk_cell H3.out 4).trans rfl; have h5 := (blk_cell H3.out 5).trans rfl; have h6 := (blk_cell H3.out 6).trans rfl; have hf0 := blk_frozen H3.out 0; have hf1 := blk_frozen H3.out 1; have hf2 := blk_frozen H3.out 2; have hf3 := blk_frozen H3.out 3; have hf4 := blk_frozen H3.out 4; have hf5 := blk_frozen H3.out 5; have hf6 := blk_frozen H3.out 6; have hl := blk_lt H3.out; ))
      have hgs := HK.out.1
      obtain ⟨gq, hgq⟩ : ∃ gq, gq = wc.heap.size := ⟨_, rfl⟩
      replace HO := Aside0.mk (Kd.R_mono (ok' := fun k => w.heap.size ≤ k ∧ k < gq) (Kd.R_bound HO.out) (fun k hk => ⟨hk.1, by rw [hgq]; exact hk.2.2.1⟩))
      rw [← hgq] at hgs
      have HGW := Aside0.mk hgs
      have HGQ := Aside0.mk (Nat.le_of_eq hgq)
      clear hgs hgq
      replace H2 := Aside0.mk (blk_far (p := ⟨g3, 5, none⟩) H2.out HNE.out (.int .i64 p)); replace HO := Aside0.mk (Kd.R_set HO.out H3.out (by decide) 5 (.int .i64 p)); replace HI := Aside0.mk (HI.out.far H3.out (by decide) (Nat.le_trans HW0.out HG3.out) 5 (.int .i64 p)); replace HK := Aside0.mk (KeepBut.nw (i := 5) (v := .int .i64 p) HK.out HG3.out); replace H3 := Aside0.mk (blk_put H3.out 5 (.int .i64 p) rfl); 
      go_loopg [35] cs.length (fun kq v35 w' => ∃ (i : Nat) (ds : List Int) (sq : St) (v : Value), v35 = .int .i64 (i : Int) ∧ Aside0 (kq + i = cs.length) ∧ Aside0 (numsR kq ds sq = (D, s8)) ∧ Aside0 (ds.length ≤ i) ∧ Aside0 (Kd.R (Kd.int .i64) 3 w' w0.heap.size (fun k => gq ≤ k) v ds) ∧ Aside0 (Kd.R (Kd.int .i64) 3 w' w0.heap.size (fun k => w.heap.size ≤ k ∧ k < gq) (.slice Av cs.length cv) cs) ∧ Aside0 (gq ≤ w'.heap.size) ∧ Aside0 (Ey w0 w' g sq) ∧ Aside0 (KeepBut w w' g none) ∧ Aside0 (w'.heap[w.heap.size]? = some (.cells #[.string ⟨#[]⟩, .int .i64 0, .slice none 0 0, .int .u32 0, .int .i64 0, .int .i64 0, .slice none 0 0] 135 (0, 0))) ∧ Aside0 (w'.heap[g3]? = some (.cells #[.string a, .int .i64 tn, .slice Av cs.length cv, .int .u32 f, .int .i64 r, .int .i64 p, v] 135 (0, 0))))
      case atStart => exact ⟨0, [], s7, _, rfl, ⟨by omega⟩, ⟨HE.out.2.2.2.2.2.2.2⟩, ⟨by simp⟩, ⟨Kd.R_nil _ _ _ _ _⟩, HO, ⟨by have h1 := HGQ.out; simpa [World.setCell] using h1⟩, HI, HK, H2, H3⟩
      case round =>
        clear HI HK H2 H3 HO HGQ
        obtain ⟨i, ds, sq, v, rfl, HJ, HQ, HCL, HO, HP, HGQ, HI, HK, H2, H3⟩ := hrel
        obtain ⟨Av2, cv2, ev⟩ := Kd.R_slice HO.out
        generalize List.length _ = nv_ at ev
        subst ev
        (try clear h0 hf0 h1 hf1 h2 hf2 h3 hf3 h4 hf4 h5 hf5 h6 hf6); (try clear hl); 
        have h0 := (blk_cell H3.out 0).trans rfl; have h1 := (blk_cell H3.out 1).trans rfl; have h2 := (blk_cell H3.out 2).trans rfl; have h3 := (blk_cell H3.out 3).trans rfl; have h4 := (blk_cell H3.out 4).trans rfl; have h5 := (blk_cell H3.out 5).trans rfl; have h6 := (blk_cell H3.out 6).trans rfl; have hf0 := blk_frozen H3.out 0; have hf1 := blk_frozen H3.out 1; have hf2 := blk_frozen H3.out 2; have hf3 := blk_frozen H3.out 3; have hf4 := blk_frozen H3.out 4; have hf5 := blk_frozen H3.out 5; have hf6 := blk_frozen H3.out 6; have hl := blk_lt H3.out; 
        have hn23 := HNE.out
        have hn32 : g3 ≠ w.heap.size := Ne.symm HNE.out
        by_cases c5 : i < cs.length
        · have c1 : decide ((i : Int) < (cs.length : Int)) = true := decide_eq_true (by omega)
          have c1b : decide (i < cs.length) = true := decide_eq_true c5
          obtain ⟨k1, hk1⟩ : ∃ k1, gk = k1 + 1 := ⟨gk - 1, by have := HJ.out; omega⟩
          obtain ⟨k, t1, e1⟩ : ∃ n s2, nmR sq = (n, s2) := ⟨_, _, rfl⟩
          have hq := HQ.out
          rw [hk1, numsR, e1] at hq
          simp only at hq
          have HER := Aside0.mk e1
          have HQ1 := Aside0.mk (And.intro hk1 (And.intro hq c5))
          clear e1 hk1 hq c5 HQ
          go_upto_region 12 with fail
          go_region_law (first
        | (refine Kd.R_append_step (Kd.int .i64) (w0 := w0) w0.heap.size rfl (.tmp 38) (.tmp 41) 74 3 (.int .i64 0) 8 rfl Try.underlying74 XSchema.info3 rfl (by decide) (by omega) (.slice Av2 nv_ cv2) ds k [.int .i64 k] (fun k => gq ≤ k) (fun _ => False) (by first | rfl | (simp [Act.eval, Act.put]; done) | (simp [Act.eval, Act.put]; rfl)) (by first | rfl | (simp [Act.eval, Act.put]; done) | (simp [Act.eval, Act.put]; rfl)) rfl (fun _ hk => hk.elim) (fun k hk => Nat.le_trans HGQ.out hk) HO.out HI.out.bel HI.out.bel.size (by have h1 := HCL.out; have h2 := HQ1.out.2.2; have h3 := HN.out; have h4 := HCI.out; omega) ?_; intro v6 w6 ho hb hg_ hat; (obtain ⟨A6, c6, e6⟩ := Kd.R_slice ho); generalize List.length _ = nn at e6; subst e6; (try clear h0 hf0 h1 hf1 h2 hf2 h3 hf3 h4 hf4 h5 hf5 h6 hf6); (try clear hl);  replace H2 := Aside0.mk (blk_grown H2.out hg_ (Kd.R_ne HO.out H2.out (by decide))); replace H3 := Aside0.mk (blk_grown H3.out hg_ (Kd.R_ne HO.out H3.out (by decide))); replace HP := Aside0.mk (row_grown HP.out HO.out (fun k h1 h2 => Nat.not_le_of_lt h1.2 h2) hg_);  replace HI := Aside0.mk (HI.out.grown HO.out (by decide) hb hg_); replace HK := Aside0.mk (KeepBut.gr HK.out HO.out (fun k h => Nat.le_trans HGW.out h) hg_); replace HGQ := Aside0.mk (Nat.le_trans HGQ.out hg_.size); replace HO := Aside0.mk ho; clear ho hb hg_ hat; have h0 := (blk_cell H3.out 0).trans rfl; have h1 := (blk_cell H3.out 1).trans rfl; have h2 := (blk_cell H3.out 2).trans rfl; have h3 := (blk_cell H3.out 3).trans rfl; have h4 := (blk_cell H3.out 4).trans rfl; have h5 := (blk_cell H3.out 5).trans rfl; have h6 := (blk_cell H3.out 6).trans rfl; have hf0 := blk_frozen H3.out 0; have hf1 := blk_frozen H3.out 1; have hf2 := blk_frozen H3.out 2; have hf3 := blk_frozen H3.out 3; have hf4 := blk_frozen H3.out 4; have hf5 := blk_frozen H3.out 5; have hf6 := blk_frozen H3.out 6; have hl := blk_lt H3.out; )
        | (refine goes_ Try.func102 (by kernel_rfl) rfl #[.pointer (some ⟨g, 0, none⟩)] rfl rfl rfl (by simp [Act.eval, Act.put]) ?_; (with_reducible refine (number_is HI.out.drew HER.out).mono ?_); rintro en wa ⟨rfl, hI, hK⟩; refine ⟨_, rfl, ?_⟩; (try clear h0 hf0 h1 hf1 h2 hf2 h3 hf3 h4 hf4 h5 hf5 h6 hf6); (try clear hl);  replace hK := KeepBut.tr (KeepBut.bl (KeepBut.refl wr g none) (below_drew1 (Below.refl _ _))) hK; replace HGQ := Aside0.mk (Nat.le_trans HGQ.out hK.1); replace H2 := Aside0.mk (HI.out.keep hK H2.out (by decide)); replace H3 := Aside0.mk (HI.out.keep hK H3.out (by decide));  replace HO := Aside0.mk (HI.out.row hK HO.out (by decide)); replace HP := Aside0.mk (HI.out.row hK HP.out (by decide));  replace HK := Aside0.mk (KeepBut.tr HK.out hK); replace HI := Aside0.mk hI; clear hI hK;  have h0 := (blk_cell H3.out 0).trans rfl; have h1 := (blk_cell H3.out 1).trans rfl; have h2 := (blk_cell H3.out 2).trans rfl; have h3 := (blk_cell H3.out 3).trans rfl; have h4 := (blk_cell H3.out 4).trans rfl; have h5 := (blk_cell H3.out 5).trans rfl; have h6 := (blk_cell H3.out 6).trans rfl; have hf0 := blk_frozen H3.out 0; have hf1 := blk_frozen H3.out 1; have hf2 := blk_frozen H3.out 2; have hf3 := blk_frozen H3.out 3; have hf4 := blk_frozen H3.out 4; have hf5 := blk_frozen H3.out 5; have hf6 := blk_frozen H3.out 6; have hl := blk_lt H3.out; ))
          all_goals
            go_wp2
            go_roundg k1
            case measure => have := HQ1.out.1; omega
            case rel =>
              have h1 := HJ.out
              have h2 := HQ1.out
              have h3 := HCL.out
              replace H2 := Aside0.mk (blk_far (p := ⟨g3, 6, none⟩) H2.out HNE.out (.slice A6 nn c6)); replace HO := Aside0.mk (Kd.R_set HO.out H3.out (by decide) 6 (.slice A6 nn c6)); replace HP := Aside0.mk (Kd.R_set HP.out H3.out (by decide) 6 (.slice A6 nn c6)); replace HI := Aside0.mk (HI.out.far H3.out (by decide) (Nat.le_trans HW0.out HG3.out) 6 (.slice A6 nn c6)); replace HK := Aside0.mk (KeepBut.nw (i := 6) (v := .slice A6 nn c6) HK.out HG3.out); replace H3 := Aside0.mk (blk_put H3.out 6 (.slice A6 nn c6) rfl); 
              exact ⟨i + 1, ds ++ [k], t1, .slice A6 nn c6, by first | rfl | (rw [wr_in ((i : Int) + 1) (by have := HCI.out; omega)]; rfl), ⟨by omega⟩, ⟨h2.2.1⟩, ⟨by rw [List.length_append, List.length_singleton]; omega⟩, HO, HP, ⟨by have h1 := HGQ.out; simpa [World.setCell] using h1⟩, HI, HK, H2, H3⟩
        · have c1 : decide ((i : Int) < (cs.length : Int)) = false := decide_eq_false (by omega)
          have c1b : decide (i < cs.length) = false := decide_eq_false c5
          have hk0 : gk = 0 := by have := HJ.out; omega
          have hq := HQ.out
          rw [hk0, numsR] at hq
          injection hq with hq1 hq2
          subst hq1 hq2
          have z0 := (blk_cell H2.out 0).trans rfl; have z1 := (blk_cell H2.out 1).trans rfl; have z2 := (blk_cell H2.out 2).trans rfl; have z3 := (blk_cell H2.out 3).trans rfl; have z4 := (blk_cell H2.out 4).trans rfl; have z5 := (blk_cell H2.out 5).trans rfl; have z6 := (blk_cell H2.out 6).trans rfl; have zf0 := blk_frozen H2.out 0; have zf1 := blk_frozen H2.out 1; have zf2 := blk_frozen H2.out 2; have zf3 := blk_frozen H2.out 3; have zf4 := blk_frozen H2.out 4; have zf5 := blk_frozen H2.out 5; have zf6 := blk_frozen H2.out 6; have zl := blk_lt H2.out; 
          clear hk0 c5 HQ
          go_wp2
          replace H3 := Aside0.mk (blk_far (p := ⟨w.heap.size, 0, none⟩) H3.out (Ne.symm HNE.out) (.string a)); replace HO := Aside0.mk (Kd.R_set HO.out H2.out (by decide) 0 (.string a)); replace HP := Aside0.mk (Kd.R_set HP.out H2.out (by decide) 0 (.string a)); replace HI := Aside0.mk (HI.out.far H2.out (by decide) HW0.out 0 (.string a)); replace HK := Aside0.mk (KeepBut.nw (i := 0) (v := .string a) HK.out (Nat.le_refl _)); replace H2 := Aside0.mk (blk_put H2.out 0 (.string a) rfl); replace H3 := Aside0.mk (blk_far (p := ⟨w.heap.size, 1, none⟩) H3.out (Ne.symm HNE.out) (.int .i64 tn)); replace HO := Aside0.mk (Kd.R_set HO.out H2.out (by decide) 1 (.int .i64 tn)); replace HP := Aside0.mk (Kd.R_set HP.out H2.out (by decide) 1 (.int .i64 tn)); replace HI := Aside0.mk (HI.out.far H2.out (by decide) HW0.out 1 (.int .i64 tn)); replace HK := Aside0.mk (KeepBut.nw (i := 1) (v := .int .i64 tn) HK.out (Nat.le_refl _)); replace H2 := Aside0.mk (blk_put H2.out 1 (.int .i64 tn) rfl); replace H3 := Aside0.mk (blk_far (p := ⟨w.heap.size, 2, none⟩) H3.out (Ne.symm HNE.out) (.slice Av cs.length cv)); replace HO := Aside0.mk (Kd.R_set HO.out H2.out (by decide) 2 (.slice Av cs.length cv)); replace HP := Aside0.mk (Kd.R_set HP.out H2.out (by decide) 2 (.slice Av cs.length cv)); replace HI := Aside0.mk (HI.out.far H2.out (by decide) HW0.out 2 (.slice Av cs.length cv)); replace HK := Aside0.mk (KeepBut.nw (i := 2) (v := .slice Av cs.length cv) HK.out (Nat.le_refl _)); replace H2 := Aside0.mk (blk_put H2.out 2 (.slice Av cs.length cv) rfl); replace H3 := Aside0.mk (blk_far (p := ⟨w.heap.size, 3, none⟩) H3.out (Ne.symm HNE.out) (.int .u32 f)); replace HO := Aside0.mk (Kd.R_set HO.out H2.out (by decide) 3 (.int .u32 f)); replace HP := Aside0.mk (Kd.R_set HP.out H2.out (by decide) 3 (.int .u32 f)); replace HI := Aside0.mk (HI.out.far H2.out (by decide) HW0.out 3 (.int .u32 f)); replace HK := Aside0.mk (KeepBut.nw (i := 3) (v := .int .u32 f) HK.out (Nat.le_refl _)); replace H2 := Aside0.mk (blk_put H2.out 3 (.int .u32 f) rfl); replace H3 := Aside0.mk (blk_far (p := ⟨w.heap.size, 4, none⟩) H3.out (Ne.symm HNE.out) (.int .i64 r)); replace HO := Aside0.mk (Kd.R_set HO.out H2.out (by decide) 4 (.int .i64 r)); replace HP := Aside0.mk (Kd.R_set HP.out H2.out (by decide) 4 (.int .i64 r)); replace HI := Aside0.mk (HI.out.far H2.out (by decide) HW0.out 4 (.int .i64 r)); replace HK := Aside0.mk (KeepBut.nw (i := 4) (v := .int .i64 r) HK.out (Nat.le_refl _)); replace H2 := Aside0.mk (blk_put H2.out 4 (.int .i64 r) rfl); replace H3 := Aside0.mk (blk_far (p := ⟨w.heap.size, 5, none⟩) H3.out (Ne.symm HNE.out) (.int .i64 p)); replace HO := Aside0.mk (Kd.R_set HO.out H2.out (by decide) 5 (.int .i64 p)); replace HP := Aside0.mk (Kd.R_set HP.out H2.out (by decide) 5 (.int .i64 p)); replace HI := Aside0.mk (HI.out.far H2.out (by decide) HW0.out 5 (.int .i64 p)); replace HK := Aside0.mk (KeepBut.nw (i := 5) (v := .int .i64 p) HK.out (Nat.le_refl _)); replace H2 := Aside0.mk (blk_put H2.out 5 (.int .i64 p) rfl); replace H3 := Aside0.mk (blk_far (p := ⟨w.heap.size, 6, none⟩) H3.out (Ne.symm HNE.out) (.slice Av2 nv_ cv2)); replace HO := Aside0.mk (Kd.R_set HO.out H2.out (by decide) 6 (.slice Av2 nv_ cv2)); replace HP := Aside0.mk (Kd.R_set HP.out H2.out (by decide) 6 (.slice Av2 nv_ cv2)); replace HI := Aside0.mk (HI.out.far H2.out (by decide) HW0.out 6 (.slice Av2 nv_ cv2)); replace HK := Aside0.mk (KeepBut.nw (i := 6) (v := .slice Av2 nv_ cv2) HK.out (Nat.le_refl _)); replace H2 := Aside0.mk (blk_put H2.out 6 (.slice Av2 nv_ cv2) rfl); 
          refine bodyPost_ret (results_cell_row rfl _ _ w.heap.size 135 #[.string a, .int .i64 tn, .slice Av cs.length cv, .int .u32 f, .int .i64 r, .int .i64 p, .slice Av2 nv_ cv2] (0, 0) _ rfl H2.out Try.underlying135 rfl (by kernel_rfl)) rfl ?_
          exact ⟨_, _, rfl, Kd.R_mono HP.out (fun k hk => hk.1), Kd.R_mono HO.out (fun k hk => Nat.le_trans HGW.out hk), HI.out, HK.out⟩
end Go.Proofs.Ytpfegfkniilobaa.Tk
namespace Go.Proofs.Ytpfegfkniilobaa.Tk
open Go.RowKit Go.Proofs.YtpfegfkniilobaaW.PrintWords Go.Proofs.YtpfegfkniilobaaW.PrintLast Go.Proofs.YtpfegfkniilobaaW.PrintMore
open Go.Proofs.Ytpfegfkniilobaa.XSchema
set_option linter.unusedVariables false
set_option linter.unusedSimpArgs false
set_option maxRecDepth 100000
def tabsR : Nat → List S84 → St → List S84 × St
  | 0, cs, s => (cs, s)
  | n + 1, cs, s => tabsR n (cs ++ [(tabR s).1]) (tabR s).2
def idxsR : Nat → List S135 → St → List S135 × St
  | 0, cs, s => (cs, s)
  | n + 1, cs, s => idxsR n (cs ++ [(idxR s).1]) (idxR s).2
def getG (t : List S84 × St) : (List S84 × List S135) × St := ((t.1, (idxsR (cnt t.2).1.toNat [] (cnt t.2).2).1), (idxsR (cnt t.2).1.toNat [] (cnt t.2).2).2)
/-- What is read. -/
def getR (s : St) : (List S84 × List S135) × St := getG (tabsR (cnt s).1.toNat [] (cnt s).2)
theorem table_is {w0 w : World} {g : Nat} {s s1 : St} {t : S84} (h : Ey w0 w g s) (e : tabR s = (t, s1)) :
    Calls Try.prog 75 #[.pointer (some ⟨g, 0, none⟩)] w fun en w' => ∃ A n c, en = .returned (.agg #[.string t.f0, .slice A n c, .int .u32 t.f2, .int .i64 t.f3, .int .i64 t.f4]) ∧ Kd.R k87 87 w' w0.heap.size (fun _ => True) (.slice A n c) t.f1 ∧ Ey w0 w' g s1 ∧ KeepBut w w' g none := by
  have h1 := table_ey w0 w g s h
  rw [e] at h1
  refine h1.mono ?_
  rintro en w' ⟨v, e1, h2, h3⟩
  obtain ⟨A, c, rfl⟩ := Kd.R_slice h2
  exact ⟨A, _, c, e1, Kd.R_mono h2 (fun _ _ => trivial), h3⟩
theorem index_is {w0 w : World} {g : Nat} {s s1 : St} {t : S135} (h : Ey w0 w g s) (e : idxR s = (t, s1)) :
    Calls Try.prog 76 #[.pointer (some ⟨g, 0, none⟩)] w fun en w' => ∃ A n c B m d, en = .returned (.agg #[.string t.f0, .int .i64 t.f1, .slice A n c, .int .u32 t.f3, .int .i64 t.f4, .int .i64 t.f5, .slice B m d]) ∧ Kd.R (Kd.int .i64) 3 w' w0.heap.size (fun _ => True) (.slice A n c) t.f2 ∧ Kd.R (Kd.int .i64) 3 w' w0.heap.size (fun _ => True) (.slice B m d) t.f6 ∧ Ey w0 w' g s1 ∧ KeepBut w w' g none := by
  have h1 := index_ey w0 w g s h
  rw [e] at h1
  refine h1.mono ?_
  rintro en w' ⟨v, u, e1, h2, h2', h3⟩
  obtain ⟨A, c, rfl⟩ := Kd.R_slice h2
  obtain ⟨B, d, rfl⟩ := Kd.R_slice h2'
  exact ⟨A, _, c, B, _, d, e1, Kd.R_mono h2 (fun _ _ => trivial), Kd.R_mono h2' (fun _ _ => trivial), h3⟩
theorem row_tgrown {α β : Type} {d : Kd α} {d2 : Kd β} {W W' : World} {e base e2 base2 : Nat} {ok ok2 : Nat → Prop} {v v2 : Value} {xs : List α} {ys : List β} (h : d.R e W base ok v xs) (h2 : d2.R e2 W base2 ok2 v2 ys) (ht : ∀ q, q ∈ e :: d.E → e2 ≠ q) (hg : W.grownBy W' v2.ownBlock) : d.R e W' base ok v xs :=
  Kd.R_mono (Kd.R_step (Kd.R_bound h) (fun k hk hlt => by
    obtain ⟨_, _, _, q, hq, cells, hc⟩ := hk
    exact hg.block k hlt (Kd.R_ne h2 hc (ht q hq)))) (fun k hk => hk.1)
theorem results_cell1 {P : Program} {fn : Func} {p u : Tmp} {ty : TypeId} (h : fn.results = #[.cell p ty, .tmp u]) (tmps : Array Value) (w : World) (g : Nat) (t : TypeId) (cs : Array Value) (fr : Nat × Nat) (d : TypeDesc)
    (hp : tmps.getD p undef = .pointer (some ⟨g, 0, none⟩)) (hg : w.heap[g]? = some (.cells cs t fr))
    (hu : P.underlying ty = some d) (hd : (match d with | .struct _ | .array _ _ => true | _ => false) = true) (hi : (P.info? ty).map (·.size) = some cs.size) :
    (results fn tmps).run P w = .ok (.tuple #[.agg cs, tmps.getD u undef]) w := by
  have hp' : tmps[p]?.getD undef = .pointer (some ⟨g, 0, none⟩) := by simpa using hp
  simp [results, h, hp', asAddr, run_loadVar_row w g t ty cs fr d hg hu hd hi]
theorem tok {α : Type} {d : Kd α} {w : World} {base e : Nat} {ok : Nat → Prop} {v : Value} {xs : List α} (hE : d.E = []) (h : d.R e w base ok v xs) : d.R e w base (fun k => ∃ cells, w.heap[k]? = some (.cells cells e (0, 0))) v xs := Kd.R_mono (Kd.R_bound h) (fun k hk => by
  obtain ⟨_, _, _, q, hq, cells, hc⟩ := hk
  rw [hE, List.mem_singleton] at hq
  subst hq
  exact ⟨cells, hc⟩)

set_option maxHeartbeats 16000000 in
theorem get_ey (w : World) (A : Option Addr) (c : Nat) (b : List Int) (hC : Kd.C (Kd.int .u8) w A b.length b) (hc : b.length ≤ c) (hok : St.ok (b, false)) (T : List S84) (X : List S135) (sf : St) (he : getR (b, false) = ((T, X), sf)) (k : Nat) (m : Bool) (hm : sf.2 = false → sf.1 = [] → schema_May.f k T X = some m) :
    Calls Try.prog 37 #[.slice A b.length c] w fun en w' => ∃ v u, en = .returned (.tuple #[.agg #[v, u], .int .i64 (if sf.2 = false ∧ sf.1 = [] ∧ m = true then 0 else 2)]) ∧ Kd.R k84 84 w' w.heap.size (fun _ => True) v (if sf.2 = false ∧ sf.1 = [] ∧ m = true then T else []) ∧ Kd.R k135 135 w' w.heap.size (fun _ => True) u (if sf.2 = false ∧ sf.1 = [] ∧ m = true then X else []) ∧ Below w.heap.size w w' := by
  obtain ⟨E, hE⟩ : ∃ E : Int, (if sf.2 = false ∧ sf.1 = [] ∧ m = true then (0 : Int) else 2) = E := ⟨_, rfl⟩
  obtain ⟨TT, hT⟩ : ∃ E : List S84, (if sf.2 = false ∧ sf.1 = [] ∧ m = true then T else []) = E := ⟨_, rfl⟩
  obtain ⟨XX, hX⟩ : ∃ E : List S135, (if sf.2 = false ∧ sf.1 = [] ∧ m = true then X else []) = E := ⟨_, rfl⟩
  rw [hE, hT, hX]
  have HR := Aside0.mk (And.intro hE (And.intro hT hX))
  clear hE hT hX
  obtain ⟨n, s1, e1⟩ : ∃ n s1, cnt (b, false) = (n, s1) := ⟨_, _, rfl⟩
  have o1 : St.ok s1 := by have := cnt_ok hok; rwa [e1] at this
  have hn := cnt_in hok
  rw [e1] at hn
  simp only at hn
  obtain ⟨T', s2, e2⟩ : ∃ T s2, tabsR n.toNat [] s1 = (T, s2) := ⟨_, _, rfl⟩
  obtain ⟨n2, s3, e3⟩ : ∃ n s1, cnt s2 = (n, s1) := ⟨_, _, rfl⟩
  obtain ⟨X', s4, e4⟩ : ∃ T s2, idxsR n2.toNat [] s3 = (T, s2) := ⟨_, _, rfl⟩
  have e : getR (b, false) = ((T', X'), s4) := by simp only [getR, getG, e1, e2, e3, e4]
  rw [e] at he
  injection he with he1 he2
  injection he1 with he3 he4
  subst he2 he3 he4
  clear e
  have HE := Aside0.mk (And.intro e1 (And.intro e2 (And.intro e3 e4)))
  have HN := Aside0.mk hn
  have HM := Aside0.mk hm
  have hn0 := hn.1
  have HB0 := Aside0.mk (below_alloc (below_alloc (below_alloc (Below.refl w.heap.size w) (.cells #[.slice none 0 0, .slice none 0 0] 80)) (.cells #[.slice A b.length c, .bool false] 155)) (.cells #[.slice none 0 0, .slice none 0 0] 80))
  have H2 := Aside0.mk (blk_alloc (blk_alloc (blk_new w (.cells #[.slice none 0 0, .slice none 0 0] 80)) (.cells #[.slice A b.length c, .bool false] 155)) (.cells #[.slice none 0 0, .slice none 0 0] 80))
  have HE0 := Aside0.mk (blk_alloc (blk_new (w.alloc (.cells #[.slice none 0 0, .slice none 0 0] 80)) (.cells #[.slice A b.length c, .bool false] 155)) (.cells #[.slice none 0 0, .slice none 0 0] 80))
  have H5 := Aside0.mk (blk_new ((w.alloc (.cells #[.slice none 0 0, .slice none 0 0] 80)).alloc (.cells #[.slice A b.length c, .bool false] 155)) (.cells #[.slice none 0 0, .slice none 0 0] 80))
  have s1_ : (w.alloc (.cells #[.slice none 0 0, .slice none 0 0] 80)).heap.size = w.heap.size + 1 := by simp
  have s2_ : ((w.alloc (.cells #[.slice none 0 0, .slice none 0 0] 80)).alloc (.cells #[.slice A b.length c, .bool false] 155)).heap.size = w.heap.size + 1 + 1 := by simp
  rw [s1_] at HE0
  rw [s2_] at H5
  have HI0 := Aside0.mk (show Ey w _ (w.heap.size + 1) (b, false) from ⟨Cur.mk HE0.out hc (by omega) hC, HB0.out, hok⟩)
  have HNE := Aside0.mk (show w.heap.size ≠ w.heap.size + 1 + 1 by omega)
  have HG5 := Aside0.mk (show w.heap.size ≤ w.heap.size + 1 + 1 by omega)
  clear hC hc hok e1 e2 e3 e4 o1 hn hm s1_ s2_ HE0
  go_enter Try.func37, Try.ntmps37
  go_upto_region 3 with fail
  generalize ((w.alloc (.cells #[.slice none 0 0, .slice none 0 0] 80)).alloc (.cells #[.slice A b.length c, .bool false] 155)).alloc (.cells #[.slice none 0 0, .slice none 0 0] 80) = w1 at HB0 H2 HI0 H5 ⊢
  generalize w.heap.size + 1 + 1 = g5 at H5 HNE HG5 ⊢
  generalize w.heap.size + 1 = g at HI0 ⊢
  have HI := HI0
  clear HI0
  go_wp2_with (go_at_call 74; (with_reducible refine (count_is HI.out HE.out.1).mono ?_); rintro en wa ⟨rfl, hI, hK⟩; replace H2 := Aside0.mk (HI.out.keep hK H2.out (by decide)); replace H5 := Aside0.mk (HI.out.keep hK H5.out (by decide));  replace HI := Aside0.mk hI; clear hI hK; )
  go_loopg [11] n.toNat (fun kq v11 w' => ∃ (i : Nat) (cs : List S84) (sq : St) (v : Value), v11 = .int .i64 (i : Int) ∧ Aside0 (kq + i = n.toNat) ∧ Aside0 (tabsR kq cs sq = (T', s2)) ∧ Aside0 (cs.length ≤ i) ∧ Aside0 (Kd.R k84 84 w' w.heap.size (fun _ => True) v cs) ∧ Aside0 (Ey w w' g sq) ∧ Aside0 (w'.heap[w.heap.size]? = some (.cells #[.slice none 0 0, .slice none 0 0] 80 (0, 0))) ∧ Aside0 (w'.heap[g5]? = some (.cells #[v, .slice none 0 0] 80 (0, 0))))
  case atStart => exact ⟨0, [], s1, _, rfl, ⟨by omega⟩, ⟨HE.out.2.1⟩, ⟨by simp⟩, ⟨Kd.R_nil _ _ _ _ _⟩, HI, H2, H5⟩
  case round =>
    clear HI H2 H5
    obtain ⟨i, cs, sq, v, rfl, HJ, HQ, HCL, HO, HI, H2, H5⟩ := hrel
    obtain ⟨Av, cv, ev⟩ := Kd.R_slice HO.out
    generalize List.length _ = nv_ at ev
    subst ev
    have h0 := (blk_cell H5.out 0).trans rfl; have h1 := (blk_cell H5.out 1).trans rfl; have hf0 := blk_frozen H5.out 0; have hf1 := blk_frozen H5.out 1; have hl := blk_lt H5.out; 
    by_cases c5_ : (i : Int) < n
    · have c1 : decide ((i : Int) < n) = true := decide_eq_true c5_
      obtain ⟨k1, hk1⟩ : ∃ k1, gk = k1 + 1 := ⟨gk - 1, by have := HJ.out; omega⟩
      obtain ⟨t, t1, e1⟩ : ∃ n s2, tabR sq = (n, s2) := ⟨_, _, rfl⟩
      have hq := HQ.out
      rw [hk1, tabsR, e1] at hq
      simp only at hq
      have HER := Aside0.mk e1
      have HQ1 := Aside0.mk (And.intro hk1 (And.intro hq c5_))
      clear e1 hk1 hq c5_ HQ
      go_upto_region 5 with fail
      go_region_law (first
        | (refine Kd.R_append_step k84 (w0 := w) w.heap.size rfl (.tmp 14) (.tmp 17) 77 84 (.agg #[(.string ⟨#[]⟩), (.slice none 0 0), (.int .u32 0), (.int .i64 0), (.int .i64 0)]) 64 rfl Try.underlying77 info84 rfl (by decide) (by omega) (.slice Av nv_ cv) cs t [.string t.f0, .slice A1 n1 q1, .int .u32 t.f2, .int .i64 t.f3, .int .i64 t.f4] (fun _ => True) (fun k => ∃ cells, wa.heap[k]? = some (.cells cells 87 (0, 0))) (by first | rfl | (simp [Act.eval, Act.put]; done) | (simp [Act.eval, Act.put]; rfl)) (by first | rfl | (simp [Act.eval, Act.put]; done) | (simp [Act.eval, Act.put]; rfl)) (k84_mkM _ _ _ t (tok rfl HR1.out)) (fun k hk => ⟨trivial, (by obtain ⟨cells, hc⟩ := hk; exact Kd.R_ne HO.out hc (by decide))⟩) (fun _ _ => trivial) HO.out HI.out.bel HI.out.bel.size (by have h1 := HCL.out; have h2 := HQ1.out.2.2; have h3 := HN.out; omega) ?_; intro v6 w6 ho hb hg_ hat; (obtain ⟨A6, c6, e6⟩ := Kd.R_slice ho); generalize List.length _ = nn at e6; subst e6; (try clear h0 hf0 h1 hf1); (try clear hl);  replace H2 := Aside0.mk (blk_grown H2.out hg_ (Kd.R_ne HO.out H2.out (by decide))); replace H5 := Aside0.mk (blk_grown H5.out hg_ (Kd.R_ne HO.out H5.out (by decide)));  replace HI := Aside0.mk (HI.out.grown HO.out (by decide) hb hg_); replace HO := Aside0.mk ho; clear ho hb hg_ hat; have h0 := (blk_cell H5.out 0).trans rfl; have h1 := (blk_cell H5.out 1).trans rfl; have hf0 := blk_frozen H5.out 0; have hf1 := blk_frozen H5.out 1; have hl := blk_lt H5.out; )
        | (refine goes_ Try.func75 (by kernel_rfl) rfl #[.pointer (some ⟨g, 0, none⟩)] rfl rfl rfl (by simp [Act.eval, Act.put]) ?_; (with_reducible refine (table_is HI.out.drew HER.out).mono ?_); rintro en wa ⟨A1, n1, q1, rfl, hR1, hI, hK⟩; refine ⟨_, rfl, ?_⟩; (try clear h0 hf0 h1 hf1); (try clear hl);  replace hK := KeepBut.tr (KeepBut.bl (KeepBut.refl wr g none) (below_drew1 (Below.refl _ _))) hK; replace H2 := Aside0.mk (HI.out.keep hK H2.out (by decide)); replace H5 := Aside0.mk (HI.out.keep hK H5.out (by decide));  replace HO := Aside0.mk (HI.out.row hK HO.out (by decide));  have HR1 := Aside0.mk hR1; clear hR1;  replace HI := Aside0.mk hI; clear hI hK;  have h0 := (blk_cell H5.out 0).trans rfl; have h1 := (blk_cell H5.out 1).trans rfl; have hf0 := blk_frozen H5.out 0; have hf1 := blk_frozen H5.out 1; have hl := blk_lt H5.out; ))
      all_goals
        go_wp2
        go_roundg k1
        case measure => have := HQ1.out.1; omega
        case rel =>
          have h1 := HJ.out
          have h2 := HQ1.out
          have h3 := HCL.out
          replace H2 := Aside0.mk (blk_far (p := ⟨g5, 0, none⟩) H2.out HNE.out (.slice A6 nn c6)); replace HO := Aside0.mk (Kd.R_set HO.out H5.out (by decide) 0 (.slice A6 nn c6)); replace HI := Aside0.mk (HI.out.far H5.out (by decide) HG5.out 0 (.slice A6 nn c6)); replace H5 := Aside0.mk (blk_put H5.out 0 (.slice A6 nn c6) rfl); 
          exact ⟨i + 1, cs ++ [t], t1, .slice A6 nn c6, by first | rfl | (rw [wr_in ((i : Int) + 1) (by have := HN.out; omega)]; rfl), ⟨by omega⟩, ⟨h2.2.1⟩, ⟨by rw [List.length_append, List.length_singleton]; omega⟩, HO, HI, H2, H5⟩
    · have c1 : decide ((i : Int) < n) = false := decide_eq_false c5_
      have hk0 : gk = 0 := by have := HJ.out; omega
      have hq := HQ.out
      rw [hk0, tabsR] at hq
      injection hq with hq1 hq2
      subst hq1 hq2
      have o3 := HI.out.2.2
      have hn2 := cnt_in o3
      rw [HE.out.2.2.1] at hn2
      simp only at hn2
      have hn20 := hn2.1
      replace HN := Aside0.mk hn2
      obtain ⟨rfl, _⟩ := Kd.R_reads' HO.out
      clear hk0 c5_ o3 HQ hn2
      go_wp2_with (go_at_call 74; (with_reducible refine (count_is HI.out HE.out.2.2.1).mono ?_); rintro en wa ⟨rfl, hI, hK⟩; (try clear h0 hf0 h1 hf1); (try clear hl);  replace H2 := Aside0.mk (HI.out.keep hK H2.out (by decide)); replace H5 := Aside0.mk (HI.out.keep hK H5.out (by decide));  replace HO := Aside0.mk (HI.out.row hK HO.out (by decide));  replace HI := Aside0.mk hI; clear hI hK; )
      have HP := HO
      clear HO HCL HJ
      go_loopg [23] n2.toNat (fun kq v23 w' => ∃ (i : Nat) (ds : List S135) (sq : St) (v : Value), v23 = .int .i64 (i : Int) ∧ Aside0 (kq + i = n2.toNat) ∧ Aside0 (idxsR kq ds sq = (X', s4)) ∧ Aside0 (ds.length ≤ i) ∧ Aside0 (Kd.R k135 135 w' w.heap.size (fun _ => True) v ds) ∧ Aside0 (Kd.R k84 84 w' w.heap.size (fun _ => True) (.slice Av cs.length cv) cs) ∧ Aside0 (Ey w w' g sq) ∧ Aside0 (w'.heap[w.heap.size]? = some (.cells #[.slice none 0 0, .slice none 0 0] 80 (0, 0))) ∧ Aside0 (w'.heap[g5]? = some (.cells #[.slice Av cs.length cv, v] 80 (0, 0))))
      case atStart => exact ⟨0, [], s3, _, rfl, ⟨by omega⟩, ⟨HE.out.2.2.2⟩, ⟨by simp⟩, ⟨Kd.R_nil _ _ _ _ _⟩, HP, HI, H2, H5⟩
      case round =>
        clear HI H2 H5 HP
        obtain ⟨i, ds, sq, v, rfl, HJ, HQ, HCL, HO, HP, HI, H2, H5⟩ := hrel
        obtain ⟨Av2, cv2, ev⟩ := Kd.R_slice HO.out
        generalize List.length _ = nv_ at ev
        subst ev
        have h0 := (blk_cell H5.out 0).trans rfl; have h1 := (blk_cell H5.out 1).trans rfl; have hf0 := blk_frozen H5.out 0; have hf1 := blk_frozen H5.out 1; have hl := blk_lt H5.out; 
        by_cases c5_ : (i : Int) < n2
        · have c1 : decide ((i : Int) < n2) = true := decide_eq_true c5_
          obtain ⟨k1, hk1⟩ : ∃ k1, gk = k1 + 1 := ⟨gk - 1, by have := HJ.out; omega⟩
          obtain ⟨t, t1, e1⟩ : ∃ n s2, idxR sq = (n, s2) := ⟨_, _, rfl⟩
          have hq := HQ.out
          rw [hk1, idxsR, e1] at hq
          simp only at hq
          have HER := Aside0.mk e1
          have HQ1 := Aside0.mk (And.intro hk1 (And.intro hq c5_))
          clear e1 hk1 hq c5_ HQ
          go_upto_region 9 with fail
          go_region_law (first
        | (refine Kd.R_append_step k135 (w0 := w) w.heap.size rfl (.tmp 26) (.tmp 29) 78 135 (.agg #[(.string ⟨#[]⟩), (.int .i64 0), (.slice none 0 0), (.int .u32 0), (.int .i64 0), (.int .i64 0), (.slice none 0 0)]) 96 rfl Try.underlying78 info135 rfl (by decide) (by omega) (.slice Av2 nv_ cv2) ds t [.string t.f0, .int .i64 t.f1, .slice A1 n1 q1, .int .u32 t.f3, .int .i64 t.f4, .int .i64 t.f5, .slice B1 m1 d1] (fun _ => True) (fun k => ∃ cells, wa.heap[k]? = some (.cells cells 3 (0, 0))) (by first | rfl | (simp [Act.eval, Act.put]; done) | (simp [Act.eval, Act.put]; rfl)) (by first | rfl | (simp [Act.eval, Act.put]; done) | (simp [Act.eval, Act.put]; rfl)) (k135_mkM _ _ _ t (tok rfl HR1.out) (tok rfl HR2.out)) (fun k hk => ⟨trivial, (by obtain ⟨cells, hc⟩ := hk; exact Kd.R_ne HO.out hc (by decide))⟩) (fun _ _ => trivial) HO.out HI.out.bel HI.out.bel.size (by have h1 := HCL.out; have h2 := HQ1.out.2.2; have h3 := HN.out; omega) ?_; intro v6 w6 ho hb hg_ hat; (obtain ⟨A6, c6, e6⟩ := Kd.R_slice ho); generalize List.length _ = nn at e6; subst e6; (try clear h0 hf0 h1 hf1); (try clear hl);  replace H2 := Aside0.mk (blk_grown H2.out hg_ (Kd.R_ne HO.out H2.out (by decide))); replace H5 := Aside0.mk (blk_grown H5.out hg_ (Kd.R_ne HO.out H5.out (by decide))); replace HP := Aside0.mk (row_tgrown HP.out HO.out (by decide) hg_);  replace HI := Aside0.mk (HI.out.grown HO.out (by decide) hb hg_); replace HO := Aside0.mk ho; clear ho hb hg_ hat; have h0 := (blk_cell H5.out 0).trans rfl; have h1 := (blk_cell H5.out 1).trans rfl; have hf0 := blk_frozen H5.out 0; have hf1 := blk_frozen H5.out 1; have hl := blk_lt H5.out; )
        | (refine goes_ Try.func76 (by kernel_rfl) rfl #[.pointer (some ⟨g, 0, none⟩)] rfl rfl rfl (by simp [Act.eval, Act.put]) ?_; (with_reducible refine (index_is HI.out.drew HER.out).mono ?_); rintro en wa ⟨A1, n1, q1, B1, m1, d1, rfl, hR1, hR2, hI, hK⟩; refine ⟨_, rfl, ?_⟩; (try clear h0 hf0 h1 hf1); (try clear hl);  replace hK := KeepBut.tr (KeepBut.bl (KeepBut.refl wr g none) (below_drew1 (Below.refl _ _))) hK; replace H2 := Aside0.mk (HI.out.keep hK H2.out (by decide)); replace H5 := Aside0.mk (HI.out.keep hK H5.out (by decide));  replace HO := Aside0.mk (HI.out.row hK HO.out (by decide)); replace HP := Aside0.mk (HI.out.row hK HP.out (by decide));  have HR1 := Aside0.mk hR1; have HR2 := Aside0.mk hR2; clear hR1 hR2;  replace HI := Aside0.mk hI; clear hI hK;  have h0 := (blk_cell H5.out 0).trans rfl; have h1 := (blk_cell H5.out 1).trans rfl; have hf0 := blk_frozen H5.out 0; have hf1 := blk_frozen H5.out 1; have hl := blk_lt H5.out; ))
          all_goals
            go_wp2
            go_roundg k1
            case measure => have := HQ1.out.1; omega
            case rel =>
              have h1 := HJ.out
              have h2 := HQ1.out
              have h3 := HCL.out
              replace H2 := Aside0.mk (blk_far (p := ⟨g5, 1, none⟩) H2.out HNE.out (.slice A6 nn c6)); replace HO := Aside0.mk (Kd.R_set HO.out H5.out (by decide) 1 (.slice A6 nn c6)); replace HP := Aside0.mk (Kd.R_set HP.out H5.out (by decide) 1 (.slice A6 nn c6)); replace HI := Aside0.mk (HI.out.far H5.out (by decide) HG5.out 1 (.slice A6 nn c6)); replace H5 := Aside0.mk (blk_put H5.out 1 (.slice A6 nn c6) rfl); 
              exact ⟨i + 1, ds ++ [t], t1, .slice A6 nn c6, by first | rfl | (rw [wr_in ((i : Int) + 1) (by have := HN.out; omega)]; rfl), ⟨by omega⟩, ⟨h2.2.1⟩, ⟨by rw [List.length_append, List.length_singleton]; omega⟩, HO, HP, HI, H2, H5⟩
        · have c1 : decide ((i : Int) < n2) = false := decide_eq_false c5_
          have hk0 : gk = 0 := by have := HJ.out; omega
          have hq := HQ.out
          rw [hk0, idxsR] at hq
          injection hq with hq1 hq2
          subst hq1 hq2
          obtain ⟨rfl, _⟩ := Kd.R_reads' HO.out
          clear hk0 c5_ HQ
          obtain ⟨Ae, ce, hbk⟩ := HI.out.1.blk
          have HBK := Aside0.mk hbk
          have he0 := (blk_cell hbk 0).trans rfl
          have he1 := (blk_cell hbk 1).trans rfl
          have hef0 := blk_frozen hbk 0
          have hef1 := blk_frozen hbk 1
          clear hbk
          have z0 := (blk_cell H2.out 0).trans rfl; have z1 := (blk_cell H2.out 1).trans rfl; have zf0 := blk_frozen H2.out 0; have zf1 := blk_frozen H2.out 1; have zl := blk_lt H2.out; 
          obtain ⟨l4, b4⟩ := sq
          simp only at he0 he1 ⊢
          obtain ⟨y1, y2, y3⟩ := HR.out
          cases b4
          · cases l4 with
            | nil =>
              have hl1 : decide ((0 : Int) < (([] : List Int).length : Int)) = false := rfl
              have hl2 : decide (0 < ([] : List Int).length) = false := rfl
              have HM1 := Aside0.mk (HM.out rfl rfl)
              cases m
              · rw [if_neg (fun h => by cases h.2.2)] at y1 y2 y3
                have HR2 := Aside0.mk (And.intro y1 (And.intro y2 y3))
                clear y1 y2 y3 HM
                go_wp2_with (go_at_call 36; (with_reducible refine (schema_May.calls k Av cv cs Av2 cv2 ds false _ (Kd.R_reads' HP.out).2.2 (Kd.R_reads' HP.out).2.1 (Kd.R_reads' HO.out).2.2 (Kd.R_reads' HO.out).2.1 HM1.out).mono ?_); rintro en wa ⟨rfl, hb⟩; (try clear h0 hf0 h1 hf1); (try clear hl); (try clear z0 zf0 z1 zf1); (try clear zl); (try clear he0 he1 hef0 hef1); replace H2 := Aside0.mk (blk_below H2.out hb); replace H5 := Aside0.mk (blk_below H5.out hb); replace HBK := Aside0.mk (blk_below HBK.out hb); replace HP := Aside0.mk (Kd.R_below HP.out hb); replace HO := Aside0.mk (Kd.R_below HO.out hb); replace HI := Aside0.mk (HI.out.below hb); clear hb; have he0 := (blk_cell HBK.out 0).trans rfl; have he1 := (blk_cell HBK.out 1).trans rfl;  have z0 := (blk_cell H2.out 0).trans rfl; have z1 := (blk_cell H2.out 1).trans rfl; have zf0 := blk_frozen H2.out 0; have zf1 := blk_frozen H2.out 1; have zl := blk_lt H2.out;  have h0 := (blk_cell H5.out 0).trans rfl; have h1 := (blk_cell H5.out 1).trans rfl; have hf0 := blk_frozen H5.out 0; have hf1 := blk_frozen H5.out 1; have hl := blk_lt H5.out; )
                replace H5 := Aside0.mk (blk_far (p := ⟨w.heap.size, 0, none⟩) H5.out (Ne.symm HNE.out) (.slice none 0 0)); replace HI := Aside0.mk (HI.out.far H2.out (by decide) (Nat.le_refl _) 0 (.slice none 0 0)); replace H2 := Aside0.mk (blk_put H2.out 0 (.slice none 0 0) rfl); replace H5 := Aside0.mk (blk_far (p := ⟨w.heap.size, 1, none⟩) H5.out (Ne.symm HNE.out) (.slice none 0 0)); replace HI := Aside0.mk (HI.out.far H2.out (by decide) (Nat.le_refl _) 1 (.slice none 0 0)); replace H2 := Aside0.mk (blk_put H2.out 1 (.slice none 0 0) rfl); exact bodyPost_ret (results_cell1 rfl _ _ w.heap.size 80 #[.slice none 0 0, .slice none 0 0] (0, 0) _ rfl H2.out Try.underlying80 rfl (by kernel_rfl)) rfl ⟨_, _, by rw [← HR2.out.1]; rfl, by rw [← HR2.out.2.1]; exact Kd.R_nil _ _ _ _ _, by rw [← HR2.out.2.2]; exact Kd.R_nil _ _ _ _ _, HI.out.bel⟩
              · rw [if_pos ⟨rfl, rfl, rfl⟩] at y1 y2 y3
                have HR2 := Aside0.mk (And.intro y1 (And.intro y2 y3))
                clear y1 y2 y3 HM
                go_wp2_with (go_at_call 36; (with_reducible refine (schema_May.calls k Av cv cs Av2 cv2 ds true _ (Kd.R_reads' HP.out).2.2 (Kd.R_reads' HP.out).2.1 (Kd.R_reads' HO.out).2.2 (Kd.R_reads' HO.out).2.1 HM1.out).mono ?_); rintro en wa ⟨rfl, hb⟩; (try clear h0 hf0 h1 hf1); (try clear hl); (try clear z0 zf0 z1 zf1); (try clear zl); (try clear he0 he1 hef0 hef1); replace H2 := Aside0.mk (blk_below H2.out hb); replace H5 := Aside0.mk (blk_below H5.out hb); replace HBK := Aside0.mk (blk_below HBK.out hb); replace HP := Aside0.mk (Kd.R_below HP.out hb); replace HO := Aside0.mk (Kd.R_below HO.out hb); replace HI := Aside0.mk (HI.out.below hb); clear hb; have he0 := (blk_cell HBK.out 0).trans rfl; have he1 := (blk_cell HBK.out 1).trans rfl;  have z0 := (blk_cell H2.out 0).trans rfl; have z1 := (blk_cell H2.out 1).trans rfl; have zf0 := blk_frozen H2.out 0; have zf1 := blk_frozen H2.out 1; have zl := blk_lt H2.out;  have h0 := (blk_cell H5.out 0).trans rfl; have h1 := (blk_cell H5.out 1).trans rfl; have hf0 := blk_frozen H5.out 0; have hf1 := blk_frozen H5.out 1; have hl := blk_lt H5.out; )
                replace H5 := Aside0.mk (blk_far (p := ⟨w.heap.size, 0, none⟩) H5.out (Ne.symm HNE.out) (.slice Av cs.length cv)); replace HP := Aside0.mk (Kd.R_set HP.out H2.out (by decide) 0 (.slice Av cs.length cv)); replace HO := Aside0.mk (Kd.R_set HO.out H2.out (by decide) 0 (.slice Av cs.length cv)); replace HI := Aside0.mk (HI.out.far H2.out (by decide) (Nat.le_refl _) 0 (.slice Av cs.length cv)); replace H2 := Aside0.mk (blk_put H2.out 0 (.slice Av cs.length cv) rfl); replace H5 := Aside0.mk (blk_far (p := ⟨w.heap.size, 1, none⟩) H5.out (Ne.symm HNE.out) (.slice Av2 ds.length cv2)); replace HP := Aside0.mk (Kd.R_set HP.out H2.out (by decide) 1 (.slice Av2 ds.length cv2)); replace HO := Aside0.mk (Kd.R_set HO.out H2.out (by decide) 1 (.slice Av2 ds.length cv2)); replace HI := Aside0.mk (HI.out.far H2.out (by decide) (Nat.le_refl _) 1 (.slice Av2 ds.length cv2)); replace H2 := Aside0.mk (blk_put H2.out 1 (.slice Av2 ds.length cv2) rfl); exact bodyPost_ret (results_cell1 rfl _ _ w.heap.size 80 #[.slice Av cs.length cv, .slice Av2 ds.length cv2] (0, 0) _ rfl H2.out Try.underlying80 rfl (by kernel_rfl)) rfl ⟨_, _, by rw [← HR2.out.1]; rfl, by rw [← HR2.out.2.1]; exact HP.out, by rw [← HR2.out.2.2]; exact HO.out, HI.out.bel⟩
            | cons x4 l4 =>
              have hl1 : decide ((0 : Int) < ((x4 :: l4).length : Int)) = true := decide_eq_true (by simp)
              have hl2 : decide (0 < (x4 :: l4).length) = true := decide_eq_true (by simp)
              rw [if_neg (fun h => by cases h.2.1)] at y1 y2 y3
              have HR2 := Aside0.mk (And.intro y1 (And.intro y2 y3))
              clear y1 y2 y3 HM
              obtain ⟨q4, hq4⟩ : ∃ q, q = x4 :: l4 := ⟨_, rfl⟩
              rw [← hq4] at hl1 hl2 he0 HI HBK
              clear hq4
              go_wp2
              replace H5 := Aside0.mk (blk_far (p := ⟨w.heap.size, 0, none⟩) H5.out (Ne.symm HNE.out) (.slice none 0 0)); replace HI := Aside0.mk (HI.out.far H2.out (by decide) (Nat.le_refl _) 0 (.slice none 0 0)); replace H2 := Aside0.mk (blk_put H2.out 0 (.slice none 0 0) rfl); replace H5 := Aside0.mk (blk_far (p := ⟨w.heap.size, 1, none⟩) H5.out (Ne.symm HNE.out) (.slice none 0 0)); replace HI := Aside0.mk (HI.out.far H2.out (by decide) (Nat.le_refl _) 1 (.slice none 0 0)); replace H2 := Aside0.mk (blk_put H2.out 1 (.slice none 0 0) rfl); exact bodyPost_ret (results_cell1 rfl _ _ w.heap.size 80 #[.slice none 0 0, .slice none 0 0] (0, 0) _ rfl H2.out Try.underlying80 rfl (by kernel_rfl)) rfl ⟨_, _, by rw [← HR2.out.1]; rfl, by rw [← HR2.out.2.1]; exact Kd.R_nil _ _ _ _ _, by rw [← HR2.out.2.2]; exact Kd.R_nil _ _ _ _ _, HI.out.bel⟩
          · rw [if_neg (fun h => by cases h.1)] at y1 y2 y3
            have HR2 := Aside0.mk (And.intro y1 (And.intro y2 y3))
            clear y1 y2 y3 HM
            go_wp2
            replace H5 := Aside0.mk (blk_far (p := ⟨w.heap.size, 0, none⟩) H5.out (Ne.symm HNE.out) (.slice none 0 0)); replace HI := Aside0.mk (HI.out.far H2.out (by decide) (Nat.le_refl _) 0 (.slice none 0 0)); replace H2 := Aside0.mk (blk_put H2.out 0 (.slice none 0 0) rfl); replace H5 := Aside0.mk (blk_far (p := ⟨w.heap.size, 1, none⟩) H5.out (Ne.symm HNE.out) (.slice none 0 0)); replace HI := Aside0.mk (HI.out.far H2.out (by decide) (Nat.le_refl _) 1 (.slice none 0 0)); replace H2 := Aside0.mk (blk_put H2.out 1 (.slice none 0 0) rfl); exact bodyPost_ret (results_cell1 rfl _ _ w.heap.size 80 #[.slice none 0 0, .slice none 0 0] (0, 0) _ rfl H2.out Try.underlying80 rfl (by kernel_rfl)) rfl ⟨_, _, by rw [← HR2.out.1]; rfl, by rw [← HR2.out.2.1]; exact Kd.R_nil _ _ _ _ _, by rw [← HR2.out.2.2]; exact Kd.R_nil _ _ _ _ _, HI.out.bel⟩
end Go.Proofs.Ytpfegfkniilobaa.Tk
