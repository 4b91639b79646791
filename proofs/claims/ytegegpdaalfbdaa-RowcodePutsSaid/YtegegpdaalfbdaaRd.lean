/- The reader of a row's bytes (rowcode's cursor): its calls take, fail and value, each with the bytes that are left. Conditions: the cursor's block is known, its bytes lie below it. -/
import Derived.Test.YtegegpdaalfbdaaProg
import Derived.Test.YtegegpdaalfbdaaWMore
import Derived.Test.YtegegpdaalfbdaaWKept
import Derived.WalkKit
import Derived.KernelRfl
import Derived.Laws.MakeOwn
import Derived.Deep.LoopGhost
import Derived.Laws.BitsLemmas
import Derived.Lib.ConvBytes
namespace Go.Proofs.Ytegegpdaalfbdaa.Rd
open Go.RowKit Go.Proofs.YtegegpdaalfbdaaW.PrintWords Go.Proofs.YtegegpdaalfbdaaW.PrintLast Go.Proofs.YtegegpdaalfbdaaW.PrintMore
set_option linter.unusedVariables false
set_option linter.unusedSimpArgs false
/-- The cursor's block: the bytes that are left, the error. -/
def Cur (w0 W : World) (g : Nat) (xs : List Int) (e : Int) : Prop := ∃ A c, W.heap[g]? = some (.cells #[.slice A xs.length c, .int .i64 e] 70 (0, 0)) ∧ xs.length ≤ c ∧ w0.heap.size ≤ g ∧ Kd.C (Kd.int .u8) w0 A xs.length xs
theorem info5 : (Try.prog.info? 5).map (fun i => (i.zero, i.size, i.bytes)) = some (some (.int .u8 0), 1, 1) := by kernel_rfl
theorem take_ok (w0 w : World) (g : Nat) (A : Option Addr) (c : Nat) (xs : List Int) (n : Int) (hb : w.heap[g]? = some (.cells #[.slice A xs.length c, .int .i64 0] 70 (0, 0))) (hc : xs.length ≤ c) (hm : xs.length ≤ 9223372036854775807) (h0 : 0 ≤ n) (hn : n ≤ xs.length) :
    ∃ A', (∀ W : World, Kd.C (Kd.int .u8) W A xs.length xs → Kd.C (Kd.int .u8) W A' (xs.drop n.toNat).length (xs.drop n.toNat)) ∧
    Calls Try.prog 42 #[.pointer (some ⟨g, 0, none⟩), .int .i64 n] w fun e w' => e = .returned (.slice A n.toNat c) ∧ w.setCell ⟨g, 0, none⟩ (.slice A' (xs.drop n.toNat).length (c - n.toNat)) = w' := by
  obtain ⟨i0, hi0, _, hsz, _⟩ := info_parts info5
  obtain ⟨A', hcut, hA, _⟩ := print_drop_of (P := Try.prog) (Value.int .u8) 0 49 5 .i64 Try.underlying49 hi0 hsz A c xs n h0 hn hc
  obtain ⟨htk, _, _⟩ := print_take_of (P := Try.prog) (Value.int .u8) 0 49 5 .i64 Try.underlying49 hi0 hsz A c xs n h0 hn hc
  refine ⟨A', fun W hC => Kd.C_of_reads (h1 := fun _ => rfl) (hA W (Kd.reads_of_C hC)), ?_⟩
  clear hi0 hsz hA
  have hc0 : w.cell? ⟨g, 0, none⟩ = some (.slice A xs.length c) := (blk_cell hb 0).trans rfl
  have hc1 : w.cell? ⟨g, 1, none⟩ = some (.int .i64 0) := (blk_cell hb 1).trans rfl
  have hf0 := blk_frozen hb 0
  have hf1 := blk_frozen hb 1
  have hlt : decide ((xs.length : Int) < n) = false := decide_eq_false (by omega)
  go_enter Try.func42, Try.ntmps42
  go_wp2
  go_ret
  exact ⟨rfl, by rw [List.length_drop]⟩
/-- The error that stays. -/
def fl (e c : Int) : Int := if e = 0 then c else e
theorem fail_any (w : World) (g : Nat) (a : Value) (e c : Int) (hb : w.heap[g]? = some (.cells #[a, .int .i64 e] 70 (0, 0))) :
    Calls Try.prog 44 #[.pointer (some ⟨g, 0, none⟩), .int .i64 c] w fun en w' => en = .returned (.tuple #[]) ∧ w'.heap[g]? = some (.cells #[a, .int .i64 (fl e c)] 70 (0, 0)) ∧ KeepBut w w' g none ∧ w'.heap.size = w.heap.size ∧ ∀ B, B ≤ g → Below B w w' := by
  have hc1 : w.cell? ⟨g, 1, none⟩ = some (.int .i64 e) := (blk_cell hb 1).trans rfl
  have hf1 := blk_frozen hb 1
  by_cases he : e = 0
  · have e0 : (e == 0) = true := beq_iff_eq.mpr he
    have HE := Aside0.mk he
    clear he
    go_enter Try.func44, Try.ntmps44
    go_wp2
    go_end0
    refine ⟨rfl, ?_, (KeepBut.refl _ _ _).set_ _ _, by simp [World.setCell], fun B hB => (Below.refl _ _).setCell hB _⟩
    rw [fl, if_pos HE.out]
    exact blk_put hb 1 _ rfl
  · have e0 : (e == 0) = false := beq_eq_false_iff_ne.mpr he
    have HE := Aside0.mk he
    clear he
    go_enter Try.func44, Try.ntmps44
    go_wp2
    go_end0
    refine ⟨rfl, ?_, KeepBut.refl _ _ _, rfl, fun B hB => Below.refl _ _⟩
    rw [fl, if_neg HE.out]
    exact hb
/-- What a take gives, what is left, the error behind it. -/
def tk (xs : List Int) (e n : Int) : List Int × List Int × Int := if e = 0 ∧ n ≤ xs.length then (xs.take n.toNat, xs.drop n.toNat, 0) else (List.replicate n.toNat 0, xs, fl e 3)
theorem take_bad (w : World) (g : Nat) (A : Option Addr) (c : Nat) (xs : List Int) (e n : Int) (hb : w.heap[g]? = some (.cells #[.slice A xs.length c, .int .i64 e] 70 (0, 0))) (h0 : 0 ≤ n) (hn : n ≤ 4096) (hbad : ¬ (e = 0 ∧ n ≤ xs.length)) :
    Calls Try.prog 42 #[.pointer (some ⟨g, 0, none⟩), .int .i64 n] w fun en w' => ∃ v, en = .returned v ∧ Kd.R (Kd.int .u8) 5 w' w.heap.size (fun _ => True) v (List.replicate n.toNat 0) ∧ w'.heap[g]? = some (.cells #[.slice A xs.length c, .int .i64 (fl e 3)] 70 (0, 0)) ∧ KeepBut w w' g none ∧ ∀ B, B ≤ g → Below B w w' := by
  have hc0 : w.cell? ⟨g, 0, none⟩ = some (.slice A xs.length c) := (blk_cell hb 0).trans rfl
  have hc1 : w.cell? ⟨g, 1, none⟩ = some (.int .i64 e) := (blk_cell hb 1).trans rfl
  have hf0 := blk_frozen hb 0
  have hf1 := blk_frozen hb 1
  have HB := Aside0.mk hb
  clear hb
  have hglt : g < w.heap.size := blk_lt HB.out
  have HN := Aside0.mk hn
  have H0 := Aside0.mk h0
  by_cases he : e = 0
  · have hlt : decide ((xs.length : Int) < n) = true := decide_eq_true (by omega)
    have e0 : (e == 0) = true := beq_iff_eq.mpr he
    have e1 : (e != 0) = false := bne_eq_false_iff_eq.mpr he
    clear he hbad
    go_enter Try.func42, Try.ntmps42
    go_wp2_with (first | (go_at_call 44; (with_reducible refine (fail_any _ g _ e 3 HB.out).mono ?_); rintro en w1 ⟨rfl, hb1, hk1, hs1, hbl1⟩; have HB1 := Aside0.mk hb1; have HK1 := Aside0.mk hk1; have HS1 := Aside0.mk hs1; have HL1 := Aside0.mk hbl1; clear hb1 hk1 hs1 hbl1) | ((with_reducible refine gate_dst (N := 23) rfl ?_); refine Kd.R_make (Kd.int .u8) _ 5 rfl (N := 23) rfl 49 _ _ rfl n rfl rfl Try.underlying49 (.int .u8 0) 1 info5 rfl (by decide) (by omega) 0 (ok := fun _ => True) (okp := fun _ => True) rfl (fun _ hk => hk) trivial H0.out (by have := HN.out; omega) (Below.refl _ _) (Nat.le_refl _) ?_; intro v w2 ho2 hb2 hg2 hnew2; have HO2 := Aside0.mk ho2; have HL2 := Aside0.mk hb2; clear ho2 hb2 hg2 hnew2))
    go_ret
    refine ⟨v, rfl, ?_, ?_, ?_, ?_⟩
    · have := HO2.out
      rw [HS1.out] at this
      exact this
    · exact blk_below HB1.out HL2.out
    · exact HK1.out.trans (KeepBut.of_below HL2.out _ _) (.inl rfl)
    · intro B hB
      exact below_then (HL1.out B hB) (by rw [HS1.out]; omega) HL2.out
  · have e0 : (e == 0) = false := beq_eq_false_iff_ne.mpr he
    have e1 : (e != 0) = true := bne_iff_ne.mpr he
    clear he hbad
    go_enter Try.func42, Try.ntmps42
    go_wp2_with (first | (go_at_call 44; (with_reducible refine (fail_any _ g _ e 3 HB.out).mono ?_); rintro en w1 ⟨rfl, hb1, hk1, hs1, hbl1⟩; have HB1 := Aside0.mk hb1; have HK1 := Aside0.mk hk1; have HS1 := Aside0.mk hs1; have HL1 := Aside0.mk hbl1; clear hb1 hk1 hs1 hbl1) | ((with_reducible refine gate_dst (N := 23) rfl ?_); refine Kd.R_make (Kd.int .u8) _ 5 rfl (N := 23) rfl 49 _ _ rfl n rfl rfl Try.underlying49 (.int .u8 0) 1 info5 rfl (by decide) (by omega) 0 (ok := fun _ => True) (okp := fun _ => True) rfl (fun _ hk => hk) trivial H0.out (by have := HN.out; omega) (Below.refl _ _) (Nat.le_refl _) ?_; intro v w2 ho2 hb2 hg2 hnew2; have HO2 := Aside0.mk ho2; have HL2 := Aside0.mk hb2; clear ho2 hb2 hg2 hnew2))
    go_ret
    refine ⟨v, rfl, ?_, ?_, ?_, ?_⟩
    · have := HO2.out
      rw [HS1.out] at this
      exact this
    · exact blk_below HB1.out HL2.out
    · exact HK1.out.trans (KeepBut.of_below HL2.out _ _) (.inl rfl)
    · intro B hB
      exact below_then (HL1.out B hB) (by rw [HS1.out]; omega) HL2.out
/-- A take, whatever is left. -/
theorem take_any (w0 w : World) (g : Nat) (xs : List Int) (e n : Int) (hI : Cur w0 w g xs e) (hB : Below w0.heap.size w0 w) (hm : xs.length ≤ 9223372036854775807) (h0 : 0 ≤ n) (hn : n ≤ 4096) :
    Calls Try.prog 42 #[.pointer (some ⟨g, 0, none⟩), .int .i64 n] w fun en w' => ∃ A c, en = .returned (.slice A (tk xs e n).1.length c) ∧ (tk xs e n).1.length ≤ c ∧ Kd.C (Kd.int .u8) w' A (tk xs e n).1.length (tk xs e n).1 ∧ (∀ ad, A = some ad → 0 < (tk xs e n).1.length → ad.block < w0.heap.size ∨ w.heap.size ≤ ad.block) ∧ Cur w0 w' g (tk xs e n).2.1 (tk xs e n).2.2 ∧ Below w0.heap.size w0 w' ∧ KeepBut w w' g none := by
  obtain ⟨A, c, hb, hc, hg, hC⟩ := hI
  by_cases hok : e = 0 ∧ n ≤ xs.length
  · obtain ⟨rfl, hn'⟩ := hok
    obtain ⟨A', hA, hcall⟩ := take_ok w0 w g A c xs n hb hc hm h0 hn'
    refine hcall.mono ?_
    rintro en w' ⟨rfl, rfl⟩
    have hl : (xs.take n.toNat).length = n.toNat := by rw [List.length_take]; omega
    have hB' : Below w0.heap.size w0 (w.setCell ⟨g, 0, none⟩ (.slice A' (xs.drop n.toNat).length (c - n.toNat))) := hB.setCell hg _
    have ht : tk xs 0 n = (xs.take n.toNat, xs.drop n.toNat, 0) := by rw [tk, if_pos ⟨rfl, hn'⟩]
    obtain ⟨i0, hi0, _, hsz, _⟩ := info_parts info5
    obtain ⟨_, htk, _⟩ := print_take_of (P := Try.prog) (Value.int .u8) 0 49 5 .i64 Try.underlying49 hi0 hsz A c xs n h0 hn' hc
    rw [ht]
    refine ⟨A, c, by rw [hl], by rw [hl]; omega, ?_, ?_, ?_, hB', (KeepBut.refl _ _ _).set_ _ _⟩
    · exact Kd.C_below (Kd.C_of_reads (h1 := fun _ => rfl) (htk w0 (Kd.reads_of_C hC))) hB'
    · intro ad hA hpos
      have hx := Kd.at_int hC 0 (by omega) (by have : 0 < (xs.take n.toNat).length := hpos; rw [List.length_take] at this; omega)
      obtain ⟨ad', e', hx⟩ := hx
      rw [hA] at e'
      cases e'
      have := World.block_lt_of_cell? w0 _ hx
      exact .inl (by simpa [Addr.add] using this)
    · exact ⟨A', c - n.toNat, blk_put hb 0 _ rfl, by rw [List.length_drop]; omega, hg, hA w0 hC⟩
  · refine (take_bad w g A c xs e n hb h0 hn hok).mono ?_
    rintro en w' ⟨v, rfl, ho, hb', hk, hbl⟩
    have ht : tk xs e n = (List.replicate n.toNat 0, xs, fl e 3) := by rw [tk, if_neg hok]
    obtain ⟨A1, c1, rfl⟩ := Kd.R_slice ho
    rw [ht]
    exact ⟨A1, c1, rfl, (Kd.R_reads' ho).2.1, (Kd.R_reads' ho).2.2, fun ad hA _ => .inr (by
      subst hA
      have := Kd.R_bound ho
      exact (this.1 ad.block rfl).2.1), ⟨A, c, hb', hc, hg, hC⟩, hB.trans (hbl _ hg), hk⟩
theorem tk_len (xs : List Int) (e n : Int) (h0 : 0 ≤ n) : (tk xs e n).1.length = n.toNat := by
  unfold tk
  split
  · rename_i h; rw [List.length_take]; omega
  · exact List.length_replicate
/-- One byte is taken. -/
theorem take1 (w0 w : World) (g : Nat) (xs : List Int) (e : Int) (hI : Cur w0 w g xs e) (hB : Below w0.heap.size w0 w) (hm : xs.length ≤ 9223372036854775807) :
    Calls Try.prog 42 #[.pointer (some ⟨g, 0, none⟩), .int .i64 1] w fun en w' => ∃ ad c, en = .returned (.slice (some ad) 1 c) ∧ w'.cell? ad = some (.int .u8 (rd (tk xs e 1).1 0)) ∧ Cur w0 w' g (tk xs e 1).2.1 (tk xs e 1).2.2 ∧ Below w0.heap.size w0 w' ∧ KeepBut w w' g none := by
  refine (take_any w0 w g xs e 1 hI hB hm (by omega) (by omega)).mono ?_
  rintro en w' ⟨A, c, rfl, hc, hC, _, hI', hB', hK⟩
  have hl : (tk xs e 1).1.length = 1 := tk_len xs e 1 (by omega)
  obtain ⟨ad, rfl, hx⟩ := Kd.at_int hC 0 (by omega) (by omega)
  refine ⟨ad, c, by rw [hl], ?_, hI', hB', hK⟩
  have h0 : ad.add (0 : Int).toNat = ad := by simp [Addr.add]
  rw [h0] at hx
  exact hx
theorem Cur.keep_ {w0 W W' : World} {g : Nat} {xs : List Int} {e : Int} (h : Cur w0 W g xs e) (hb : W'.heap[g]? = W.heap[g]?) : Cur w0 W' g xs e := by
  obtain ⟨A, c, h1, h2⟩ := h
  exact ⟨A, c, hb.trans h1, h2⟩
theorem Cur.lt {w0 W : World} {g : Nat} {xs : List Int} {e : Int} (h : Cur w0 W g xs e) : g < W.heap.size := by
  obtain ⟨A, c, h1, _⟩ := h
  exact blk_lt h1
theorem Cur.alloc {w0 W : World} {g : Nat} {xs : List Int} {e : Int} (h : Cur w0 W g xs e) (o : Obj) : Cur w0 (W.alloc o) g xs e := h.keep_ (Below.heap_alloc W o g h.lt)
theorem Cur.far {w0 W : World} {g : Nat} {xs : List Int} {e : Int} (h : Cur w0 W g xs e) {p : Addr} (hp : g ≠ p.block) (u : Value) : Cur w0 (W.setCell p u) g xs e := h.keep_ (Below.heap_setCell W p u g hp)
theorem val0 (w0 w : World) (g : Nat) (xs : List Int) (e : Int) (hI : Cur w0 w g xs e) (hB : Below w0.heap.size w0 w) (hm : xs.length ≤ 9223372036854775807) (hk : rd (tk xs e 1).1 0 = 0) :
    Calls Try.prog 43 #[.pointer (some ⟨g, 0, none⟩)] w fun en w' => en = .returned (.agg #[.int .u8 0, .int .i64 0, .string ⟨#[]⟩]) ∧ Cur w0 w' g (tk xs e 1).2.1 (tk xs e 1).2.2 ∧ Below w0.heap.size w0 w' ∧ KeepBut w w' g none := by
  have HI := Aside0.mk hI
  have HB := Aside0.mk hB
  have HK := Aside0.mk hk
  clear hI hB hk
  go_enter Try.func43, Try.ntmps43
  have hgl := HI.out.lt
  go_wp2_with (go_at_call 42; (with_reducible refine (take1 w0 _ g xs e (HI.out.alloc _) (HB.out.alloc HB.out.size _) hm).mono ?_); rintro en w1 ⟨ad, c, rfl, hx, hI1, hB1, hK1⟩; rw [HK.out] at hx; have HI1 := Aside0.mk hI1; have HB1 := Aside0.mk hB1; have HR1 := Aside0.mk (hK1.blk (blk_new w _) (by omega) (by simp)); have HK1 := Aside0.mk hK1; clear hI1 hB1 hK1; have hr0 := (blk_cell HR1.out 0).trans rfl; have hr1 := (blk_cell HR1.out 1).trans rfl; have hr2 := (blk_cell HR1.out 2).trans rfl; have hf0 := blk_frozen HR1.out 0; have hf1 := blk_frozen HR1.out 1; have hf2 := blk_frozen HR1.out 2; have hsz := blk_lt HR1.out)
  refine bodyPost_ret (results_cell_row rfl _ _ w.heap.size 36 #[.int .u8 0, .int .i64 0, .string ⟨#[]⟩] (0, 0) _ rfl (blk_alloc (blk_put (blk_put (blk_put HR1.out 0 _ rfl) 1 _ rfl) 2 _ rfl) _) Try.underlying36 rfl (by kernel_rfl)) rfl ?_
  have hw0 := HB.out.size
  refine ⟨rfl, (((HI1.out.far (by simp; omega) _).far (by simp; omega) _).far (by simp; omega) _).alloc _, below_alloc (below_set (below_set (below_set HB1.out hw0) hw0) hw0) _, ?_⟩
  exact keep_alloc (keep_far (keep_far (keep_far ((keep_alloc (KeepBut.refl _ _ _) _).trans HK1.out (.inl rfl)) (Nat.le_refl _) _) (Nat.le_refl _) _) (Nat.le_refl _) _) _
theorem fail_cur (w0 w : World) (g : Nat) (xs : List Int) (e c : Int) (hI : Cur w0 w g xs e) (hB : Below w0.heap.size w0 w) :
    Calls Try.prog 44 #[.pointer (some ⟨g, 0, none⟩), .int .i64 c] w fun en w' => en = .returned (.tuple #[]) ∧ Cur w0 w' g xs (fl e c) ∧ Below w0.heap.size w0 w' ∧ KeepBut w w' g none := by
  obtain ⟨A, cc, hb, hc, hg, hC⟩ := hI
  refine (fail_any w g _ e c hb).mono ?_
  rintro en w' ⟨rfl, hb', hk, _, hbl⟩
  exact ⟨rfl, ⟨A, cc, hb', hc, hg, hC⟩, hB.trans (hbl _ hg), hk⟩
theorem tk_le (xs : List Int) (e n : Int) : (tk xs e n).2.1.length ≤ xs.length := by
  unfold tk
  split
  · exact Nat.le_trans (Nat.le_of_eq (List.length_drop ..)) (Nat.sub_le _ _)
  · exact Nat.le_refl _
/-- The number that bytes are, the highest first. -/
def acc8 (xs : List Int) : Int := xs.foldl (fun a x => Go.bits .or .i64 (wrap64 (a * 256)) (wrap64 x)) 0
theorem rd_get {xs : List Int} {i : Int} (h : i.toNat < xs.length) : rd xs i = xs[i.toNat] := by simp [rd, List.getD_eq_getElem?_getD, h]
theorem add_block (a : Addr) (n : Nat) : (a.add n).block = a.block := by
  unfold Addr.add
  split <;> rfl
theorem wr_in (n : Int) (h : -9223372036854775808 ≤ n ∧ n ≤ 9223372036854775807) : wrap64 n = n := by
  unfold wrap64
  omega
theorem acc8_step (l : List Int) (n : Nat) (h : n < l.length) : acc8 (l.take (n + 1)) = Go.bits .or .i64 (wrap64 (acc8 (l.take n) * 256)) (wrap64 (rd l n)) := by
  have e : rd l (n : Int) = l[n] := by simp [rd, List.getD_eq_getElem?_getD, h]
  rw [e, acc8, acc8, List.take_add_one, List.foldl_append]
  simp [h]
theorem val_ret {w0 w w2 : World} {g : Nat} {xs : List Int} {e : Int} {a b c x y z : Value} {ts : Array Value} (hgl : g < w.heap.size) (hw0 : w0.heap.size ≤ w.heap.size) (hI : Cur w0 w2 g xs e) (hB : Below w0.heap.size w0 w2) (hK : KeepBut w w2 g none) (hR : w2.heap[w.heap.size]? = some (.cells #[a, b, c] 36 (0, 0))) (ht : ts.getD 2 undef = .pointer (some ⟨w.heap.size, 0, none⟩)) :
    bodyPost Try.prog Try.f43 (fun en w' => en = .returned (.agg #[x, y, z]) ∧ Cur w0 w' g xs e ∧ Below w0.heap.size w0 w' ∧ KeepBut w w' g none) .ret ⟨ts, []⟩ (((w2.setCell ⟨w.heap.size, 0, none⟩ x).setCell ⟨w.heap.size, 1, none⟩ y).setCell ⟨w.heap.size, 2, none⟩ z) := by
  refine bodyPost_ret (results_cell_row rfl _ _ w.heap.size 36 #[x, y, z] (0, 0) _ ht (blk_put (blk_put (blk_put hR 0 _ rfl) 1 _ rfl) 2 _ rfl) Try.underlying36 rfl (by kernel_rfl)) rfl ?_
  refine ⟨rfl, ((hI.far (by simp; omega) _).far (by simp; omega) _).far (by simp; omega) _, below_set (below_set (below_set hB hw0) hw0) hw0, ?_⟩
  exact keep_far (keep_far (keep_far hK (Nat.le_refl _) _) (Nat.le_refl _) _) (Nat.le_refl _) _
theorem valx (w0 w : World) (g : Nat) (xs : List Int) (e : Int) (k : Int) (h0 : k ≠ 0) (h1 : k ≠ 1) (h2 : k ≠ 2) (h3 : k ≠ 3) (hI : Cur w0 w g xs e) (hB : Below w0.heap.size w0 w) (hm : xs.length ≤ 9223372036854775807) (hk : rd (tk xs e 1).1 0 = k):
    Calls Try.prog 43 #[.pointer (some ⟨g, 0, none⟩)] w fun en w' => en = .returned (.agg #[.int .u8 k, .int .i64 0, .string ⟨#[]⟩]) ∧ Cur w0 w' g ((tk xs e 1).2.1) (fl (tk xs e 1).2.2 6) ∧ Below w0.heap.size w0 w' ∧ KeepBut w w' g none := by
  have HI := Aside0.mk hI
  have HB := Aside0.mk hB
  have HK := Aside0.mk hk
  have hw0 := HB.out.size
  have hk0 : (k == 0) = false := beq_eq_false_iff_ne.mpr h0
  have hk1 : (k == 1) = false := beq_eq_false_iff_ne.mpr h1
  have hk2 : (k == 2) = false := beq_eq_false_iff_ne.mpr h2
  have hk3 : (k == 3) = false := beq_eq_false_iff_ne.mpr h3
  clear h0 h1 h2 h3
  clear hI hB hk
  go_enter Try.func43, Try.ntmps43
  have hgl := HI.out.lt
  go_wp2_with (first | (go_at_call 42; (with_reducible refine (take1 w0 _ g xs e (HI.out.alloc _) (HB.out.alloc HB.out.size _) hm).mono ?_); rintro en w1 ⟨ad, c, rfl, hx, hI1, hB1, hK1⟩; rw [HK.out] at hx; have HI1 := Aside0.mk hI1; have HB1 := Aside0.mk hB1; have HR1 := Aside0.mk (hK1.blk (blk_new w _) (by omega) (by simp)); have HK1 := Aside0.mk ((keep_alloc (KeepBut.refl w g none) _).trans hK1 (.inl rfl)); clear hI1 hB1 hK1; have hr0 := (blk_cell HR1.out 0).trans rfl; have hr1 := (blk_cell HR1.out 1).trans rfl; have hr2 := (blk_cell HR1.out 2).trans rfl; have hf0 := blk_frozen HR1.out 0; have hf1 := blk_frozen HR1.out 1; have hf2 := blk_frozen HR1.out 2; have hsz := blk_lt HR1.out) | (go_at_call 44; (with_reducible refine (fail_cur w0 _ g _ _ 6 (HI1.out.alloc _) (below_alloc HB1.out _)).mono ?_); rintro en w2 ⟨rfl, hI2, hB2, hK2⟩; have HI2 := Aside0.mk hI2; have HB2 := Aside0.mk hB2; have HK2 := Aside0.mk ((keep_alloc HK1.out _).trans hK2 (.inl rfl)); have HR2 := Aside0.mk (hK2.blk (blk_alloc HR1.out _) (by simp; omega) (by simp)); have HV2 := Aside0.mk (hK2.blk (blk_new w1 _) (by simp; omega) (by simp)); clear hI2 hB2 hK2; have hr0 := (blk_cell HR2.out 0).trans rfl; have hr1 := (blk_cell HR2.out 1).trans rfl; have hr2 := (blk_cell HR2.out 2).trans rfl; have hf0 := blk_frozen HR2.out 0; have hf1 := blk_frozen HR2.out 1; have hf2 := blk_frozen HR2.out 2; have hsz2 := blk_lt HR2.out; have hv0 := (blk_cell HV2.out 0).trans rfl; have hv1 := (blk_cell HV2.out 1).trans rfl; have hv2 := (blk_cell HV2.out 2).trans rfl; have hg0 := blk_frozen HV2.out 0; have hg1 := blk_frozen HV2.out 1; have hg2 := blk_frozen HV2.out 2; have hvsz2 := blk_lt HV2.out))
  exact val_ret hgl hw0 HI2.out HB2.out HK2.out HR2.out rfl
theorem val2g (w0 w : World) (g : Nat) (xs : List Int) (e : Int) (hI : Cur w0 w g xs e) (hB : Below w0.heap.size w0 w) (hm : xs.length ≤ 9223372036854775807) (hv : decide (1 < wrap64 (rd (tk (tk xs e 1).2.1 (tk xs e 1).2.2 1).1 0)) = false) (hk : rd (tk xs e 1).1 0 = 2):
    Calls Try.prog 43 #[.pointer (some ⟨g, 0, none⟩)] w fun en w' => en = .returned (.agg #[.int .u8 2, .int .i64 (wrap64 (rd (tk (tk xs e 1).2.1 (tk xs e 1).2.2 1).1 0)), .string ⟨#[]⟩]) ∧ Cur w0 w' g ((tk (tk xs e 1).2.1 (tk xs e 1).2.2 1).2.1) ((tk (tk xs e 1).2.1 (tk xs e 1).2.2 1).2.2) ∧ Below w0.heap.size w0 w' ∧ KeepBut w w' g none := by
  have HI := Aside0.mk hI
  have HB := Aside0.mk hB
  have HK := Aside0.mk hk
  have hw0 := HB.out.size
  clear hI hB hk
  go_enter Try.func43, Try.ntmps43
  have hgl := HI.out.lt
  go_wp2_with (first | (go_at_call 42; (with_reducible refine (take1 w0 _ g xs e (HI.out.alloc _) (HB.out.alloc HB.out.size _) hm).mono ?_); rintro en w1 ⟨ad, c, rfl, hx, hI1, hB1, hK1⟩; rw [HK.out] at hx; have HI1 := Aside0.mk hI1; have HB1 := Aside0.mk hB1; have HR1 := Aside0.mk (hK1.blk (blk_new w _) (by omega) (by simp)); have HK1 := Aside0.mk ((keep_alloc (KeepBut.refl w g none) _).trans hK1 (.inl rfl)); clear hI1 hB1 hK1; have hr0 := (blk_cell HR1.out 0).trans rfl; have hr1 := (blk_cell HR1.out 1).trans rfl; have hr2 := (blk_cell HR1.out 2).trans rfl; have hf0 := blk_frozen HR1.out 0; have hf1 := blk_frozen HR1.out 1; have hf2 := blk_frozen HR1.out 2; have hsz := blk_lt HR1.out) | (go_at_call 42; (with_reducible refine (take1 w0 _ g _ _ (HI1.out.alloc _) (below_alloc HB1.out _) (by have := tk_le xs e 1; omega)).mono ?_); rintro en w2 ⟨ad2, c2, rfl, hx2, hI2, hB2, hK2⟩; have HI2 := Aside0.mk hI2; have HB2 := Aside0.mk hB2; have HK2 := Aside0.mk ((keep_alloc HK1.out _).trans hK2 (.inl rfl)); have HR2 := Aside0.mk (hK2.blk (blk_alloc HR1.out _) (by simp; omega) (by simp)); have HV2 := Aside0.mk (hK2.blk (blk_new w1 _) (by simp; omega) (by simp)); clear hI2 hB2 hK2; have hr0 := (blk_cell HR2.out 0).trans rfl; have hr1 := (blk_cell HR2.out 1).trans rfl; have hr2 := (blk_cell HR2.out 2).trans rfl; have hf0 := blk_frozen HR2.out 0; have hf1 := blk_frozen HR2.out 1; have hf2 := blk_frozen HR2.out 2; have hsz2 := blk_lt HR2.out; have hv0 := (blk_cell HV2.out 0).trans rfl; have hv1 := (blk_cell HV2.out 1).trans rfl; have hv2 := (blk_cell HV2.out 2).trans rfl; have hg0 := blk_frozen HV2.out 0; have hg1 := blk_frozen HV2.out 1; have hg2 := blk_frozen HV2.out 2; have hvsz2 := blk_lt HV2.out))
  exact val_ret hgl hw0 (HI2.out.far (by simp; omega) _) (below_set HB2.out (by first | omega | (simp; omega))) (keep_far HK2.out (by first | omega | (simp; omega)) _) (blk_far HR2.out (by simp; omega) _) rfl
theorem val2b (w0 w : World) (g : Nat) (xs : List Int) (e : Int) (hI : Cur w0 w g xs e) (hB : Below w0.heap.size w0 w) (hm : xs.length ≤ 9223372036854775807) (hv : decide (1 < wrap64 (rd (tk (tk xs e 1).2.1 (tk xs e 1).2.2 1).1 0)) = true) (hk : rd (tk xs e 1).1 0 = 2):
    Calls Try.prog 43 #[.pointer (some ⟨g, 0, none⟩)] w fun en w' => en = .returned (.agg #[.int .u8 2, .int .i64 (wrap64 (rd (tk (tk xs e 1).2.1 (tk xs e 1).2.2 1).1 0)), .string ⟨#[]⟩]) ∧ Cur w0 w' g ((tk (tk xs e 1).2.1 (tk xs e 1).2.2 1).2.1) (fl (tk (tk xs e 1).2.1 (tk xs e 1).2.2 1).2.2 2) ∧ Below w0.heap.size w0 w' ∧ KeepBut w w' g none := by
  have HI := Aside0.mk hI
  have HB := Aside0.mk hB
  have HK := Aside0.mk hk
  have hw0 := HB.out.size
  clear hI hB hk
  go_enter Try.func43, Try.ntmps43
  have hgl := HI.out.lt
  go_wp2_with (first | (go_at_call 42; (with_reducible refine (take1 w0 _ g xs e (HI.out.alloc _) (HB.out.alloc HB.out.size _) hm).mono ?_); rintro en w1 ⟨ad, c, rfl, hx, hI1, hB1, hK1⟩; rw [HK.out] at hx; have HI1 := Aside0.mk hI1; have HB1 := Aside0.mk hB1; have HR1 := Aside0.mk (hK1.blk (blk_new w _) (by omega) (by simp)); have HK1 := Aside0.mk ((keep_alloc (KeepBut.refl w g none) _).trans hK1 (.inl rfl)); clear hI1 hB1 hK1; have hr0 := (blk_cell HR1.out 0).trans rfl; have hr1 := (blk_cell HR1.out 1).trans rfl; have hr2 := (blk_cell HR1.out 2).trans rfl; have hf0 := blk_frozen HR1.out 0; have hf1 := blk_frozen HR1.out 1; have hf2 := blk_frozen HR1.out 2; have hsz := blk_lt HR1.out) | (go_at_call 42; (with_reducible refine (take1 w0 _ g _ _ (HI1.out.alloc _) (below_alloc HB1.out _) (by have := tk_le xs e 1; omega)).mono ?_); rintro en w2 ⟨ad2, c2, rfl, hx2, hI2, hB2, hK2⟩; have HI2 := Aside0.mk hI2; have HB2 := Aside0.mk hB2; have HK2 := Aside0.mk ((keep_alloc HK1.out _).trans hK2 (.inl rfl)); have HR2 := Aside0.mk (hK2.blk (blk_alloc HR1.out _) (by simp; omega) (by simp)); have HV2 := Aside0.mk (hK2.blk (blk_new w1 _) (by simp; omega) (by simp)); clear hI2 hB2 hK2; have hr0 := (blk_cell HR2.out 0).trans rfl; have hr1 := (blk_cell HR2.out 1).trans rfl; have hr2 := (blk_cell HR2.out 2).trans rfl; have hf0 := blk_frozen HR2.out 0; have hf1 := blk_frozen HR2.out 1; have hf2 := blk_frozen HR2.out 2; have hsz2 := blk_lt HR2.out; have hv0 := (blk_cell HV2.out 0).trans rfl; have hv1 := (blk_cell HV2.out 1).trans rfl; have hv2 := (blk_cell HV2.out 2).trans rfl; have hg0 := blk_frozen HV2.out 0; have hg1 := blk_frozen HV2.out 1; have hg2 := blk_frozen HV2.out 2; have hvsz2 := blk_lt HV2.out) | (go_at_call 44; (with_reducible refine (fail_cur w0 _ g _ _ 2 (HI2.out.far (by simp; omega) _) (below_set HB2.out (by first | omega | (simp; omega)))).mono ?_); rintro en w3 ⟨rfl, hI3, hB3, hK3⟩; have HI3 := Aside0.mk hI3; have HB3 := Aside0.mk hB3; have HK3 := Aside0.mk ((keep_far HK2.out (by first | omega | (simp; omega)) _).trans hK3 (.inl rfl)); have HR3 := Aside0.mk (hK3.blk (blk_far HR2.out (by simp; omega) _) (by simp; omega) (by simp)); have HV3 := Aside0.mk (hK3.blk (blk_put HV2.out 1 _ rfl) (by simp; omega) (by simp)); clear hI3 hB3 hK3; have hr0 := (blk_cell HR3.out 0).trans rfl; have hr1 := (blk_cell HR3.out 1).trans rfl; have hr2 := (blk_cell HR3.out 2).trans rfl; have hf0 := blk_frozen HR3.out 0; have hf1 := blk_frozen HR3.out 1; have hf2 := blk_frozen HR3.out 2; have hsz3 := blk_lt HR3.out; have hv0 := (blk_cell HV3.out 0).trans rfl; have hv1 := (blk_cell HV3.out 1).trans rfl; have hv2 := (blk_cell HV3.out 2).trans rfl; have hg0 := blk_frozen HV3.out 0; have hg1 := blk_frozen HV3.out 1; have hg2 := blk_frozen HV3.out 2; have hvsz3 := blk_lt HV3.out))
  exact val_ret hgl hw0 HI3.out HB3.out HK3.out HR3.out rfl
theorem val3b (w0 w : World) (g : Nat) (xs : List Int) (e : Int) (hI : Cur w0 w g xs e) (hB : Below w0.heap.size w0 w) (hm : xs.length ≤ 9223372036854775807) (hv : decide (48 < wrap64 (rd (tk (tk xs e 1).2.1 (tk xs e 1).2.2 1).1 0)) = true) (hk : rd (tk xs e 1).1 0 = 3):
    Calls Try.prog 43 #[.pointer (some ⟨g, 0, none⟩)] w fun en w' => en = .returned (.agg #[.int .u8 3, .int .i64 0, .string ⟨#[]⟩]) ∧ Cur w0 w' g ((tk (tk xs e 1).2.1 (tk xs e 1).2.2 1).2.1) (fl (tk (tk xs e 1).2.1 (tk xs e 1).2.2 1).2.2 4) ∧ Below w0.heap.size w0 w' ∧ KeepBut w w' g none := by
  have HI := Aside0.mk hI
  have HB := Aside0.mk hB
  have HK := Aside0.mk hk
  have hw0 := HB.out.size
  clear hI hB hk
  go_enter Try.func43, Try.ntmps43
  have hgl := HI.out.lt
  go_wp2_with (first | (go_at_call 42; (with_reducible refine (take1 w0 _ g xs e (HI.out.alloc _) (HB.out.alloc HB.out.size _) hm).mono ?_); rintro en w1 ⟨ad, c, rfl, hx, hI1, hB1, hK1⟩; rw [HK.out] at hx; have HI1 := Aside0.mk hI1; have HB1 := Aside0.mk hB1; have HR1 := Aside0.mk (hK1.blk (blk_new w _) (by omega) (by simp)); have HK1 := Aside0.mk ((keep_alloc (KeepBut.refl w g none) _).trans hK1 (.inl rfl)); clear hI1 hB1 hK1; have hr0 := (blk_cell HR1.out 0).trans rfl; have hr1 := (blk_cell HR1.out 1).trans rfl; have hr2 := (blk_cell HR1.out 2).trans rfl; have hf0 := blk_frozen HR1.out 0; have hf1 := blk_frozen HR1.out 1; have hf2 := blk_frozen HR1.out 2; have hsz := blk_lt HR1.out) | (go_at_call 42; (with_reducible refine (take1 w0 _ g _ _ (HI1.out.alloc _) (below_alloc HB1.out _) (by have := tk_le xs e 1; omega)).mono ?_); rintro en w2 ⟨ad2, c2, rfl, hx2, hI2, hB2, hK2⟩; have HI2 := Aside0.mk hI2; have HB2 := Aside0.mk hB2; have HK2 := Aside0.mk ((keep_alloc HK1.out _).trans hK2 (.inl rfl)); have HR2 := Aside0.mk (hK2.blk (blk_alloc HR1.out _) (by simp; omega) (by simp)); have HV2 := Aside0.mk (hK2.blk (blk_new w1 _) (by simp; omega) (by simp)); clear hI2 hB2 hK2; have hr0 := (blk_cell HR2.out 0).trans rfl; have hr1 := (blk_cell HR2.out 1).trans rfl; have hr2 := (blk_cell HR2.out 2).trans rfl; have hf0 := blk_frozen HR2.out 0; have hf1 := blk_frozen HR2.out 1; have hf2 := blk_frozen HR2.out 2; have hsz2 := blk_lt HR2.out; have hv0 := (blk_cell HV2.out 0).trans rfl; have hv1 := (blk_cell HV2.out 1).trans rfl; have hv2 := (blk_cell HV2.out 2).trans rfl; have hg0 := blk_frozen HV2.out 0; have hg1 := blk_frozen HV2.out 1; have hg2 := blk_frozen HV2.out 2; have hvsz2 := blk_lt HV2.out) | (go_at_call 44; (with_reducible refine (fail_cur w0 _ g _ _ 4 (HI2.out) (HB2.out)).mono ?_); rintro en w3 ⟨rfl, hI3, hB3, hK3⟩; have HI3 := Aside0.mk hI3; have HB3 := Aside0.mk hB3; have HK3 := Aside0.mk ((HK2.out).trans hK3 (.inl rfl)); have HR3 := Aside0.mk (hK3.blk (HR2.out) (by simp; omega) (by simp)); have HV3 := Aside0.mk (hK3.blk (HV2.out) (by simp; omega) (by simp)); clear hI3 hB3 hK3; have hr0 := (blk_cell HR3.out 0).trans rfl; have hr1 := (blk_cell HR3.out 1).trans rfl; have hr2 := (blk_cell HR3.out 2).trans rfl; have hf0 := blk_frozen HR3.out 0; have hf1 := blk_frozen HR3.out 1; have hf2 := blk_frozen HR3.out 2; have hsz3 := blk_lt HR3.out; have hv0 := (blk_cell HV3.out 0).trans rfl; have hv1 := (blk_cell HV3.out 1).trans rfl; have hv2 := (blk_cell HV3.out 2).trans rfl; have hg0 := blk_frozen HV3.out 0; have hg1 := blk_frozen HV3.out 1; have hg2 := blk_frozen HV3.out 2; have hvsz3 := blk_lt HV3.out))
  exact val_ret hgl hw0 HI3.out HB3.out HK3.out HR3.out rfl
theorem val3g (w0 w : World) (g : Nat) (xs : List Int) (e : Int) (hI : Cur w0 w g xs e) (hB : Below w0.heap.size w0 w) (hm : xs.length ≤ 9223372036854775807) (hv : decide (48 < wrap64 (rd (tk (tk xs e 1).2.1 (tk xs e 1).2.2 1).1 0)) = false) (hn0 : 0 ≤ wrap64 (rd (tk (tk xs e 1).2.1 (tk xs e 1).2.2 1).1 0)) (hk : rd (tk xs e 1).1 0 = 3):
    Calls Try.prog 43 #[.pointer (some ⟨g, 0, none⟩)] w fun en w' => en = .returned (.agg #[.int .u8 3, .int .i64 0, .string (strOfNums (tk (tk (tk xs e 1).2.1 (tk xs e 1).2.2 1).2.1 (tk (tk xs e 1).2.1 (tk xs e 1).2.2 1).2.2 (wrap64 (rd (tk (tk xs e 1).2.1 (tk xs e 1).2.2 1).1 0))).1)]) ∧ Cur w0 w' g ((tk (tk (tk xs e 1).2.1 (tk xs e 1).2.2 1).2.1 (tk (tk xs e 1).2.1 (tk xs e 1).2.2 1).2.2 (wrap64 (rd (tk (tk xs e 1).2.1 (tk xs e 1).2.2 1).1 0))).2.1) ((tk (tk (tk xs e 1).2.1 (tk xs e 1).2.2 1).2.1 (tk (tk xs e 1).2.1 (tk xs e 1).2.2 1).2.2 (wrap64 (rd (tk (tk xs e 1).2.1 (tk xs e 1).2.2 1).1 0))).2.2) ∧ Below w0.heap.size w0 w' ∧ KeepBut w w' g none := by
  have HI := Aside0.mk hI
  have HB := Aside0.mk hB
  have HK := Aside0.mk hk
  have hw0 := HB.out.size
  clear hI hB hk
  go_enter Try.func43, Try.ntmps43
  have hgl := HI.out.lt
  go_wp2_with (first | (go_at_call 42; (with_reducible refine (take1 w0 _ g xs e (HI.out.alloc _) (HB.out.alloc HB.out.size _) hm).mono ?_); rintro en w1 ⟨ad, c, rfl, hx, hI1, hB1, hK1⟩; rw [HK.out] at hx; have HI1 := Aside0.mk hI1; have HB1 := Aside0.mk hB1; have HR1 := Aside0.mk (hK1.blk (blk_new w _) (by omega) (by simp)); have HK1 := Aside0.mk ((keep_alloc (KeepBut.refl w g none) _).trans hK1 (.inl rfl)); clear hI1 hB1 hK1; have hr0 := (blk_cell HR1.out 0).trans rfl; have hr1 := (blk_cell HR1.out 1).trans rfl; have hr2 := (blk_cell HR1.out 2).trans rfl; have hf0 := blk_frozen HR1.out 0; have hf1 := blk_frozen HR1.out 1; have hf2 := blk_frozen HR1.out 2; have hsz := blk_lt HR1.out) | (go_at_call 42; (with_reducible refine (take1 w0 _ g _ _ (HI1.out.alloc _) (below_alloc HB1.out _) (by have := tk_le xs e 1; omega)).mono ?_); rintro en w2 ⟨ad2, c2, rfl, hx2, hI2, hB2, hK2⟩; have HI2 := Aside0.mk hI2; have HB2 := Aside0.mk hB2; have HK2 := Aside0.mk ((keep_alloc HK1.out _).trans hK2 (.inl rfl)); have HR2 := Aside0.mk (hK2.blk (blk_alloc HR1.out _) (by simp; omega) (by simp)); have HV2 := Aside0.mk (hK2.blk (blk_new w1 _) (by simp; omega) (by simp)); clear hI2 hB2 hK2; have hr0 := (blk_cell HR2.out 0).trans rfl; have hr1 := (blk_cell HR2.out 1).trans rfl; have hr2 := (blk_cell HR2.out 2).trans rfl; have hf0 := blk_frozen HR2.out 0; have hf1 := blk_frozen HR2.out 1; have hf2 := blk_frozen HR2.out 2; have hsz2 := blk_lt HR2.out; have hv0 := (blk_cell HV2.out 0).trans rfl; have hv1 := (blk_cell HV2.out 1).trans rfl; have hv2 := (blk_cell HV2.out 2).trans rfl; have hg0 := blk_frozen HV2.out 0; have hg1 := blk_frozen HV2.out 1; have hg2 := blk_frozen HV2.out 2; have hvsz2 := blk_lt HV2.out) | go_loud (go_at_call 42; (with_reducible refine (take_any w0 _ g _ _ _ (HI2.out) (HB2.out) (by have := tk_le xs e 1; have := tk_le (tk xs e 1).2.1 (tk xs e 1).2.2 1; omega) hn0 (by have := of_decide_eq_false hv; omega)).mono ?_); rintro en w3 ⟨A3, c3, rfl, hc3, hC3, hl3, hI3, hB3, hK3⟩; have hcv := Kd.C_string (P := Try.prog) (A := A3) (c := c3) Try.underlying49 Try.underlying5 Try.underlying9 hC3; have HI3 := Aside0.mk hI3; have HB3 := Aside0.mk hB3; have HK3 := Aside0.mk ((HK2.out).trans hK3 (.inl rfl)); have HR3 := Aside0.mk (hK3.blk (HR2.out) (by simp; omega) (by simp)); have HV3 := Aside0.mk (hK3.blk (HV2.out) (by simp; omega) (by simp)); clear hI3 hB3 hK3; have hr0 := (blk_cell HR3.out 0).trans rfl; have hr1 := (blk_cell HR3.out 1).trans rfl; have hr2 := (blk_cell HR3.out 2).trans rfl; have hf0 := blk_frozen HR3.out 0; have hf1 := blk_frozen HR3.out 1; have hf2 := blk_frozen HR3.out 2; have hsz3 := blk_lt HR3.out; have hv0 := (blk_cell HV3.out 0).trans rfl; have hv1 := (blk_cell HV3.out 1).trans rfl; have hv2 := (blk_cell HV3.out 2).trans rfl; have hg0 := blk_frozen HV3.out 0; have hg1 := blk_frozen HV3.out 1; have hg2 := blk_frozen HV3.out 2; have hvsz3 := blk_lt HV3.out))
  exact val_ret hgl hw0 (HI3.out.far (by simp; omega) _) (below_set HB3.out (by first | omega | (simp; omega))) (keep_far HK3.out (by first | omega | (simp; omega)) _) (blk_far HR3.out (by simp; omega) _) rfl
theorem val1 (w0 w : World) (g : Nat) (xs : List Int) (e : Int) (hI : Cur w0 w g xs e) (hB : Below w0.heap.size w0 w) (hm : xs.length ≤ 9223372036854775807) (hk : rd (tk xs e 1).1 0 = 1):
    Calls Try.prog 43 #[.pointer (some ⟨g, 0, none⟩)] w fun en w' => en = .returned (.agg #[.int .u8 1, .int .i64 (acc8 (tk (tk xs e 1).2.1 (tk xs e 1).2.2 8).1), .string ⟨#[]⟩]) ∧ Cur w0 w' g ((tk (tk xs e 1).2.1 (tk xs e 1).2.2 8).2.1) ((tk (tk xs e 1).2.1 (tk xs e 1).2.2 8).2.2) ∧ Below w0.heap.size w0 w' ∧ KeepBut w w' g none := by
  have HI := Aside0.mk hI
  have HB := Aside0.mk hB
  have HK := Aside0.mk hk
  have hw0 := HB.out.size
  clear hI hB hk
  go_enter Try.func43, Try.ntmps43
  have hgl := HI.out.lt
  go_wp2_with (first | (go_at_call 42; (with_reducible refine (take1 w0 _ g xs e (HI.out.alloc _) (HB.out.alloc HB.out.size _) hm).mono ?_); rintro en w1 ⟨ad, c, rfl, hx, hI1, hB1, hK1⟩; rw [HK.out] at hx; have HI1 := Aside0.mk hI1; have HB1 := Aside0.mk hB1; have HR1 := Aside0.mk (hK1.blk (blk_new w _) (by omega) (by simp)); have HK1 := Aside0.mk ((keep_alloc (KeepBut.refl w g none) _).trans hK1 (.inl rfl)); clear hI1 hB1 hK1; have hr0 := (blk_cell HR1.out 0).trans rfl; have hr1 := (blk_cell HR1.out 1).trans rfl; have hr2 := (blk_cell HR1.out 2).trans rfl; have hf0 := blk_frozen HR1.out 0; have hf1 := blk_frozen HR1.out 1; have hf2 := blk_frozen HR1.out 2; have hsz := blk_lt HR1.out) | (go_at_call 42; (with_reducible refine (take_any w0 _ g _ _ 8 (HI1.out.alloc _) (below_alloc HB1.out _) (by have := tk_le xs e 1; omega) (by omega) (by omega)).mono ?_); rintro en w2 ⟨A2, c2, rfl, hc2, hC2, hl2, hI2, hB2, hK2⟩; have HC2 := Aside0.mk hC2; have HL2 := Aside0.mk hl2; clear hC2 hl2; have HI2 := Aside0.mk hI2; have HB2 := Aside0.mk hB2; have HK2 := Aside0.mk ((keep_alloc HK1.out _).trans hK2 (.inl rfl)); have HR2 := Aside0.mk (hK2.blk (blk_alloc HR1.out _) (by simp; omega) (by simp)); have HV2 := Aside0.mk (hK2.blk (blk_new w1 _) (by simp; omega) (by simp)); clear hI2 hB2 hK2; have hr0 := (blk_cell HR2.out 0).trans rfl; have hr1 := (blk_cell HR2.out 1).trans rfl; have hr2 := (blk_cell HR2.out 2).trans rfl; have hf0 := blk_frozen HR2.out 0; have hf1 := blk_frozen HR2.out 1; have hf2 := blk_frozen HR2.out 2; have hsz2 := blk_lt HR2.out; have hv0 := (blk_cell HV2.out 0).trans rfl; have hv1 := (blk_cell HV2.out 1).trans rfl; have hv2 := (blk_cell HV2.out 2).trans rfl; have hg0 := blk_frozen HV2.out 0; have hg1 := blk_frozen HV2.out 1; have hg2 := blk_frozen HV2.out 2; have hvsz2 := blk_lt HV2.out))
  have hl8 : ((tk (tk xs e 1).2.1 (tk xs e 1).2.2 8).1.length : Int) = 8 := by rw [tk_len _ _ _ (by omega)]; rfl
  have HL8 := Aside0.mk hl8
  clear hl8
  go_loopg [23] 8 (fun kq v23 w' => ∃ (i : Int), v23 = .int .i64 i ∧ Aside0 (0 ≤ i ∧ (kq : Int) + i = 8) ∧ Aside0 (∀ j, j ≠ w1.heap.size → w'.heap[j]? = w2.heap[j]?) ∧ Aside0 (Below w0.heap.size w0 w') ∧ Aside0 (KeepBut w w' g none) ∧ Aside0 (w'.heap[w1.heap.size]? = some (.cells #[.int .u8 1, .int .i64 (acc8 ((tk (tk xs e 1).2.1 (tk xs e 1).2.2 8).1.take i.toNat)), .string ⟨#[]⟩] 36 (0, 0))))
  case atStart => exact ⟨0, rfl, ⟨by omega⟩, ⟨fun j _ => rfl⟩, HB2, HK2, HV2⟩
  case round =>
    obtain ⟨i, rfl, HI_, HH, HBL, HKL, HVL⟩ := hrel
    have hh0 := (HH.out w.heap.size (by omega)).trans HR2.out
    have hr0 := (blk_cell hh0 0).trans rfl
    have hr1 := (blk_cell hh0 1).trans rfl
    have hr2 := (blk_cell hh0 2).trans rfl
    have hf0 := blk_frozen hh0 0
    have hf1 := blk_frozen hh0 1
    have hf2 := blk_frozen hh0 2
    have hv0 := (blk_cell HVL.out 0).trans rfl
    have hv1 := (blk_cell HVL.out 1).trans rfl
    have hv2 := (blk_cell HVL.out 2).trans rfl
    have hg0 := blk_frozen HVL.out 0
    have hg1 := blk_frozen HVL.out 1
    have hg2 := blk_frozen HVL.out 2
    have hszl := blk_lt hh0
    have hvszl := blk_lt HVL.out
    have HH0 := Aside0.mk hh0
    clear hh0
    by_cases c2 : i < ((tk (tk xs e 1).2.1 (tk xs e 1).2.2 8).1.length : Int)
    · have c2b0 : decide (i < ((tk (tk xs e 1).2.1 (tk xs e 1).2.2 8).1.length : Int)) = true := decide_eq_true c2
      obtain ⟨ad9, e9, hx9⟩ := Kd.at_int HC2.out i HI_.out.1 c2
      subst e9
      have hb9 := World.block_lt_of_cell? w2 _ hx9
      have hne : (ad9.add i.toNat).block ≠ w1.heap.size := by
        have hh := HL2.out ad9 rfl (by have := HI_.out.1; omega)
        rw [show (w1.alloc (Obj.cells #[Value.int IntKind.u8 1, Value.int IntKind.i64 0, Value.string ⟨#[]⟩] 36)).heap.size = w1.heap.size + 1 from by simp] at hh
        rw [add_block]
        omega
      have hx9' : wr.cell? (ad9.add i.toNat) = some (.int .u8 (rd (tk (tk xs e 1).2.1 (tk xs e 1).2.2 8).1 i)) := by
        rw [← hx9]
        unfold World.cell?
        rw [HH.out _ hne]
      clear hx9
      have HN9 := Aside0.mk hne
      clear hne
      have p9 : (0 ≤ i) = True := eq_true HI_.out.1
      have q9 : (i < ((tk (tk xs e 1).2.1 (tk xs e 1).2.2 8).1.length : Int)) = True := eq_true c2
      have HC9 := Aside0.mk c2
      clear c2
      go_wp2
      go_roundg (gk - 1)
      case measure => have h1 := HI_.out; have h2 := HC9.out; have h3 := HL8.out; omega
      case rel =>
        have h1 := HI_.out
        have h2 := HC9.out
        have h3 := HL8.out
        refine ⟨i + 1, by rw [wr_in (i + 1) (by omega)], ⟨by omega⟩, ⟨fun j hj => (Below.heap_setCell wr _ _ j (by simp; omega)).trans (HH.out j hj)⟩, ⟨below_set HBL.out (by first | omega | (simp; omega))⟩, ⟨keep_far HKL.out (by first | omega | (simp; omega)) _⟩, ⟨?_⟩⟩
        rw [show (i + 1).toNat = i.toNat + 1 by omega, acc8_step _ _ (by omega), show ((i.toNat : Nat) : Int) = i by omega]
        exact blk_put HVL.out 1 _ rfl
    · have c2b0 : decide (i < ((tk (tk xs e 1).2.1 (tk xs e 1).2.2 8).1.length : Int)) = false := decide_eq_false c2
      have HC9 := Aside0.mk c2
      clear c2
      go_wp2
      have hi8 : i = 8 := by have h1 := HI_.out; have h2 := HC9.out; have h3 := HL8.out; omega
      have hta : (tk (tk xs e 1).2.1 (tk xs e 1).2.2 8).1.take i.toNat = (tk (tk xs e 1).2.1 (tk xs e 1).2.2 8).1 := List.take_of_length_le (by have h3 := HL8.out; omega)
      rw [hta]
      exact val_ret hgl hw0 (HI2.out.keep_ (HH.out g (by omega))) HBL.out HKL.out HH0.out rfl
/-- A value that is read: kind, number, text; what is left; the error. -/
def vl (xs : List Int) (e : Int) : (Int × Int × ByteArray) × List Int × Int :=
  let t := tk xs e 1
  let k := rd t.1 0
  if k = 0 then ((0, 0, ⟨#[]⟩), t.2.1, t.2.2)
  else if k = 1 then ((1, acc8 (tk t.2.1 t.2.2 8).1, ⟨#[]⟩), (tk t.2.1 t.2.2 8).2.1, (tk t.2.1 t.2.2 8).2.2)
  else if k = 2 then
    let u := tk t.2.1 t.2.2 1
    ((2, wrap64 (rd u.1 0), ⟨#[]⟩), u.2.1, if 1 < wrap64 (rd u.1 0) then fl u.2.2 2 else u.2.2)
  else if k = 3 then
    let u := tk t.2.1 t.2.2 1
    if 48 < wrap64 (rd u.1 0) then ((3, 0, ⟨#[]⟩), u.2.1, fl u.2.2 4)
    else ((3, 0, strOfNums (tk u.2.1 u.2.2 (wrap64 (rd u.1 0))).1), (tk u.2.1 u.2.2 (wrap64 (rd u.1 0))).2.1, (tk u.2.1 u.2.2 (wrap64 (rd u.1 0))).2.2)
  else ((k, 0, ⟨#[]⟩), t.2.1, fl t.2.2 6)
/-- All are bytes. -/
def By (xs : List Int) : Prop := ∀ x ∈ xs, 0 ≤ x ∧ x ≤ 255
theorem By.tk1 {xs : List Int} (h : By xs) (e n : Int) : By (tk xs e n).1 := by
  unfold tk
  split
  · exact fun x hx => h x (List.mem_of_mem_take hx)
  · intro x hx
    rw [(List.mem_replicate.mp hx).2]
    omega
theorem By.tk2 {xs : List Int} (h : By xs) (e n : Int) : By (tk xs e n).2.1 := by
  unfold tk
  split
  · exact fun x hx => h x (List.mem_of_mem_drop hx)
  · exact h
theorem By.rdb {xs : List Int} (h : By xs) (i : Int) : 0 ≤ rd xs i ∧ rd xs i ≤ 255 := by
  by_cases hi : i.toNat < xs.length
  · rw [rd_get hi]
    exact h _ (List.getElem_mem hi)
  · have : rd xs i = 0 := by simp [Go.Proofs.YtegegpdaalfbdaaW.PrintWords.rd, List.getD_eq_getElem?_getD, List.getElem?_eq_none (Nat.le_of_not_lt hi)]
    rw [this]
    omega
theorem p_ite {α : Sort _} {c : Prop} [Decidable c] {a b : α} (p : α → Prop) (ha : p a) (hb : p b) : p (if c then a else b) := by
  split
  · exact ha
  · exact hb
theorem By.vlb {xs : List Int} (h : By xs) (e : Int) : By (vl xs e).2.1 := by
  unfold vl
  exact p_ite (fun z => By (Prod.fst (Prod.snd z))) (h.tk2 _ _) (p_ite (fun z => By (Prod.fst (Prod.snd z))) ((h.tk2 _ _).tk2 _ _) (p_ite (fun z => By (Prod.fst (Prod.snd z))) ((h.tk2 _ _).tk2 _ _) (p_ite (fun z => By (Prod.fst (Prod.snd z))) (p_ite (fun z => By (Prod.fst (Prod.snd z))) ((h.tk2 _ _).tk2 _ _) (((h.tk2 _ _).tk2 _ _).tk2 _ _)) (h.tk2 _ _))))
theorem vl_le (xs : List Int) (e : Int) : (vl xs e).2.1.length ≤ xs.length := by
  unfold vl
  exact p_ite (fun z => List.length (Prod.fst (Prod.snd z)) ≤ List.length xs) (tk_le _ _ _) (p_ite (fun z => List.length (Prod.fst (Prod.snd z)) ≤ List.length xs) (Nat.le_trans (tk_le _ _ _) (tk_le _ _ _)) (p_ite (fun z => List.length (Prod.fst (Prod.snd z)) ≤ List.length xs) (Nat.le_trans (tk_le _ _ _) (tk_le _ _ _)) (p_ite (fun z => List.length (Prod.fst (Prod.snd z)) ≤ List.length xs) (p_ite (fun z => List.length (Prod.fst (Prod.snd z)) ≤ List.length xs) (Nat.le_trans (tk_le _ _ _) (tk_le _ _ _)) (Nat.le_trans (tk_le _ _ _) (Nat.le_trans (tk_le _ _ _) (tk_le _ _ _)))) (tk_le _ _ _))))
theorem Cur.mk {w0 W : World} {g : Nat} {xs : List Int} {e : Int} {A : Option Addr} {c : Nat} (hb : W.heap[g]? = some (.cells #[.slice A xs.length c, .int .i64 e] 70 (0, 0))) (hc : xs.length ≤ c) (hg : w0.heap.size ≤ g) (hC : Kd.C (Kd.int .u8) w0 A xs.length xs) : Cur w0 W g xs e := ⟨A, c, hb, hc, hg, hC⟩
theorem Cur.blk {w0 W : World} {g : Nat} {xs : List Int} {e : Int} (h : Cur w0 W g xs e) : ∃ A c, W.heap[g]? = some (.cells #[.slice A xs.length c, .int .i64 e] 70 (0, 0)) := by
  obtain ⟨A, c, h1, _⟩ := h
  exact ⟨A, c, h1⟩
/-- A value is read, whatever is left. -/
theorem val_any (w0 w : World) (g : Nat) (xs : List Int) (e : Int) (hI : Cur w0 w g xs e) (hB : Below w0.heap.size w0 w) (hm : xs.length ≤ 9223372036854775807) (hy : By xs) :
    Calls Try.prog 43 #[.pointer (some ⟨g, 0, none⟩)] w fun en w' => en = .returned (.agg #[.int .u8 (vl xs e).1.1, .int .i64 (vl xs e).1.2.1, .string (vl xs e).1.2.2]) ∧ Cur w0 w' g (vl xs e).2.1 (vl xs e).2.2 ∧ Below w0.heap.size w0 w' ∧ KeepBut w w' g none := by
  by_cases h0 : rd (tk xs e 1).1 0 = 0
  · have ev : vl xs e = ((0, 0, ⟨#[]⟩), (tk xs e 1).2.1, (tk xs e 1).2.2) := by simp only [vl, h0, if_true]
    rw [ev]
    exact val0 w0 w g xs e hI hB hm h0
  by_cases h1 : rd (tk xs e 1).1 0 = 1
  · have ev : vl xs e = ((1, acc8 (tk (tk xs e 1).2.1 (tk xs e 1).2.2 8).1, ⟨#[]⟩), (tk (tk xs e 1).2.1 (tk xs e 1).2.2 8).2.1, (tk (tk xs e 1).2.1 (tk xs e 1).2.2 8).2.2) := by
      simp only [vl, h1, if_true, if_neg (show ¬ (1 : Int) = 0 by decide)]
    rw [ev]
    exact val1 w0 w g xs e hI hB hm h1
  by_cases h2 : rd (tk xs e 1).1 0 = 2
  · by_cases hv : 1 < wrap64 (rd (tk (tk xs e 1).2.1 (tk xs e 1).2.2 1).1 0)
    · have ev : vl xs e = ((2, wrap64 (rd (tk (tk xs e 1).2.1 (tk xs e 1).2.2 1).1 0), ⟨#[]⟩), (tk (tk xs e 1).2.1 (tk xs e 1).2.2 1).2.1, fl (tk (tk xs e 1).2.1 (tk xs e 1).2.2 1).2.2 2) := by
        simp only [vl, h2, if_true, if_neg (show ¬ (2 : Int) = 0 by decide), if_neg (show ¬ (2 : Int) = 1 by decide), if_pos hv]
      rw [ev]
      exact val2b w0 w g xs e hI hB hm (decide_eq_true hv) h2
    · have ev : vl xs e = ((2, wrap64 (rd (tk (tk xs e 1).2.1 (tk xs e 1).2.2 1).1 0), ⟨#[]⟩), (tk (tk xs e 1).2.1 (tk xs e 1).2.2 1).2.1, (tk (tk xs e 1).2.1 (tk xs e 1).2.2 1).2.2) := by
        simp only [vl, h2, if_true, if_neg (show ¬ (2 : Int) = 0 by decide), if_neg (show ¬ (2 : Int) = 1 by decide), if_neg hv]
      rw [ev]
      exact val2g w0 w g xs e hI hB hm (decide_eq_false hv) h2
  by_cases h3 : rd (tk xs e 1).1 0 = 3
  · by_cases hv : 48 < wrap64 (rd (tk (tk xs e 1).2.1 (tk xs e 1).2.2 1).1 0)
    · have ev : vl xs e = ((3, 0, ⟨#[]⟩), (tk (tk xs e 1).2.1 (tk xs e 1).2.2 1).2.1, fl (tk (tk xs e 1).2.1 (tk xs e 1).2.2 1).2.2 4) := by
        simp only [vl, h3, if_true, if_neg (show ¬ (3 : Int) = 0 by decide), if_neg (show ¬ (3 : Int) = 1 by decide), if_neg (show ¬ (3 : Int) = 2 by decide), if_pos hv]
      rw [ev]
      exact val3b w0 w g xs e hI hB hm (decide_eq_true hv) h3
    · have ev : vl xs e = ((3, 0, strOfNums (tk (tk (tk xs e 1).2.1 (tk xs e 1).2.2 1).2.1 (tk (tk xs e 1).2.1 (tk xs e 1).2.2 1).2.2 (wrap64 (rd (tk (tk xs e 1).2.1 (tk xs e 1).2.2 1).1 0))).1), (tk (tk (tk xs e 1).2.1 (tk xs e 1).2.2 1).2.1 (tk (tk xs e 1).2.1 (tk xs e 1).2.2 1).2.2 (wrap64 (rd (tk (tk xs e 1).2.1 (tk xs e 1).2.2 1).1 0))).2.1, (tk (tk (tk xs e 1).2.1 (tk xs e 1).2.2 1).2.1 (tk (tk xs e 1).2.1 (tk xs e 1).2.2 1).2.2 (wrap64 (rd (tk (tk xs e 1).2.1 (tk xs e 1).2.2 1).1 0))).2.2) := by
        simp only [vl, h3, if_true, if_neg (show ¬ (3 : Int) = 0 by decide), if_neg (show ¬ (3 : Int) = 1 by decide), if_neg (show ¬ (3 : Int) = 2 by decide), if_neg hv]
      rw [ev]
      have hr := ((hy.tk2 e 1).tk1 (tk xs e 1).2.2 1).rdb 0
      exact val3g w0 w g xs e hI hB hm (decide_eq_false hv) (by rw [wr_in _ (by omega)]; omega) h3
  have ev : vl xs e = ((rd (tk xs e 1).1 0, 0, ⟨#[]⟩), (tk xs e 1).2.1, fl (tk xs e 1).2.2 6) := by
    simp only [vl, if_neg h0, if_neg h1, if_neg h2, if_neg h3]
  rw [ev]
  exact valx w0 w g xs e _ h0 h1 h2 h3 hI hB hm rfl
end Go.Proofs.Ytegegpdaalfbdaa.Rd
