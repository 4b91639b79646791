/- A leaf's page laid out of a head and bytes; numbers and entries written behind bytes. Conditions: what is written has room. -/
import Derived.Test.YtihmkdjambdfjaaEnt
import Derived.Test.YtihmkdjambdfjaaCpy
import Derived.Test.YtihmkdjambdfjaaXLeafx2
import Derived.Deep.RegionLaw
namespace Go.Proofs.Ytihmkdjambdfjaa.Tk
open Go.RowKit Go.Proofs.YtihmkdjambdfjaaW.PrintWords Go.Proofs.YtihmkdjambdfjaaW.PrintLast Go.Proofs.YtihmkdjambdfjaaW.PrintMore Go.Proofs.Ytihmkdjambdfjaa.Cpy
open Go.Proofs.Ytihmkdjambdfjaa.XLeaf (leaf_number.f leaf_number.l0 leaf_number.calls)
set_option linter.unusedVariables false
set_option linter.unusedSimpArgs false
set_option maxRecDepth 100000
/-- A head's eight bytes. -/
def hd (a0 a1 a2 : Int) : List Int := [a0, 0, a1 / 256 % 256, a1 % 256, a2 / 16777216 % 256, a2 / 65536 % 256, a2 / 256 % 256, a2 % 256]
theorem disk_put (a0_0 a0_1 a0_2 : Int) (w : World) : Calls Try.prog 69 #[.agg #[.int .u8 a0_0, .int .u16 a0_1, .int .u32 a0_2]] w fun e w' => ∃ v : Value, e = .returned v ∧ Kd.R (Kd.int .u8) 5 w' w.heap.size (fun _ => True) v (hd a0_0 a0_1 a0_2 ++ List.replicate 504 0) ∧ Below w.heap.size w w' := by
  go_enter Try.func69, Try.ntmps69
  go_wp2_with (first | ((with_reducible refine gate_dst (N := 4) rfl ?_); refine Kd.R_make (Kd.int .u8) _ 5 rfl (N := 4) rfl 36 _ _ rfl 512 rfl rfl Try.underlying36 (.int .u8 0) 1 info5 rfl (by decide) (by omega) 0 (ok := fun _ => True) (okp := fun _ => True) rfl (fun _ hk => hk) trivial (by omega) (by omega) (Below.refl _ _) (Nat.le_refl _) ?_; intro v w2 ho2 hb2 hg2 hnew2; have HO2 := Aside0.mk ho2; have HL2 := Aside0.mk hb2; have HR2 := Aside0.mk (blk_below (blk_new w _) hb2); clear ho2 hb2 hg2 hnew2; have hr0 := (blk_cell HR2.out 0).trans rfl; have hr1 := (blk_cell HR2.out 1).trans rfl; have hr2 := (blk_cell HR2.out 2).trans rfl) | ((with_reducible refine gate_dst (N := 30) rfl ?_); refine Kd.R_lit (Kd.int .u8) _ 5 ?hg (N := 30) ?hd (xs := hd a0_0 a0_1 a0_2) (inner := [.int .u8 a0_0, .int .u8 0, .int .u8 (a0_1 / 256 % 256), .int .u8 (a0_1 % 256), .int .u8 (a0_2 / 16777216 % 256), .int .u8 (a0_2 / 65536 % 256), .int .u8 (a0_2 / 256 % 256), .int .u8 (a0_2 % 256)]) (ok := fun _ => True) (okp := fun _ => True) ?hr ?hp (fun _ hk => hk) trivial (Below.refl _ _) (Nat.le_refl _) (by simp [hd]) ?_; (case hd => rfl); (case hg => rfl); (case hr => first | (go_simp; done) | (go_simp; rfl)); (case hp => exact (Reps.one (show Kd.M (Kd.int .u8) _ _ _ a0_0 [.int .u8 a0_0] from rfl) (Reps.one (show Kd.M (Kd.int .u8) _ _ _ 0 [.int .u8 0] from rfl) (Reps.one (show Kd.M (Kd.int .u8) _ _ _ (a0_1 / 256 % 256) [.int .u8 (a0_1 / 256 % 256)] from rfl) (Reps.one (show Kd.M (Kd.int .u8) _ _ _ (a0_1 % 256) [.int .u8 (a0_1 % 256)] from rfl) (Reps.one (show Kd.M (Kd.int .u8) _ _ _ (a0_2 / 16777216 % 256) [.int .u8 (a0_2 / 16777216 % 256)] from rfl) (Reps.one (show Kd.M (Kd.int .u8) _ _ _ (a0_2 / 65536 % 256) [.int .u8 (a0_2 / 65536 % 256)] from rfl) (Reps.one (show Kd.M (Kd.int .u8) _ _ _ (a0_2 / 256 % 256) [.int .u8 (a0_2 / 256 % 256)] from rfl) (Reps.one (show Kd.M (Kd.int .u8) _ _ _ (a0_2 % 256) [.int .u8 (a0_2 % 256)] from rfl) (Reps.none _ _)))))))))); intro v3 w3 ho3 hb3 hg3 hnew3; have HO3 := Aside0.mk ho3; have HL3 := Aside0.mk hb3; have HOa := Aside0.mk (Kd.R_below HO2.out hb3); clear hg3 hnew3 ho3 hb3; obtain ⟨A3, c3, e3⟩ := Kd.R_slice HO3.out; subst e3) | ((with_reducible refine gate_builtin (b := .copy) (xs := #[.tmp 5, .tmp 30]) rfl ?_); refine Kd.R_copy (enc := Value.int .u8) (h1 := fun _ => rfl) (0 : Int) (w0 := w) w.heap.size rfl (.tmp 5) (.tmp 30) 36 36 5 rfl Try.underlying36 (by kernel_rfl) v (List.replicate 512 0) (hd a0_0 a0_1 a0_2) _ _ _ (fun _ => True) rfl rfl ?cO ?cR ?cB ?cS ?_; (case cO => exact Kd.R_lower HOa.out (by simp)); (case cR => exact (Kd.R_reads' HO3.out).2.2); (case cB => exact below_then (below_then (below_alloc (Below.refl _ _) _) (by simp) HL2.out) (by have := HL2.out.size; simp at this; omega) HL3.out); (case cS => have h2 := HL2.out.size; have h3 := HL3.out.size; simp at h2; omega); intro w4 ho4 hb4 hg4; have HO4 := Aside0.mk ho4; have HB4 := Aside0.mk hb4; clear ho4 hb4 hg4))
  go_ret
  refine ⟨v, rfl, ?_, HB4.out⟩
  have h := HO4.out
  rw [show min (hd a0_0 a0_1 a0_2).length (List.replicate 512 (0 : Int)).length = 8 by simp [hd], show (hd a0_0 a0_1 a0_2).take 8 = hd a0_0 a0_1 a0_2 from rfl, List.drop_replicate] at h
  exact h
theorem add0 (g n : Nat) : Addr.add ⟨g, 0, none⟩ n = ⟨g, n, none⟩ := by
  unfold Addr.add
  split <;> simp_all
theorem cut8 (W : World) (g c : Nat) (hc : 512 ≤ c) : (Instr.slice 36 (.slice (some ⟨g, 0, none⟩) 512 c) (some (.int .i64 8)) none none).run Try.prog W = .ok (.slice (some ⟨g, 8, none⟩) 504 (c - 8)) W := by
  obtain ⟨i0, hi0, _, hsz, _⟩ := info_parts info5
  have hel : Try.prog.elem 36 = 5 := by simp [Program.elem, Try.underlying36]
  have hu : Try.prog.underlying 36 = some (.slice (Try.prog.elem 36)) := by rw [hel]; exact Try.underlying36
  rw [run_slice_l W 36 _ 512 c hu .i64 8 (by omega) (by omega), hel]
  have hj : ¬ c = 8 := by omega
  simp [typeInfo, hi0, hsz, sliced, hj, add0]
theorem lay_ok (a0 a1 a2 : Int) (A : Option Addr) (c : Nat) (bs : List Int) (w : World) (hC : Kd.C (Kd.int .u8) w A bs.length bs) (hl : bs.length ≤ 504) :
    Calls Try.prog 40 #[.agg #[.int .u8 a0, .int .u16 a1, .int .u32 a2], .slice A bs.length c] w fun e w' => ∃ v : Value, e = .returned v ∧ Kd.R (Kd.int .u8) 5 w' w.heap.size (fun _ => True) v (hd a0 a1 a2 ++ bs ++ List.replicate (504 - bs.length) 0) ∧ Below w.heap.size w w' := by
  have HC := Aside0.mk hC
  have HL := Aside0.mk hl
  clear hC hl
  go_enter Try.func40, Try.ntmps40
  have HB0 := Aside0.mk (below_alloc (Below.refl w.heap.size w) (.cells #[.int .u8 a0, .int .u16 a1, .int .u32 a2] 76))
  have HX0 := Aside0.mk (blk_new w (.cells #[.int .u8 a0, .int .u16 a1, .int .u32 a2] 76))
  go_wp2_with (first
    | (go_at_call 69; (with_reducible refine (disk_put a0 a1 a2 _).mono ?_); rintro en w1 ⟨v, rfl, ho, hb⟩; obtain ⟨g, cap, ev, hcell, hg, hcc⟩ := Kd.R_form ho (by simp [hd]); replace ev : v = .slice (some ⟨g, 0, none⟩) 512 cap := ev; subst ev; have hcap := (Kd.R_reads' ho).2.1; have hcut := cut8 w1 g cap (by simpa [hd] using hcap); have HO1 := Aside0.mk ho; have HB1 := Aside0.mk (below_then HB0.out HB0.out.size hb); clear ho hb hcell hg hcc hcap)
    | ((with_reducible refine gate_builtin (b := .copy) (xs := #[.tmp 9, .tmp 10]) rfl ?_); refine copy_cut rfl (.tmp 9) (.tmp 10) 36 36 rfl 5 Try.underlying36 (by kernel_rfl) g 8 cap (hd a0 a1 a2 ++ List.replicate 504 0) bs w.heap.size (fun _ => True) (Kd.R_lower HO1.out (by rw [World.size_alloc]; omega)) (some ⟨g, 8, none⟩) A 504 (cap - 8) c rfl rfl (fun _ => rfl) HL.out (by have := HL.out; simp [hd]; omega) (Kd.C_below HC.out HB1.out) ?_; intro w4 ho4 hg4; have HO4 := Aside0.mk ho4; have HB4 := Aside0.mk (HB1.out.grown hg4 HB1.out.size (fun k hk => by injection hk with hk; subst hk; exact own_base (Kd.own_of_R (Kd.R_lower HO1.out (by rw [World.size_alloc]; omega) (base' := w.heap.size))) g rfl)); clear ho4 hg4))
  go_ret
  have e : splice (hd a0 a1 a2 ++ List.replicate 504 0) 8 bs = hd a0 a1 a2 ++ bs ++ List.replicate (504 - bs.length) 0 := by
    have hh : (hd a0 a1 a2).length = 8 := rfl
    rw [splice, List.take_append_of_le_length (by rw [hh]; omega), List.take_of_length_le (by rw [hh]; omega), List.drop_append, hh, List.drop_of_length_le (by rw [hh]; omega), List.drop_replicate, List.nil_append, show 504 - (8 + bs.length - 8) = 504 - bs.length by omega, List.append_assoc]
  have ho := HO4.out
  rw [e] at ho
  exact ⟨_, rfl, ho, HB4.out⟩
/-! ### numbers and entries -/
def be2 (n : Int) : List Int := [n / 256 % 256, n % 256]
def be4 (n : Int) : List Int := [n / 16777216 % 256, n / 65536 % 256, n / 256 % 256, n % 256]
theorem num_f2 (l : List Int) (x : Int) (hl : l.length ≤ 1000000) : leaf_number.f 3 l 2 x = some (l ++ be2 x) := by
  have e1 : wrap64 (8 * wrap64 (2 - 1)) = 8 := by decide +kernel
  have e2 : wrap64 (8 - 8) = 0 := by decide +kernel
  have e3 : wrap64 (0 - 8) = -8 := by decide +kernel
  rw [leaf_number.f, e1, leaf_number.l0, if_pos (by omega), if_pos (by omega), if_pos (by omega), e2, leaf_number.l0, if_pos (by omega), if_pos (by omega), if_pos (by simp; omega), e3, leaf_number.l0, if_neg (by omega)]
  simp [be2, shr, show IntKind.u32.bits = 32 from rfl]
theorem num_f4 (l : List Int) (x : Int) (hl : l.length ≤ 1000000) : leaf_number.f 5 l 4 x = some (l ++ be4 x) := by
  have e1 : wrap64 (8 * wrap64 (4 - 1)) = 24 := by decide +kernel
  have e2 : wrap64 (24 - 8) = 16 := by decide +kernel
  have e3 : wrap64 (16 - 8) = 8 := by decide +kernel
  have e4 : wrap64 (8 - 8) = 0 := by decide +kernel
  have e5 : wrap64 (0 - 8) = -8 := by decide +kernel
  rw [leaf_number.f, e1, leaf_number.l0, if_pos (by omega), if_pos (by omega), if_pos (by omega), e2, leaf_number.l0, if_pos (by omega), if_pos (by omega), if_pos (by simp; omega), e3, leaf_number.l0, if_pos (by omega), if_pos (by omega), if_pos (by simp; omega), e4, leaf_number.l0, if_pos (by omega), if_pos (by omega), if_pos (by simp; omega), e5, leaf_number.l0, if_neg (by omega)]
  simp [be4, shr, show IntKind.u32.bits = 32 from rfl]
theorem put2 (P : Nat → Prop) (v : Value) (l : List Int) (x : Int) (w0 w : World) (hB : Below w0.heap.size w0 w) (ho : Kd.R (Kd.int .u8) 5 w w0.heap.size P v l) (hl : l.length ≤ 1000000) :
    Calls Try.prog 48 #[v, .int .i64 2, .int .u32 x] w fun e w' => ∃ v' : Value, e = .returned v' ∧ Kd.R (Kd.int .u8) 5 w' w0.heap.size (fun k => P k ∨ w.heap.size ≤ k) v' (l ++ be2 x) ∧ Below w0.heap.size w0 w' ∧ Kept w w' (fun k => P k) :=
  leaf_number.calls 3 P v l 2 x _ w0 w hB ho (num_f2 l x hl)
theorem put4 (P : Nat → Prop) (v : Value) (l : List Int) (x : Int) (w0 w : World) (hB : Below w0.heap.size w0 w) (ho : Kd.R (Kd.int .u8) 5 w w0.heap.size P v l) (hl : l.length ≤ 1000000) :
    Calls Try.prog 48 #[v, .int .i64 4, .int .u32 x] w fun e w' => ∃ v' : Value, e = .returned v' ∧ Kd.R (Kd.int .u8) 5 w' w0.heap.size (fun k => P k ∨ w.heap.size ≤ k) v' (l ++ be4 x) ∧ Below w0.heap.size w0 w' ∧ Kept w w' (fun k => P k) :=
  leaf_number.calls 5 P v l 4 x _ w0 w hB ho (num_f4 l x hl)
/-- An entry's writing. -/
def wrE (key : ByteArray) (pg sl : Int) : List Int := be2 key.size ++ bytesOf key ++ be4 pg ++ be2 sl
theorem step_run2 {P : Program} {ops : Array Oper} {o : Oper} {a : Act} {Q : Exit → Act → World → Prop} {K : Act → World → Prop} {w w1 : World} {v v0 x0 : Value} (hw : Region.wanted o (yielded ops a.tmps) = true) (s x : Operand) (t u : TypeId) (ho : o.op = .call { callee := .builtin .append, args := #[s, x], argTypes := #[t, u] })
    (hs : a.eval s = v0) (hx : a.eval x = x0) (hr : (Builtin.append_ #[t, u] o.type #[v0, x0]).run P w = .ok v w1) (h : K (a.put o.dst v) w1) : if Region.wanted o (yielded ops a.tmps) = true then Oper.wp P o a w K Q else K (a.put o.dst undef) w := by
  rw [if_pos hw]
  unfold Oper.wp execOp
  simp only [ho, resolve, invoke, builtin, Sem.run_bind, Sem.run_pure, Result.andThen_ok, List.map_toArray, List.map_cons, List.map_nil, hs, hx, hr]
  exact h
/-- A text behind a row of one's own: the run, and what it leaves. -/
theorem append_run (W : World) (base : Nat) (v : Value) (xs : List Int) (ok : Nat → Prop) (y : ByteArray) (HO : Kd.R (Kd.int .u8) 5 W base ok v xs) (hl : xs.length + y.size ≤ 140737488355328) (hbase : base ≤ W.heap.size) :
    ∃ v1 w1, (Builtin.append_ #[36, 9] 36 #[v, .string y]).run Try.prog W = .ok v1 w1 ∧ Kd.R (Kd.int .u8) 5 w1 base (fun k => ok k ∨ W.heap.size ≤ k) v1 (xs ++ bytesOf y) ∧ W.grownBy w1 v.ownBlock := by
  obtain ⟨i0, hi, hz0, hz1, hz2⟩ := info_parts info5
  have HO0 : W.ownsRow base 5 1 v xs.length (nums .u8 xs) := Kd.own_of_R HO
  obtain ⟨v', w', hr, h2, h3, h4⟩ := run_append_own_string_at (P := Try.prog) W base 36 9 36 5 i0 Try.underlying36 Try.underlying9 hi hz0 hz1 hz2 v xs.length (nums .u8 xs) HO0 y (by simp only [maxLen]; omega) hl hbase
  have hl2 : (xs ++ bytesOf y).length = xs.length + y.size := by rw [List.length_append, bytesOf_length]
  have hc : nums .u8 (xs ++ bytesOf y) = nums .u8 xs ++ Lib.strCells y := by
    rw [nums_append]
    congr 1
    simp [nums, bytesOf, Lib.strCells]
  refine ⟨v', w', hr, Kd.R_of_own (h1 := fun _ => rfl) (enc := Value.int .u8) (by rw [hl2]; rw [← hc] at h2; exact h2) (fun k hk => ?_), h3⟩
  rcases h4 with e1 | ⟨b, e1, hbb⟩
  · exact .inl (HO.1 k (by rw [← e1]; exact hk))
  · rw [e1] at hk
    injection hk with hk
    subst hk
    exact .inr hbb
/-- What stands while an entry is written behind a row: the row, the entry's own block, what is kept. -/
def ES (w0 w wc : World) (P : Nat → Prop) (cs : Array Value) (t : Nat) (s : Value) (xs : List Int) : Prop :=
  (∃ ok : Nat → Prop, (∀ k, ok k → P k ∧ k < w.heap.size ∨ w.heap.size < k) ∧ Kd.R (Kd.int .u8) 5 wc w0.heap.size ok s xs) ∧ wc.heap[w.heap.size]? = some (.cells cs t (0, 0)) ∧ Below w0.heap.size w0 wc ∧ Kept w wc (fun k => P k)
section
variable {w0 w wc : World} {P : Nat → Prop} {cs : Array Value} {t : Nat} {s : Value} {xs : List Int}
theorem ES.mk (hB : Below w0.heap.size w0 w) (ho : Kd.R (Kd.int .u8) 5 w w0.heap.size P s xs) : ES w0 w (w.alloc (.cells cs t)) P cs t s xs :=
  ⟨⟨fun k => P k ∧ k < w.heap.size, fun k hk => .inl hk, Kd.R_below (Kd.R_mono (Kd.R_bound ho) (fun k hk => ⟨hk.1, hk.2.2.1⟩)) (below_alloc (Below.refl _ _) _)⟩, blk_new w _, hB.alloc hB.size _, (Kept.refl _ _).alloc _⟩
theorem ES.drewN (h : ES w0 w wc P cs t s xs) (n : Nat) : ES w0 w (wc.drewN n) P cs t s xs := by
  obtain ⟨⟨ok, h1, h2⟩, h3, h4, h5⟩ := h
  exact ⟨⟨ok, h1, Kd.R_below h2 (pw_below_drewN (Below.refl _ _) _)⟩, blk_drewN h3 _, pw_below_drewN h4 _, h5.drewN _⟩
theorem ES.drew (h : ES w0 w wc P cs t s xs) : ES w0 w wc.drew P cs t s xs := by
  obtain ⟨⟨ok, h1, h2⟩, h3, h4, h5⟩ := h
  exact ⟨⟨ok, h1, Kd.R_below h2 (below_drew1 (Below.refl _ _))⟩, blk_drew h3, below_drew1 h4, h5.drew⟩
theorem ES.put2 (h : ES w0 w wc P cs t s xs) (hl : xs.length ≤ 1000000) (x : Int) : Calls Try.prog 48 #[s, .int .i64 2, .int .u32 x] wc fun e w' => ∃ v', e = .returned v' ∧ ES w0 w w' P cs t v' (xs ++ be2 x) := by
  obtain ⟨⟨ok, h1, h2⟩, h3, h4, h5⟩ := h
  refine (Tk.put2 ok s xs x w0 wc h4 h2 hl).mono ?_
  rintro e w' ⟨v', rfl, ho, hb, hk⟩
  have hs := h5.1
  have hlt := blk_lt h3
  refine ⟨v', rfl, ⟨_, fun k hk => ?_, ho⟩, blk_kept h3 hk (fun h => by rcases h1 _ h with h | h <;> omega), hb, h5.then_ hk (fun k h => (h1 k h).imp (fun h => h.1) (fun h => by omega))⟩
  rcases hk with hk | hk
  · exact h1 k hk
  · exact .inr (by omega)
theorem ES.put4 (h : ES w0 w wc P cs t s xs) (hl : xs.length ≤ 1000000) (x : Int) : Calls Try.prog 48 #[s, .int .i64 4, .int .u32 x] wc fun e w' => ∃ v', e = .returned v' ∧ ES w0 w w' P cs t v' (xs ++ be4 x) := by
  obtain ⟨⟨ok, h1, h2⟩, h3, h4, h5⟩ := h
  refine (Tk.put4 ok s xs x w0 wc h4 h2 hl).mono ?_
  rintro e w' ⟨v', rfl, ho, hb, hk⟩
  have hs := h5.1
  have hlt := blk_lt h3
  refine ⟨v', rfl, ⟨_, fun k hk => ?_, ho⟩, blk_kept h3 hk (fun h => by rcases h1 _ h with h | h <;> omega), hb, h5.then_ hk (fun k h => (h1 k h).imp (fun h => h.1) (fun h => by omega))⟩
  rcases hk with hk | hk
  · exact h1 k hk
  · exact .inr (by omega)
theorem ES.append (h : ES w0 w wc P cs t s xs) (y : ByteArray) (hl : xs.length + y.size ≤ 140737488355328) : ∃ v1 w1, (Builtin.append_ #[36, 9] 36 #[s, .string y]).run Try.prog wc = .ok v1 w1 ∧ ES w0 w w1 P cs t v1 (xs ++ bytesOf y) := by
  obtain ⟨⟨ok, h1, h2⟩, h3, h4, h5⟩ := h
  obtain ⟨v1, w1, hr, ho, hg⟩ := append_run wc w0.heap.size s xs ok y h2 hl h4.size
  have hs := h5.1
  have hlt := blk_lt h3
  have hk : Kept wc w1 (fun k => ok k) := Kept.of_grown hg (Kept.refl _ _) (fun k hk => .inl (h2.1 k hk))
  refine ⟨v1, w1, hr, ⟨_, fun k hk => ?_, ho⟩, blk_kept h3 hk (fun h => by rcases h1 _ h with h | h <;> omega), h4.grown hg h4.size (fun k hk => own_base (Kd.own_of_R h2) k hk), h5.then_ hk (fun k h => (h1 k h).imp (fun h => h.1) (fun h => by omega))⟩
  rcases hk with hk | hk
  · exact h1 k hk
  · exact .inr (by omega)
theorem ES.done (h : ES w0 w wc P cs t s xs) : Kd.R (Kd.int .u8) 5 wc w0.heap.size (fun k => P k ∨ w.heap.size ≤ k) s xs ∧ Below w0.heap.size w0 wc ∧ Kept w wc (fun k => P k) := by
  obtain ⟨⟨ok, h1, h2⟩, h3, h4, h5⟩ := h
  exact ⟨Kd.R_mono h2 (fun k hk => (h1 k hk).imp (fun h => h.1) (fun h => by omega)), h4, h5⟩
end
set_option maxHeartbeats 4000000 in
theorem entry_ok (P : Nat → Prop) (v : Value) (l : List Int) (key : ByteArray) (pg sl : Int) (w0 w : World) (hB : Below w0.heap.size w0 w) (ho : Kd.R (Kd.int .u8) 5 w w0.heap.size P v l) (hl : l.length ≤ 100000) (hk : key.size ≤ 100000) (hsl : 0 ≤ sl ∧ sl < 65536) :
    Calls Try.prog 39 #[v, .agg #[.string key, .int .u32 pg, .int .u16 sl]] w fun e w' => ∃ v' : Value, e = .returned v' ∧ Kd.R (Kd.int .u8) 5 w' w0.heap.size (fun k => P k ∨ w.heap.size ≤ k) v' (l ++ wrE key pg sl) ∧ Below w0.heap.size w0 w' ∧ Kept w w' (fun k => P k) := by
  have HE := Aside0.mk (ES.mk (cs := #[.string key, .int .u32 pg, .int .u16 sl]) (t := 27) hB ho)
  have HL := Aside0.mk (And.intro hl (And.intro hk hsl))
  have huk : IntKind.u32.wrap (key.size : Int) = key.size := by rw [Byt.u32_eq]; omega
  have hus : IntKind.u32.wrap sl = sl := by rw [Byt.u32_eq]; omega
  have HU := Aside0.mk (And.intro huk hus)
  clear hB ho hl hk hsl huk hus
  go_enter Try.func39, Try.ntmps39
  go_wp2
  have hr0 := (blk_cell HE.out.2.1 0).trans rfl
  have hr1 := (blk_cell HE.out.2.1 1).trans rfl
  have hr2 := (blk_cell HE.out.2.1 2).trans rfl
  go_cut [0] (fun s0 wc => Aside0 (ES w0 w wc P #[.string key, .int .u32 pg, .int .u16 sl] 27 s0 (l ++ be2 key.size ++ bytesOf key)))
  case first =>
    go_region_law (first
      | (refine step_run2 rfl (.tmp 10) (.tmp 12) 36 9 rfl (by simp [Act.eval, Act.put]) (by simp [Act.eval, Act.put]) hap ?_)
      | (refine goes_ Try.func48 (by kernel_rfl) rfl #[v, .int .i64 2, .int .u32 (IntKind.u32.wrap (key.size : Int))] rfl rfl rfl (by simp [Act.eval, Act.put]) ?_; (with_reducible refine (HE.out.drew.put2 (by have := HL.out; omega) (IntKind.u32.wrap (key.size : Int))).mono ?_); rintro en w1 ⟨v1, rfl, h1⟩; refine ⟨_, rfl, ?_⟩; rw [HU.out.1] at h1; (obtain ⟨v2, w2, hap, h2⟩ := h1.append key (by have := HL.out; simp [be2]; omega)); have HE1 := Aside0.mk h1; have HE2 := Aside0.mk h2; clear h1 h2; have hs0 := (blk_cell HE1.out.2.1 0).trans rfl; have hs1 := (blk_cell HE1.out.2.1 1).trans rfl; have hs2 := (blk_cell HE1.out.2.1 2).trans rfl))
    all_goals
      go_wp2
      go_meet
      exact HE2
  case rest =>
    clear HE hr0 hr1 hr2
    have HE := hcut
    clear hcut
    have hr0 := (blk_cell HE.out.2.1 0).trans rfl
    have hr1 := (blk_cell HE.out.2.1 1).trans rfl
    have hr2 := (blk_cell HE.out.2.1 2).trans rfl
    go_upto_region 2 with fail
    go_region_law (first
      | (refine goes_ Try.func48 (by kernel_rfl) rfl #[_, .int .i64 4, .int .u32 pg] rfl rfl rfl (by simp [Act.eval, Act.put]; first | rfl | done) ?_; (with_reducible refine (HE.out.drew.put4 (by have := HL.out; simp [be2, bytesOf_length]; omega) pg).mono ?_); rintro en w1 ⟨v1, rfl, h1⟩; refine ⟨_, rfl, ?_⟩; have HE1 := Aside0.mk h1; clear h1; have hs0 := (blk_cell HE1.out.2.1 0).trans rfl; have hs1 := (blk_cell HE1.out.2.1 1).trans rfl; have hs2 := (blk_cell HE1.out.2.1 2).trans rfl)
      | (refine goes_ Try.func48 (by kernel_rfl) rfl #[v1, .int .i64 2, .int .u32 (IntKind.u32.wrap sl)] rfl rfl rfl (by simp [Act.eval, Act.put]) ?_; (with_reducible refine (HE1.out.put2 (by have := HL.out; simp [be2, be4, bytesOf_length]; omega) (IntKind.u32.wrap sl)).mono ?_); rintro en w2 ⟨v2, rfl, h2⟩; refine ⟨_, rfl, ?_⟩; rw [HU.out.2] at h2; have HE2 := Aside0.mk h2; clear h2))
    all_goals
      go_wp2
      go_ret
      have h := HE2.out.done
      refine ⟨_, rfl, ?_, h.2.1, h.2.2⟩
      have h1 := h.1
      simp only [List.append_assoc] at h1
      simp only [wrE, List.append_assoc]
      exact h1
end Go.Proofs.Ytihmkdjambdfjaa.Tk
