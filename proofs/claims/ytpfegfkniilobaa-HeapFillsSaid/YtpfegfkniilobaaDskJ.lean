/- The law's 'same' walked: a disk shows the reference's pages. Conditions: the pages are the disk's, what is taken is the same. -/
import Derived.Test.YtpfegfkniilobaaDskF
import Derived.Test.YtpfegfkniilobaaXHeapx2
import Derived.Test.YtpfegfkniilobaaXHeapx9
import Derived.Deep.RegionHeld
namespace Go.Proofs.Ytpfegfkniilobaa.Dsk
open Go.RowKit Go.Proofs.YtpfegfkniilobaaW.PrintWords Go.Proofs.YtpfegfkniilobaaW.PrintLast Go.Proofs.YtpfegfkniilobaaW.PrintMore Go.Proofs.Ytpfegfkniilobaa.Byt Go.Proofs.Ytpfegfkniilobaa.XHeap
set_option linter.unusedVariables false
set_option linter.unusedSimpArgs false
set_option maxRecDepth 100000
/-- A disk's pages as texts. -/
def pgs (d : List Int) (n : Nat) : List ByteArray := (List.range n).map fun i => strOfNums (pg d i)
theorem pgs_len (d : List Int) (n : Nat) : (pgs d n).length = n := by rw [pgs, List.length_map, List.length_range]
theorem pgs_at (d : List Int) (n : Nat) (i : Int) (h0 : 0 ≤ i) (h1 : i < n) : rdOf ByteArray.empty (pgs d n) i = strOfNums (pg d i.toNat) := by
  rw [rdOf, List.getD_eq_getElem?_getD, pgs, List.getElem?_map, List.getElem?_range (by omega)]
  rfl
theorem take_pg (d : List Int) (i : Nat) : d.take (512 * (i + 1)) = d.take (512 * i) ++ pg d i := by
  rw [pg, show 512 * (i + 1) = 512 * i + 512 by omega, List.take_add]
theorem left_f (t : List Bool) (P : List ByteArray) : ∀ (n : Nat) (i : Nat) (a : Int), i + n = t.length → 0 ≤ a → a + n ≤ 1000000 → t.length ≤ 1000000 → rowlockref06_Disk_Left.l0 (n + 1) a (t.length : Int) (i : Int) P t = some (a + lf (t.drop i))
  | 0, i, a, hi, h0, ha, hl => by
    rw [rowlockref06_Disk_Left.l0, if_neg (by omega), List.drop_of_length_le (by omega), lf]
    simp
  | n + 1, i, a, hi, h0, ha, hl => by
    have hlt : i < t.length := by omega
    have hd := drop_b t (i : Int) (by omega) (by omega)
    rw [show ((i : Int) + 1).toNat = i + 1 by omega, Int.toNat_natCast] at hd
    rw [rowlockref06_Disk_Left.l0, if_pos (by omega), if_pos (by omega), if_pos (by omega), wr_in ((i : Int) + 1) (by omega), wr_in (a + 1) (by omega), hd, lf]
    have e : ((i : Int) + 1) = ((i + 1 : Nat) : Int) := by omega
    cases rdOf false t i
    · rw [if_neg (by decide), e, left_f t P n (i + 1) (a + 1) (by omega) (by omega) (by omega) hl]
      simp
      omega
    · rw [if_pos rfl, e, left_f t P n (i + 1) a (by omega) (by omega) (by omega) hl]
      simp
set_option maxHeartbeats 8000000 in
theorem same_ok {w : World} {ok : Nat → Prop} {g : Nat} {d : List Int} {t : List Bool} (H : Dk w ok g d t) (hy : By d) (A : Option Addr) (c : Nat) (A2 : Option Addr) (c2 : Nat) (hp : Kd.C Kd.string w A (pgs d t.length).length (pgs d t.length)) (hpc : (pgs d t.length).length ≤ c) (ht : Kd.C Kd.bool w A2 t.length t) (htc : t.length ≤ c2) :
    Calls Try.prog 17 #[.pointer (some ⟨g, 0, none⟩), .agg #[.slice A t.length c, .slice A2 t.length c2]] w fun e w' => e = .returned (.bool true) ∧ Below w.heap.size w w' := by
  obtain ⟨P, hP⟩ : ∃ P, P = pgs d t.length := ⟨_, rfl⟩
  have hPl : P.length = t.length := by rw [hP, pgs_len]
  rw [← hP] at hp hpc
  have HH := Aside0.mk H
  have HP := Aside0.mk (And.intro hP (And.intro hp hpc))
  have HT := Aside0.mk (And.intro ht htc)
  have HL := Aside0.mk (And.intro H.2.1 (And.intro H.2.2.1 H.2.2.2.1))
  have HPL := Aside0.mk hPl
  have HY := Aside0.mk hy
  clear hP hp hpc ht htc hy hPl H
  go_enter Try.func17, Try.ntmps17
  go_upto_region 1 with fail
  have HB1 := Aside0.mk (below_alloc (Below.refl w.heap.size w) (.cells #[.slice A t.length c, .slice A2 t.length c2] 32))
  have HX1 := Aside0.mk (blk_new w (.cells #[.slice A t.length c, .slice A2 t.length c2] 32))
  generalize hw1 : w.alloc (.cells #[.slice A t.length c, .slice A2 t.length c2] 32) = w1 at HB1 HX1 ⊢
  clear hw1
  have hx0 := (blk_cell HX1.out 0).trans rfl
  have hx1 := (blk_cell HX1.out 1).trans rfl
  go_region_with (first
      | (go_at_call 46; (first | (with_reducible refine (left_ok (HH.out.below HB2.out)).mono ?_) | (with_reducible refine (left_ok (HH.out.below (below_drew1 HB1.out))).mono ?_)); rintro en w3 ⟨rfl, rfl⟩)
      | (go_at_call 47; (have hx := rowlockref06_Disk_Left.calls (t.length + 1) A c P A2 c2 t (lf t) w1.drew (Kd.C_below HP.out.2.1 (below_drew1 HB1.out)) HP.out.2.2 (Kd.C_below HT.out.1 (below_drew1 HB1.out)) HT.out.2 (by rw [rowlockref06_Disk_Left.f]; exact (left_f t P t.length 0 0 (by omega) (by omega) (by have := HL.out; omega) (by have := HL.out; omega)).trans (by simp))); rw [HPL.out] at hx; (with_reducible refine hx.mono ?_); clear hx; rintro en w2 ⟨rfl, hb⟩; have HB2 := Aside0.mk (below_then (below_drew1 HB1.out) (below_drew1 HB1.out).size hb); have HX2 := Aside0.mk (blk_below (blk_drew HX1.out) hb); clear hb; have hx02 := (blk_cell HX2.out 0).trans rfl; have hx12 := (blk_cell HX2.out 1).trans rfl))
  all_goals
    clear hx0 hx1 HX1 HB1 hx12
    have HX := HX2
    have HB := HB2
    clear HX2 HB2
    go_wp2
    go_loopg [5, 16] t.length (fun kq v5 v26 w' => ∃ (i : Int), v5 = .string (strOfNums (d.take (512 * i.toNat))) ∧ v26 = .int .i64 i ∧ Aside0 (0 ≤ i ∧ (kq : Int) + i = t.length) ∧ Aside0 (w'.heap[w.heap.size]? = some (.cells #[.slice A t.length c, .slice A2 t.length c2] 32 (0, 0))) ∧ Aside0 (Below w.heap.size w w'))
    case atStart => exact ⟨0, rfl, rfl, ⟨by omega⟩, HX, HB⟩
    case round =>
      clear HX HB hx02
      obtain ⟨i, rfl, rfl, HI, HX, HB⟩ := hrel
      by_cases c5 : i < (t.length : Int)
      · have c5b : decide (i < (t.length : Int)) = true := decide_eq_true c5
        obtain ⟨ad, e1, hx0⟩ := Kd.at_string HP.out.2.1 i HI.out.1 (by rw [HPL.out]; exact c5)
        subst e1
        rw [HP.out.1, pgs_at d t.length i HI.out.1 c5] at hx0
        replace hx0 := (HB.out.cell (World.block_lt_of_cell? w _ hx0)).trans hx0
        have p9 : (0 ≤ i) = True := eq_true HI.out.1
        have q9 : (i < (t.length : Int)) = True := eq_true c5
        have hadd : (9223372036854775807 < (strOfNums (d.take (512 * i.toNat))).size + (strOfNums (pg d i.toNat)).size) = False := eq_false (by rw [str_size, str_size, pg, List.length_take, List.length_take, List.length_drop]; have := HL.out; omega)
        have hjoin := take_pg d i.toNat
        have hstr := str_append (d.take (512 * i.toNat)) (pg d i.toNat)
        rw [← hjoin, show i.toNat + 1 = (i + 1).toNat by have := HI.out.1; omega] at hstr
        have HS := Aside0.mk hstr
        have HC5 := Aside0.mk c5
        clear c5 hjoin hstr
        go_wp2
        go_roundg (gk - 1)
        case measure => have h1 := HI.out; have h2 := HC5.out; omega
        case rel =>
          have h1 := HI.out
          have h2 := HC5.out
          have h3 := HL.out
          exact ⟨i + 1, by rw [HS.out], by first | rfl | rw [wr_in (i + 1) (by omega)], ⟨by omega⟩, HX, HB⟩
      · have c5b : decide (i < (t.length : Int)) = false := decide_eq_false c5
        have hi : i = t.length := by have := HI.out; omega
        have hall : d.take (512 * i.toNat) = d := List.take_of_length_le (by have := HL.out.1; omega)
        rw [hall]
        clear c5 hall
        go_wp2_with (go_at_call 48; (with_reducible refine (image_ok (HH.out.below HB.out)).mono ?_); rintro en w3 ⟨v, rfl, ho, hb⟩; have hcv := own_string (P := Try.prog) Try.underlying52 Try.underlying5 Try.underlying9 (Kd.own_of_R ho); have HB3 := Aside0.mk (below_then HB.out HB.out.size hb); clear ho hb)
        go_ret
        exact ⟨rfl, HB3.out⟩
end Go.Proofs.Ytpfegfkniilobaa.Dsk
namespace Go.Proofs.Ytpfegfkniilobaa.Dsk
open Go.RowKit Go.Proofs.YtpfegfkniilobaaW.PrintWords Go.Proofs.YtpfegfkniilobaaW.PrintLast Go.Proofs.YtpfegfkniilobaaW.PrintMore Go.Proofs.Ytpfegfkniilobaa.Byt Go.Proofs.Ytpfegfkniilobaa.XHeap
set_option linter.unusedVariables false
set_option linter.unusedSimpArgs false
theorem bytes_str {l : List Int} (h : By l) : bytesOf (strOfNums l) = l := by
  refine List.ext_getElem? fun j => ?_
  by_cases hj : j < l.length
  · have hb : j < (bytesOf (strOfNums l)).length := by rw [bytesOf_length, str_size]; exact hj
    have e := rd_bytesOf (strOfNums l) (j : Int)
    rw [str_bt h] at e
    rw [rd, rd, List.getD_eq_getElem?_getD, List.getD_eq_getElem?_getD, Int.toNat_natCast, List.getElem?_eq_getElem hj, List.getElem?_eq_getElem hb] at e
    rw [List.getElem?_eq_getElem hj, List.getElem?_eq_getElem hb]
    exact congrArg some e
  · rw [List.getElem?_eq_none (by rw [bytesOf_length, str_size]; omega), List.getElem?_eq_none (by omega)]
theorem one_C (W : World) (x : Int) : Kd.C (Kd.int .u8) (W.alloc (.cells #[.int .u8 x] 5)) (some ⟨W.heap.size, 0, none⟩) 1 [x] := by
  have ho := World.ownsRow_lit (base := 0) (e := 5) (size := 1) W #[.int .u8 x] 1 (by omega) (by unfold maxLen; omega) rfl
  exact (Kd.R_reads' (Kd.R_of_own (enc := Value.int .u8) (h1 := fun _ => rfl) (xs := [x]) (ok := fun _ => True) ho (fun _ _ => trivial))).2.2
/-- 'clear' of what '[]byte(s)' made. -/
theorem clear_conv (W0 W : World) (s : ByteArray) (ty : TypeId) (hk : W.heap[W0.heap.size]? = (Lib.bytesWorld W0 5 s).heap[W0.heap.size]?) (n c : Nat) (hn : s.size = n) :
    ∃ w1, (Builtin.clear_ #[52] ty #[.slice (some ⟨W0.heap.size, 0, none⟩) n c]).run Try.prog W = .ok (.tuple #[]) w1 ∧ W.grownBy w1 (some W0.heap.size) := by
  subst hn
  by_cases hp : 0 < s.size
  · refine ⟨_, Go.Lib.run_clear_slice W 52 5 ty (.int .u8 0) Try.underlying52 (fun w => by obtain ⟨i0, hi0, hz, _⟩ := info_parts info5; simp [zeroValue, typeInfo, hi0, hz]) rfl rfl W0.heap.size 0 s.size c hp ?_ ?_, ?_⟩
    · intro j hj
      have h := Lib.bytesWorld_cell W0 5 s j hj
      rw [Nat.zero_add, World.cell?_of_block (w := Lib.bytesWorld W0 5 s) hk, h]
      rfl
    · intro j hj
      rw [Nat.zero_add, World.frozen?_of_block (w := Lib.bytesWorld W0 5 s) hk]
      simp [World.frozen?, Lib.bytesWorld_at_new, Lib.bytesCells]
      omega
    · have hs := setCells_same W0.heap.size (List.replicate s.size (.int .u8 0)) 0 W
      exact ⟨hs.1, hs.2.1, hs.2.2.1, Nat.le_of_eq hs.2.2.2.symm, fun k _ hk => setCells_far _ _ k (fun e => hk (by rw [e]))⟩
  · have h0 : s.size = 0 := by omega
    rw [h0]
    exact ⟨W, by simp [Builtin.clear_, run_underlying Try.underlying52], World.grownBy.refl W _⟩
theorem pgs_succ (d : List Int) (n : Nat) : pgs d (n + 1) = pgs d n ++ [strOfNums (pg d n)] := by
  rw [pgs, pgs, List.range_succ, List.map_append, List.map_singleton]
theorem lts_succ (d : List Int) (n : Nat) : (List.range (n + 1)).map (lt d) = (List.range n).map (lt d) ++ [lt d n] := by
  rw [List.range_succ, List.map_append, List.map_singleton]
theorem ext_pg (xs : List Int) (i : Nat) : (strOfNums xs).extract (512 * i) (512 * i + 512) = strOfNums (pg xs i) := by
  rw [str_extract, pg, List.drop_take]
  congr 2
  omega
theorem refload_l (xs : List Int) (hy : By xs) (n : Nat) (hn : xs.length = 512 * n) (h4 : n ≤ 4096) : ∀ (m i : Nat), i + m = n → rowlockref06_Load.l0 (m + 1) (strOfNums xs) (n : Int) (i : Int) (pgs xs i) ((List.range i).map (lt xs)) = some (pgs xs n, (List.range n).map (lt xs), true)
  | 0, i, hi => by
    obtain rfl : i = n := by omega
    rw [rowlockref06_Load.l0, if_neg (by omega)]
  | m + 1, i, hi => by
    have w1 : wrap64 (512 * (i : Int)) = 512 * i := w64_in _ (by omega)
    have w2 : wrap64 (512 * (i : Int) + 512) = 512 * i + 512 := w64_in _ (by omega)
    have w3 : wrap64 ((i : Int) + 1) = ((i + 1 : Nat) : Int) := by rw [w64_in _ (by omega)]; omega
    have e1 : (512 * (i : Int)).toNat = 512 * i := by omega
    have e2 : (512 * (i : Int) + 512).toNat = 512 * i + 512 := by omega
    have hpl : (pg xs i).length = 512 := by rw [pg, List.length_take, List.length_drop]; omega
    have hpy : By (pg xs i) := (hy.drop _).take _
    have ih := refload_l xs hy n hn h4 m (i + 1) (by omega)
    rw [pgs_succ, lts_succ] at ih
    rw [rowlockref06_Load.l0, if_pos (by omega), w1, w2, e1, e2, ext_pg, if_pos (by omega), if_pos (by omega), if_pos (by rw [str_size]; omega), if_pos (by rw [pgs_len]; omega), Option.bind_some, w3]
    by_cases h0 : i = 0
    · rw [if_pos (by omega), if_pos (by rw [List.length_map, List.length_range]; omega)]
      rw [show lt xs i = true by simp [lt, h0]] at ih
      exact ih
    · rw [if_neg (by omega), if_pos (by rw [str_size, hpl]; omega), if_pos (by rw [List.length_map, List.length_range]; omega), str_bt hpy]
      have hr : rd (pg xs i) 0 = rd xs ((i : Int) * 512) := by
        rw [pg, rd, rd, List.getD_eq_getElem?_getD, List.getD_eq_getElem?_getD, List.getElem?_take, List.getElem?_drop]
        simp
        congr 2
        omega
      rw [hr]
      rw [show lt xs i = (rd xs ((i : Int) * 512) != 0) by rw [lt, decide_eq_false h0]; rfl] at ih
      exact ih
theorem refload_ok (xs : List Int) (hy : By xs) (h : 1 ≤ xs.length / 512 ∧ xs.length / 512 ≤ 4096 ∧ xs.length % 512 = 0) : rowlockref06_Load.f 4100 (strOfNums xs) = some (pgs xs (xs.length / 512), ld xs, true) := by
  obtain ⟨n, hn⟩ : ∃ n, n = xs.length / 512 := ⟨_, rfl⟩
  have hl : xs.length = 512 * n := by omega
  have w0 : wrap64 ((xs.length : Int) / 512) = (n : Int) := by rw [w64_in _ (by omega)]; omega
  rw [rowlockref06_Load.f, str_size, if_pos (by omega), w0, if_neg (by omega), show decide ((n : Int) > 4096) = false from decide_eq_false (by omega), rowlockref06_Load.j0, if_neg (by decide), ld, ← hn]
  have h0 := refload_l xs hy n hl (by omega) n 0 (by omega)
  have hm : ∀ m, rowlockref06_Load.l0 (n + 1 + m) (strOfNums xs) (n : Int) 0 [] [] = some (pgs xs n, (List.range n).map (lt xs), true) := by
    intro m
    induction m with
    | zero => exact h0
    | succ m ih => exact (rowlockref06_Load.mono_l _).2 _ _ _ _ _ _ ih
  have e : 4099 = n + 1 + (4098 - n) := by omega
  rw [e]
  exact hm _
theorem refload_bad (xs : List Int) (hl : xs.length ≤ 1000000) (h : ¬ (1 ≤ xs.length / 512 ∧ xs.length / 512 ≤ 4096 ∧ xs.length % 512 = 0)) : rowlockref06_Load.f 4100 (strOfNums xs) = some ([], [], false) := by
  have w0 : wrap64 ((xs.length : Int) / 512) = (xs.length : Int) / 512 := w64_in _ (by omega)
  rw [rowlockref06_Load.f, str_size, w0]
  by_cases h1 : (xs.length : Int) % 512 = 0
  · rw [if_pos h1]
    by_cases h2 : (xs.length : Int) / 512 = 0
    · rw [if_pos h2, rowlockref06_Load.j0, if_pos rfl]
    · rw [if_neg h2, show decide ((xs.length : Int) / 512 > 4096) = true from decide_eq_true (by omega), rowlockref06_Load.j0, if_pos rfl]
  · rw [if_neg h1, rowlockref06_Load.j0, if_pos rfl]
end Go.Proofs.Ytpfegfkniilobaa.Dsk
namespace Go.Proofs.Ytpfegfkniilobaa.Dsk
open Go.RowKit Go.Proofs.YtpfegfkniilobaaW.PrintWords Go.Proofs.YtpfegfkniilobaaW.PrintLast Go.Proofs.YtpfegfkniilobaaW.PrintMore Go.Proofs.Ytpfegfkniilobaa.Byt Go.Proofs.Ytpfegfkniilobaa.XHeap
set_option linter.unusedVariables false
set_option linter.unusedSimpArgs false
theorem refnew_ok (n : Nat) (h : 1 ≤ n ∧ n ≤ 4096) : rowlockref06_New.f 4101 (n : Int) = some (pgs (List.replicate (n * 512) 0) n, ld (List.replicate (n * 512) 0), true) := by
  have hd := zeros_div n h.1 h.2
  have hdl : (List.replicate (n * 512) (0 : Int)).length / 512 = n := by rw [List.length_replicate]; omega
  have w1 : wrap64 (512 * (n : Int)) = ((n * 512 : Nat) : Int) := by rw [w64_in _ (by omega)]; omega
  rw [rowlockref06_New.f, if_neg (by omega), show decide ((n : Int) > 4096) = false from decide_eq_false (by omega), rowlockref06_New.j0, if_neg (by decide), w1, rowlockref06_zeros.f, if_pos (by omega), if_pos (by omega), Option.bind_some, Int.toNat_natCast, refload_ok _ (By.zeros _) hd, hdl]
  rfl
theorem refnew_bad (p : Int) (h : ¬ (1 ≤ p ∧ p ≤ 4096)) : rowlockref06_New.f 4101 p = some ([], [], false) := by
  rw [rowlockref06_New.f]
  by_cases h1 : p < 1
  · rw [if_pos h1, rowlockref06_New.j0, if_pos rfl]
  · rw [if_neg h1, show decide (p > 4096) = true from decide_eq_true (by omega), rowlockref06_New.j0, if_pos rfl]
theorem reftake_f (P : List ByteArray) (t : List Bool) (i : Int) (hl : t.length ≤ 4096) (h0 : 0 ≤ i) (h1 : i < t.length) : rowlockref06_Disk_take.f P t i = some (P, t.set i.toNat true) := by
  rw [rowlockref06_Disk_take.f, Option.bind_some, if_pos (by rw [List.length_nil]; omega), Option.bind_some, List.nil_append, if_pos h0, if_pos h1]
theorem refwrite_out (P : List ByteArray) (t : List Bool) (p : Int) (s : ByteArray) (h0 : 0 ≤ p) (hp : p < 4294967296) (h : (P.length : Int) ≤ p) : rowlockref06_Disk_Write.f P t p s = some (8, P, t) := by
  rw [rowlockref06_Disk_Write.f, w64_in p (by omega), if_pos h]
theorem refwrite_bad (P : List ByteArray) (t : List Bool) (p : Int) (s : ByteArray) (h0 : 0 ≤ p) (hp : p < 4294967296) (h : p < P.length) (hs : s.size ≠ 512) : rowlockref06_Disk_Write.f P t p s = some (1, P, t) := by
  rw [rowlockref06_Disk_Write.f, w64_in p (by omega), if_neg (by omega), if_neg (by omega)]
theorem refwrite_ok (P : List ByteArray) (t : List Bool) (p : Int) (s : ByteArray) (h0 : 0 ≤ p) (hp : p < 4294967296) (h : p < P.length) (hs : s.size = 512) (hl : t.length ≤ 4096) (ht : P.length = t.length) : rowlockref06_Disk_Write.f P t p s = some (0, P.set p.toNat s, t.set p.toNat true) := by
  rw [rowlockref06_Disk_Write.f, w64_in p (by omega), if_neg (by omega), if_pos (by omega), Option.bind_some, if_pos (by rw [List.length_nil]; omega), Option.bind_some, List.nil_append, if_pos h0, if_pos h, reftake_f _ _ _ hl h0 (by omega)]
  rfl
theorem reftk (P : List ByteArray) (t : List Bool) (hl : t.length ≤ 4096) : ∀ (n : Nat) (i : Nat), i + n = t.length → rowlockref06_Disk_Take.l0 (n + 1) (t.length : Int) (i : Int) P t = some (if ix (t.drop i) i = -1 then (0, 7, P, t) else (ix (t.drop i) i, 0, P, t.set (ix (t.drop i) i).toNat true))
  | 0, i, hi => by
    rw [rowlockref06_Disk_Take.l0, if_neg (by omega), List.drop_of_length_le (by omega), ix, if_pos rfl]
  | n + 1, i, hi => by
    have hlt : i < t.length := by omega
    have hd := drop_b t (i : Int) (by omega) (by omega)
    rw [show ((i : Int) + 1).toNat = i + 1 by omega, Int.toNat_natCast] at hd
    rw [rowlockref06_Disk_Take.l0, if_pos (by omega), if_pos (by omega), if_pos (by omega), hd]
    have e : wrap64 ((i : Int) + 1) = ((i + 1 : Nat) : Int) := by rw [w64_in _ (by omega)]; omega
    cases rdOf false t i
    · rw [if_neg (by decide), reftake_f _ _ _ hl (by omega) (by omega), Option.bind_some]
      have hx : ix (false :: t.drop (i + 1)) (i : Int) = i := by simp [ix]
      rw [hx, if_neg (by omega), show (i : Int) % 4294967296 = i by omega]
    · rw [if_pos rfl, e, reftk P t hl n (i + 1) (by omega), ix, if_pos rfl]
      rfl
theorem reftake_ok (P : List ByteArray) (t : List Bool) (hl : t.length ≤ 4096) : rowlockref06_Disk_Take.f (t.length + 1) P t = some (if ix t 0 = -1 then (0, 7, P, t) else (ix t 0, 0, P, t.set (ix t 0).toNat true)) := by
  rw [rowlockref06_Disk_Take.f]
  exact reftk P t hl t.length 0 (by omega)
theorem pg_splice (d bs : List Int) (p i n : Nat) (hd : d.length = 512 * n) (hp : p < n) (hi : i < n) (hb : bs.length = 512) : pg (splice d (512 * p) bs) i = if i = p then bs else pg d i := by
  have hl : (splice d (512 * p) bs).length = d.length := length_splice _ _ _ (by omega)
  refine List.ext_getElem? fun j => ?_
  rw [pg, List.getElem?_take, List.getElem?_drop]
  by_cases e : i = p
  · subst e
    rw [if_pos rfl]
    by_cases hj : j < 512
    · rw [if_pos hj, splice, List.getElem?_append, List.length_take, if_neg (by omega), List.getElem?_append, if_pos (by omega)]
      congr 1
      omega
    · rw [if_neg hj, List.getElem?_eq_none (by omega)]
  · rw [if_neg e, pg, List.getElem?_take, List.getElem?_drop]
    by_cases hj : j < 512
    · rw [if_pos hj, if_pos hj, splice, List.getElem?_append, List.length_take]
      by_cases h1 : 512 * i + j < 512 * p
      · rw [if_pos (by omega), List.getElem?_take, if_pos h1]
      · rw [if_neg (by omega), List.getElem?_append, if_neg (by omega), List.getElem?_drop]
        congr 1
        omega
    · rw [if_neg hj, if_neg hj]
theorem pgs_splice (d bs : List Int) (p n : Nat) (hd : d.length = 512 * n) (hp : p < n) (hb : bs.length = 512) : pgs (splice d (512 * p) bs) n = (pgs d n).set p (strOfNums bs) := by
  refine List.ext_getElem? fun j => ?_
  rw [List.getElem?_set, pgs_len]
  by_cases hj : j < n
  · rw [pgs, List.getElem?_map, List.getElem?_range hj]
    show some (strOfNums (pg (splice d (512 * p) bs) j)) = _
    rw [pg_splice d bs p j n hd hp hj hb]
    by_cases e : j = p
    · rw [if_pos e, if_pos e.symm, if_pos (by omega)]
    · rw [if_neg e, if_neg (fun h => e h.symm), pgs, List.getElem?_map, List.getElem?_range hj]
      rfl
  · rw [List.getElem?_eq_none (by rw [pgs_len]; omega), if_neg (by omega), List.getElem?_eq_none (by rw [pgs_len]; omega)]
/-- 'clear' of a cut of a row of one's own. -/
theorem clear_cut {W : World} {g o n c : Nat} {xs : List Int} {cells : Array Value} (hb : W.heap[g]? = some (.cells cells 5 (0, 0))) (hC : Kd.C (Kd.int .u8) W (some ⟨g, o, none⟩) n xs) (ty : TypeId) :
    ∃ w1, (Builtin.clear_ #[52] ty #[.slice (some ⟨g, o, none⟩) n c]).run Try.prog W = .ok (.tuple #[]) w1 ∧ W.grownBy w1 (some g) := by
  by_cases hp : 0 < n
  · refine ⟨_, Go.Lib.run_clear_slice W 52 5 ty (.int .u8 0) Try.underlying52 (fun w => by obtain ⟨i0, hi0, hz, _⟩ := info_parts info5; simp [zeroValue, typeInfo, hi0, hz]) rfl rfl g o n c hp ?_ (fun j _ => blk_frozen hb _), ?_⟩
    · intro j hj
      obtain ⟨ad, he, hx⟩ := Kd.at_int hC (j : Int) (by omega) (by omega)
      injection he with he
      subst he
      have e : (Addr.add ⟨g, o, none⟩ ((j : Nat) : Int).toNat) = ⟨g, o + j, none⟩ := by
        simp only [Int.toNat_natCast, Addr.add]
        split <;> simp_all
      rw [e] at hx
      rw [hx]
      rfl
    · have hs := setCells_same g (List.replicate n (.int .u8 0)) o W
      exact ⟨hs.1, hs.2.1, hs.2.2.1, Nat.le_of_eq hs.2.2.2.symm, fun k _ hk => setCells_far _ _ k (fun e => hk (by rw [e]))⟩
  · have h0 : n = 0 := by omega
    rw [h0]
    exact ⟨W, by simp [Builtin.clear_, run_underlying Try.underlying52], World.grownBy.refl W _⟩
end Go.Proofs.Ytpfegfkniilobaa.Dsk
namespace Go.Proofs.Ytpfegfkniilobaa.Dsk
open Go.RowKit Go.Proofs.YtpfegfkniilobaaW.PrintWords Go.Proofs.YtpfegfkniilobaaW.PrintLast Go.Proofs.YtpfegfkniilobaaW.PrintMore Go.Proofs.Ytpfegfkniilobaa.Byt Go.Proofs.Ytpfegfkniilobaa.XHeap
set_option linter.unusedVariables false
set_option linter.unusedSimpArgs false
set_option maxRecDepth 100000
/-- What a take gives, and what is taken behind it. -/
def tkF (t : List Bool) : Int × Int × List Bool := if ix t 0 = -1 then (0, 7, t) else (ix t 0, 0, t.set (ix t 0).toNat true)
theorem tkF_len (t : List Bool) : (tkF t).2.2.length = t.length := by
  unfold tkF
  split
  · rfl
  · exact List.length_set ..
theorem take_any {w : World} {g : Nat} {d : List Int} {t : List Bool} {ok : Nat → Prop} (H : Dk w ok g d t) : Calls Try.prog 80 #[.pointer (some ⟨g, 0, none⟩)] w fun e w' => e = .returned (.tuple #[.int .u32 (tkF t).1, .int .i64 (tkF t).2.1]) ∧ Dk w' ok g d (tkF t).2.2 ∧ Kept w w' ok ∧ ∀ B, (∀ k, ok k → B ≤ k) → Below B w w' := by
  unfold tkF
  by_cases hx : ix t 0 = -1
  · rw [if_pos hx]
    refine (take_full H hx).mono ?_
    rintro e w' ⟨rfl, rfl⟩
    exact ⟨rfl, H, Kept.refl _ _, fun _ _ => Below.refl _ _⟩
  · rw [if_neg hx]
    exact take_some H hx
theorem reftake_any (P : List ByteArray) (t : List Bool) (hl : t.length ≤ 4096) : rowlockref06_Disk_Take.f (t.length + 1) P t = some ((tkF t).1, (tkF t).2.1, P, (tkF t).2.2) := by
  rw [reftake_ok P t hl]
  unfold tkF
  split <;> rfl
/-- What a write leaves, whatever is written. -/
def wrG (d : List Int) (t : List Bool) (p : Int) (bs : List Int) : List Int × List Bool × Int := if p < t.length then (if bs.length = 512 then (splice d (512 * p.toNat) bs, t.set p.toNat true, 0) else (d, t, 1)) else (d, t, 8)
theorem wrG_len (d : List Int) (t : List Bool) (p : Int) (bs : List Int) : (wrG d t p bs).2.1.length = t.length := by
  unfold wrG
  split
  · split
    · exact List.length_set ..
    · rfl
  · rfl
theorem wrG_by {d bs : List Int} (t : List Bool) (p : Int) (h : By d) (k : By bs) : By (wrG d t p bs).1 := by
  unfold wrG
  split
  · split
    · exact By.splice h k _
    · exact h
  · exact h
theorem write_all {w : World} {ok : Nat → Prop} {g : Nat} {d : List Int} {t : List Bool} (h : Dk w ok g d t) (p : Int) (A : Option Addr) (n c : Nat) (bs : List Int) (h0 : 0 ≤ p) (hp : p < 4294967296) (hn : bs.length = n) (hC : Kd.C (Kd.int .u8) w A n bs) : Calls Try.prog 42 #[.pointer (some ⟨g, 0, none⟩), .int .u32 p, .slice A n c] w fun e w' => e = .returned (.int .i64 (wrG d t p bs).2.2) ∧ Dk w' ok g (wrG d t p bs).1 (wrG d t p bs).2.1 ∧ Kept w w' ok ∧ ∀ B, (∀ k, ok k → B ≤ k) → Below B w w' := by
  unfold wrG
  by_cases hx : p < t.length
  · rw [if_pos hx]
    by_cases hb : bs.length = 512
    · rw [if_pos hb]
      obtain rfl : n = 512 := by omega
      exact write_ok h p A c bs h0 hx hb hC
    · rw [if_neg hb]
      refine (write_bad h p A n c h0 hx (by omega)).mono ?_
      rintro e w' ⟨rfl, rfl⟩
      exact ⟨rfl, h, Kept.refl _ _, fun _ _ => Below.refl _ _⟩
  · rw [if_neg hx]
    refine (write_out h p _ h0 (by omega) hp).mono ?_
    rintro e w' ⟨rfl, rfl⟩
    exact ⟨rfl, h, Kept.refl _ _, fun _ _ => Below.refl _ _⟩
theorem refwrite_all (d : List Int) (t : List Bool) (p : Int) (bs : List Int) (h0 : 0 ≤ p) (hp : p < 4294967296) (hd : d.length = 512 * t.length) (hl : t.length ≤ 4096) : rowlockref06_Disk_Write.f (pgs d t.length) t p (strOfNums bs) = some ((wrG d t p bs).2.2, pgs (wrG d t p bs).1 t.length, (wrG d t p bs).2.1) := by
  unfold wrG
  by_cases hx : p < t.length
  · rw [if_pos hx]
    by_cases hb : bs.length = 512
    · rw [if_pos hb, refwrite_ok _ _ _ _ h0 hp (by rw [pgs_len]; exact hx) (by rw [str_size]; exact hb) hl (pgs_len _ _), pgs_splice _ _ _ _ hd (by omega) hb]
    · rw [if_neg hb, refwrite_bad _ _ _ _ h0 hp (by rw [pgs_len]; exact hx) (by rw [str_size]; exact hb)]
  · rw [if_neg hx, refwrite_out _ _ _ _ h0 hp (by rw [pgs_len]; omega)]
/-- A disk, the reference's beside it (its box: gm), all since w. -/
structure Inv (w W : World) (D E : Nat → Prop) (g gm n : Nat) (v0 v1 : Value) (d : List Int) (t : List Bool) : Prop where
  dk : Dk W D g d t
  len : t.length = n
  by_ : By d
  box : W.heap[gm]? = some (.cells #[v0, v1] 32 (0, 0))
  pages : Kd.R Kd.string 9 W w.heap.size E v0 (pgs d n)
  taken : Kd.R Kd.bool 4 W w.heap.size E v1 t
  apart : ∀ k, D k → w.heap.size ≤ k ∧ k < W.heap.size ∧ ¬ E k
  new : ∀ k, E k → k < W.heap.size
  gm : w.heap.size ≤ gm ∧ ¬ D gm ∧ ¬ E gm
  below : Below w.heap.size w W
theorem Inv.on {w W W2 : World} {D E : Nat → Prop} {g gm n : Nat} {v0 v1 : Value} {d : List Int} {t : List Bool} (h : Inv w W D E g gm n v0 v1 d t) (hb : Below W.heap.size W W2) : Inv w W2 D E g gm n v0 v1 d t :=
  ⟨h.dk.below hb, h.len, h.by_, blk_below h.box hb, Kd.R_below h.pages hb, Kd.R_below h.taken hb, fun k hk => ⟨(h.apart k hk).1, Nat.lt_of_lt_of_le (h.apart k hk).2.1 hb.size, (h.apart k hk).2.2⟩, fun k hk => Nat.lt_of_lt_of_le (h.new k hk) hb.size, h.gm, below_then h.below h.below.size hb⟩
/-- The disk alone was written. -/
theorem Inv.disk {w W W2 : World} {D E : Nat → Prop} {g gm n : Nat} {v0 v1 : Value} {d : List Int} {t : List Bool} (h : Inv w W D E g gm n v0 v1 d t) (hk : Kept W W2 D) (hb : ∀ B, (∀ k, D k → B ≤ k) → Below B W W2) : W2.heap[gm]? = some (.cells #[v0, v1] 32 (0, 0)) ∧ Kd.R Kd.string 9 W2 w.heap.size E v0 (pgs d n) ∧ Kd.R Kd.bool 4 W2 w.heap.size E v1 t ∧ Below w.heap.size w W2 :=
  ⟨blk_kept h.box hk h.gm.2.1, Kd.R_kept h.pages hk (fun k hE hD => (h.apart k hD).2.2 hE), Kd.R_kept h.taken hk (fun k hE hD => (h.apart k hD).2.2 hE), h.below.trans (hb _ (fun k hD => (h.apart k hD).1))⟩
/-- Both were written: W2 behind the disk's call, W3 behind the reference's. -/
theorem Inv.both {w W W2 W3 W4 : World} {D E : Nat → Prop} {g gm n : Nat} {v0 v1 u0 u1 : Value} {d d' : List Int} {t t' : List Bool} (h : Inv w W D E g gm n v0 v1 d t) (hk : Kept W W2 D) (hd : Dk W2 D g d' t') (hl : t'.length = n) (hy : By d')
    (hk3 : Kept W2 W3 (fun k => E k ∨ E k)) (hp : Kd.R Kd.string 9 W3 w.heap.size (fun k => (E k ∨ E k) ∨ W2.heap.size ≤ k) u0 (pgs d' n)) (ht : Kd.R Kd.bool 4 W3 w.heap.size (fun k => (E k ∨ E k) ∨ W2.heap.size ≤ k) u1 t')
    (hs : W3.heap.size ≤ W4.heap.size) (h4 : ∀ k, k < W3.heap.size → k ≠ gm → (k < W.heap.size ∨ W2.heap.size ≤ k) → W4.heap[k]? = W3.heap[k]?) (hx : W4.heap[gm]? = some (.cells #[u0, u1] 32 (0, 0))) (hb : Below w.heap.size w W4) :
    Inv w W4 D (fun k => ((E k ∨ E k) ∨ W2.heap.size ≤ k) ∧ k < W3.heap.size) g gm n u0 u1 d' t' := by
  have hgl := blk_lt h.box
  refine ⟨hd.step (fun k hD hlt => ?_), hl, hy, hx, ?_, ?_, fun k hD => ?_, fun k hE => Nat.lt_of_lt_of_le hE.2 hs, ?_, hb⟩
  · have ha := h.apart k hD
    exact (h4 k (Nat.lt_of_lt_of_le hlt hk3.1) (fun e => h.gm.2.1 (e ▸ hD)) (.inl ha.2.1)).trans (hk3.2 k hlt (fun hE => ha.2.2 (hE.elim id id)))
  · refine Kd.R_step (Kd.R_mono (Kd.R_bound hp) (fun k hk => ⟨hk.1, hk.2.2.1⟩)) (fun k hE hlt => h4 k hlt ?_ ?_)
    · intro e
      rcases hE.1 with hE | hE
      · exact h.gm.2.2 (e ▸ hE.elim id id)
      · have := hk.1; omega
    · rcases hE.1 with hE | hE
      · exact .inl (h.new k (hE.elim id id))
      · exact .inr hE
  · refine Kd.R_step (Kd.R_mono (Kd.R_bound ht) (fun k hk => ⟨hk.1, hk.2.2.1⟩)) (fun k hE hlt => h4 k hlt ?_ ?_)
    · intro e
      rcases hE.1 with hE | hE
      · exact h.gm.2.2 (e ▸ hE.elim id id)
      · have := hk.1; omega
    · rcases hE.1 with hE | hE
      · exact .inl (h.new k (hE.elim id id))
      · exact .inr hE
  · have ha := h.apart k hD
    refine ⟨ha.1, ?_, fun hE => ?_⟩
    · have := hk.1; have := hk3.1; omega
    · rcases hE.1 with hE | hE
      · exact ha.2.2 (hE.elim id id)
      · have := hk.1; omega
  · refine ⟨h.gm.1, h.gm.2.1, fun hE => ?_⟩
    rcases hE.1 with hE | hE
    · exact h.gm.2.2 (hE.elim id id)
    · have := hk.1; omega
/-- A copy goes on: W1 behind the copy, W2 behind the old one's last calls. -/
theorem Inv.copy {w W W1 W2 : World} {D E : Nat → Prop} {g g' gm n : Nat} {v0 v1 : Value} {d : List Int} {t : List Bool} (h : Inv w W D E g gm n v0 v1 d t) (hd : Dk W1 (fun k => W.heap.size ≤ k) g' d t) (hb1 : Below W.heap.size W W1)
    (hk : ∀ k, k < W1.heap.size → ¬ D k → W2.heap[k]? = W1.heap[k]?) (hs : W1.heap.size ≤ W2.heap.size) (hb : Below w.heap.size w W2) : Inv w W2 (fun k => W.heap.size ≤ k ∧ k < W1.heap.size) E g' gm n v0 v1 d t := by
  have hgl := blk_lt h.box
  have h1 := h.on hb1
  refine ⟨hd.bound.step (fun k hD hlt => hk k hlt (fun hD' => ?_)), h.len, h.by_, (hk gm (Nat.lt_of_lt_of_le hgl hb1.size) h.gm.2.1).trans h1.box, Kd.R_step h1.pages (fun k hE hlt => hk k hlt (fun hD' => (h.apart k hD').2.2 hE)), Kd.R_step h1.taken (fun k hE hlt => hk k hlt (fun hD' => (h.apart k hD').2.2 hE)), fun k hD => ⟨Nat.le_trans h.below.size hD.1, Nat.lt_of_lt_of_le hD.2 hs, fun hE => ?_⟩, fun k hE => Nat.lt_of_lt_of_le (h1.new k hE) hs, ⟨h.gm.1, fun hD => ?_, h.gm.2.2⟩, hb⟩
  · have := (h.apart k hD').2.1; have := hD.1; omega
  · have := h.new k hE; have := hD.1; omega
  · have := hD.1; omega
end Go.Proofs.Ytpfegfkniilobaa.Dsk
