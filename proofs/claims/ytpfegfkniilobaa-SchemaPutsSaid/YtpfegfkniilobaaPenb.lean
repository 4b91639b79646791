/- A book's pen: counts, texts, numbers written behind bytes. Conditions: the pen's block is known; the bytes have room. -/
import Derived.Test.YtpfegfkniilobaaXSchemax0
import Derived.Test.YtpfegfkniilobaaPureSchC
namespace Go.Proofs.Ytpfegfkniilobaa.Pn
open Go.RowKit Go.Proofs.YtpfegfkniilobaaW.PrintWords Go.Proofs.YtpfegfkniilobaaW.PrintLast Go.Proofs.YtpfegfkniilobaaW.PrintMore
open Go.Proofs.Ytpfegfkniilobaa.XSchema Go.Proofs.Ytpfegfkniilobaa.PureS
set_option linter.unusedVariables false
set_option linter.unusedSimpArgs false
set_option maxRecDepth 100000
/-- Blocks that are neither bytes nor pens stay. -/
def KP (W W' : World) : Prop := ∀ (k : Nat) (cells : Array Value) (t : Nat), t ≠ 5 → t ≠ 148 → W.heap[k]? = some (Obj.cells cells t (0, 0)) → W'.heap[k]? = some (Obj.cells cells t (0, 0))
theorem KP.refl (W : World) : KP W W := fun _ _ _ _ _ h => h
theorem KP.trans {W W1 W2 : World} (h : KP W W1) (k : KP W1 W2) : KP W W2 := fun j c t h5 h8 hb => k j c t h5 h8 (h j c t h5 h8 hb)
theorem KP.below {W W' : World} (h : Below W.heap.size W W') : KP W W' := fun k c t _ _ hb => blk_below hb h
/-- A pen: its block, its bytes. -/
def PS (w0 W : World) (g : Nat) (xs : List Int) : Prop := w0.heap.size ≤ g ∧ Below w0.heap.size w0 W ∧ ∃ v, W.heap[g]? = some (.cells #[v] 148 (0, 0)) ∧ Kd.R (Kd.int .u8) 5 W w0.heap.size (fun _ => True) v xs
theorem PS.below {w0 W W' : World} {g : Nat} {xs : List Int} (h : PS w0 W g xs) (hb : Below W.heap.size W W') : PS w0 W' g xs := by
  obtain ⟨h1, h2, v, h3, h4⟩ := h
  exact ⟨h1, below_then h2 h2.size hb, v, blk_below h3 hb, Kd.R_below h4 hb⟩
theorem PS.alloc {w0 W : World} {g : Nat} {xs : List Int} (h : PS w0 W g xs) (o : Obj) : PS w0 (W.alloc o) g xs := h.below (below_alloc (Below.refl _ _) o)
theorem PS.bel {w0 W : World} {g : Nat} {xs : List Int} (h : PS w0 W g xs) : Below w0.heap.size w0 W := h.2.1
/-- A row that grew, and is laid into the pen's block. -/
theorem PS.put {w0 W1 : World} {g : Nat} {v v1 : Value} {ys : List Int} (hg : w0.heap.size ≤ g) (hb : Below w0.heap.size w0 W1) (h3 : W1.heap[g]? = some (.cells #[v] 148 (0, 0))) (h4 : Kd.R (Kd.int .u8) 5 W1 w0.heap.size (fun _ => True) v1 ys) : PS w0 (W1.setCell ⟨g, 0, none⟩ v1) g ys :=
  ⟨hg, hb.setCell (p := ⟨g, 0, none⟩) hg _, v1, blk_put h3 0 _ rfl, Kd.R_set h4 h3 (by decide) 0 _⟩
theorem KP.put {W W1 : World} {g : Nat} {v v1 : Value} {xs : List Int} {base : Nat} (h3 : W.heap[g]? = some (.cells #[v] 148 (0, 0))) (h4 : Kd.R (Kd.int .u8) 5 W base (fun _ => True) v xs) (hg : W.grownBy W1 v.ownBlock) : KP W (W1.setCell ⟨g, 0, none⟩ v1) := fun k c t h5 h8 hb => by
  have h1 := blk_grown hb hg (Kd.R_ne h4 hb (fun e => h5 e.symm))
  have hne : k ≠ g := fun e => by
    subst e
    rw [hb] at h3
    injection h3 with h3
    injection h3 with _ h3
    exact h8 h3
  exact blk_far h1 hne _
theorem count_ok (w0 W : World) (g : Nat) (xs : List Int) (n : Int) (h : PS w0 W g xs) (hl : xs.length ≤ 100000) :
    Calls Try.prog 68 #[.pointer (some ⟨g, 0, none⟩), .int .i64 n] W fun e W' => e = .returned (.tuple #[]) ∧ PS w0 W' g (xs ++ [n % 256]) ∧ KP W W' := by
  obtain ⟨h1, h2, v, h3, h4⟩ := h
  have HG := Aside0.mk h1
  have HB := Aside0.mk h2
  have HX := Aside0.mk h3
  have HO := Aside0.mk h4
  have HL := Aside0.mk hl
  have hx0 := (blk_cell HX.out 0).trans rfl
  clear h1 h2 h3 h4 hl
  go_enter Try.func68, Try.ntmps68
  go_wp2_with (((with_reducible refine gate_builtin (b := .append) (xs := #[.tmp 8, .tmp 11]) rfl ?_); at_builtin; refine Kd.R_append (Kd.int .u8) (w0 := w0) w0.heap.size rfl (.tmp 8) (.tmp 11) 52 5 (.int .u8 0) 1 rfl Try.underlying52 info5 rfl (by decide) (by omega) v xs (n % 256) [.int .u8 (n % 256)] (fun _ => True) (fun _ => False) rfl (by first | (go_simp; done) | (go_simp; rfl)) ?aP (fun _ hk => hk.elim) ?aF ?aO ?aB ?aS ?aL ?_; (case aP => exact rfl); (case aB => exact HB.out); (case aF => exact (fun _ _ => trivial)); (case aO => exact HO.out); (case aS => exact HB.out.size); (case aL => have := HL.out; omega); intro v2 w2 ho2 hb2 hg2 hat2; have HK2 := Aside0.mk (KP.put (v1 := v2) HX.out HO.out hg2); obtain ⟨A2, cc2, e2⟩ := Kd.R_slice ho2; generalize List.length _ = nn at e2; subst e2; have HO2 := Aside0.mk ho2; have HB2 := Aside0.mk hb2; have HX2 := Aside0.mk (blk_grown HX.out hg2 (Kd.R_ne HO.out HX.out (by decide))); clear ho2 hb2 hg2 hat2 hx0; have hx0 := (blk_cell HX2.out 0).trans rfl; have hf0 := blk_frozen HX2.out 0))
  go_end0
  exact ⟨rfl, PS.put HG.out HB2.out HX2.out HO2.out, HK2.out⟩
theorem text_ok (w0 W : World) (g : Nat) (xs : List Int) (y : ByteArray) (h : PS w0 W g xs) (hl : xs.length ≤ 100000) (hy : y.size ≤ 100000) :
    Calls Try.prog 69 #[.pointer (some ⟨g, 0, none⟩), .string y] W fun e W' => e = .returned (.tuple #[]) ∧ PS w0 W' g (xs ++ [(y.size : Int) % 256] ++ bytesOf y) ∧ KP W W' := by
  have HP := Aside0.mk h
  have HL := Aside0.mk (And.intro hl hy)
  clear h hl hy
  go_enter Try.func69, Try.ntmps69
  go_wp2_with (first
    | (go_at_call 68; (with_reducible refine (count_ok w0 _ g xs (y.size : Int) HP.out HL.out.1).mono ?_); rintro en w1 ⟨rfl, h1, hk1⟩; (obtain ⟨g1, g2, v, g3, g4⟩ := h1); have hx0 := (blk_cell g3 0).trans rfl; have HX1 := Aside0.mk g3; have HO1 := Aside0.mk g4; have HK1 := Aside0.mk hk1; have HG1 := Aside0.mk (And.intro g1 g2); clear g1 g2 g3 g4 hk1)
    | ((with_reducible refine gate_builtin (b := .append) (xs := #[.tmp 12, .tmp 13]) rfl ?_); refine R_append_strP (w0 := w0) w0.heap.size rfl (.tmp 12) (.tmp 13) 52 9 5 rfl Try.underlying52 Try.underlying9 info5 v _ y (fun _ => True) rfl rfl (fun _ _ => trivial) HO1.out HG1.out.2 HG1.out.2.size (by have := HL.out; simp; omega) ?_; intro v2 w2 ho2 hb2 hg2 hat2; have HK2 := Aside0.mk (HK1.out.trans (KP.put (v1 := v2) HX1.out HO1.out hg2)); obtain ⟨A2, cc2, e2⟩ := Kd.R_slice ho2; generalize List.length _ = nn at e2; subst e2; have HO2 := Aside0.mk ho2; have HB2 := Aside0.mk hb2; have HX2 := Aside0.mk (blk_grown HX1.out hg2 (Kd.R_ne HO1.out HX1.out (by decide))); clear ho2 hb2 hg2 hat2 hx0; have hx0 := (blk_cell HX2.out 0).trans rfl; have hf0 := blk_frozen HX2.out 0))
  go_end0
  exact ⟨rfl, PS.put HG1.out.1 HB2.out HX2.out HO2.out, HK2.out⟩
theorem flat_len (l : List Int) : (l.flatMap be4).length = 4 * l.length := by
  induction l with
  | nil => rfl
  | cons x l ih => rw [List.flatMap_cons, List.length_append, ih, List.length_cons, show (be4 x).length = 4 from rfl]; omega
theorem flat_take (l : List Int) (i : Nat) (h : i < l.length) : (l.take (i + 1)).flatMap be4 = (l.take i).flatMap be4 ++ be4 (rd l (i : Int)) := by
  have e : rd l (i : Int) = l[i] := by
    rw [rd, Int.toNat_natCast, List.getD_eq_getElem?_getD, List.getElem?_eq_getElem h]
    rfl
  rw [e, List.take_succ_eq_append_getElem h, List.flatMap_append]
  simp
set_option maxHeartbeats 8000000 in
theorem numbers_ok (w0 W : World) (g : Nat) (xs : List Int) (A : Option Addr) (c : Nat) (l : List Int) (h : PS w0 W g xs) (hl : xs.length ≤ 50000) (hn : l.length ≤ 1000) (hC : ∀ W', KP W W' → Below w0.heap.size w0 W' → Kd.C (Kd.int .i64) W' A l.length l) :
    Calls Try.prog 70 #[.pointer (some ⟨g, 0, none⟩), .slice A l.length c] W fun e W' => e = .returned (.tuple #[]) ∧ PS w0 W' g (xs ++ l.flatMap be4) ∧ KP W W' := by
  have HP := Aside0.mk h
  have HL := Aside0.mk (And.intro hl hn)
  have HC := Aside0.mk hC
  clear h hl hn hC
  go_enter Try.func70, Try.ntmps70
  go_wp2
  go_loopg [8] l.length (fun kq v8 w' => ∃ i : Nat, v8 = .int .i64 (i : Int) ∧ Aside0 (kq + i = l.length) ∧ Aside0 (PS w0 w' g (xs ++ (l.take i).flatMap be4)) ∧ Aside0 (KP W w'))
  case atStart => exact ⟨0, rfl, ⟨by omega⟩, ⟨by simpa using HP.out⟩, ⟨KP.refl W⟩⟩
  case round =>
    obtain ⟨i, rfl, HI, HPS, HK⟩ := hrel
    by_cases c5 : i < l.length
    · have c1 : decide ((i : Int) < (l.length : Int)) = true := decide_eq_true (by omega)
      have c1b : decide (i < l.length) = true := decide_eq_true c5
      obtain ⟨ad, e1, hx0⟩ := Kd.at_int (HC.out _ HK.out HPS.out.bel) (i : Int) (by omega) (by omega)
      subst e1
      rw [Int.toNat_natCast] at hx0
      have p9 : (0 ≤ (i : Int)) = True := eq_true (by omega)
      have q9 : ((i : Int) < (l.length : Int)) = True := eq_true (by omega)
      have q9b : (i < l.length) = True := eq_true c5
      have htk := flat_take l i c5
      have hln : (xs ++ (l.take i).flatMap be4).length ≤ 60000 := by
        rw [List.length_append, flat_len, List.length_take]
        have := HL.out
        omega
      obtain ⟨n, hnn⟩ : ∃ n, n = rd l (i : Int) := ⟨_, rfl⟩
      rw [← hnn] at hx0 htk
      obtain ⟨ys, hys⟩ : ∃ ys, ys = xs ++ (l.take i).flatMap be4 := ⟨_, rfl⟩
      have HPS2 := HPS.out
      rw [← hys] at HPS2 hln
      have htk2 : xs ++ (l.take (i + 1)).flatMap be4 = ys ++ be4 n := by rw [htk, hys, List.append_assoc]
      obtain ⟨g1, g2, v, g3, g4⟩ := HPS2
      have hv0 := (blk_cell g3 0).trans rfl
      have HX1 := Aside0.mk g3
      have HO1 := Aside0.mk g4
      have HG1 := Aside0.mk (And.intro g1 g2)
      have HTK := Aside0.mk (And.intro htk2 hln)
      have H := Aside0.mk c5
      clear c5 htk hln hnn hys htk2 g1 g2 g3 g4
      go_wp2_with (first
        | ((with_reducible refine gate_dst (N := 28) rfl ?_); refine Kd.R_lit (Kd.int .u8) _ 5 ?hg (N := 28) ?hd (xs := be4 n) (inner := [.int .u8 (n / 16777216 % 256), .int .u8 (n / 65536 % 256), .int .u8 (n / 256 % 256), .int .u8 (n % 256)]) (ok := fun _ => True) (okp := fun _ => True) ?hr ?hp (fun _ hk => hk) trivial (Below.refl wr.heap.size wr) (Nat.le_refl _) (by simp [be4]) ?_; (case hd => rfl); (case hg => rfl); (case hr => first | (go_simp; done) | (go_simp; rfl)); (case hp => exact (Reps.one (show Kd.M (Kd.int .u8) _ _ _ (n / 16777216 % 256) [.int .u8 (n / 16777216 % 256)] from rfl) (Reps.one (show Kd.M (Kd.int .u8) _ _ _ (n / 65536 % 256) [.int .u8 (n / 65536 % 256)] from rfl) (Reps.one (show Kd.M (Kd.int .u8) _ _ _ (n / 256 % 256) [.int .u8 (n / 256 % 256)] from rfl) (Reps.one (show Kd.M (Kd.int .u8) _ _ _ (n % 256) [.int .u8 (n % 256)] from rfl) (Reps.none _ _)))))); intro v3 w3 ho3 hb3 hg3 hnew3; (obtain ⟨A3, c3, e3⟩ := Kd.R_slice ho3); replace e3 : v3 = .slice A3 4 c3 := e3; subst e3; have HO3 := Aside0.mk (Kd.R_reads' ho3).2.2; have HB3 := Aside0.mk (below_then HG1.out.2 HG1.out.2.size hb3); have HX3 := Aside0.mk (blk_below HX1.out hb3); have HR3 := Aside0.mk (Kd.R_below HO1.out hb3); have HK3 := Aside0.mk (HK.out.trans (KP.below hb3)); clear ho3 hb3 hg3 hnew3)
        | ((with_reducible refine gate_builtin (b := .append) (xs := #[.tmp 16, .tmp 28]) rfl ?_); at_builtin; refine Kd.R_append_rows (Kd.int .u8) (Rr := (Kd.int .u8).K w3) (w0 := w0) w0.heap.size rfl (.tmp 16) (.tmp 28) 52 5 (.int .u8 0) 1 rfl Try.underlying52 info5 rfl (by decide) (by decide) v ys (be4 n) A3 4 c3 (fun _ => True) (fun _ => False) rfl rfl HR3.out HO3.out ?hKM (fun _ hk => hk.elim) (fun _ _ => trivial) HB3.out HB3.out.size (by have := HTK.out.2; omega) ?_; (case hKM => exact fun x cs hh => hh); intro v2 w2 ho2 hb2 hg2 hat2; have HK2 := Aside0.mk (HK3.out.trans (KP.put (v1 := v2) HX3.out HR3.out hg2)); obtain ⟨A2, cc2, e2⟩ := Kd.R_slice ho2; generalize List.length _ = nn at e2; subst e2; have HO2 := Aside0.mk ho2; have HB2 := Aside0.mk hb2; have HX2 := Aside0.mk (blk_grown HX3.out hg2 (Kd.R_ne HR3.out HX3.out (by decide))); clear ho2 hb2 hg2 hat2 hv0; have hv0 := (blk_cell HX2.out 0).trans rfl; have hf0 := blk_frozen HX2.out 0))
      go_roundg (gk - 1)
      case measure => have h1 := HI.out; have h2 := H.out; omega
      case rel =>
        have h1 := HI.out
        have h2 := H.out
        have h3 := HL.out.2
        refine ⟨i + 1, by first | rfl | (rw [wr_in ((i : Int) + 1) (by omega)]; rfl), ⟨by omega⟩, ⟨?_⟩, HK2⟩
        rw [HTK.out.1]
        exact PS.put HG1.out.1 HB2.out HX2.out HO2.out
    · have c1 : decide ((i : Int) < (l.length : Int)) = false := decide_eq_false (by omega)
      have c1b : decide (i < l.length) = false := decide_eq_false c5
      have hta : l.take i = l := List.take_of_length_le (by omega)
      have hp := HPS.out
      rw [hta] at hp
      have HP2 := Aside0.mk hp
      clear c5 hta hp
      go_wp2
      go_end0
      exact ⟨rfl, HP2.out, HK.out⟩
/-- A literal's numbers stay. -/
theorem lit_stable {W : World} {base n c : Nat} {ok : Nat → Prop} {A : Option Addr} {l : List Int} (h : Kd.R (Kd.int .i64) 3 W base ok (.slice A n c) l) : ∀ W', KP W W' → Kd.C (Kd.int .i64) W' A l.length l := fun W' hk => by
  have h2 : Kd.R (Kd.int .i64) 3 W' base _ (.slice A n c) l := Kd.R_step (Kd.R_bound h) (fun k ho hlt => by
    obtain ⟨_, _, _, q, hq, cells, hc⟩ := ho
    rw [List.mem_cons] at hq
    rcases hq with rfl | hq
    · rw [hc]
      exact hk k cells 3 (by decide) (by decide) hc
    · cases hq)
  exact (Kd.R_reads' h2).2.2
theorem count_be (w0 W : World) (g : Nat) (xs : List Int) (n : Int) (h : PS w0 W g xs) (hl : xs.length ≤ 50000) :
    Calls Try.prog 68 #[.pointer (some ⟨g, 0, none⟩), .int .i64 n] W fun e W' => e = .returned (.tuple #[]) ∧ PS w0 W' g (xs ++ be1 n) ∧ KP W W' := count_ok w0 W g xs n h (by omega)
theorem text_be (w0 W : World) (g : Nat) (xs : List Int) (y : ByteArray) (h : PS w0 W g xs) (hl : xs.length ≤ 50000) (hy : y.size ≤ 1000) :
    Calls Try.prog 69 #[.pointer (some ⟨g, 0, none⟩), .string y] W fun e W' => e = .returned (.tuple #[]) ∧ PS w0 W' g (xs ++ txt y) ∧ KP W W' := by
  have h := text_ok w0 W g xs y h (by omega) (by omega)
  rw [List.append_assoc] at h
  exact h
end Go.Proofs.Ytpfegfkniilobaa.Pn
