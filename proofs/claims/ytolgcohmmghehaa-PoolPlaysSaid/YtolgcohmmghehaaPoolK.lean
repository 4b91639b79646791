/- The reference's Get in plain Lean; a box of four cells written whole. Conditions: stated in each theorem. -/
import Derived.Test.YtolgcohmmghehaaPoolJ
namespace Go.Proofs.Ytolgcohmmghehaa.Pool
open Go.Proofs.YtolgcohmmghehaaW
open Go.RowKit Go.Proofs.YtolgcohmmghehaaW.PrintWords Go.Proofs.YtolgcohmmghehaaW.PrintLast Go.Proofs.YtolgcohmmghehaaW.PrintMore Go.Proofs.Ytolgcohmmghehaa.Byt Go.Proofs.Ytolgcohmmghehaa.Dsk
open Go.Proofs.Ytolgcohmmghehaa.XPoolPlays
set_option linter.unusedVariables false
set_option linter.unusedSimpArgs false
set_option maxRecDepth 100000
theorem u64_in (n : Int) (h : 0 ≤ n ∧ n < 18446744073709551616) : IntKind.u64.wrap n = n := by rw [u64_eq]; omega
theorem rd_nat {l : List Int} {i : Nat} (h : i < l.length) : PrintWords.rd l (i : Int) = l[i] := by
  rw [PrintWords.rd, Int.toNat_natCast, List.getD_eq_getElem?_getD, List.getElem?_eq_getElem h]
  rfl
theorem ref_loop (size p rd ht : Int) (order : List Int) (hl : order.length ≤ 100000) : ∀ (n i : Nat) (out : List Int) (hit : Bool), i + n = order.length → out.length ≤ i →
    rowlockref07_Pool_Get.l0 (n + 1) p out hit (order.length : Int) (i : Int) size order rd ht = rowlockref07_Pool_Get.l0 1 p (out ++ (order.drop i).filter (fun x => x != p)) (hit || decide (p ∈ order.drop i)) (order.length : Int) (order.length : Int) size order rd ht
  | 0, i, out, hit, hi, ho => by
    have e : i = order.length := by omega
    subst e
    rw [List.drop_length, List.filter_nil, List.append_nil]
    simp
  | n + 1, i, out, hit, hi, ho => by
    have hlt : i < order.length := by omega
    have hd : order.drop i = order[i] :: order.drop (i + 1) := List.drop_eq_getElem_cons hlt
    have e1 : wrap64 ((i : Int) + 1) = ((i + 1 : Nat) : Int) := by rw [wr_in ((i : Int) + 1) (by omega)]; omega
    rw [rowlockref07_Pool_Get.l0, if_pos (by omega), if_pos (by omega), if_pos (by omega), rd_nat hlt, e1]
    by_cases he : order[i] = p
    · rw [if_pos he, ref_loop size p rd ht order hl n (i + 1) out true (by omega) (by omega), hd]
      have h1 : (order[i] != p) = false := by rw [he]; exact bne_self_eq_false p
      have h2 : decide (p ∈ order[i] :: order.drop (i + 1)) = true := decide_eq_true (by rw [he]; exact List.mem_cons_self)
      rw [List.filter_cons, h1, h2]
      simp
    · rw [if_neg he, if_pos (by omega), ref_loop size p rd ht order hl n (i + 1) (out ++ [order[i]]) hit (by omega) (by rw [List.length_append, List.length_singleton]; omega), hd]
      have h1 : (order[i] != p) = true := bne_iff_ne.mpr he
      have h2 : decide (p ∈ order[i] :: order.drop (i + 1)) = decide (p ∈ order.drop (i + 1)) := decide_eq_decide.2 ⟨fun h => (List.mem_cons.1 h).resolve_left (fun e => he e.symm), List.mem_cons_of_mem _⟩
      rw [List.filter_cons, h1, h2]
      simp
theorem refget_f (size p rd ht : Int) (order : List Int) (hn : order.Nodup) (hl : order.length ≤ 100000) (hs : 1 ≤ size) (hr : 0 ≤ rd ∧ rd ≤ 1000000 ∧ 0 ≤ ht ∧ ht ≤ 1000000) :
    rowlockref07_Pool_Get.f (order.length + 1) size order rd ht p = some (size, lru size order p, (if p ∈ order then rd else rd + 1), (if p ∈ order then ht + 1 else ht)) := by
  rw [rowlockref07_Pool_Get.f]
  have h := ref_loop size p rd ht order hl order.length 0 [] false (by omega) (Nat.zero_le _)
  rw [show ((0 : Nat) : Int) = 0 from rfl] at h
  rw [h, List.drop_zero, List.nil_append, Bool.false_or, rowlockref07_Pool_Get.l0, if_neg (Int.lt_irrefl _)]
  have hfl : (order.filter (fun x => x != p)).length ≤ order.length := List.length_filter_le _ _
  by_cases hm : p ∈ order
  · rw [if_pos (decide_eq_true hm), if_pos (by omega), if_pos hm, if_pos hm, lru, if_pos hm, hn.erase_eq_filter, u64_in (ht + 1) (by omega)]
  · have hf : order.filter (fun x => x != p) = order := List.filter_eq_self.2 (fun x hx => bne_iff_ne.mpr (fun e => hm (e ▸ hx)))
    rw [if_neg (by simp [hm]), hf, if_neg hm, if_neg hm, lru, if_neg hm, u64_in (rd + 1) (by omega)]
    by_cases hz : (order.length : Int) = size
    · rw [if_pos hz, if_pos hz, if_pos (by omega)]
      show (if (order.drop 1).length < 35184372088832 then _ else _) = _
      rw [if_pos (by rw [List.length_drop]; omega)]
      rfl
    · rw [if_neg hz, if_neg hz, if_pos (by omega)]
theorem lru_len (size : Int) (order : List Int) (p : Int) : (lru size order p).length ≤ order.length + 1 := by
  unfold lru
  split
  · rw [List.length_append, List.length_singleton]
    have := List.length_erase_le (a := p) (l := order)
    omega
  · rw [List.length_append, List.length_singleton]
    split
    · rw [List.length_drop]; omega
    · omega
/-- A box of four cells, written whole. -/
def put4 (w : World) (g : Nat) (a b c d : Value) : World := (((w.setCell ⟨g, 0, none⟩ a).setCell ⟨g, 1, none⟩ b).setCell ⟨g, 2, none⟩ c).setCell ⟨g, 3, none⟩ d
theorem put4_box {w : World} {g t : Nat} {a0 b0 c0 d0 : Value} (h : w.heap[g]? = some (.cells #[a0, b0, c0, d0] t (0, 0))) (a b c d : Value) : (put4 w g a b c d).heap[g]? = some (.cells #[a, b, c, d] t (0, 0)) := blk_put (blk_put (blk_put (blk_put h 0 a rfl) 1 b rfl) 2 c rfl) 3 d rfl
theorem put4_kp (w : World) (g : Nat) (a b c d : Value) : Kp w (put4 w g a b c d) (fun k => k = g) := ((((Kp.of_below (Below.refl _ _) (fun k => k = g)).setCell (p := ⟨g, 0, none⟩) (.inl rfl) a).setCell (p := ⟨g, 1, none⟩) (.inl rfl) b).setCell (p := ⟨g, 2, none⟩) (.inl rfl) c).setCell (p := ⟨g, 3, none⟩) (.inl rfl) d
/-- A row that is cleared: all else is kept. -/
theorem kp_grown {w w' : World} {row : Option Nat} (h : w.grownBy w' row) : Kp w w' (fun k => some k = row) := Kp.of_grown h (Kp.of_below (Below.refl _ _) _) (fun k hk => .inl hk.symm)
end Go.Proofs.Ytolgcohmmghehaa.Pool
