/- A leaf's page is put. Conditions: the entries are not endless. -/
import Derived.Test.YtihmkdjambdfjaaLfB
namespace Go.Proofs.Ytihmkdjambdfjaa.Lf
open Go.RowKit Go.Proofs.YtihmkdjambdfjaaW.PrintWords Go.Proofs.YtihmkdjambdfjaaW.PrintLast Go.Proofs.YtihmkdjambdfjaaW.PrintMore Go.Proofs.Ytihmkdjambdfjaa.XLeaf Go.Proofs.Ytihmkdjambdfjaa.Tk
set_option linter.unusedVariables false
set_option linter.unusedSimpArgs false
set_option maxRecDepth 100000
/-- Entries' writing. -/
def wrL (l : List S27) : List Int := l.flatMap fun x => wrE x.f0 x.f1.f0 x.f1.f1
theorem wrE_len (key : ByteArray) (pg sl : Int) : (wrE key pg sl).length = 8 + key.size := by
  simp [wrE, Tk.be2, Tk.be4, bytesOf_length]
  omega
theorem wrL_len (l : List S27) : ((wrL l).length : Int) = szE l := by
  induction l with
  | nil => rfl
  | cons x l ih =>
    rw [wrL, List.flatMap_cons, List.length_append, wrE_len, szE, ← ih, wrL]
    omega
theorem wrL_take (l : List S27) (i : Nat) (h : i < l.length) : wrL (l.take (i + 1)) = wrL (l.take i) ++ wrE (rd_T27 l (i : Int)).f0 (rd_T27 l (i : Int)).f1.f0 (rd_T27 l (i : Int)).f1.f1 := by
  rw [rd_at l i h, List.take_succ_eq_append_getElem h, wrL, wrL, List.flatMap_append]
  simp
theorem szE_take : ∀ (l : List S27) (i : Nat), szE (l.take i) ≤ szE l
  | [], i => by simp
  | x :: l, 0 => by
    have := wrL_len (x :: l)
    simp only [List.take_zero, szE]
    have h2 : (0 : Int) ≤ ((wrL (x :: l)).length : Int) := by omega
    rw [this, szE] at h2
    exact h2
  | x :: l, i + 1 => by
    have := szE_take l i
    simp only [List.take_succ_cons, szE]
    omega
theorem szE_len : ∀ l : List S27, 8 * (l.length : Int) ≤ szE l
  | [] => by simp [szE]
  | x :: l => by
    have := szE_len l
    rw [szE, List.length_cons]
    omega
/-- A page out of a head and bytes. -/
def pgF (k c n : Int) (bs : List Int) : List Int := hd k c n ++ bs ++ List.replicate (504 - bs.length) 0
/-- What the put of a leaf's page gives. -/
def putL (next : Int) (l : List S27) : List Int × Int := if mayE l (8 + szE l) = 0 then (pgF 2 l.length next (wrL l), 0) else ([], mayE l (8 + szE l))
theorem mayE_0 {l : List S27} {n : Int} (h : mayE l n = 0) : riseB l = true ∧ longB l = false ∧ n ≤ 512 := by
  unfold mayE at h
  split at h
  · cases h
  · rename_i h1
    split at h
    · cases h
    · refine ⟨?_, ?_, by omega⟩
      · cases hr : riseB l
        · exact absurd (.inl hr) h1
        · rfl
      · cases hr : longB l
        · rfl
        · exact absurd (.inr hr) h1
set_option maxHeartbeats 8000000 in
theorem putLeaf_ok (w : World) (next : Int) (A : Option Addr) (c : Nat) (l : List S27) (hg : goodE l) (hC : Kd.C k27 w A l.length l) (hc : l.length ≤ c) :
    Calls Try.prog 14 #[.int .u32 next, .slice A l.length c] w fun e w' => ∃ v, e = .returned (.tuple #[v, .int .i64 (putL next l).2]) ∧ Kd.R (Kd.int .u8) 5 w' w.heap.size (fun _ => True) v (putL next l).1 ∧ Below w.heap.size w w' := by
  have HC := Aside0.mk (And.intro hC (And.intro hg hc))
  obtain ⟨m, hm⟩ : ∃ m, m = mayE l (8 + szE l) := ⟨_, rfl⟩
  have HM := Aside0.mk hm
  unfold putL
  clear hC hg hc
  rw [← hm]
  clear hm
  by_cases h0 : m = 0
  · have HM0 := Aside0.mk (mayE_0 (HM.out.symm.trans h0))
    rw [if_pos h0]
    have d0 : (m != 0) = false := by simpa using h0
    clear h0
    have hs5 : szE l ≤ 504 := by have := HM0.out.2.2; omega
    have HS5 := Aside0.mk (And.intro hs5 (show (l.length : Int) ≤ 63 by have := szE_len l; omega))
    clear hs5
    go_enter Try.func14, Try.ntmps14
    go_wp2_with (first
      | (go_at_call 18; (with_reducible refine (size_ok A c l _ HC.out.1 HC.out.2.2 HC.out.2.1).mono ?_); rintro en w1 ⟨rfl, hb⟩; have HB1 := Aside0.mk hb; clear hb)
      | (go_at_call 38; (with_reducible refine (may_ok _ A c l (8 + szE l) HC.out.2.1 (Kd.C_below HC.out.1 HB1.out) HC.out.2.2).mono ?_); rintro en w2 ⟨rfl, hb⟩; rw [← HM.out]; have HB2 := Aside0.mk (below_then HB1.out HB1.out.size hb); clear hb))
    go_loopg [7, 19] l.length (fun kq v7 v19 w' => ∃ i : Nat, v19 = .int .i64 (i : Int) ∧ Aside0 (kq + i = l.length) ∧ Aside0 (Kd.R (Kd.int .u8) 5 w' w.heap.size (fun _ => True) v7 (wrL (l.take i))) ∧ Aside0 (Below w.heap.size w w'))
    case atStart => exact ⟨0, rfl, ⟨by omega⟩, ⟨Kd.R_nil _ _ _ _ _⟩, HB2⟩
    case round =>
      clear HB2 HB1
      obtain ⟨i, rfl, HI, HO, HB⟩ := hrel
      by_cases c5 : i < l.length
      · have c1 : decide ((i : Int) < (l.length : Int)) = true := decide_eq_true (by omega)
        have c1b : decide (i < l.length) = true := decide_eq_true c5
        obtain ⟨ad, e1, hx0, hx1, hx2⟩ := at_T27 HC.out.1 (i : Int) (by omega) (by omega)
        subst e1
        replace hx0 := (HB.out.cell (World.block_lt_of_cell? w _ hx0)).trans hx0
        replace hx1 := (HB.out.cell (World.block_lt_of_cell? w _ hx1)).trans hx1
        replace hx2 := (HB.out.cell (World.block_lt_of_cell? w _ hx2)).trans hx2
        rw [Int.toNat_natCast] at hx0 hx1 hx2
        have p9 : (0 ≤ (i : Int)) = True := eq_true (by omega)
        have q9 : ((i : Int) < (l.length : Int)) = True := eq_true (by omega)
        have q9b : (i < l.length) = True := eq_true c5
        have hm := HC.out.2.1.2 _ (by rw [rd_at l i c5]; exact List.getElem_mem c5 : rd_T27 l (i : Int) ∈ l)
        have htk := wrL_take l i c5
        have hlen := wrL_len (l.take i)
        have hle := szE_take l i
        obtain ⟨t, ht⟩ : ∃ t, t = rd_T27 l (i : Int) := ⟨_, rfl⟩
        rw [← ht] at hx0 hx1 hx2 hm htk
        have H := Aside0.mk c5
        have HM2 := Aside0.mk (And.intro hm (And.intro htk (show (wrL (l.take i)).length ≤ 100000 by have := HS5.out.1; omega)))
        clear c5 ht hm htk hlen hle
        have HY := Aside0.mk (blk_new wr (.cells #[.string t.f0, .int .u32 t.f1.f0, .int .u16 t.f1.f1] 27))
        have hy0 := (blk_cell HY.out 0).trans rfl
        have hy1 := (blk_cell HY.out 1).trans rfl
        have hy2 := (blk_cell HY.out 2).trans rfl
        go_wp2_with (go_at_call 39; (with_reducible refine (entry_ok (fun _ => True) _ (wrL (l.take i)) t.f0 t.f1.f0 t.f1.f1 w (wr.alloc (.cells #[.string t.f0, .int .u32 t.f1.f0, .int .u16 t.f1.f1] 27)) (below_alloc HB.out _) (Kd.R_below HO.out (below_alloc (Below.refl _ _) _)) HM2.out.2.2 (by have := HM2.out.1.1; omega) HM2.out.1.2.2.2).mono ?_); rintro en w3 ⟨v3, rfl, ho, hb, hk⟩; rw [← HM2.out.2.1] at ho; have HO3 := Aside0.mk (Kd.R_mono ho (fun _ _ => trivial)); have HB3 := Aside0.mk hb; clear ho hb hk)
        go_roundg (gk - 1)
        case measure => have h1 := HI.out; have h2 := H.out; omega
        case rel =>
          have h1 := HI.out
          have h2 := H.out
          have h3 := HC.out.2.1.1
          exact ⟨i + 1, by first | rfl | (rw [wr_in' ((i : Int) + 1) (by omega)]; rfl), ⟨by omega⟩, HO3, HB3⟩
      · have c1 : decide ((i : Int) < (l.length : Int)) = false := decide_eq_false (by omega)
        have c1b : decide (i < l.length) = false := decide_eq_false c5
        have hta : l.take i = l := List.take_of_length_le (by omega)
        have ho := HO.out
        rw [hta] at ho
        obtain ⟨A7, c7, e7⟩ := Kd.R_slice ho
        subst e7
        have HO7 := Aside0.mk ho
        have hwl := wrL_len l
        have HW := Aside0.mk (And.intro (show (wrL l).length ≤ 504 by have := HS5.out.1; omega) (show IntKind.u16.wrap (l.length : Int) = l.length by rw [Byt.u16_eq]; have := HS5.out.2; omega))
        clear c5 hta ho hwl
        go_wp2_with (go_at_call 40; (with_reducible refine (lay_ok 2 (IntKind.u16.wrap (l.length : Int)) next A7 c7 (wrL l) _ (Kd.R_reads' HO7.out).2.2 HW.out.1).mono ?_); rintro en w4 ⟨v4, rfl, ho4, hb4⟩; rw [HW.out.2] at ho4; have HO4 := Aside0.mk ho4; have HB4 := Aside0.mk (below_then HB.out HB.out.size hb4); clear ho4 hb4)
        go_ret2
        exact ⟨_, rfl, Kd.R_lower HO4.out HB.out.size, HB4.out⟩
  · rw [if_neg h0]
    have d0 : (m != 0) = true := by simpa using h0
    clear h0
    go_enter Try.func14, Try.ntmps14
    go_wp2_with (first
      | (go_at_call 18; (with_reducible refine (size_ok A c l _ HC.out.1 HC.out.2.2 HC.out.2.1).mono ?_); rintro en w1 ⟨rfl, hb⟩; have HB1 := Aside0.mk hb; clear hb)
      | (go_at_call 38; (with_reducible refine (may_ok _ A c l (8 + szE l) HC.out.2.1 (Kd.C_below HC.out.1 HB1.out) HC.out.2.2).mono ?_); rintro en w2 ⟨rfl, hb⟩; rw [← HM.out]; have HB2 := Aside0.mk (below_then HB1.out HB1.out.size hb); clear hb))
    go_ret2
    exact ⟨_, rfl, Kd.R_nil _ _ _ _ _, HB2.out⟩
end Go.Proofs.Ytihmkdjambdfjaa.Lf
