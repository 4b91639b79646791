/- Bytes that are all the same, as the laws make them. Conditions: not too many. -/
import Derived.Test.YtolgcohmmghehaaDskD
import Derived.Test.YtolgcohmmghehaaByt
namespace Go.Proofs.Ytolgcohmmghehaa.Dsk
open Go.RowKit Go.Proofs.YtolgcohmmghehaaW.PrintWords Go.Proofs.YtolgcohmmghehaaW.PrintLast Go.Proofs.YtolgcohmmghehaaW.PrintMore
set_option linter.unusedVariables false
set_option linter.unusedSimpArgs false
set_option maxRecDepth 100000
theorem all_same {xs : List Int} {n : Nat} {c : Int} (hl : xs.length = n) (h : ∀ j : Nat, (j : Int) < n → xs[j]? = some c) : xs = List.replicate n c := by
  refine List.ext_getElem? fun j => ?_
  by_cases hj : j < n
  · rw [h j (by omega), List.getElem?_replicate, if_pos hj]
  · rw [List.getElem?_eq_none (by omega), List.getElem?_eq_none (by rw [List.length_replicate]; omega)]
theorem set_same {xs : List Int} {i : Int} {n : Nat} {c : Int} (hl : xs.length = n) (h : ∀ j : Nat, (j : Int) < i → xs[j]? = some c) (h0 : 0 ≤ i) (hi : i < n) : (xs.set i.toNat c).length = n ∧ ∀ j : Nat, (j : Int) < i + 1 → (xs.set i.toNat c)[j]? = some c := by
  refine ⟨by rw [List.length_set]; exact hl, fun j hj => ?_⟩
  rw [List.getElem?_set]
  by_cases e : i.toNat = j
  · rw [if_pos e, if_pos (by omega)]
  · rw [if_neg e]
    exact h j (by omega)
theorem page_ok (c : Int) (n : Nat) (w : World) (hn : n ≤ 100000) : Calls Try.prog 22 #[.int .u8 c, .int .i64 (n : Int)] w fun e w' => ∃ v, e = .returned v ∧ Kd.R (Kd.int .u8) 5 w' w.heap.size (fun _ => True) v (List.replicate n c) ∧ Below w.heap.size w w' := by
  have HN := Aside0.mk hn
  clear hn
  go_enter Try.func22, Try.ntmps22
  go_wp2_with ((with_reducible refine gate_dst (N := 8) rfl ?_); refine Kd.R_make (Kd.int .u8) _ 5 rfl (N := 8) rfl 26 _ _ rfl (n : Int) rfl rfl Try.underlying26 (.int .u8 0) 1 info5 rfl (by decide) (by omega) 0 (ok := fun _ => True) (okp := fun _ => True) rfl (fun _ hk => hk) trivial (by omega) (by have := HN.out; omega) (Below.refl _ _) (Nat.le_refl _) ?_; intro v w2 ho2 hb2 hg2 hnew2; obtain ⟨A, cc, e2⟩ := Kd.R_slice ho2; rw [List.length_replicate, Int.toNat_natCast] at e2; subst e2; have HO2 := Aside0.mk ho2; have HL2 := Aside0.mk hb2; clear ho2 hb2 hg2 hnew2)
  go_loopg [11] n (fun kq v11 w' => ∃ (i : Int) (xs : List Int), v11 = .int .i64 i ∧ Aside0 (0 ≤ i ∧ (kq : Int) + i = n) ∧ Aside0 (xs.length = n ∧ ∀ j : Nat, (j : Int) < i → xs[j]? = some c) ∧ Aside0 (Kd.R (Kd.int .u8) 5 w' w.heap.size (fun _ => True) (.slice A n cc) xs) ∧ Aside0 (Below w.heap.size w w'))
  case atStart => exact ⟨0, _, by simp, ⟨by have := HN.out; omega⟩, ⟨by simp, fun j hj => by omega⟩, HO2, HL2⟩
  case round =>
    clear HO2 HL2
    obtain ⟨i, xs, rfl, HI, HX, HO, HB⟩ := hrel
    by_cases c5 : i < (n : Int)
    · have c5b : decide (i < (n : Int)) = true := decide_eq_true (by omega)
      have hl := HX.out.1
      obtain ⟨g, cap, hv, hb, hg, _⟩ := Kd.R_form HO.out (by have := HI.out; omega)
      injection hv with hA hnn hcc
      subst hA
      subst hcc
      have ho : Kd.R (Kd.int .u8) 5 wr w.heap.size (fun _ => True) (.slice (some ⟨g, 0, none⟩) xs.length cc) xs := by rw [hl]; exact HO.out
      obtain ⟨hx1, hx2⟩ := Kd.R_cell 0 ho i HI.out.1 (by have := HI.out; omega)
      have p9 : (0 ≤ i) = True := eq_true HI.out.1
      have q9 : (i < (n : Int)) = True := eq_true (by omega)
      have e1 : Addr.add ⟨g, 0, none⟩ i.toNat = ⟨g, i.toNat, none⟩ := add0 _ _
      have HOO := Aside0.mk (Kd.R_put ho i c)
      have HG := Aside0.mk hb
      have HC5 := Aside0.mk c5
      clear c5 hl hnn ho hg hb
      go_wp2
      go_roundg (gk - 1)
      case measure => have h1 := HI.out; have h2 := HC5.out; omega
      case rel =>
        have h1 := HI.out
        have h2 := HC5.out
        have h3 := HN.out
        refine ⟨i + 1, xs.set i.toNat c, by rw [wr_in (i + 1) (by omega)], ⟨by omega⟩, ⟨set_same HX.out.1 HX.out.2 h1.1 (by omega)⟩, ⟨?_⟩, ⟨HB.out.setCell (p := ⟨g, i.toNat, none⟩) HG.out _⟩⟩
        have := HOO.out.1
        rw [HX.out.1] at this
        exact this
    · have c5b : decide (i < (n : Int)) = false := decide_eq_false (by have := HI.out; omega)
      have hi : i = n := by have := HI.out; omega
      have hx := all_same HX.out.1 (fun j hj => HX.out.2 j (by rw [hi]; exact hj))
      subst hx
      clear c5 hi
      go_wp2
      go_ret
      exact ⟨_, rfl, HO.out, HB.out⟩
theorem page512 (c : Int) (bs : List Int) (hbs : bs = List.replicate 512 c) (w : World) : Calls Try.prog 22 #[.int .u8 c, .int .i64 512] w fun e w' => ∃ A cc, e = .returned (.slice A 512 cc) ∧ Kd.R (Kd.int .u8) 5 w' w.heap.size (fun _ => True) (.slice A 512 cc) bs ∧ Below w.heap.size w w' := by
  refine (page_ok c 512 w (by omega)).mono ?_
  rintro e w' ⟨v, rfl, ho, hb⟩
  obtain ⟨A, cc, ev⟩ := Kd.R_slice ho
  rw [List.length_replicate] at ev
  subst ev
  exact ⟨A, cc, rfl, by rw [hbs]; exact ho, hb⟩
theorem page511 (c : Int) (bs : List Int) (hbs : bs = List.replicate 511 c) (w : World) : Calls Try.prog 22 #[.int .u8 c, .int .i64 511] w fun e w' => ∃ A cc, e = .returned (.slice A 511 cc) ∧ Kd.R (Kd.int .u8) 5 w' w.heap.size (fun _ => True) (.slice A 511 cc) bs ∧ Below w.heap.size w w' := by
  refine (page_ok c 511 w (by omega)).mono ?_
  rintro e w' ⟨v, rfl, ho, hb⟩
  obtain ⟨A, cc, ev⟩ := Kd.R_slice ho
  rw [List.length_replicate] at ev
  subst ev
  exact ⟨A, cc, rfl, by rw [hbs]; exact ho, hb⟩
end Go.Proofs.Ytolgcohmmghehaa.Dsk
