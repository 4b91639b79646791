/- The disk as a block in memory: Take and Write of a disk. Conditions: the disk's blocks are known (Dk); the bytes are a page's. -/
import Derived.Test.YtolgcohmmghehaaDskA
namespace Go.Proofs.Ytolgcohmmghehaa.Dsk
open Go.RowKit Go.Proofs.YtolgcohmmghehaaW.PrintWords Go.Proofs.YtolgcohmmghehaaW.PrintLast Go.Proofs.YtolgcohmmghehaaW.PrintMore
set_option linter.unusedVariables false
set_option linter.unusedSimpArgs false
set_option maxRecDepth 100000
theorem setRow_grown (w : World) (g : Nat) (cs : Array Value) : w.grownBy (w.setRow g cs) (some g) := ⟨rfl, rfl, rfl, by simp [World.setRow], fun k _ hne => setRow_other w g k cs (fun e => hne (by rw [e]))⟩
/-- copy(b[off:..], ys) into a row of one's own. -/
theorem copy_cut {P : Program} {W : World} {ops : Array Oper} {rest : List Oper} {o : Oper} {a : Act} {Q : Exit → Act → World → Prop} (hgd : o.guard = none) (d s : Operand) (dT sT : TypeId)
    (ho : o.op = .call { callee := .builtin .copy, args := #[d, s], argTypes := #[dT, sT] }) (e : TypeId) (hu : P.underlying dT = some (.slice e)) (hsz : (P.info? e).map (·.size) = some 1)
    (g off cap : Nat) (xs ys : List Int) (base : Nat) (ok : Nat → Prop) (HO : Kd.R (Kd.int .u8) e W base ok (.slice (some ⟨g, 0, none⟩) xs.length cap) xs)
    (dp sp : Option Addr) (dLen dCap sCap : Nat) (hd : a.eval d = .slice dp dLen dCap) (hs : a.eval s = .slice sp ys.length sCap)
    (hdp : 0 < ys.length → dp = some ⟨g, off, none⟩) (hle : ys.length ≤ dLen) (hfit : off + ys.length ≤ xs.length) (HR : Kd.C (Kd.int .u8) W sp ys.length ys)
    (h : ∀ w1, Kd.R (Kd.int .u8) e w1 base ok (.slice (some ⟨g, 0, none⟩) xs.length cap) (splice xs off ys) → W.grownBy w1 (some g) → wpList P ops Q rest (a.put o.dst (.int .i64 (ys.length : Int))) w1) :
    wpList P ops Q (o :: rest) a W := by
  by_cases h0 : ys.length = 0
  · obtain rfl := List.eq_nil_of_length_eq_zero h0
    refine wpList_copy_nothing hgd d s dT sT ho e hu hsz dp sp dLen dCap 0 sCap hd hs (by simp) ?_
    exact h W (by simpa [splice] using HO) (World.grownBy.refl W _)
  · have hp : 0 < ys.length := by omega
    obtain rfl := hdp hp
    obtain ⟨ad, rfl, hc⟩ := (Kd.reads_of_C (enc := Value.int .u8) (d := (0 : Int)) (h1 := fun _ => rfl) HR).2.2 hp
    have hown := Kd.own_of_R HO
    rcases hown.2 with ⟨hv, hx0⟩ | ⟨g', cap', cur, hv, hb, hh, hnc, hcm, hcs, htake⟩
    · cases hv
    injection hv with hv1 hv2 hv3
    injection hv1 with hv1
    injection hv1 with hv1
    subst hv1
    subst hv3
    rw [Nat.mul_one] at hcs htake
    have hcl : cur.toList.length = cap := by simpa using hcs
    have hlen : (encs (Value.int .u8) ys).length = ys.length := encs_length _
    have hsrc : ∀ j v, (encs (Value.int .u8) ys)[j]? = some v → W.cell? (ad.add j) = some v := by
      intro j u hu
      have hj : j < ys.length := by
        rcases Nat.lt_or_ge j ys.length with h | h
        · exact h
        · rw [List.getElem?_eq_none (by rw [encs_length]; exact h)] at hu
          cases hu
      rw [encs_get (d := 0) _ j hj] at hu
      rw [hc j hj]
      exact hu
    refine wpList_copy_own hgd d s dT sT ho e hu hsz g off dLen dCap ad ys.length sCap hd hs cur e hh (encs (Value.int .u8) ys) (by rw [hlen]; exact (Nat.min_eq_left hle).symm) hsrc (by rw [hlen]; omega) (by intro v hv; simp only [encs, List.mem_map] at hv; obtain ⟨q, _, rfl⟩ := hv; rfl) ?_
    rw [hlen]
    refine h _ ?_ (setRow_grown _ _ _)
    have hln : (splice xs off ys).length = xs.length := length_splice _ _ _ hfit
    have ho2 : (W.setRow g (cur.toList.take off ++ (encs (Value.int .u8) ys ++ cur.toList.drop (off + ys.length))).toArray).ownsRow base e 1 (.slice (some ⟨g, 0, none⟩) (splice xs off ys).length cap) (splice xs off ys).length (encs (Value.int .u8) (splice xs off ys)) := by
      refine ⟨by rw [encs_length, Nat.mul_one], .inr ⟨g, cap, _, rfl, hb, setRow_heap W g cur _ e (0, 0) hh, by rw [hln]; exact hnc, hcm, ?_, ?_⟩⟩
      · rw [Nat.mul_one]
        simp only [List.size_toArray, List.length_append, List.length_take, List.length_drop, hlen]
        omega
      · rw [Nat.mul_one, hln]
        have ht : xs.map (Value.int .u8) = cur.toList.take xs.length := htake.symm
        simp only [encs, splice, List.map_append, List.map_take, List.map_drop, ht, List.take_take, List.drop_take]
        rw [Nat.min_eq_left (by omega), List.take_append, List.take_append, List.take_of_length_le (by simp; omega), List.take_of_length_le (l := ys.map _) (by simp; omega)]
        congr 2
        congr 1
        simp
        omega
    rw [← hln]
    exact Kd.R_of_own (h1 := fun _ => rfl) ho2 HO.1
/-- The first free page: its number, or -1. -/
def ix : List Bool → Int → Int
  | [], _ => -1
  | b :: r, i => if b then ix r (i + 1) else i
theorem index_ok (w : World) (A : Option Addr) (t : List Bool) (c : Nat) (hC : Kd.C Kd.bool w A t.length t) (hl : t.length ≤ 1000000) : Calls Try.prog 67 #[.slice A t.length c, .bool false] w fun e w' => e = .returned (.int .i64 (ix t 0)) ∧ w' = w := by
  have HC := Aside0.mk hC
  have HL := Aside0.mk hl
  clear hC hl
  go_enter Try.func67, Try.ntmps67
  go_wp2
  go_loopg [8] t.length (fun kq v8 w' => ∃ i : Int, v8 = .int .i64 i ∧ Aside0 (0 ≤ i ∧ (kq : Int) + i = (t.length : Int)) ∧ Aside0 (ix (t.drop i.toNat) i = ix t 0) ∧ w' = w)
  case atStart => exact ⟨0, rfl, ⟨by omega⟩, ⟨by simp⟩, rfl⟩
  case round =>
    obtain ⟨i, rfl, HI, HN, rfl⟩ := hrel
    by_cases c2 : i < (t.length : Int)
    · have c2b0 : decide (i < (t.length : Int)) = true := decide_eq_true c2
      obtain ⟨ad, e1, hx0⟩ := Kd.at_bool HC.out i HI.out.1 c2
      subst e1
      have p9 : (0 ≤ i) = True := eq_true HI.out.1
      have q9 : (i < (t.length : Int)) = True := eq_true c2
      have hn := HN.out
      rw [drop_b t i HI.out.1 c2, ix] at hn
      have HC2 := Aside0.mk c2
      have w2 : wrap64 (i + 1) = i + 1 := wr_in _ (by have := HI.out; have := HL.out; omega)
      cases hbv : rdOf false t i
      · rw [hbv] at hx0 hn
        simp only [if_neg (show ¬ (false = true) by decide)] at hn
        have HN2 := Aside0.mk hn
        clear hn c2 hbv
        go_wp2
        go_ret
        exact ⟨by rw [← HN2.out]; rfl, rfl⟩
      · rw [hbv] at hx0 hn
        simp only [if_true] at hn
        have HN2 := Aside0.mk hn
        clear hn c2 hbv
        go_wp2
        go_roundg (gk - 1)
        case measure => have h1 := HI.out; have h2 := HC2.out; omega
        case rel =>
          have h1 := HI.out
          have h2 := HC2.out
          exact ⟨i + 1, by rw [wr_in (i + 1) (by have := HL.out; omega)], ⟨by omega⟩, HN2, rfl⟩
    · have c2b0 : decide (i < (t.length : Int)) = false := decide_eq_false c2
      have hn := HN.out
      rw [List.drop_of_length_le (by have := HI.out; omega), ix] at hn
      have HN2 := Aside0.mk hn
      clear hn c2
      go_wp2
      go_ret
      exact ⟨by rw [← HN2.out]; rfl, rfl⟩
theorem ix_in : ∀ (t : List Bool) (i : Int), ix t i = -1 ∨ (i ≤ ix t i ∧ ix t i < i + t.length)
  | [], i => .inl rfl
  | true :: r, i => by
    rcases ix_in r (i + 1) with h | h
    · exact .inl h
    · refine .inr ?_
      simp only [ix, if_true, List.length_cons]
      omega
  | false :: r, i => by
    refine .inr ?_
    simp only [ix, if_neg (show ¬ (false = true) by decide), List.length_cons]
    omega
theorem take_full {w : World} {g : Nat} {d : List Int} {t : List Bool} {ok : Nat → Prop} (H : Dk w ok g d t) (hx : ix t 0 = -1) : Calls Try.prog 30 #[.pointer (some ⟨g, 0, none⟩)] w fun e w' => e = .returned (.tuple #[.int .u32 0, .int .i64 7]) ∧ w' = w := by
  obtain ⟨gd, cd, gt, ct, hb, hcd, hct, hd, ht, _, _⟩ := H.form
  have HC := Aside0.mk (Kd.R_reads' ht).2.2
  have HL := Aside0.mk (show t.length ≤ 1000000 by have := H.2.2.2.1; omega)
  have hc1 := (blk_cell hb 1).trans rfl
  have hf1 := blk_frozen hb 1
  have c0 : decide (ix t 0 < 0) = true := decide_eq_true (by omega)
  clear hb hd ht hct hcd H hx
  go_enter Try.func30, Try.ntmps30
  go_wp2_with (go_at_call 67; (with_reducible refine (index_ok _ _ t ct HC.out HL.out).mono ?_); rintro en w1 ⟨rfl, rfl⟩)
  go_ret2
  exact ⟨rfl, rfl⟩
theorem take_some {w : World} {g : Nat} {d : List Int} {t : List Bool} {ok : Nat → Prop} (H : Dk w ok g d t) (hx : ix t 0 ≠ -1) : Calls Try.prog 30 #[.pointer (some ⟨g, 0, none⟩)] w fun e w' => e = .returned (.tuple #[.int .u32 (ix t 0), .int .i64 0]) ∧ Dk w' ok g d (t.set (ix t 0).toNat true) ∧ Kept w w' ok ∧ ∀ B, (∀ k, ok k → B ≤ k) → Below B w w' := by
  obtain ⟨gd, cd, gt, ct, hb, hcd, hct, hd, ht, hkd, hkt⟩ := H.form
  obtain ⟨h1, h2, h3, h4, _⟩ := H
  have hin := ix_in t 0
  have hi0 : 0 ≤ ix t 0 := by omega
  have hi1 : ix t 0 < t.length := by omega
  have HC := Aside0.mk (Kd.R_reads' ht).2.2
  have HL := Aside0.mk (show t.length ≤ 1000000 by omega)
  have hc1 := (blk_cell hb 1).trans rfl
  have hf1 := blk_frozen hb 1
  obtain ⟨hcell, hfr⟩ := Kd.R_cell false ht (ix t 0) hi0 hi1
  have c0 : decide (ix t 0 < 0) = false := decide_eq_false (by omega)
  have p9 : (0 ≤ ix t 0) = True := eq_true hi0
  have q9 : (ix t 0 < (t.length : Int)) = True := eq_true hi1
  have e2 : Addr.add ⟨gt, 0, none⟩ (ix t 0).toNat = ⟨gt, (ix t 0).toNat, none⟩ := add0 _ _
  have u0 : IntKind.u32.wrap (ix t 0) = ix t 0 := by show ix t 0 % 4294967296 = _; omega
  obtain ⟨_, _, _, _, cells, hbt⟩ := Kd.R_form ht h3
  have hgt : gt < w.heap.size := World.block_lt_of_cell? w _ hcell
  have hne : g ≠ gt := by
    obtain ⟨g', cap', e', _, _, cells, hbt⟩ := Kd.R_form ht h3
    injection e' with e'
    injection e' with e'
    injection e' with e'
    subst e'
    exact blk_ne hb hbt (by decide)
  have hres : Dk (w.setCell ⟨gt, (ix t 0).toNat, none⟩ (.bool true)) ok g d (t.set (ix t 0).toNat true) := by
    refine ⟨h1, by rw [List.length_set]; exact h2, by rw [List.length_set]; exact h3, by rw [List.length_set]; exact h4, _, _, blk_far hb hne _, ?_, ?_⟩
    · obtain ⟨g', cap', e', _, _, cells, hbt⟩ := Kd.R_form ht h3
      injection e' with e'
      injection e' with e'
      injection e' with e'
      subst e'
      exact Kd.R_set hd hbt (by decide) _ _
    · have := (Kd.R_put ht (ix t 0) true).1
      exact this
  have HRes := Aside0.mk hres
  have HKT := Aside0.mk hkt
  clear hb hd ht hct hcd hx hin hi0 hi1 h1 h2 h3 h4 hres hkt hkd hbt
  go_enter Try.func30, Try.ntmps30
  go_wp2_with (go_at_call 67; (with_reducible refine (index_ok _ _ t ct HC.out HL.out).mono ?_); rintro en w1 ⟨rfl, rfl⟩)
  go_ret2
  exact ⟨rfl, HRes.out, (Kept.refl _ _).setCell (.inl HKT.out) _, fun B hB => (Below.refl _ _).setCell (hB _ HKT.out) _⟩
theorem write_out {w : World} {ok : Nat → Prop} {g : Nat} {d : List Int} {t : List Bool} (h : Dk w ok g d t) (p : Int) (v : Value) (h0 : 0 ≤ p) (hp : (t.length : Int) ≤ p) (hp2 : p < 4294967296) : Calls Try.prog 21 #[.pointer (some ⟨g, 0, none⟩), .int .u32 p, v] w fun e w' => e = .returned (.int .i64 8) ∧ w' = w := by
  have H := Aside0.mk h
  have HP := Aside0.mk hp
  have HP2 := Aside0.mk hp2
  have en := eqn_none
  clear h hp hp2
  go_enter Try.func21, Try.ntmps21
  go_wp2_with (go_at_call 63; (with_reducible refine (at_out H.out p h0 HP.out HP2.out).mono ?_); rintro en w1 ⟨rfl, rfl⟩)
  go_ret
  exact ⟨rfl, rfl⟩
theorem write_bad {w : World} {ok : Nat → Prop} {g : Nat} {d : List Int} {t : List Bool} (h : Dk w ok g d t) (p : Int) (A : Option Addr) (n c : Nat) (h0 : 0 ≤ p) (hp : p < t.length) (hn : n ≠ 512) : Calls Try.prog 21 #[.pointer (some ⟨g, 0, none⟩), .int .u32 p, .slice A n c] w fun e w' => e = .returned (.int .i64 1) ∧ w' = w := by
  obtain ⟨gd, cd, gt, ct, hb, hcd, hct, hd, ht, _, _⟩ := h.form
  have H := Aside0.mk h
  have HB := Aside0.mk hb
  have HP := Aside0.mk hp
  have HCD := Aside0.mk hcd
  have en := eqn_some
  have c0 : ((n : Int) != 512) = true := bne_iff_ne.mpr (by omega)
  clear h hp hd ht hct hcd hb hn
  go_enter Try.func21, Try.ntmps21
  go_wp2_with (go_at_call 63; (with_reducible refine (at_in H.out HB.out HCD.out p h0 HP.out).mono ?_); rintro en w1 ⟨rfl, rfl⟩)
  go_ret
  exact ⟨rfl, rfl⟩
theorem write_ok {w : World} {ok : Nat → Prop} {g : Nat} {d : List Int} {t : List Bool} (h : Dk w ok g d t) (p : Int) (A : Option Addr) (c : Nat) (bs : List Int) (h0 : 0 ≤ p) (hp : p < t.length) (hn : bs.length = 512) (hC : Kd.C (Kd.int .u8) w A 512 bs) : Calls Try.prog 21 #[.pointer (some ⟨g, 0, none⟩), .int .u32 p, .slice A 512 c] w fun e w' => e = .returned (.int .i64 0) ∧ Dk w' ok g (splice d (512 * p.toNat) bs) (t.set p.toNat true) ∧ Kept w w' ok ∧ ∀ B, (∀ k, ok k → B ≤ k) → Below B w w' := by
  obtain ⟨gd, cd, gt, ct, hb, hcd, hct, hd, ht, hkd, hkt⟩ := h.form
  have H := Aside0.mk h
  obtain ⟨h1, h2, h3, h4, _⟩ := h
  have HB := Aside0.mk hb
  have HP := Aside0.mk hp
  have HCD := Aside0.mk hcd
  have en := eqn_some
  have hne : g ≠ gt ∧ g ≠ gd ∧ gd ≠ gt := by
    obtain ⟨g', cap', e', _, _, cells, hbt⟩ := Kd.R_form ht h3
    injection e' with e'
    injection e' with e'
    injection e' with e'
    subst e'
    obtain ⟨g', cap', e', _, _, cells', hbd⟩ := Kd.R_form hd (by omega)
    injection e' with e'
    injection e' with e'
    injection e' with e'
    subst e'
    exact ⟨blk_ne hb hbt (by decide), blk_ne hb hbd (by decide), blk_ne hbd hbt (by decide)⟩
  have HD := Aside0.mk hd
  have HT := Aside0.mk ht
  have HN := Aside0.mk hn
  have HR := Aside0.mk hC
  have HL := Aside0.mk (And.intro h2 (And.intro h3 h4))
  have HK := Aside0.mk (And.intro h1 (And.intro hkd hkt))
  have HNE := Aside0.mk hne
  have e2 : Addr.add ⟨gt, 0, none⟩ p.toNat = ⟨gt, p.toNat, none⟩ := add0 _ _
  have p9 : (0 ≤ p) = True := eq_true h0
  have q9 : (p < (t.length : Int)) = True := eq_true hp
  have hsz : 512 * p.toNat + 512 ≤ d.length := by omega
  have HS := Aside0.mk hsz
  clear h1 h2 h3 h4 hp hd ht hct hcd hb hn hC hkd hkt hne hsz
  go_enter Try.func21, Try.ntmps21
  go_wp2_with (first | (go_at_call 63; (with_reducible refine (at_in H.out HB.out HCD.out p h0 HP.out).mono ?_); rintro en w1 ⟨rfl, rfl⟩) | ((with_reducible refine gate_builtin (b := .copy) (xs := #[.tmp 18, .tmp 19]) rfl ?_); refine copy_cut rfl (.tmp 18) (.tmp 19) 26 26 rfl 5 Try.underlying26 (by kernel_rfl) gd (512 * p.toNat) cd d bs 0 ok HD.out _ A 512 _ c rfl (by rw [HN.out]; rfl) (fun _ => by rw [show (p * 512).toNat = 512 * p.toNat by omega]) (by rw [HN.out]; decide) (by rw [HN.out]; exact HS.out) (by rw [HN.out]; exact HR.out) ?_; intro w4 ho4 hg4; have HB4 := Aside0.mk (blk_grown HB.out hg4 (by simp; exact HNE.out.2.1)); have HT4 := Aside0.mk (Kd.R_grown1 HT.out rfl hg4 (by simp [Value.ownBlock]; exact HNE.out.2.2)); have HO4 := Aside0.mk ho4; have HG4 := Aside0.mk hg4; clear ho4 hg4; have hc1 := (blk_cell HB4.out 1).trans rfl; have hf1 := blk_frozen HB4.out 1; obtain ⟨hcell, hfr⟩ := Kd.R_cell false HT4.out p h0 HP.out))
  go_ret
  obtain ⟨h2, h3, h4⟩ := HL.out
  obtain ⟨k1, k2, k3⟩ := HK.out
  have hgt : Kd.R Kd.bool 4 w4 0 ok (.slice (some ⟨gt, 0, none⟩) t.length ct) t := HT4.out
  have hln : (splice d (512 * p.toNat) bs).length = d.length := length_splice _ _ _ (by rw [HN.out]; exact HS.out)
  refine ⟨rfl, ⟨k1, by rw [hln, List.length_set]; exact h2, by rw [List.length_set]; exact h3, by rw [List.length_set]; exact h4, _, _, blk_far HB4.out HNE.out.1 _, ?_, ?_⟩, ?_, ?_⟩
  · obtain ⟨g', cap', e', _, _, cells, hbt⟩ := Kd.R_form hgt h3
    injection e' with e'
    injection e' with e'
    injection e' with e'
    subst e'
    exact Kd.R_set HO4.out hbt (by decide) _ _
  · exact (Kd.R_put hgt p true).1
  · exact (Kept.of_grown HG4.out (Kept.refl _ _) (fun k hk => by injection hk with hk; subst hk; exact .inl k2)).setCell (.inl k3) _
  · intro B hB
    exact ((Below.refl B _).trans ⟨HG4.out.os, HG4.out.tape, HG4.out.output, HG4.out.size, fun k hk => HG4.out.block k (by have := hB _ k2; have := Kd.R_lt HD.out gd rfl; omega) (by intro e; injection e with e; have := hB _ k2; omega)⟩).setCell (hB _ k3) _
end Go.Proofs.Ytolgcohmmghehaa.Dsk
