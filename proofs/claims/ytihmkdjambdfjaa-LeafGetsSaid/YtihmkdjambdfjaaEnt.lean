/- The leaf's reader: a number, an entry. Conditions: the reader's block is known, its bytes lie below it. -/
import Derived.Test.YtihmkdjambdfjaaTak
import Derived.Test.YtihmkdjambdfjaaByt
namespace Go.Proofs.Ytihmkdjambdfjaa.Tk
open Go.RowKit Go.Proofs.YtihmkdjambdfjaaW.PrintWords Go.Proofs.YtihmkdjambdfjaaW.PrintLast Go.Proofs.YtihmkdjambdfjaaW.PrintMore
set_option linter.unusedVariables false
set_option linter.unusedSimpArgs false
set_option maxRecDepth 100000
/-- The number that bytes are, the highest first. -/
def nv (bs : List Int) : Int := bs.foldl (fun a x => a * 256 + x) 0
theorem nv_in : ∀ (bs : List Int) (a : Int) (m : Int), By bs → 0 ≤ a → a < m → 0 ≤ bs.foldl (fun a x => a * 256 + x) a ∧ bs.foldl (fun a x => a * 256 + x) a < m * 256 ^ bs.length
  | [], a, m, h, h0, h1 => by simpa using ⟨h0, h1⟩
  | x :: bs, a, m, h, h0, h1 => by
    have hx := h x (List.mem_cons_self ..)
    have := nv_in bs (a * 256 + x) (m * 256) (fun y hy => h y (List.mem_cons_of_mem _ hy)) (by omega) (by omega)
    rw [List.foldl_cons, List.length_cons, Int.pow_succ]
    refine ⟨this.1, ?_⟩
    have e : m * (256 ^ bs.length * 256) = m * 256 * 256 ^ bs.length := by rw [Int.mul_comm (256 ^ bs.length) 256, Int.mul_assoc]
    rw [e]
    exact this.2
theorem nv_bd {bs : List Int} (h : By bs) : 0 ≤ nv bs ∧ nv bs < 256 ^ bs.length := by
  have := nv_in bs 0 1 h (by omega) (by omega)
  rw [Int.one_mul] at this
  exact this
theorem By.take {xs : List Int} (h : By xs) (n : Nat) : By (xs.take n) := fun x hx => h x (List.mem_of_mem_take hx)
theorem nv_step (l : List Int) (h : By l) (n : Nat) (hn : n < l.length) (hl : l.length ≤ 4) : nv (l.take (n + 1)) = Go.bits .or .u32 ((nv (l.take n) * 256) % 4294967296) (rd l n % 4294967296) := by
  have e : rd l (n : Int) = l[n] := by simp [rd, List.getD_eq_getElem?_getD, hn]
  have hb := h _ (List.getElem_mem hn)
  have hp := nv_bd (h.take n)
  have hlen : (l.take n).length = n := by rw [List.length_take]; omega
  rw [hlen] at hp
  have h3 : nv (l.take n) < 16777216 := by
    have : (256 : Int) ^ n ≤ 256 ^ 3 := by
      rcases (by omega : n = 0 ∨ n = 1 ∨ n = 2 ∨ n = 3) with rfl | rfl | rfl | rfl <;> decide
    have e3 : (256 : Int) ^ 3 = 16777216 := by decide
    omega
  rw [e, Byt.or32 _ _ hp.1 h3 hb.1 hb.2, nv, nv, List.take_add_one, List.foldl_append]
  simp [hn]
set_option maxHeartbeats 4000000 in
theorem num_any (w0 w : World) (g : Nat) (xs : List Int) (s : Bool) (n : Int) (hI : Cur w0 w g xs s) (hB : Below w0.heap.size w0 w) (hm : xs.length ≤ 9223372036854775807) (hy : By xs) (h0 : 0 ≤ n) (hn : n ≤ 4) :
    Calls Try.prog 47 #[.pointer (some ⟨g, 0, none⟩), .int .i64 n] w fun en w' => en = .returned (.int .u32 (nv (tk xs s n).1)) ∧ Cur w0 w' g (tk xs s n).2.1 (tk xs s n).2.2 ∧ Below w0.heap.size w0 w' ∧ KeepBut w w' g none := by
  have hbl := tk_len xs s n h0
  have hby := hy.tk1 s n
  have HI := Aside0.mk hI
  have HB := Aside0.mk hB
  have HM := Aside0.mk (And.intro hm (And.intro h0 hn))
  have HY := Aside0.mk (And.intro hbl hby)
  clear hI hB hm hbl hby h0 hn hy
  go_enter Try.func47, Try.ntmps47
  go_wp2_with (go_at_call 72; (with_reducible refine (take_any w0 _ g xs s n HI.out HB.out HM.out.1 HM.out.2.1 (by have := HM.out.2.2; omega)).mono ?_); rintro en w1 ⟨A, c, rfl, hc, hC, hI1, hB1, hK1⟩; have HC1 := Aside0.mk hC; have HI1 := Aside0.mk hI1; have HB1 := Aside0.mk hB1; have HK1 := Aside0.mk hK1; clear hC hI1 hB1 hK1)
  obtain ⟨bs, hbs⟩ : ∃ bs, bs = (tk xs s n).1 := ⟨_, rfl⟩
  rw [← hbs] at HC1 HY ⊢
  clear hc
  have HE := Aside0.mk hbs
  clear hbs
  go_loopg [5, 12] bs.length (fun kq v5 v12 w' => ∃ i : Int, v5 = .int .u32 (nv (bs.take i.toNat)) ∧ v12 = .int .i64 i ∧ Aside0 (0 ≤ i ∧ (kq : Int) + i = bs.length) ∧ w' = w1)
  case atStart => exact ⟨0, rfl, rfl, ⟨by omega⟩, rfl⟩
  case round =>
    obtain ⟨i, rfl, rfl, HI_, rfl⟩ := hrel
    by_cases c2 : i < (bs.length : Int)
    · have c2b0 : decide (i < (bs.length : Int)) = true := decide_eq_true c2
      obtain ⟨ad9, e9, hx9⟩ := Kd.at_int HC1.out i HI_.out.1 c2
      subst e9
      have p9 : (0 ≤ i) = True := eq_true HI_.out.1
      have q9 : (i < (bs.length : Int)) = True := eq_true c2
      have hst := nv_step bs HY.out.2 i.toNat (by have := HI_.out.1; omega) (by have := HY.out.1; have := HM.out.2.2; omega)
      rw [show ((i.toNat : Nat) : Int) = i by have := HI_.out.1; omega] at hst
      have HST := Aside0.mk hst
      have HC9 := Aside0.mk c2
      clear c2 hst
      go_wp2
      go_roundg (gk - 1)
      case measure => have h1 := HI_.out; have h2 := HC9.out; omega
      case rel =>
        have h1 := HI_.out
        have h2 := HC9.out
        have h3 := HY.out.1
        have h4 := HM.out.2.2
        exact ⟨i + 1, by rw [show (i + 1).toNat = i.toNat + 1 by omega, HST.out], by rw [wr_in (i + 1) (by omega)], ⟨by omega⟩, rfl⟩
    · have c2b0 : decide (i < (bs.length : Int)) = false := decide_eq_false c2
      have hta : bs.take i.toNat = bs := List.take_of_length_le (by have := HI_.out; omega)
      rw [hta]
      clear c2 hta
      go_wp2
      go_ret
      exact ⟨by rw [← HE.out]; rfl, HI1.out, HB1.out, HK1.out⟩
/-- An entry that is read: key, page, slot; what is left; whether something wasn't there. -/
def ent (xs : List Int) (s : Bool) : (List Int × Int × Int) × List Int × Bool :=
  let a := tk xs s 2
  let b := tk a.2.1 a.2.2 (nv a.1)
  let c := tk b.2.1 b.2.2 4
  let d := tk c.2.1 c.2.2 2
  ((b.1, nv c.1, nv d.1), d.2.1, d.2.2)
theorem keep_lt {w w' : World} {g k : Nat} {o : Obj} (h : KeepBut w w' g none) (hb : w.heap[k]? = some o) (hk : k ≠ g) : w'.heap[k]? = some o := h.blk hb hk (by simp)
set_option maxHeartbeats 8000000 in
theorem ent_any (w0 w : World) (g : Nat) (xs : List Int) (s : Bool) (hI : Cur w0 w g xs s) (hB : Below w0.heap.size w0 w) (hm : xs.length ≤ 1000000) (hy : By xs) :
    Calls Try.prog 45 #[.pointer (some ⟨g, 0, none⟩)] w fun en w' => en = .returned (.agg #[.string (strOfNums (ent xs s).1.1), .int .u32 (ent xs s).1.2.1, .int .u16 (ent xs s).1.2.2]) ∧ Cur w0 w' g (ent xs s).2.1 (ent xs s).2.2 ∧ Below w0.heap.size w0 w' ∧ KeepBut w w' g none := by
  have hgl := hI.lt
  have hw0 := hB.size
  obtain ⟨r, hr⟩ : ∃ r, r = nv (tk xs s 2).1 := ⟨_, rfl⟩
  obtain ⟨xa, hxa⟩ : ∃ y, y = (tk xs s 2).2.1 := ⟨_, rfl⟩
  obtain ⟨sa, hsa⟩ : ∃ y, y = (tk xs s 2).2.2 := ⟨_, rfl⟩
  obtain ⟨kb, hkb⟩ : ∃ y, y = (tk xa sa r).1 := ⟨_, rfl⟩
  obtain ⟨xb, hxb⟩ : ∃ y, y = (tk xa sa r).2.1 := ⟨_, rfl⟩
  obtain ⟨sb, hsb⟩ : ∃ y, y = (tk xa sa r).2.2 := ⟨_, rfl⟩
  obtain ⟨pg, hpg⟩ : ∃ y, y = nv (tk xb sb 4).1 := ⟨_, rfl⟩
  obtain ⟨xc, hxc⟩ : ∃ y, y = (tk xb sb 4).2.1 := ⟨_, rfl⟩
  obtain ⟨sc, hsc⟩ : ∃ y, y = (tk xb sb 4).2.2 := ⟨_, rfl⟩
  obtain ⟨sl, hsl⟩ : ∃ y, y = nv (tk xc sc 2).1 := ⟨_, rfl⟩
  obtain ⟨xd, hxd⟩ : ∃ y, y = (tk xc sc 2).2.1 := ⟨_, rfl⟩
  obtain ⟨sd, hsd⟩ : ∃ y, y = (tk xc sc 2).2.2 := ⟨_, rfl⟩
  have he : ent xs s = ((kb, pg, sl), xd, sd) := by simp only [ent, hkb, hpg, hsl, hxd, hsd, hxc, hsc, hxb, hsb, hxa, hsa, hr]
  have hya : By xa := by rw [hxa]; exact hy.tk2 _ _
  have hyb : By xb := by rw [hxb]; exact hya.tk2 _ _
  have hyc : By xc := by rw [hxc]; exact hyb.tk2 _ _
  have hla : xa.length ≤ 1000000 := by rw [hxa]; exact Nat.le_trans (tk_le _ _ _) hm
  have hlb : xb.length ≤ 1000000 := by rw [hxb]; exact Nat.le_trans (tk_le _ _ _) hla
  have hlc : xc.length ≤ 1000000 := by rw [hxc]; exact Nat.le_trans (tk_le _ _ _) hlb
  have hr0 : 0 ≤ r ∧ r < 65536 := by
    have := nv_bd (hy.tk1 s 2)
    rw [tk_len _ _ _ (by omega), ← hr] at this
    exact this
  have hs0 : 0 ≤ sl ∧ sl < 65536 := by
    have := nv_bd (hyc.tk1 sc 2)
    rw [tk_len _ _ _ (by omega), ← hsl] at this
    exact this
  have HE := Aside0.mk (And.intro hr (And.intro hxa (And.intro hsa True.intro)))
  have HE2 := Aside0.mk (And.intro hkb (And.intro hxb hsb))
  have HE3 := Aside0.mk (And.intro hpg (And.intro hxc hsc))
  have HE4 := Aside0.mk (And.intro hsl (And.intro hxd hsd))
  have HI := Aside0.mk hI
  have HB := Aside0.mk hB
  have HM := Aside0.mk (And.intro (show xs.length ≤ 9223372036854775807 by omega) hy)
  have HA := Aside0.mk (And.intro (show xa.length ≤ 9223372036854775807 by omega) (And.intro hr0.1 hr0.2))
  have HBB := Aside0.mk (And.intro (show xb.length ≤ 9223372036854775807 by omega) hyb)
  have HCC := Aside0.mk (And.intro (show xc.length ≤ 9223372036854775807 by omega) hyc)
  have HEE := Aside0.mk he
  have r1 : 0 ≤ r := hr0.1
  have r2 : r < 65536 := hr0.2
  have r3 : 0 ≤ sl := hs0.1
  have r4 : sl < 65536 := hs0.2
  clear hI hB hm hy he hya hyb hyc hla hlb hlc hr0 hs0 hr hxa hsa hkb hxb hsb hpg hxc hsc hsl hxd hsd
  go_enter Try.func45, Try.ntmps45
  go_wp2_with (first | (go_at_call 47; (with_reducible refine (num_any w0 _ g xs s 2 (HI.out.alloc _) (HB.out.alloc HB.out.size _) HM.out.1 HM.out.2 (by omega) (by omega)).mono ?_); rintro en w1 ⟨rfl, hI1, hB1, hK1⟩; rw [← HE.out.1] ; rw [← HE.out.2.1, ← HE.out.2.2.1] at hI1; have HI1 := Aside0.mk hI1; have HB1 := Aside0.mk hB1; have HK1 := Aside0.mk ((keep_alloc (KeepBut.refl w g none) _).trans hK1 (.inl rfl)); have HR1 := Aside0.mk (hK1.blk (blk_new w _) (by first | omega | (simp; omega)) (by simp)); clear hI1 hB1 hK1; have hr0 := (blk_cell HR1.out 0).trans rfl; have hr1 := (blk_cell HR1.out 1).trans rfl; have hr2 := (blk_cell HR1.out 2).trans rfl; have hf0 := blk_frozen HR1.out 0; have hf1 := blk_frozen HR1.out 1; have hf2 := blk_frozen HR1.out 2; have hsz1 := blk_lt HR1.out) | (go_at_call 72; (with_reducible refine (take_any w0 _ g xa sa r (HI1.out) (HB1.out) HA.out.1 HA.out.2.1 (by have := HA.out.2.2; omega)).mono ?_); rintro en w2 ⟨A2, c2, rfl, hc2, hC2, hI2, hB2, hK2⟩; have hcv := Kd.C_string (P := Try.prog) (A := A2) (c := c2) Try.underlying36 Try.underlying5 Try.underlying9 hC2; rw [← HE2.out.1] at hcv; rw [← HE2.out.1]; rw [← HE2.out.2.1, ← HE2.out.2.2] at hI2; clear hc2 hC2; have HI2 := Aside0.mk hI2; have HB2 := Aside0.mk hB2; have HK2 := Aside0.mk ((HK1.out).trans hK2 (.inl rfl)); have HR2 := Aside0.mk (hK2.blk (HR1.out) (by first | omega | (simp; omega)) (by simp)); clear hI2 hB2 hK2; have hr0 := (blk_cell HR2.out 0).trans rfl; have hr1 := (blk_cell HR2.out 1).trans rfl; have hr2 := (blk_cell HR2.out 2).trans rfl; have hf0 := blk_frozen HR2.out 0; have hf1 := blk_frozen HR2.out 1; have hf2 := blk_frozen HR2.out 2; have hsz2 := blk_lt HR2.out) | (go_at_call 47; (with_reducible refine (num_any w0 _ g xb sb 4 (HI2.out) (HB2.out) HBB.out.1 HBB.out.2 (by omega) (by omega)).mono ?_); rintro en w3 ⟨rfl, hI3, hB3, hK3⟩; rw [← HE3.out.1]; rw [← HE3.out.2.1, ← HE3.out.2.2] at hI3; have HI3 := Aside0.mk hI3; have HB3 := Aside0.mk hB3; have HK3 := Aside0.mk ((HK2.out).trans hK3 (.inl rfl)); have HR3 := Aside0.mk (hK3.blk (HR2.out) (by first | omega | (simp; omega)) (by simp)); clear hI3 hB3 hK3; have hr0 := (blk_cell HR3.out 0).trans rfl; have hr1 := (blk_cell HR3.out 1).trans rfl; have hr2 := (blk_cell HR3.out 2).trans rfl; have hf0 := blk_frozen HR3.out 0; have hf1 := blk_frozen HR3.out 1; have hf2 := blk_frozen HR3.out 2; have hsz3 := blk_lt HR3.out) | (go_at_call 47; (with_reducible refine (num_any w0 _ g xc sc 2 (HI3.out) (HB3.out) HCC.out.1 HCC.out.2 (by omega) (by omega)).mono ?_); rintro en w4 ⟨rfl, hI4, hB4, hK4⟩; rw [← HE4.out.1]; rw [← HE4.out.2.1, ← HE4.out.2.2] at hI4; have HI4 := Aside0.mk hI4; have HB4 := Aside0.mk hB4; have HK4 := Aside0.mk ((HK3.out).trans hK4 (.inl rfl)); have HR4 := Aside0.mk (hK4.blk (HR3.out) (by first | omega | (simp; omega)) (by simp)); clear hI4 hB4 hK4; have hr0 := (blk_cell HR4.out 0).trans rfl; have hr1 := (blk_cell HR4.out 1).trans rfl; have hr2 := (blk_cell HR4.out 2).trans rfl; have hf0 := blk_frozen HR4.out 0; have hf1 := blk_frozen HR4.out 1; have hf2 := blk_frozen HR4.out 2; have hsz4 := blk_lt HR4.out))
  refine bodyPost_ret (results_cell_row rfl _ _ w.heap.size 27 #[.string (strOfNums kb), .int .u32 pg, .int .u16 sl] (0, 0) _ rfl (blk_put (blk_put (blk_put HR4.out 0 _ rfl) 1 _ rfl) 2 _ rfl) Try.underlying27 rfl (by kernel_rfl)) rfl ?_
  rw [HEE.out]
  exact ⟨rfl, ((HI4.out.far (by simp; omega) _).far (by simp; omega) _).far (by simp; omega) _, below_set (below_set (below_set HB4.out hw0) hw0) hw0, keep_far (keep_far (keep_far HK4.out (Nat.le_refl _) _) (Nat.le_refl _) _) (Nat.le_refl _) _⟩
end Go.Proofs.Ytihmkdjambdfjaa.Tk
