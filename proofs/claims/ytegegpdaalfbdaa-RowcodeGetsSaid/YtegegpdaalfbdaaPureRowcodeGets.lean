/- Plain law of RowcodeGets: the reader answers as the reference does, and what is read is written as it stood; the bytes are bytes. -/
import Derived.Test.YtegegpdaalfbdaaPureVal
namespace Go.Proofs.Ytegegpdaalfbdaa.PureG
open Go.RowKit Go.Proofs.Ytegegpdaalfbdaa.XRowcodeGets Go.Proofs.YtegegpdaalfbdaaW.PrintWords Go.Proofs.YtegegpdaalfbdaaW.PrintLast Go.Proofs.YtegegpdaalfbdaaW.PrintMore
set_option linter.unusedVariables false
set_option linter.unusedSimpArgs false
theorem drop_rd36 (l : List S36) (i : Nat) (h : i < l.length) : l.drop i = rd_T36 l (i : Int) :: l.drop (i + 1) := by
  rw [List.drop_eq_getElem_cons h]
  simp [rd_T36, h]
theorem fixed_f (k : Nat) (hk : 20 ≤ k) : rowlocklaw04_fixed.f k = some true :=
  at_rounds rowlocklaw04_fixed.mono hk (by decide +kernel)
theorem same_l0 (l : List S36) (hn : l.length ≤ 1000000) (d : Nat) : ∀ (q n : Nat), n ≤ l.length → l.length - n = d → d < q → rowlockref04_Same.l0 q l l (l.length : Int) (n : Int) = some true := by
  induction d with
  | zero =>
    intro q n hi hd hq
    obtain ⟨q, rfl⟩ : ∃ m, q = m + 1 := ⟨q - 1, by omega⟩
    simp only [rowlockref04_Same.l0]
    rw [if_neg (by omega)]
  | succ d ih =>
    intro q n hi hd hq
    obtain ⟨q, rfl⟩ : ∃ m, q = m + 1 := ⟨q - 1, by omega⟩
    simp only [rowlockref04_Same.l0]
    rw [if_pos (by omega), if_pos (by omega), if_pos (by omega), if_pos (by omega), if_neg (by simp), show wrap64 ((n : Int) + 1) = ((n + 1 : Nat) : Int) by unfold wrap64; omega]
    exact ih q (n + 1) (by omega) (by omega) (by omega)
theorem same_f (l : List S36) (hn : l.length ≤ 1000000) (q : Nat) (hq : l.length < q) : rowlockref04_Same.f q l l = some true := by
  unfold rowlockref04_Same.f
  rw [if_pos rfl]
  exact same_l0 l hn l.length q 0 (by omega) (by omega) hq
/-- The value as a struct. -/
def vs (t : Int × Int × ByteArray) : S36 := ⟨t.1, t.2.1, t.2.2⟩
theorem fl02 : Rd.fl 0 2 = 2 := rfl
/-- Rows and their writings, one behind the other. -/
inductive Wr : List S36 → List Int → Prop
  | nil : Wr [] []
  | cons {v : S36} {rows : List S36} {head tail : List Int} (hm : mayv v.f0 v.f1 v.f2 = true) (hh : head.length ≤ 60)
      (h : ∀ (q : Nat) (out : List Int), 20 < q → out.length ≤ 100000 → rowcode_one.f q out v.f0 v.f1 v.f2 = some (out ++ head)) (ht : Wr rows tail) : Wr (v :: rows) (head ++ tail)
theorem get_l0 (l : List Int) (hy : Rd.By l) (hl : l.length ≤ 5000) (n : Nat) (hn : 0 < l.length) (hr : rd l 0 = n) (hn5 : n ≤ 255) (m : Nat) : ∀ (q : Nat) (rows : List S36) (p : Nat), p ≤ l.length → rows.length + m = n → m + 30 < q →
    rowlockref04_Get.l0 q l [] rows (p : Int) ((n - m : Nat) : Int) = some (rowcode_Get.gl m rows (l.drop p) 0) ∧
    ((rowcode_Get.gl m rows (l.drop p) 0).2 = 0 → ∃ new, (rowcode_Get.gl m rows (l.drop p) 0).1 = rows ++ new ∧ new.length = m ∧ Wr new (l.drop p)) ∧
    ((rowcode_Get.gl m rows (l.drop p) 0).2 ≠ 0 → (rowcode_Get.gl m rows (l.drop p) 0).1 = []) := by
  have hwn : wrap64 (rd l 0) = (n : Int) := by rw [hr]; unfold wrap64; omega
  induction m with
  | zero =>
    intro q rows p hp hrm hq
    obtain ⟨q, rfl⟩ : ∃ m, q = m + 1 := ⟨q - 1, by omega⟩
    simp only [rowlockref04_Get.l0, rowcode_Get.gl, hwn]
    rw [if_pos (by omega), if_neg (by omega)]
    by_cases h : p < l.length
    · have hd : 0 < (l.drop p).length := by rw [List.length_drop]; omega
      rw [if_pos (by omega), if_pos hd, fl02, if_neg (by decide)]
      exact ⟨rfl, fun h => absurd h (by decide), fun _ => rfl⟩
    · have hd : ¬ 0 < (l.drop p).length := by rw [List.length_drop]; omega
      rw [if_neg (by omega), if_neg hd, if_pos rfl]
      refine ⟨rfl, fun _ => ⟨[], by simp, rfl, ?_⟩, fun h => absurd rfl h⟩
      rw [List.drop_of_length_le (by omega)]
      exact Wr.nil
  | succ m ih =>
    intro q rows p hp hrm hq
    obtain ⟨q, rfl⟩ : ∃ m, q = m + 1 := ⟨q - 1, by omega⟩
    obtain ⟨hR, hW⟩ := value_all l p hy hl hp
    obtain ⟨v, i, s, next, e, hv, he, hok⟩ := hR q (by omega)
    simp only [rowlockref04_Get.l0, rowcode_Get.gl, hwn]
    rw [if_pos (by omega), if_pos (by omega), hv]
    simp only [Option.bind_some]
    by_cases h0 : e = 0
    · have h0' : (Rd.vl (l.drop p) 0).2.2 = 0 := by rw [← he, h0]
      obtain ⟨h1, p', rfl, hp', hdp⟩ := hok h0
      have hvs : (⟨v, i, s⟩ : S36) = ⟨(Rd.vl (l.drop p) 0).1.1, (Rd.vl (l.drop p) 0).1.2.1, (Rd.vl (l.drop p) 0).1.2.2⟩ := by rw [← h1]
      rw [if_pos h0, if_pos h0', if_pos (by omega), h0', ← hdp, hvs, show wrap64 (((n - (m + 1) : Nat) : Int) + 1) = ((n - m : Nat) : Int) by unfold wrap64; omega]
      obtain ⟨ha, hb, hc⟩ := ih q (rows ++ [⟨(Rd.vl (l.drop p) 0).1.1, (Rd.vl (l.drop p) 0).1.2.1, (Rd.vl (l.drop p) 0).1.2.2⟩]) p' hp' (by rw [List.length_append]; simp; omega) (by omega)
      refine ⟨ha, fun h => ?_, hc⟩
      obtain ⟨new, hn1, hn2, hn3⟩ := hb h
      obtain ⟨hm, head, hx, hh, hone⟩ := hW h0'
      refine ⟨⟨(Rd.vl (l.drop p) 0).1.1, (Rd.vl (l.drop p) 0).1.2.1, (Rd.vl (l.drop p) 0).1.2.2⟩ :: new, by rw [hn1]; simp, by simp [hn2], ?_⟩
      have hfin := Wr.cons (v := ⟨(Rd.vl (l.drop p) 0).1.1, (Rd.vl (l.drop p) 0).1.2.1, (Rd.vl (l.drop p) 0).1.2.2⟩) hm hh hone hn3
      rw [hdp, ← hx] at hfin
      exact hfin
    · have h0' : ¬ (Rd.vl (l.drop p) 0).2.2 = 0 := by rw [← he]; exact h0
      rw [if_neg h0, if_neg h0', he]
      exact ⟨rfl, fun h => absurd h h0', fun _ => rfl⟩
theorem may_l0 (rows : List S36) (tail : List Int) (hw : Wr rows tail) : ∀ v ∈ rows, mayv v.f0 v.f1 v.f2 = true := by
  induction hw with
  | nil => intro v hv; cases hv
  | cons hm hh h ht ih =>
    intro v hv
    rcases List.mem_cons.mp hv with rfl | hv
    · exact hm
    · exact ih v hv
theorem contains_l0 (l : List S36) (hn : l.length ≤ 1000000) (hall : ∀ v ∈ l, mayv v.f0 v.f1 v.f2 = true) (d : Nat) : ∀ (q n : Nat), n ≤ l.length → l.length - n = d → d < q → api_Value_59.l0 q l (l.length : Int) (n : Int) = some (-1) := by
  induction d with
  | zero =>
    intro q n hi hd hq
    obtain ⟨q, rfl⟩ : ∃ m, q = m + 1 := ⟨q - 1, by omega⟩
    simp only [api_Value_59.l0]
    rw [if_neg (by omega)]
  | succ d ih =>
    intro q n hi hd hq
    obtain ⟨q, rfl⟩ : ∃ m, q = m + 1 := ⟨q - 1, by omega⟩
    have hm : rd_T36 l (n : Int) ∈ l := by
      have := drop_rd36 l n (by omega)
      exact List.mem_of_mem_drop (by rw [this]; exact List.mem_cons_self ..)
    simp only [api_Value_59.l0, rowcode_may_1.f, may_f, hall _ hm, Option.bind_some]
    rw [if_pos (by omega), if_pos (by omega), if_pos (by omega), if_neg (by simp), show wrap64 ((n : Int) + 1) = ((n + 1 : Nat) : Int) by unfold wrap64; omega]
    exact ih q (n + 1) (by omega) (by omega) (by omega)
theorem put_l0 (l : List S36) (hn : l.length ≤ 255) (d : Nat) : ∀ (q n : Nat) (out tail : List Int), n ≤ l.length → l.length - n = d → d + 30 < q → Wr (l.drop n) tail → out.length ≤ 60 * n + 1 →
    rowcode_Put.l0 q out l (l.length : Int) (n : Int) = some (out ++ tail, 0) := by
  induction d with
  | zero =>
    intro q n out tail hi hd hq hw ho
    obtain ⟨q, rfl⟩ : ∃ m, q = m + 1 := ⟨q - 1, by omega⟩
    simp only [rowcode_Put.l0]
    rw [if_neg (by omega)]
    rw [List.drop_of_length_le (by omega)] at hw
    cases hw
    simp
  | succ d ih =>
    intro q n out tail hi hd hq hw ho
    obtain ⟨q, rfl⟩ : ∃ m, q = m + 1 := ⟨q - 1, by omega⟩
    rw [drop_rd36 l n (by omega)] at hw
    cases hw with
    | cons hm hh h ht =>
      simp only [rowcode_Put.l0]
      rw [if_pos (by omega), if_pos (by omega), if_pos (by omega), h q out (by omega) (by omega)]
      simp only [Option.bind_some]
      rw [show wrap64 ((n : Int) + 1) = ((n + 1 : Nat) : Int) by unfold wrap64; omega, ih q (n + 1) _ _ (by omega) (by omega) (by omega) ht (by rw [List.length_append]; omega), List.append_assoc]
theorem put_f (l : List S36) (hn : l.length ≤ 255) (tail : List Int) (hw : Wr l tail) (q : Nat) (hq : l.length + 40 < q) : rowcode_Put.f q l = some ((l.length : Int) :: tail, 0) := by
  have hc := contains_l0 l (by omega) (may_l0 l tail hw) l.length q 0 (by omega) (by omega) (by omega)
  have hp := put_l0 l hn l.length q 0 [(l.length : Int)] tail (by omega) (by omega) (by omega) (by simpa using hw) (by simp)
  unfold rowcode_Put.f rowcode_may.f api_Value_54.f api_Value_59.f
  rw [show ((0 : Nat) : Int) = 0 from rfl] at hc hp
  simp only [hc, Option.bind_some]
  rw [if_neg (by simp), if_neg (by omega)]
  simp only [Option.bind_some, if_true]
  rw [show (l.length : Int) % 256 = (l.length : Int) by omega, hp]
  rfl
theorem RowcodeGets (l : List Int) (hy : Rd.By l) : ∃ k, rowlocklaw04_RowcodeGets.f k l = some true := by
  refine ⟨400, ?_⟩
  unfold rowlocklaw04_RowcodeGets.f
  by_cases h5 : (l.length : Int) > 5000
  · rw [if_pos h5, fixed_f _ (by omega)]
    rfl
  · rw [if_neg h5]
    simp only [Option.bind_some, List.nil_append, List.length_nil]
    have hall : (l.all fun x => decide (0 ≤ x ∧ x ≤ 255)) = true := List.all_eq_true.mpr fun x hx => decide_eq_true (hy x hx)
    have hg : rowcode_Get.f 400 l = some (rowcode_Get.gl (rd (Rd.tk l 0 1).1 0).toNat [] (Rd.tk l 0 1).2.1 (Rd.tk l 0 1).2.2) := by
      unfold rowcode_Get.f
      rw [if_pos ⟨by omega, hall⟩]
    rw [if_pos (by omega), hg]
    simp only [Option.bind_some]
    obtain ⟨rows, e, hrow, href, hback⟩ : ∃ rows e, rowcode_Get.gl (rd (Rd.tk l 0 1).1 0).toNat [] (Rd.tk l 0 1).2.1 (Rd.tk l 0 1).2.2 = (rows, e) ∧ rowlockref04_Get.f 400 l = some (rows, e) ∧ (rows.length ≤ 255 ∧ (e = 0 → rowcode_Put.f 399 rows = some (l, 0))) := by
      cases l with
      | nil =>
        have e := tk_out [] 1 (by decide)
        rw [show ((1 : Nat) : Int) = 1 from rfl] at e
        refine ⟨[], 3, by rw [e]; rfl, rfl, by simp, fun h => absurd h (by decide)⟩
      | cons b ys =>
        have e : Rd.tk (b :: ys) 0 1 = ([b], ys, 0) := tk_in (b :: ys) 1 (by simp)
        have hb := hy b (List.mem_cons_self ..)
        obtain ⟨n, rfl⟩ : ∃ n : Nat, b = n := ⟨b.toNat, by omega⟩
        have hr1 : rd [(n : Int)] 0 = n := rfl
        rw [e]
        dsimp only
        rw [hr1, show (n : Int).toNat = n by omega]
        obtain ⟨ha, hb2, hc⟩ := get_l0 ((n : Int) :: ys) hy (by omega) n (by simp) rfl (by omega) n 400 [] 1 (by simp) (by simp) (by omega)
        rw [show (n : Int) :: ys = [(n : Int)] ++ ys from rfl, List.drop_append_of_le_length (by simp), show List.drop 1 [(n : Int)] = [] from rfl, List.nil_append] at ha hb2 hc
        refine ⟨_, _, rfl, ?_, ?_, ?_⟩
        · unfold rowlockref04_Get.f
          simp only [Option.bind_some]
          rw [if_neg (by simp; omega)]
          rw [Nat.sub_self] at ha
          exact ha
        · by_cases h0 : (rowcode_Get.gl n [] ys 0).2 = 0
          · obtain ⟨new, hn1, hn2, _⟩ := hb2 h0
            rw [hn1]
            simp
            omega
          · rw [hc h0]
            simp
        · intro h0
          obtain ⟨new, hn1, hn2, hn3⟩ := hb2 h0
          rw [hn1, List.nil_append, put_f new (by omega) ys hn3 399 (by omega), hn2]
    rw [hrow, href, fixed_f _ (by omega)]
    simp only [Option.bind_some]
    rw [if_pos trivial, same_f rows (by omega) 400 (by omega)]
    simp only [Option.bind_some]
    rw [if_pos trivial]
    simp only [rowlocklaw04_RowcodeGets.j0]
    rw [if_neg (by simp)]
    by_cases h0 : e = 0
    · rw [if_pos h0, hback.2 h0]
      simp only [Option.bind_some]
      rw [if_pos trivial]
      simp
    · rw [if_neg h0]
theorem RowcodeGets_wf (l : List Int) (h : ∀ x ∈ l, (Lit.int .u8 x).wf = true) : ∃ k, rowlocklaw04_RowcodeGets.f k l = some true :=
  RowcodeGets l fun x hx => by
    have := h x hx
    simp [Lit.wf, IntKind.min, IntKind.max, IntKind.signed, IntKind.bits] at this
    omega
end Go.Proofs.Ytegegpdaalfbdaa.PureG
