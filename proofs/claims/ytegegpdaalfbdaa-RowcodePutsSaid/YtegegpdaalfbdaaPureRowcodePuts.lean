/- Plain law of RowcodePuts: the writing is the reference's, its size its length, and it is read as it was; the numbers have 64 bits. -/
import Derived.Test.YtegegpdaalfbdaaPurePutsB
namespace Go.Proofs.Ytegegpdaalfbdaa.PureP
open Go.RowKit Go.Proofs.Ytegegpdaalfbdaa.XRowcodePuts Go.Proofs.YtegegpdaalfbdaaW.PrintWords Go.Proofs.YtegegpdaalfbdaaW.PrintLast Go.Proofs.YtegegpdaalfbdaaW.PrintMore
open Go.Proofs.Ytegegpdaalfbdaa.PureG (mayv tk_in)
set_option linter.unusedVariables false
set_option linter.unusedSimpArgs false
/-- What 'Great' sums up: of each value 1 and its text's bytes, 9000 at most. -/
def bulk : List S36 → Int
  | [] => 0
  | v :: l => 1 + mn (v.f2.size : Int) 9000 + bulk l
theorem drop_rd36 (l : List S36) (i : Nat) (h : i < l.length) : l.drop i = rd_T36 l (i : Int) :: l.drop (i + 1) := by
  rw [List.drop_eq_getElem_cons h]
  simp [rd_T36, h]
theorem great_l0 (l : List S36) (hn : l.length ≤ 9223372036854775807) (d : Nat) : ∀ (q n : Nat) (acc : Int), 0 ≤ acc → acc ≤ 5000 → n ≤ l.length → l.length - n = d → d < q →
    ∃ b, rowlockref01_Great.l0 q l acc (l.length : Int) (n : Int) = some b ∧ (b = false → acc + bulk (l.drop n) ≤ 5000) := by
  induction d with
  | zero =>
    intro q n acc h0 h5 hi hd hq
    obtain ⟨q, rfl⟩ : ∃ m, q = m + 1 := ⟨q - 1, by omega⟩
    refine ⟨false, ?_, fun _ => ?_⟩
    · simp only [rowlockref01_Great.l0]; rw [if_neg (by omega)]
    · rw [List.drop_of_length_le (by omega)]; simp only [bulk]; omega
  | succ d ih =>
    intro q n acc h0 h5 hi hd hq
    obtain ⟨q, rfl⟩ : ∃ m, q = m + 1 := ⟨q - 1, by omega⟩
    have hlt : n < l.length := by omega
    have hm : 0 ≤ mn ((rd_T36 l (n : Int)).f2.size : Int) 9000 ∧ mn ((rd_T36 l (n : Int)).f2.size : Int) 9000 ≤ 9000 := by unfold mn; split <;> omega
    simp only [rowlockref01_Great.l0]
    rw [if_pos (by omega), if_pos (by omega), if_pos (by omega), drop_rd36 l n hlt]
    rw [show wrap64 (acc + (1 + mn ((rd_T36 l (n : Int)).f2.size : Int) 9000)) = acc + (1 + mn ((rd_T36 l (n : Int)).f2.size : Int) 9000) by unfold wrap64; omega,
      show wrap64 ((n : Int) + 1) = ((n + 1 : Nat) : Int) by unfold wrap64; omega]
    by_cases hg : acc + (1 + mn ((rd_T36 l (n : Int)).f2.size : Int) 9000) > 5000
    · rw [if_pos hg]; exact ⟨true, rfl, fun h => by cases h⟩
    · rw [if_neg hg]
      obtain ⟨b, hb, hs⟩ := ih q (n + 1) (acc + (1 + mn ((rd_T36 l (n : Int)).f2.size : Int) 9000)) (by omega) (by omega) (by omega) (by omega) (by omega)
      refine ⟨b, hb, fun h => ?_⟩
      have := hs h
      simp only [bulk]; omega
theorem great_f (l : List S36) (hn : l.length ≤ 9223372036854775807) (q : Nat) (hq : l.length < q) : ∃ b, rowlockref01_Great.f q l = some b ∧ (b = false → bulk l ≤ 5000) := by
  obtain ⟨b, hb, hs⟩ := great_l0 l hn l.length q 0 0 (by omega) (by omega) (by omega) (by omega) hq
  exact ⟨b, by simpa [rowlockref01_Great.f] using hb, fun h => by simpa using hs h⟩

theorem fixed_f (k : Nat) (hk : 20 ≤ k) : rowlocklaw04_fixed.f k = some true :=
  at_rounds rowlocklaw04_fixed.mono hk (by decide +kernel)

/-- May a row's value be? -/
def ok (v : S36) : Bool := mayv v.f0 v.f1 v.f2
/-- A row's writings, one behind the other. -/
def cat : List S36 → List Int
  | [] => []
  | v :: r => wv v.f0 v.f1 v.f2 ++ cat r
theorem cat_len (l : List S36) (h : ∀ v ∈ l, ok v = true) : (cat l).length ≤ 60 * l.length := by
  induction l with
  | nil => simp [cat]
  | cons v r ih =>
    have h1 := wv_len v.f0 v.f1 v.f2 (h v (List.mem_cons_self ..))
    have h2 := ih fun x hx => h x (List.mem_cons_of_mem _ hx)
    simp only [cat, List.length_append, List.length_cons]
    omega
theorem cat_by (l : List S36) (h : ∀ v ∈ l, ok v = true) : ∀ x ∈ cat l, 0 ≤ x ∧ x ≤ 255 := by
  induction l with
  | nil => intro x hx; cases hx
  | cons v r ih =>
    intro x hx
    rw [cat, List.mem_append] at hx
    rcases hx with hx | hx
    · exact wv_by _ _ _ (h v (List.mem_cons_self ..)) x hx
    · exact ih (fun y hy => h y (List.mem_cons_of_mem _ hy)) x hx
theorem gl_cat (l : List S36) (h : ∀ v ∈ l, ok v = true ∧ -9223372036854775808 ≤ v.f1 ∧ v.f1 ≤ 9223372036854775807) : ∀ rows, rowcode_Get.gl l.length rows (cat l) 0 = (rows ++ l, 0) := by
  induction l with
  | nil => intro rows; simp [rowcode_Get.gl, cat]
  | cons v r ih =>
    intro rows
    have hv := h v (List.mem_cons_self ..)
    rw [List.length_cons, rowcode_Get.gl, cat, vl_wv _ _ _ hv.1 hv.2, if_pos rfl, ih fun x hx => h x (List.mem_cons_of_mem _ hx), List.append_assoc]
    rfl
theorem szl_cat (l : List S36) (h : ∀ v ∈ l, ok v = true) : ∀ n : Int, 0 ≤ n → n + 60 * (l.length : Int) ≤ 1000000 → rowcode_Size.szl l n = some (n + ((cat l).length : Int)) := by
  induction l with
  | nil => intro n _ _; simp [rowcode_Size.szl, cat]
  | cons v r ih =>
    intro n h0 hn
    have hv := h v (List.mem_cons_self ..)
    have hl := wv_len v.f0 v.f1 v.f2 hv
    obtain ⟨hs, hk⟩ := wv_size v.f0 v.f1 v.f2 hv
    rw [List.length_cons] at hn
    rw [rowcode_Size.szl, if_pos hk, ← hs, show wrap64 (n + ((wv v.f0 v.f1 v.f2).length : Int)) = n + ((wv v.f0 v.f1 v.f2).length : Int) by unfold wrap64; omega, ih (fun x hx => h x (List.mem_cons_of_mem _ hx)) _ (by omega) (by omega), cat, List.length_append]
    congr 1
    omega
theorem mem_rd (l : List S36) (n : Nat) (h : n < l.length) : rd_T36 l (n : Int) ∈ l := by
  have := drop_rd36 l n h
  exact List.mem_of_mem_drop (by rw [this]; exact List.mem_cons_self ..)
theorem contains_l0 (l : List S36) (hn : l.length ≤ 1000000) (d : Nat) : ∀ (q n : Nat), n ≤ l.length → l.length - n = d → d < q → ∃ j, api_Value_59.l0 q l (l.length : Int) (n : Int) = some j ∧ ((l.drop n).all ok = true → j = -1) ∧ ((l.drop n).all ok = false → 0 ≤ j) := by
  induction d with
  | zero =>
    intro q n hi hd hq
    obtain ⟨q, rfl⟩ : ∃ m, q = m + 1 := ⟨q - 1, by omega⟩
    simp only [api_Value_59.l0]
    rw [if_neg (by omega), List.drop_of_length_le (by omega)]
    exact ⟨_, rfl, fun _ => rfl, fun h => by cases h⟩
  | succ d ih =>
    intro q n hi hd hq
    obtain ⟨q, rfl⟩ : ∃ m, q = m + 1 := ⟨q - 1, by omega⟩
    have hm : rowcode_may_1.f (rd_T36 l (n : Int)).f0 (rd_T36 l (n : Int)).f1 (rd_T36 l (n : Int)).f2 = some (!ok (rd_T36 l (n : Int))) := by rw [rowcode_may_1.f, may_f]; rfl
    simp only [api_Value_59.l0, hm, Option.bind_some]
    rw [if_pos (by omega), if_pos (by omega), if_pos (by omega), drop_rd36 l n (by omega), List.all_cons]
    cases hk : ok (rd_T36 l (n : Int)) with
    | true =>
      rw [if_neg (by simp), show wrap64 ((n : Int) + 1) = ((n + 1 : Nat) : Int) by unfold wrap64; omega]
      simpa using ih q (n + 1) (by omega) (by omega) (by omega)
    | false =>
      rw [if_pos (show (!false) = true from rfl)]
      exact ⟨_, rfl, fun h => by simp at h, fun _ => by omega⟩
theorem may_row (l : List S36) (hn : l.length ≤ 1000000) (q : Nat) (hq : l.length < q) : rowcode_may.f q l = some (if l.all ok = true then (if (l.length : Int) > 255 then 15 else 0) else 1) := by
  obtain ⟨j, hj, h1, h2⟩ := contains_l0 l hn l.length q 0 (by omega) (by omega) hq
  rw [show ((0 : Nat) : Int) = 0 from rfl] at hj
  rw [List.drop_zero] at h1 h2
  unfold rowcode_may.f api_Value_54.f api_Value_59.f
  simp only [hj, Option.bind_some]
  cases ha : l.all ok with
  | true =>
    rw [h1 ha, if_neg (by decide), if_pos rfl]
    split <;> rfl
  | false =>
    have := h2 ha
    rw [if_pos (decide_eq_true this)]
    rfl
theorem put_l0 (l : List S36) (hn : l.length ≤ 255) (hall : ∀ v ∈ l, ok v = true) (d : Nat) : ∀ (q n : Nat) (out : List Int), n ≤ l.length → l.length - n = d → d + 30 < q → out.length ≤ 60 * n + 1 →
    rowcode_Put.l0 q out l (l.length : Int) (n : Int) = some (out ++ cat (l.drop n), 0) := by
  induction d with
  | zero =>
    intro q n out hi hd hq ho
    obtain ⟨q, rfl⟩ : ∃ m, q = m + 1 := ⟨q - 1, by omega⟩
    simp only [rowcode_Put.l0]
    rw [if_neg (by omega), List.drop_of_length_le (by omega)]
    simp [cat]
  | succ d ih =>
    intro q n out hi hd hq ho
    obtain ⟨q, rfl⟩ : ∃ m, q = m + 1 := ⟨q - 1, by omega⟩
    have hv := hall _ (mem_rd l n (by omega))
    have hl := wv_len _ _ _ hv
    simp only [rowcode_Put.l0]
    rw [if_pos (by omega), if_pos (by omega), if_pos (by omega), one_f _ _ _ hv q out (by omega) (by omega)]
    simp only [Option.bind_some]
    rw [show wrap64 ((n : Int) + 1) = ((n + 1 : Nat) : Int) by unfold wrap64; omega, ih q (n + 1) _ (by omega) (by omega) (by omega) (by rw [List.length_append]; omega), drop_rd36 l n (by omega), cat, List.append_assoc]
theorem ref_l1 (l : List S36) (hn : l.length ≤ 255) (hall : ∀ v ∈ l, ok v = true) (d : Nat) : ∀ (q n : Nat) (out : List Int), n ≤ l.length → l.length - n = d → 2 * d + 30 < q → out.length ≤ 60 * n + 1 →
    rowlockref04_Put.l1 q l out (l.length : Int) (n : Int) = some (out ++ cat (l.drop n), 0) := by
  induction d with
  | zero =>
    intro q n out hi hd hq ho
    obtain ⟨q, rfl⟩ : ∃ m, q = m + 1 := ⟨q - 1, by omega⟩
    simp only [rowlockref04_Put.l1]
    rw [if_neg (by omega), List.drop_of_length_le (by omega)]
    simp [cat]
  | succ d ih =>
    intro q n out hi hd hq ho
    obtain ⟨q, rfl⟩ : ∃ m, q = m + 2 := ⟨q - 2, by omega⟩
    have hv := hall _ (mem_rd l n (by omega))
    have hl := wv_len _ _ _ hv
    have hw : wrap64 ((n : Int) + 1) = ((n + 1 : Nat) : Int) := by unfold wrap64; omega
    have hih := fun (b : List Int) (hb : b.length ≤ 60) => ih q (n + 1) (out ++ b) (by omega) (by omega) (by omega) (by rw [List.length_append]; omega)
    rw [drop_rd36 l n (by omega), cat, ← List.append_assoc, ← hih _ hl]
    simp only [rowlockref04_Put.l1]
    rw [if_pos (by omega), if_pos (by omega), if_pos (by omega), if_pos (by omega)]
    simp only [Option.bind_some]
    generalize rd_T36 l (n : Int) = v at hv hl ⊢
    obtain ⟨k, i, s⟩ := v
    have hv' : mayv k i s = true := hv
    simp only at hl ⊢
    have hlen1 : ∀ x : Int, (out ++ [x]).length < 140737488355328 := fun x => by rw [List.length_append, List.length_singleton]; omega
    rcases may_kinds hv' with ⟨rfl, rfl, rfl⟩ | ⟨rfl, rfl⟩ | ⟨rfl, hi2, rfl⟩ | ⟨rfl, rfl, hs⟩
    · rw [if_neg (by decide)]
      simp only [rowlockref04_Put.j2]
      rw [if_neg (by decide), if_neg (by decide), hw]
      rfl
    · rw [if_pos rfl, number_f i (q + 1) (by omega)]
      simp only [Option.bind_some]
      rw [if_pos (by rw [List.length_append, List.length_singleton, enc8_len]; omega)]
      simp only [rowlockref04_Put.j2]
      rw [if_neg (by decide), if_neg (by decide), hw]
      simp [wv]
    · rw [if_neg (by decide)]
      simp only [rowlockref04_Put.j2]
      rw [if_pos trivial, if_pos (hlen1 _)]
      simp only [Option.bind_some]
      rw [if_neg (by decide), hw]
      simp [wv]
    · rw [if_neg (by decide)]
      simp only [rowlockref04_Put.j2]
      rw [if_neg (by decide), if_pos trivial, if_pos (hlen1 _)]
      simp only [Option.bind_some]
      rw [if_pos (by simp only [List.length_append, List.length_singleton]; omega), hw]
      simp [wv]
theorem ref_l0 (l : List S36) (hn : l.length ≤ 1000000) (d : Nat) : ∀ (q n : Nat), n ≤ l.length → l.length - n = d → d + 700 < q →
    rowlockref04_Put.l0 q l (l.length : Int) (n : Int) = if (l.drop n).all ok = true then (if (l.length : Int) > 255 then some ([], 15) else rowlockref04_Put.l1 (q - d - 1) l [(l.length : Int) % 256] (l.length : Int) 0) else some ([], 1) := by
  induction d with
  | zero =>
    intro q n hi hd hq
    obtain ⟨q, rfl⟩ : ∃ m, q = m + 1 := ⟨q - 1, by omega⟩
    simp only [rowlockref04_Put.l0]
    rw [if_neg (by omega), List.drop_of_length_le (by omega), if_pos (show (([] : List S36).all ok) = true from rfl)]
    rfl
  | succ d ih =>
    intro q n hi hd hq
    obtain ⟨q, rfl⟩ : ∃ m, q = m + 1 := ⟨q - 1, by omega⟩
    have hm : rowlockref01_May.f (rd_T36 l (n : Int)).f0 (rd_T36 l (n : Int)).f1 (rd_T36 l (n : Int)).f2 = some (ok (rd_T36 l (n : Int))) := rmay_f _ _ _
    simp only [rowlockref04_Put.l0, hm, Option.bind_some]
    rw [if_pos (by omega), if_pos (by omega), if_pos (by omega), drop_rd36 l n (by omega), List.all_cons]
    cases hk : ok (rd_T36 l (n : Int)) with
    | true =>
      rw [if_pos rfl, show wrap64 ((n : Int) + 1) = ((n + 1 : Nat) : Int) by unfold wrap64; omega, ih q (n + 1) (by omega) (by omega) (by omega), Bool.true_and, show q + 1 - (d + 1) - 1 = q - d - 1 by omega]
    | false =>
      rw [if_neg (by simp), Bool.false_and, if_neg (by simp)]
theorem same_l0 (l : List S36) (hn : l.length ≤ 1000000) (d : Nat) : ∀ (q n : Nat), n ≤ l.length → l.length - n = d → d < q → rowlockref04_Same.l0 q l l (l.length : Int) (n : Int) = some true := by
  induction d with
  | zero =>
    intro q n hi hd hq
    obtain ⟨q, rfl⟩ : ∃ m, q = m + 1 := ⟨q - 1, by omega⟩
    simp only [rowlockref04_Same.l0]
    rw [if_neg (by omega)]
  | succ d ih =>
    intro q n hi hd hq
    obtain ⟨q, rfl⟩ : ∃ m, q = m + 1 := ⟨q - 1, by omega⟩
    simp only [rowlockref04_Same.l0]
    rw [if_pos (by omega), if_pos (by omega), if_pos (by omega), if_pos (by omega), if_neg (by simp), show wrap64 ((n : Int) + 1) = ((n + 1 : Nat) : Int) by unfold wrap64; omega]
    exact ih q (n + 1) (by omega) (by omega) (by omega)
theorem same_f (l : List S36) (hn : l.length ≤ 1000000) (q : Nat) (hq : l.length < q) : rowlockref04_Same.f q l l = some true := by
  unfold rowlockref04_Same.f
  rw [if_pos rfl]
  exact same_l0 l hn l.length q 0 (by omega) (by omega) hq
theorem bulk_len (l : List S36) : (l.length : Int) ≤ bulk l := by
  induction l with
  | nil => simp [bulk]
  | cons v r ih =>
    have hm : 0 ≤ mn (v.f2.size : Int) 9000 := by unfold mn; split <;> omega
    simp only [bulk, List.length_cons]
    omega
theorem RowcodePuts (l : List S36) (hl : l.length ≤ 9223372036854775807) (hG : ∀ v ∈ l, -9223372036854775808 ≤ v.f1 ∧ v.f1 ≤ 9223372036854775807) : ∃ k, rowlocklaw04_RowcodePuts.f k l = some true := by
  refine ⟨l.length + 2000, ?_⟩
  unfold rowlocklaw04_RowcodePuts.f
  obtain ⟨b, hb, hbulk⟩ := great_f l hl (l.length + 2000) (by omega)
  rw [hb]
  simp only [Option.bind_some]
  cases b with
  | true =>
    rw [if_pos rfl, fixed_f _ (by omega)]
    rfl
  | false =>
    rw [if_neg (by simp)]
    have h5 : l.length ≤ 5000 := by have h1 := hbulk rfl; have h2 := bulk_len l; omega
    have hmay := may_row l (by omega) (l.length + 2000) (by omega)
    have href := ref_l0 l (by omega) l.length (l.length + 2000) 0 (by omega) (by omega) (by omega)
    rw [List.drop_zero, show ((0 : Nat) : Int) = 0 from rfl] at href
    have hput : ∀ r, (if l.all ok = true then (if (l.length : Int) > 255 then some (([] : List Int), (15 : Int)) else some ((l.length : Int) :: cat l, 0)) else some ([], 1)) = some r →
        rowcode_Put.f (l.length + 2000) l = some r ∧ rowlockref04_Put.f (l.length + 2000) l = some r ∧ rowcode_Size.f (l.length + 2000) l = some (r.1.length : Int) ∧ (r.2 = 0 → rowcode_Get.f (l.length + 1999) r.1 = some (l, 0)) := by
      intro r hr
      unfold rowcode_Put.f rowlockref04_Put.f rowcode_Size.f
      rw [hmay, href, if_pos (show l.length ≤ 1000000 by omega)]
      simp only [Option.bind_some]
      cases ha : l.all ok with
      | false =>
        rw [ha, if_neg (by simp)] at hr
        obtain rfl := Option.some.inj hr
        rw [if_neg (by simp), if_neg (by decide), if_neg (by decide), if_neg (by simp)]
        exact ⟨rfl, rfl, rfl, fun h => absurd h (by decide)⟩
      | true =>
        rw [ha, if_pos rfl] at hr
        rw [if_pos rfl, if_pos rfl]
        have hall : ∀ v ∈ l, ok v = true := fun v hv => List.all_eq_true.mp ha v hv
        by_cases h255 : (l.length : Int) > 255
        · rw [if_pos h255] at hr
          obtain rfl := Option.some.inj hr
          rw [if_pos h255, if_pos h255, if_neg (by decide), if_neg (by decide)]
          exact ⟨rfl, rfl, rfl, fun h => absurd h (by decide)⟩
        · rw [if_neg h255] at hr
          obtain rfl := Option.some.inj hr
          rw [if_neg h255, if_neg h255, if_pos rfl, if_pos rfl, show (l.length : Int) % 256 = (l.length : Int) by omega]
          have hp := put_l0 l (by omega) hall l.length (l.length + 2000) 0 [(l.length : Int)] (by omega) (by omega) (by omega) (by simp)
          have hr1 := ref_l1 l (by omega) hall l.length (l.length + 2000 - l.length - 1) 0 [(l.length : Int)] (by omega) (by omega) (by omega) (by simp)
          rw [List.drop_zero, show ((0 : Nat) : Int) = 0 from rfl] at hp hr1
          rw [hp, hr1, szl_cat l hall 1 (by omega) (by omega)]
          have hcl := cat_len l hall
          refine ⟨rfl, rfl, by simp only [List.length_cons]; congr 1; omega, fun _ => ?_⟩
          unfold rowcode_Get.f
          have hall2 : (((l.length : Int) :: cat l).all fun x => decide (0 ≤ x ∧ x ≤ 255)) = true := List.all_eq_true.mpr fun x hx => decide_eq_true (by
            rcases List.mem_cons.mp hx with rfl | hx
            · omega
            · exact cat_by l hall x hx)
          rw [if_pos ⟨by rw [List.length_cons]; omega, hall2⟩]
          have e : Rd.tk ((l.length : Int) :: cat l) 0 1 = ([(l.length : Int)], cat l, 0) := tk_in ((l.length : Int) :: cat l) 1 (by simp)
          rw [e]
          dsimp only
          rw [show rd [(l.length : Int)] 0 = (l.length : Int) from rfl, show (l.length : Int).toNat = l.length by omega, gl_cat l (fun v hv => ⟨hall v hv, hG v hv⟩)]
          rfl
    obtain ⟨r, hr⟩ : ∃ r, (if l.all ok = true then (if (l.length : Int) > 255 then some (([] : List Int), (15 : Int)) else some ((l.length : Int) :: cat l, 0)) else some ([], 1)) = some r := by
      split
      · split <;> exact ⟨_, rfl⟩
      · exact ⟨_, rfl⟩
    obtain ⟨p1, p2, p3, p4⟩ := hput r hr
    rw [p1, p2, fixed_f _ (by omega), p3]
    simp only [Option.bind_some]
    rw [if_pos trivial, if_pos trivial, if_pos trivial]
    simp only [rowlocklaw04_RowcodePuts.j0]
    rw [if_neg (by simp)]
    by_cases h0 : r.2 = 0
    · rw [if_pos h0, p4 h0]
      simp only [Option.bind_some]
      rw [if_pos trivial, same_f l (by omega) _ (by omega)]
      rfl
    · rw [if_neg h0]
theorem RowcodePuts_wf (l : List S36) (hl : l.length ≤ maxLen) (hG : ∀ v ∈ l, ((Lit.int .u8 v.f0).wf = true) ∧ ((Lit.int .i64 v.f1).wf = true) ∧ (v.f2.size ≤ maxLen)) : ∃ k, rowlocklaw04_RowcodePuts.f k l = some true :=
  RowcodePuts l (by unfold maxLen at hl; omega) fun v hv => by
    have := (hG v hv).2.1
    simp [Lit.wf, IntKind.min, IntKind.max, IntKind.signed, IntKind.bits] at this
    omega
end Go.Proofs.Ytegegpdaalfbdaa.PureP
