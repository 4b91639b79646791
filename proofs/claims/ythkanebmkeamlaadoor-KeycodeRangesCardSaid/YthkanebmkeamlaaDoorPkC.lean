/- keycode's laws in plain Lean: KeycodeBehind, KeycodeRanges hold. Conditions: fields are of their kinds. -/
import Derived.Test.YthkanebmkeamlaaDoorPkB
namespace Go.Proofs.YthkanebmkeamlaaDoor.Pk
open Go.RowKit Go.Proofs.YthkanebmkeamlaaDoorW.PrintWords Go.Proofs.YthkanebmkeamlaaDoor.XKey Go.Proofs.YthkanebmkeamlaaDoor.Ky Go.Proofs.YthkanebmkeamlaaDoor.Byt
set_option linter.unusedVariables false
set_option linter.unusedSimpArgs false
def behL (l : List Int) : ByteArray × Bool := match KeyM.beh l with | some u => (strOfNums u, true) | none => (⟨#[]⟩, false)
theorem take_bt (s : ByteArray) (n : Nat) (h : n < s.size) : (bytesOf s).take (n + 1) = (bytesOf s).take n ++ [bt s (n : Int)] := by
  obtain ⟨h2, e⟩ := bt_at s n h
  rw [e, List.take_succ_eq_append_getElem h2]
theorem bytes_take (s : ByteArray) (n : Nat) (h : n ≤ s.size) : bytesOf (s.extract 0 n) = (bytesOf s).take n := by
  rw [bytes_map, bytes_map, ByteArray.data_extract, Array.toList_extract, List.extract_eq_take_drop, List.drop_zero, Nat.sub_zero, List.map_take]
theorem eBehind (s : ByteArray) (hs : s.size ≤ 1000000) : Ev (fun k => rowlockref05_Behind.f k s) (behindR s) := by
  have key : ∀ n : Nat, n ≤ s.size → Ev (fun k => rowlockref05_Behind.l0 k s (n : Int)) (behL ((bytesOf s).take n)) := by
    intro n
    induction n with
    | zero => exact fun _ => Ev.step (f := fun _ => some (⟨#[]⟩, false)) (fun k => by rw [rowlockref05_Behind.l0, if_neg (by omega), if_pos (by omega)]) (Ev.now _)
    | succ n ih =>
      intro h
      have e1 : wrap64 (((n + 1 : Nat) : Int) - 1) = (n : Int) := by rw [w64_in _ (by omega)]; omega
      rw [take_bt s n (by omega)]
      by_cases hb : bt s (n : Int) = 255
      · rw [hb, show behL ((bytesOf s).take n ++ [255]) = behL ((bytesOf s).take n) by rw [behL, beh_255]; rfl]
        exact Ev.step (fun k => by rw [rowlockref05_Behind.l0, if_pos (by omega), e1, if_pos (by omega), if_pos (by omega), if_pos hb]) (ih (by omega))
      · have hr : 0 ≤ bt s (n : Int) ∧ bt s (n : Int) ≤ 255 := by
          obtain ⟨h2, e⟩ := bt_at s n (by omega)
          rw [e]; exact by_of s _ (List.getElem_mem _)
        have hx : (s.extract 0 n).size = n := by rw [ByteArray.size_extract]; omega
        rw [behL, beh_up _ _ hb]
        refine Ev.step (f := fun _ => some (s.extract 0 n ++ strOfNums [(bt s (n : Int) + 1) % 256], true)) (fun k => by
          rw [rowlockref05_Behind.l0, if_pos (by omega), e1, if_pos (by omega), if_pos (by omega), if_neg hb, if_neg (by omega), if_pos (by omega), Option.bind_some, Int.toNat_natCast, if_pos (by rw [hx, str_size, List.length_singleton]; omega)]) (Ev.val (Ev.now _) ?_)
        rw [Int.emod_eq_of_lt (by omega) (by omega)]
        show (_, true) = (strOfNums _, true)
        rw [str_append, ← bytes_take s n (by omega), str_bytes]
  have := key s.size (Nat.le_refl _)
  rw [List.take_of_length_le (by rw [bytesOf_length]; exact Nat.le_refl _)] at this
  exact this
theorem beh_by {s u : List Int} (h : KeyM.beh s = some u) (hs : By s) : By u := by
  obtain ⟨k, x, r, rfl, h2, rfl⟩ := KeyM.beh_some h
  have hx := hs x (by simp)
  refine By.append (fun y hy => hs y (by simp [hy])) ?_
  intro y hy
  obtain rfl := List.mem_singleton.1 hy
  omega
theorem Behind (a0 a1 : ByteArray) : Ev (fun k => rowlocklaw05_KeycodeBehind.f k a0 a1) true := by
  have hT : Ev (fun k => rowlocklaw05_KeycodeBehind.j0 k a0 a1 true) true := Ev.step (f := fun _ => some true) (fun k => by rw [rowlocklaw05_KeycodeBehind.j0, if_pos rfl, fixed_f]; rfl) (Ev.now _)
  by_cases h0 : (a0.size : Int) > 3000
  · exact Ev.congr (fun k => if_pos h0) hT
  refine Ev.congr (fun k => if_neg h0) ?_
  by_cases h1 : (a1.size : Int) > 3000
  · rw [decide_eq_true h1]; exact hT
  rw [decide_eq_false h1]
  have hb : keycode_Behind.f a0 = some (behindR a0) := by rw [keycode_Behind.f, if_pos (by omega)]
  refine Ev.step (fun k => by rw [rowlocklaw05_KeycodeBehind.j0, if_neg (by decide), hb, Option.bind_some]) (bind_ev (eBehind a0 (by omega)) ?_)
  refine Ev.congr (fun k => by rw [if_pos rfl, bne_self_eq_false]) ?_
  refine Ev.step (fun k => by rw [rowlocklaw05_KeycodeBehind.j1, if_neg (by decide), begins, Option.bind_some]) ?_
  have b0 : ∀ y ∈ bytesOf a0, y ≤ 255 := fun y hy => (by_of a0 y hy).2
  have b1 : ∀ y ∈ bytesOf a1, y ≤ 255 := fun y hy => (by_of a1 y hy).2
  cases hu : KeyM.beh (bytesOf a0) with
  | some u =>
    have e : behindR a0 = (strOfNums u, true) := by rw [behindR, hu]
    rw [e]
    have hk := KeyM.beh_begins b0 b1 hu
    refine Ev.congr (fun k => by rw [if_pos rfl, fixed_f, Option.bind_some, if_pos rfl, str_less, str_less, bytes_str (beh_by hu (by_of a0))]) ?_
    by_cases hl : KeyM.ltL (bytesOf a1) (bytesOf a0) = true
    · refine Ev.congr (fun k => if_pos hl) (Ev.val (Ev.now _) ?_)
      have : ¬ bytesOf a0 <+: bytesOf a1 := fun hp => by have := hk.2 hp; rw [hl] at this; cases this.1
      rw [decide_eq_false this]
      rfl
    · refine Ev.congr (fun k => if_neg hl) (Ev.val (Ev.now _) ?_)
      rw [beq_iff_eq, Bool.eq_iff_iff, decide_eq_true_iff, ← hk]
      exact ⟨fun h => ⟨by simpa using hl, h⟩, fun h => h.2⟩
  | none =>
    have e : behindR a0 = (⟨#[]⟩, false) := by rw [behindR, hu]
    rw [e]
    refine Ev.congr (fun k => by rw [if_neg (by decide), fixed_f, Option.bind_some, if_pos rfl, str_less]) ?_
    rcases KeyM.beh_none_begins b1 hu with h | h
    · exact Ev.congr (fun k => by rw [decide_eq_true h, if_pos rfl]) (Ev.now _)
    · by_cases hp : bytesOf a0 <+: bytesOf a1
      · exact Ev.congr (fun k => by rw [decide_eq_true hp, if_pos rfl]) (Ev.now _)
      · exact Ev.congr (fun k => by rw [decide_eq_false hp, if_neg (by decide), h]) (Ev.now _)
theorem KS_size (l : List S34) (h : ∀ x ∈ l, (toV x).ok) (hl : l.length ≤ 5000) : (KS l).size ≤ 1000000 := by
  have := key_len l h
  rw [KS, str_size]
  omega
theorem Ranges (l0 l1 : List S34) (r0 : ∀ x ∈ l0, rng x) (r1 : ∀ x ∈ l1, rng x) (n0 : l0.length ≤ 9223372036854775807) (n1 : l1.length ≤ 9223372036854775807) : Ev (fun k => rowlocklaw05_KeycodeRanges.f k l0 l1) true := by
  have hT : Ev (fun k => rowlocklaw05_KeycodeRanges.j0 k l0 l1 true) true := Ev.step (f := fun _ => some true) (fun k => by rw [rowlocklaw05_KeycodeRanges.j0, if_pos rfl, fixed_f]; rfl) (Ev.now _)
  obtain ⟨g0, e0, q0⟩ := eGreat l0 n0
  obtain ⟨g1, e1, q1⟩ := eGreat l1 n1
  refine bind_ev e0 ?_
  cases g0
  case true => exact Ev.congr (fun k => if_pos rfl) hT
  replace q0 := q0 rfl
  refine Ev.congr (fun k => if_neg (by decide)) (bind_ev e1 ?_)
  cases g1
  case true => exact Ev.congr (fun k => if_pos rfl) hT
  replace q1 := q1 rfl
  refine Ev.congr (fun k => if_neg (by decide)) (bind_ev (eMay l0 r0 (by omega)) ?_)
  by_cases o0 : ∀ x ∈ l0, (toV x).ok
  case neg => rw [decide_eq_false o0]; exact Ev.congr (fun k => if_neg (by decide)) hT
  rw [decide_eq_true o0]
  refine Ev.congr (fun k => if_pos rfl) (bind_ev (eMay l1 r1 (by omega)) ?_)
  by_cases o1 : ∀ x ∈ l1, (toV x).ok
  case neg => rw [decide_eq_false o1]; exact Ev.congr (fun k => if_neg (by decide)) hT
  rw [decide_eq_true o1]
  refine Ev.congr (fun k => if_pos rfl) ?_
  by_cases hz : l0 = []
  · subst hz; exact hT
  have hzl : l0.length ≠ 0 := fun h => hz (List.eq_nil_of_length_eq_zero h)
  have hzb : ((l0.length : Int) == 0) = false := by rw [beq_eq_false_iff_ne]; omega
  rw [hzb]
  obtain ⟨u, hu⟩ := KeyM.key_beh (V_ok o0) (by simpa using hz)
  have hb : keycode_Behind.f (KS l0) = some (strOfNums u, true) := by rw [keycode_Behind.f, if_pos (KS_size l0 o0 (by omega)), behindR, KS_bytes l0 o0, hu]
  have b0 : ∀ y ∈ KeyM.key (l0.map toV), y ≤ 255 := fun y hy => (key_by l0 o0 y hy).2
  have b1 : ∀ y ∈ KeyM.key (l1.map toV), y ≤ 255 := fun y hy => (key_by l1 o1 y hy).2
  have hk := KeyM.beh_begins b0 b1 hu
  have hg := KeyM.key_begins (l0.map toV) (l1.map toV) (V_ok o0) (V_ok o1)
  rw [List.length_map, List.length_map, ← List.map_take] at hg
  have lt1 : Op.bytesLess (KS l1).toList (KS l0).toList = KeyM.ltL (KeyM.key (l1.map toV)) (KeyM.key (l0.map toV)) := by rw [str_less, KS_bytes _ o0, KS_bytes _ o1]
  have lt2 : Op.bytesLess (KS l1).toList (strOfNums u).toList = KeyM.ltL (KeyM.key (l1.map toV)) u := by rw [str_less, KS_bytes _ o1, bytes_str (beh_by hu (key_by l0 o0))]
  refine Ev.step (fun k => by rw [rowlocklaw05_KeycodeRanges.j0, if_neg (by decide), put_f l0 (by omega) r0 o0, put_f l1 (by omega) r1 o1, Option.bind_some, Option.bind_some, hb, Option.bind_some]) ?_
  by_cases hl : l0.length ≤ l1.length
  · have hm : mn (l0.length : Int) (l1.length : Int) = (l0.length : Int) := by unfold mn; split <;> omega
    refine Ev.congr (fun k => by rw [if_pos (by omega), hm, if_pos (by omega), if_pos (by omega), Int.toNat_natCast]) (bind_ev (eRows l0 (l1.take l0.length) o0 (fun x hx => o1 x (List.mem_of_mem_take hx)) (by omega)) ?_)
    refine Ev.congr (fun k => by rw [fixed_f, Option.bind_some, if_pos rfl, if_pos rfl, lt1, lt2]) ?_
    by_cases hlt : KeyM.ltL (KeyM.key (l1.map toV)) (KeyM.key (l0.map toV)) = true
    · refine Ev.congr (fun k => if_pos hlt) (Ev.val (Ev.now _) ?_)
      have : ¬ rowsR l0 (l1.take l0.length) = 0 := fun h => by have := hk.2 (hg.2 ⟨hl, h⟩); rw [hlt] at this; cases this.1
      rw [beq_eq_false_iff_ne.2 this]
      rfl
    · refine Ev.congr (fun k => if_neg hlt) (Ev.val (Ev.now _) ?_)
      rw [beq_iff_eq, Bool.eq_iff_iff, beq_iff_eq]
      constructor
      · exact fun h => (hg.1 (hk.1 ⟨by simpa using hlt, h⟩)).2
      · exact fun h => (hk.2 (hg.2 ⟨hl, h⟩)).2
  · refine Ev.congr (fun k => by rw [if_neg (by omega), fixed_f, Option.bind_some, if_pos rfl, if_pos rfl, lt1, lt2]) ?_
    by_cases hlt : KeyM.ltL (KeyM.key (l1.map toV)) (KeyM.key (l0.map toV)) = true
    · exact Ev.congr (fun k => if_pos hlt) (Ev.now _)
    · refine Ev.congr (fun k => if_neg hlt) (Ev.val (Ev.now _) ?_)
      rw [beq_iff_eq, Bool.eq_false_iff]
      exact fun h => hl (hg.1 (hk.1 ⟨by simpa using hlt, h⟩)).1
end Go.Proofs.YthkanebmkeamlaaDoor.Pk
