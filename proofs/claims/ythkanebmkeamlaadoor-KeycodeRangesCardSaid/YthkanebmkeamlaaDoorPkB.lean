/- keycode's laws in plain Lean: KeycodeOrder, KeycodeLeast, KeycodeBehind, KeycodeRanges hold. Conditions: fields are of their kinds. -/
import Derived.Test.YthkanebmkeamlaaDoorPkA
import Derived.Test.YthkanebmkeamlaaDoorXKeyy2
namespace Go.Proofs.YthkanebmkeamlaaDoor.Pk
open Go.RowKit Go.Proofs.YthkanebmkeamlaaDoorW.PrintWords Go.Proofs.YthkanebmkeamlaaDoor.XKey Go.Proofs.YthkanebmkeamlaaDoor.Ky Go.Proofs.YthkanebmkeamlaaDoor.Byt
set_option linter.unusedVariables false
set_option linter.unusedSimpArgs false
theorem fixed_f : rowlocklaw05_fixed.f = some true := by decide +kernel
theorem be_by : ∀ (k : Nat) (n : Int), By (KeyM.be k n)
  | 0, n => by intro c hc; cases hc
  | k + 1, n => by
    intro c hc
    rw [KeyM.be] at hc
    rcases List.mem_append.1 hc with h | h
    · exact be_by k _ c h
    · obtain rfl := List.mem_singleton.1 h
      omega
theorem esc_by : ∀ (t : List Int), By t → By (KeyM.esc t)
  | [], h => by intro c hc; cases hc
  | x :: t, h => by
    intro c hc
    have h1 := h x (List.mem_cons_self ..)
    have h2 := esc_by t (fun y hy => h y (List.mem_cons_of_mem _ hy))
    rw [KeyM.esc] at hc
    split at hc
    · rcases List.mem_cons.1 hc with e | hc
      · omega
      · rcases List.mem_cons.1 hc with e | hc
        · omega
        · exact h2 c hc
    · rcases List.mem_cons.1 hc with e | hc
      · omega
      · exact h2 c hc
theorem one_by (v : KeyM.V) (h : v.ok) : By (KeyM.one v) := by
  intro c hc
  rw [KeyM.one] at hc
  rcases List.mem_cons.1 hc with e | hc
  · rcases h with h | h | h | h <;> omega
  · split at hc
    · exact be_by _ _ c hc
    · split at hc
      · obtain rfl := List.mem_singleton.1 hc
        omega
      · split at hc
        · rename_i h1 h2 h3
          rcases List.mem_append.1 hc with hc | hc
          · refine esc_by v.t ?_ c hc
            rcases h with h | h | h | h
            · omega
            · omega
            · omega
            · exact h.2.2.2
          · simp only [List.mem_cons, List.not_mem_nil, or_false] at hc
            omega
        · cases hc
theorem key_by (l : List S34) (h : ∀ x ∈ l, (toV x).ok) : By (KeyM.key (l.map toV)) := by
  intro c hc
  rw [KeyM.key, List.mem_flatMap] at hc
  obtain ⟨v, hv, hc⟩ := hc
  obtain ⟨x, hx, rfl⟩ := List.mem_map.1 hv
  exact one_by _ (h x hx) c hc
def KS (l : List S34) : ByteArray := strOfNums (KeyM.key (l.map toV))
theorem KS_bytes (l : List S34) (h : ∀ x ∈ l, (toV x).ok) : bytesOf (KS l) = KeyM.key (l.map toV) := bytes_str (key_by l h)
theorem put_f (l : List S34) (hl : l.length ≤ 10000) (hr : ∀ x ∈ l, rng x) (h : ∀ x ∈ l, (toV x).ok) : keycode_Put.f l = some (KS l, 0) := by
  rw [keycode_Put.f, if_pos ⟨hl, hr⟩, putR, if_pos h]
  rfl
theorem V_ok {l : List S34} (h : ∀ x ∈ l, (toV x).ok) : ∀ v ∈ l.map toV, v.ok := by
  intro v hv
  obtain ⟨x, hx, rfl⟩ := List.mem_map.1 hv
  exact h x hx
theorem KS_less (a b : List S34) (ha : ∀ x ∈ a, (toV x).ok) (hb : ∀ x ∈ b, (toV x).ok) : Op.bytesLess (KS a).toList (KS b).toList = decide (rowsR a b < 0) := by
  have h := KeyM.key_order (a.map toV) (b.map toV) (V_ok ha) (V_ok hb)
  rw [str_less, KS_bytes a ha, KS_bytes b hb, Bool.eq_iff_iff, h.1, decide_eq_true_iff, rowsR]
  have := h.2.2
  omega
theorem KS_same (a b : List S34) (ha : ∀ x ∈ a, (toV x).ok) (hb : ∀ x ∈ b, (toV x).ok) : ((KS a).toList == (KS b).toList) = (rowsR a b == 0) := by
  have h := KeyM.key_order (a.map toV) (b.map toV) (V_ok ha) (V_ok hb)
  rw [Bool.eq_iff_iff, beq_iff_eq, beq_iff_eq, list_eq, rowsR, ← h.2.1]
  constructor
  · intro e
    rw [← KS_bytes a ha, ← KS_bytes b hb, e]
  · intro e
    apply bytes_inj
    rw [KS_bytes a ha, KS_bytes b hb, e]
theorem KS_begins (a b : List S34) (ha : ∀ x ∈ a, (toV x).ok) (hb : ∀ x ∈ b, (toV x).ok) : rowlockref05_Begins.f (KS a) (KS b) = some (decide (a.length ≤ b.length ∧ rowsR a (b.take a.length) = 0)) := by
  rw [begins, KS_bytes a ha, KS_bytes b hb]
  congr 1
  have := KeyM.key_begins (a.map toV) (b.map toV) (V_ok ha) (V_ok hb)
  rw [List.length_map, List.length_map, ← List.map_take] at this
  rw [Bool.eq_iff_iff, decide_eq_true_iff, decide_eq_true_iff, this, rowsR]
theorem Order (l0 l1 : List S34) (r0 : ∀ x ∈ l0, rng x) (r1 : ∀ x ∈ l1, rng x) (n0 : l0.length ≤ 9223372036854775807) (n1 : l1.length ≤ 9223372036854775807) : Ev (fun k => rowlocklaw05_KeycodeOrder.f k l0 l1) true := by
  have hT : Ev (fun k => rowlocklaw05_KeycodeOrder.j0 k l0 l1 true) true := Ev.step (f := fun _ => some true) (fun k => by rw [rowlocklaw05_KeycodeOrder.j0, if_pos rfl, fixed_f]; rfl) (Ev.now _)
  obtain ⟨g0, e0, q0⟩ := eGreat l0 n0
  obtain ⟨g1, e1, q1⟩ := eGreat l1 n1
  refine bind_ev e0 ?_
  cases g0
  case true => exact Ev.congr (fun k => if_pos rfl) hT
  replace q0 := q0 rfl
  refine Ev.congr (fun k => if_neg (by decide)) (bind_ev e1 ?_)
  cases g1
  case true => exact Ev.congr (fun k => if_pos rfl) hT
  replace q1 := q1 rfl
  refine Ev.congr (fun k => if_neg (by decide)) (bind_ev (eMay l0 r0 (by omega)) ?_)
  by_cases o0 : ∀ x ∈ l0, (toV x).ok
  case neg => rw [decide_eq_false o0]; exact Ev.congr (fun k => if_neg (by decide)) hT
  rw [decide_eq_true o0]
  refine Ev.congr (fun k => if_pos rfl) (bind_ev (eMay l1 r1 (by omega)) ?_)
  by_cases o1 : ∀ x ∈ l1, (toV x).ok
  case neg => rw [decide_eq_false o1]; exact hT
  rw [decide_eq_true o1]
  refine Ev.step (fun k => by rw [rowlocklaw05_KeycodeOrder.j0, if_neg (by decide), put_f l0 (by omega) r0 o0, put_f l1 (by omega) r1 o1, Option.bind_some, Option.bind_some]) (bind_ev (eRows l0 l1 o0 o1 (by omega)) ?_)
  refine Ev.congr (fun k => by rw [KS_less l0 l1 o0 o1, KS_same l0 l1 o0 o1, bne_self_eq_false, bne_self_eq_false, if_neg (by decide)]) ?_
  by_cases hl : l0.length ≤ l1.length
  · have hm : mn (l0.length : Int) (l1.length : Int) = (l0.length : Int) := by unfold mn; split <;> omega
    refine Ev.step (fun k => by rw [rowlocklaw05_KeycodeOrder.j1, if_neg (by decide), if_pos (by omega), hm, if_pos (by omega), if_pos (by omega), Int.toNat_natCast]) (bind_ev (eRows l0 (l1.take l0.length) o0 (fun x hx => o1 x (List.mem_of_mem_take hx)) (by omega)) ?_)
    refine Ev.congr (fun k => by rw [fixed_f, Option.bind_some, if_pos rfl, KS_begins l0 l1 o0 o1, Option.bind_some]) (Ev.val (Ev.now _) ?_)
    rw [beq_iff_eq, Bool.eq_iff_iff, decide_eq_true_iff, beq_iff_eq]
    exact ⟨fun h => h.2, fun h => ⟨hl, h⟩⟩
  · refine Ev.step (f := fun _ => some true) (fun k => by rw [rowlocklaw05_KeycodeOrder.j1, if_neg (by decide), if_neg (by omega), fixed_f, Option.bind_some, if_pos rfl, KS_begins l0 l1 o0 o1, Option.bind_some, decide_eq_false (fun h => hl h.1)]; rfl) (Ev.now _)
theorem Least (a0 : Int) (l1 : List S34) (ha : 0 ≤ a0 ∧ a0 ≤ 255) (r1 : ∀ x ∈ l1, rng x) (n1 : l1.length ≤ 9223372036854775807) : Ev (fun k => rowlocklaw05_KeycodeLeast.f k a0 l1) true := by
  have hT : Ev (fun k => rowlocklaw05_KeycodeLeast.j1 k l1 true) true := Ev.step (f := fun _ => some true) (fun k => by rw [rowlocklaw05_KeycodeLeast.j1, if_pos rfl, fixed_f]; rfl) (Ev.now _)
  have main : ∀ t : ByteArray, keycode_Least.f a0 = some t → Ev (fun k => rowlocklaw05_KeycodeLeast.j0 k a0 l1 t) true := by
    intro t ht
    obtain ⟨g1, e1, q1⟩ := eGreat l1 n1
    refine Ev.step (fun k => by rw [rowlocklaw05_KeycodeLeast.j0, ht, Option.bind_some, if_pos rfl]) (bind_ev e1 ?_)
    cases g1
    case true => exact Ev.congr (fun k => if_pos rfl) hT
    replace q1 := q1 rfl
    refine Ev.congr (fun k => if_neg (by decide)) (bind_ev (eMay l1 r1 (by omega)) ?_)
    by_cases o1 : ∀ x ∈ l1, (toV x).ok
    case neg => rw [decide_eq_false o1]; exact Ev.congr (fun k => if_neg (by decide)) hT
    rw [decide_eq_true o1]
    refine Ev.congr (fun k => if_pos rfl) ?_
    cases l1 with
    | nil => exact hT
    | cons x l =>
      have hb : (((x :: l).length : Int) == 0) = false := by rw [beq_eq_false_iff_ne, List.length_cons]; omega
      rw [hb]
      have ok := o1 x (List.mem_cons_self ..)
      have kx := ok_k ok
      have hL : keycode_Least.f x.f0 = some (strOfNums [x.f0 + 1]) := least_is x.f0 kx rfl
      refine Ev.step (f := fun _ => some true) (fun k => by
        rw [rowlocklaw05_KeycodeLeast.j1, if_neg (by decide), put_f _ (by omega) r1 o1, Option.bind_some, fixed_f, Option.bind_some, if_pos rfl, if_pos (by rw [List.length_cons]; omega), show rd_T34 (x :: l) 0 = x from rfl, hL, Option.bind_some, begins, KS_bytes _ o1, bytes_str (by intro c hc; obtain rfl := List.mem_singleton.1 hc; omega), Option.bind_some]
        congr 1
        rw [decide_eq_true_iff, List.map_cons, KeyM.key_cons, KeyM.one]
        exact ⟨_, rfl⟩) (Ev.now _)
  rw [show (fun k => rowlocklaw05_KeycodeLeast.f k a0 l1) = fun k => if a0 < 4 then (rowlocklaw05_KeycodeLeast.j0 k a0 l1 (strOfNums (([(a0 + 1) % 256] : List Int)))) else (rowlocklaw05_KeycodeLeast.j0 k a0 l1 (⟨#[5]⟩ : ByteArray)) from rfl]
  by_cases h : a0 < 4
  · exact Ev.congr (fun k => if_pos h) (main _ (by rw [keycode_Least.f, show mn a0 4 = a0 by unfold mn; split <;> omega]))
  · exact Ev.congr (fun k => if_neg h) (main _ (by rw [keycode_Least.f, show mn a0 4 = 4 by unfold mn; split <;> omega]; rfl))
end Go.Proofs.YthkanebmkeamlaaDoor.Pk
