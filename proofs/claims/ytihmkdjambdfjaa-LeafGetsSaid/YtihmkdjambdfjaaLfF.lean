/- A leaf's page is got. Conditions: bytes. -/
import Derived.Test.YtihmkdjambdfjaaLfE
namespace Go.Proofs.Ytihmkdjambdfjaa.Lf
open Go.RowKit Go.Proofs.YtihmkdjambdfjaaW.PrintWords Go.Proofs.YtihmkdjambdfjaaW.PrintLast Go.Proofs.YtihmkdjambdfjaaW.PrintMore Go.Proofs.Ytihmkdjambdfjaa.XLeaf Go.Proofs.Ytihmkdjambdfjaa.Tk
set_option linter.unusedVariables false
set_option linter.unusedSimpArgs false
set_option maxRecDepth 100000
theorem tk_false {xs : List Int} {s : Bool} {n : Int} (h : (tk xs s n).2.2 = false) : s = false ∧ n ≤ xs.length ∧ tk xs s n = (xs.take n.toNat, xs.drop n.toNat, s) := by
  unfold tk at h ⊢
  split at h
  · rename_i h1
    exact ⟨h, h1, by rw [if_pos h1]⟩
  · cases h
/-- The entry that is read. -/
def mkE (e : (List Int × Int × Int) × List Int × Bool) : S27 := ⟨strOfNums e.1.1, ⟨e.1.2.1, e.1.2.2⟩⟩
theorem tk_rest {xs : List Int} {s : Bool} {n : Int} (h : (tk xs s n).2.2 = false) : s = false ∧ n ≤ xs.length ∧ (tk xs s n).2.1.length = xs.length - n.toNat := by
  obtain ⟨h1, h2, h3⟩ := tk_false h
  exact ⟨h1, h2, by rw [h3]; simp⟩
/-- What is known of an entry that was there. -/
theorem ent_there {xs : List Int} (hy : By xs) (h : (ent xs false).2.2 = false) : xs.length = 8 + (ent xs false).1.1.length + (ent xs false).2.1.length := by
  simp only [ent] at h ⊢
  obtain ⟨h1, h2, h3⟩ := tk_rest h
  obtain ⟨h4, h5, h6⟩ := tk_rest h1
  obtain ⟨h7, h8, h9⟩ := tk_rest h4
  obtain ⟨h10, h11, h12⟩ := tk_rest h7
  have hn := (nv_bd (By.tk1 hy false 2)).1
  have hk := tk_len (tk xs false 2).2.1 (tk xs false 2).2.2 (nv (tk xs false 2).1) hn
  have e2 : Int.toNat 2 = 2 := rfl
  have e4 : Int.toNat 4 = 4 := rfl
  rw [e2] at h3 h12
  rw [e4] at h6
  rw [h3, hk]
  clear hk h h1 h4 h7 h10 h3
  generalize nv (tk xs false 2).1 = n at *
  generalize (tk xs false 2).2.1 = x2 at *
  generalize (tk xs false 2).2.2 = s2 at *
  generalize (tk x2 s2 n).2.1 = x3 at *
  generalize (tk x2 s2 n).2.2 = s3 at *
  generalize (tk x3 s3 4).2.1 = x4 at *
  omega
theorem ent_rng {xs : List Int} (hy : By xs) (s : Bool) : By (ent xs s).2.1 ∧ 0 ≤ (ent xs s).1.2.1 ∧ (ent xs s).1.2.1 < 4294967296 ∧ 0 ≤ (ent xs s).1.2.2 ∧ (ent xs s).1.2.2 < 65536 := by
  simp only [ent]
  have h1 := hy.tk2 s 2
  have h2 := h1.tk2 (tk xs s 2).2.2 (nv (tk xs s 2).1)
  have h3 := h2.tk2 (tk (tk xs s 2).2.1 (tk xs s 2).2.2 (nv (tk xs s 2).1)).2.2 4
  have b1 := nv_bd (h2.tk1 (tk (tk xs s 2).2.1 (tk xs s 2).2.2 (nv (tk xs s 2).1)).2.2 4)
  have b2 := nv_bd (h3.tk1 (tk (tk (tk xs s 2).2.1 (tk xs s 2).2.2 (nv (tk xs s 2).1)).2.1 (tk (tk xs s 2).2.1 (tk xs s 2).2.2 (nv (tk xs s 2).1)).2.2 4).2.2 2)
  rw [tk_len _ _ _ (by omega)] at b1 b2
  exact ⟨h3.tk2 _ _, b1.1, b1.2, b2.1, b2.2⟩
/-- Entries that are read, so many; none: one wasn't there. -/
def gl : Nat → List S27 → List Int → Option (List S27)
  | 0, rows, xs => some rows
  | n + 1, rows, xs => if (ent xs false).2.2 = true then none else gl n (rows ++ [mkE (ent xs false)]) (ent xs false).2.1
/-- What comes of entries that were read. -/
def fin (next : Int) (b : List Int) : Option (List S27) → Int × List S27 × Int
  | none => (0, [], 2)
  | some l => if (putL next l).2 = 0 ∧ (putL next l).1 = b then (next, l, 0) else (0, [], 2)
/-- What the get of a leaf's page gives. -/
def getL (b : List Int) : Int × List S27 × Int := if (dg b).2.2.2 = true ∧ (dg b).1 = 2 then fin (dg b).2.2.1 b (gl (dg b).2.1.toNat [] (b.drop 8)) else (0, [], 2)
/-- The rows that were read, and what is left. -/
def goodR (rows : List S27) (xs : List Int) : Prop := By xs ∧ 8 * rows.length + xs.length ≤ 504 ∧ ∀ x ∈ rows, x.f0.size ≤ 504 ∧ 0 ≤ x.f1.f0 ∧ x.f1.f0 < 4294967296 ∧ 0 ≤ x.f1.f1 ∧ x.f1.f1 < 65536
theorem goodR.step {rows : List S27} {xs : List Int} (h : goodR rows xs) (hs : (ent xs false).2.2 = false) : goodR (rows ++ [mkE (ent xs false)]) (ent xs false).2.1 := by
  obtain ⟨h1, h2, h3⟩ := h
  have e1 := ent_there h1 hs
  have e2 := ent_rng h1 false
  refine ⟨e2.1, by rw [List.length_append, List.length_singleton]; omega, fun x hx => ?_⟩
  rcases List.mem_append.1 hx with hx | hx
  · exact h3 x hx
  · rw [List.mem_singleton.1 hx]
    exact ⟨by simp only [mkE, Byt.str_size]; omega, e2.2⟩
theorem goodR.good {rows : List S27} {xs : List Int} (h : goodR rows xs) : goodE rows := ⟨by have := h.2.1; omega, fun x hx => ⟨by have := (h.2.2 x hx).1; omega, (h.2.2 x hx).2⟩⟩
theorem goodR.by_ {rows : List S27} {xs : List Int} (h : goodR rows xs) : By xs := h.1
theorem goodR.len {rows : List S27} {xs : List Int} (h : goodR rows xs) : 8 * rows.length + xs.length ≤ 504 := h.2.1
theorem by_mod (x : Int) : 0 ≤ x % 256 ∧ x % 256 ≤ 255 := by omega
theorem byApp {a b : List Int} (h : By a) (k : By b) : By (a ++ b) := Byt.By.append h k
theorem by_nil : By [] := fun _ h => by cases h
theorem by_cons {x : Int} {l : List Int} (hx : 0 ≤ x ∧ x ≤ 255) (h : By l) : By (x :: l) := Byt.By.cons hx h
theorem be2_by (x : Int) : By (Tk.be2 x) := by_cons (by_mod _) (by_cons (by_mod _) by_nil)
theorem be4_by (x : Int) : By (Tk.be4 x) := by_cons (by_mod _) (by_cons (by_mod _) (by_cons (by_mod _) (by_cons (by_mod _) by_nil)))
theorem bytesOf_by (s : ByteArray) : By (bytesOf s) := fun x hx => by
  simp only [bytesOf, List.mem_map] at hx
  obtain ⟨b, _, rfl⟩ := hx
  have := b.toNat_lt
  omega
theorem wrE_by (key : ByteArray) (pg sl : Int) : By (wrE key pg sl) := byApp (byApp (byApp (be2_by _) (bytesOf_by key)) (be4_by _)) (be2_by _)
theorem wrL_by : ∀ l : List S27, By (wrL l)
  | [] => by_nil
  | x :: l => by rw [wrL, List.flatMap_cons]; exact byApp (wrE_by _ _ _) (wrL_by l)
theorem hd_by (k c n : Int) (hk : 0 ≤ k ∧ k ≤ 255) : By (hd k c n) := by_cons hk (by_cons (by omega) (by_cons (by_mod _) (by_cons (by_mod _) (by_cons (by_mod _) (by_cons (by_mod _) (by_cons (by_mod _) (by_cons (by_mod _) by_nil)))))))
theorem zeros_by (n : Nat) : By (List.replicate n 0) := Byt.By.zeros n
theorem pgF_by (k c n : Int) (bs : List Int) (hk : 0 ≤ k ∧ k ≤ 255) (hb : By bs) : By (pgF k c n bs) := byApp (byApp (hd_by k c n hk) hb) (zeros_by _)
theorem putL_by (next : Int) (l : List S27) : By (putL next l).1 := by
  unfold putL
  split
  · exact pgF_by _ _ _ _ (by omega) (wrL_by l)
  · exact by_nil
theorem equal_is {A0 : Option Addr} {c0 : Nat} {l0 : List Int} {A1 : Option Addr} {c1 : Nat} {l1 : List Int} {r : Bool} (hr : decide (l0 = l1) = r) (w : World) (h0 : Kd.C (Kd.int .u8) w A0 l0.length l0) (hc0 : l0.length ≤ c0) (h1 : Kd.C (Kd.int .u8) w A1 l1.length l1) (hc1 : l1.length ≤ c1) (b0 : By l0) (b1 : By l1) :
    Calls Try.prog 46 #[.slice A0 l0.length c0, .slice A1 l1.length c1] w fun e w' => e = .returned (.bool r) ∧ Below w.heap.size w w' := by
  refine (bytes_Equal.calls A0 c0 l0 A1 c1 l1 r w h0 hc0 h1 hc1 ?_).mono ?_
  · rw [bytes_Equal.f, ← hr]
    congr 1
    by_cases h : l0 = l1
    · rw [h]
      simp
    · rw [decide_eq_false h, beq_eq_false_iff_ne]
      intro he
      have : strOfNums l0 = strOfNums l1 := by
        apply ByteArray.ext
        apply Array.toList_inj.1
        rw [← Lib.toList_data, ← Lib.toList_data, he]
      exact h (Byt.str_inj b0 b1 this)
  · rintro e w' ⟨rfl, h⟩
    exact ⟨rfl, h.below⟩
end Go.Proofs.Ytihmkdjambdfjaa.Lf
