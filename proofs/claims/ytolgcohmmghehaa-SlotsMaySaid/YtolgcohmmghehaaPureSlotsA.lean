/- Heap pages as lists of bytes: what the program's laying comes to. Conditions: the records have room. -/
import Derived.Test.YtolgcohmmghehaaSlotsB
import Derived.Test.YtolgcohmmghehaaByt
namespace Go.Proofs.Ytolgcohmmghehaa.PureS
open Go.RowKit Go.Proofs.YtolgcohmmghehaaW.PrintWords Go.Proofs.YtolgcohmmghehaaW.PrintLast Go.Proofs.YtolgcohmmghehaaW.PrintMore Go.Proofs.Ytolgcohmmghehaa.Byt Go.Proofs.Ytolgcohmmghehaa.Slb
set_option linter.unusedVariables false
set_option linter.unusedSimpArgs false
/-- The slots of records, whose last byte stands ahead of e. -/
def sl4 (e n : Nat) : List Int := [(e : Int) / 256 % 256, (e : Int) % 256, (n : Int) / 256 % 256, (n : Int) % 256]
def slotsOf : List (List Int) → Nat → List Int
  | [], _ => []
  | r :: rs, e => sl4 (e - r.length) r.length ++ slotsOf rs (e - r.length)
/-- The records, the last one first. -/
def back : List (List Int) → List Int
  | [] => []
  | r :: rs => back rs ++ r
theorem slots_len : ∀ (rs : List (List Int)) (e : Nat), (slotsOf rs e).length = 4 * rs.length
  | [], _ => rfl
  | r :: rs, e => by
    rw [slotsOf, List.length_append, slots_len rs, List.length_cons, sl4]
    simp only [List.length_cons, List.length_nil]
    omega
theorem back_len : ∀ rs : List (List Int), (back rs).length = tot rs
  | [] => rfl
  | r :: rs => by
    rw [back, List.length_append, back_len rs, tot]
    omega
theorem tot_append : ∀ a b : List (List Int), tot (a ++ b) = tot a + tot b
  | [], b => by rw [List.nil_append, tot, Nat.zero_add]
  | r :: a, b => by
    rw [List.cons_append, tot, tot, tot_append a b]
    omega
theorem set_at {α : Type} (F : List α) (x y : α) (C : List α) (n : Nat) (h : F.length = n) : (F ++ y :: C).set n x = F ++ x :: C := by
  subst h
  rw [List.set_append_right _ _ (Nat.le_refl _), Nat.sub_self, List.set_cons_zero]
/-- One record laid over zeros. -/
theorem lay1_eq (F B r : List Int) (i m e : Nat) (hF : F.length = 8 + 4 * i) (he : 8 + 4 * i + m = e) (hr : r.length + 4 ≤ m) :
    lay1 (F ++ List.replicate m 0 ++ B) i (e - r.length) r = (F ++ sl4 (e - r.length) r.length) ++ List.replicate (m - r.length - 4) 0 ++ (r ++ B) := by
  obtain ⟨z, hz⟩ : ∃ z, z = m - r.length - 4 := ⟨_, rfl⟩
  have hm : m = (z + 4) + r.length := by omega
  have h1 : splice (F ++ List.replicate m 0 ++ B) (e - r.length) r = F ++ (0 :: 0 :: 0 :: 0 :: (List.replicate z 0 ++ (r ++ B))) := by
    rw [splice, hm, ← List.replicate_append_replicate]
    have a1 : (F ++ (List.replicate (z + 4) (0 : Int) ++ List.replicate r.length 0) ++ B).take (e - r.length) = F ++ List.replicate (z + 4) 0 := by
      rw [List.append_assoc, List.append_assoc, ← List.append_assoc]
      exact List.take_left' (by rw [List.length_append, List.length_replicate]; omega)
    have a2 : (F ++ (List.replicate (z + 4) (0 : Int) ++ List.replicate r.length 0) ++ B).drop (e - r.length + r.length) = B := by
      exact List.drop_left' (by simp only [List.length_append, List.length_replicate]; omega)
    rw [a1, a2, List.append_assoc]
    rfl
  rw [lay1, h1]
  rw [set_at F _ _ _ (8 + 4 * i) hF]
  rw [show F ++ ((e - r.length : Nat) : Int) / 256 % 256 :: 0 :: 0 :: 0 :: (List.replicate z 0 ++ (r ++ B)) = (F ++ [((e - r.length : Nat) : Int) / 256 % 256]) ++ 0 :: 0 :: 0 :: (List.replicate z 0 ++ (r ++ B)) by simp]
  rw [set_at _ _ _ _ (8 + 4 * i + 1) (by rw [List.length_append, hF]; rfl)]
  rw [show (F ++ [((e - r.length : Nat) : Int) / 256 % 256]) ++ ((e - r.length : Nat) : Int) % 256 :: 0 :: 0 :: (List.replicate z 0 ++ (r ++ B)) = (F ++ [((e - r.length : Nat) : Int) / 256 % 256, ((e - r.length : Nat) : Int) % 256]) ++ 0 :: 0 :: (List.replicate z 0 ++ (r ++ B)) by simp]
  rw [set_at _ _ _ _ (8 + 4 * i + 2) (by rw [List.length_append, hF]; rfl)]
  rw [show (F ++ [((e - r.length : Nat) : Int) / 256 % 256, ((e - r.length : Nat) : Int) % 256]) ++ (r.length : Int) / 256 % 256 :: 0 :: (List.replicate z 0 ++ (r ++ B)) = (F ++ [((e - r.length : Nat) : Int) / 256 % 256, ((e - r.length : Nat) : Int) % 256, (r.length : Int) / 256 % 256]) ++ 0 :: (List.replicate z 0 ++ (r ++ B)) by simp]
  rw [set_at _ _ _ _ (8 + 4 * i + 3) (by rw [List.length_append, hF]; rfl), ← hz]
  simp [sl4]
theorem lays_eq : ∀ (rs : List (List Int)) (i e m : Nat) (F B : List Int), F.length = 8 + 4 * i → 8 + 4 * i + m = e → 4 * rs.length + tot rs ≤ m →
    lays rs i e (F ++ List.replicate m 0 ++ B) = F ++ slotsOf rs e ++ List.replicate (m - 4 * rs.length - tot rs) 0 ++ (back rs ++ B)
  | [], i, e, m, F, B, hF, he, hm => by simp [lays, slotsOf, back, tot]
  | r :: rs, i, e, m, F, B, hF, he, hm => by
    rw [List.length_cons, tot] at hm
    rw [lays, lay1_eq F B r i m e hF he (by omega), lays_eq rs (i + 1) (e - r.length) (m - r.length - 4) _ (r ++ B) (by rw [List.length_append, hF]; simp only [sl4, List.length_cons, List.length_nil]; omega) (by omega) (by omega)]
    rw [slotsOf, back, List.length_cons, tot, show m - r.length - 4 - 4 * rs.length - tot rs = m - 4 * (rs.length + 1) - (r.length + tot rs) by omega]
    simp only [List.append_assoc]
/-- The head of a heap page. -/
def hd8 (n nx : Int) : List Int := XDiskHeads.disk_Put.hd 1 n nx
theorem hd8_len (n nx : Int) : (hd8 n nx).length = 8 := rfl
/-- A heap page. -/
def pg (nx : Int) (rs : List (List Int)) : List Int := hd8 rs.length nx ++ slotsOf rs 512 ++ List.replicate (504 - 4 * rs.length - tot rs) 0 ++ back rs
theorem pg_eq (nx : Int) (rs : List (List Int)) (h : 4 * rs.length + tot rs ≤ 504) : lays rs 0 512 (XDiskHeads.disk_Put.hd 1 (rs.length : Int) nx ++ List.replicate 504 0) = pg nx rs := by
  have := lays_eq rs 0 512 504 (hd8 rs.length nx) [] rfl rfl h
  rw [List.append_nil, List.append_nil] at this
  exact this
theorem pg_len (nx : Int) (rs : List (List Int)) (h : 4 * rs.length + tot rs ≤ 504) : (pg nx rs).length = 512 := by
  simp only [pg, List.length_append, hd8_len, slots_len, back_len, List.length_replicate]
  omega
theorem sl4_by (e n : Nat) : By (sl4 e n) := By.cons (by omega) (By.cons (by omega) (By.cons (by omega) (By.cons (by omega) By.nil)))
theorem slots_by : ∀ (rs : List (List Int)) (e : Nat), By (slotsOf rs e)
  | [], _ => By.nil
  | r :: rs, e => (sl4_by _ _).append (slots_by rs _)
theorem back_by : ∀ rs : List (List Int), (∀ r ∈ rs, By r) → By (back rs)
  | [], _ => By.nil
  | r :: rs, h => (back_by rs fun q hq => h q (List.mem_cons_of_mem _ hq)).append (h r List.mem_cons_self)
theorem hd8_by (n nx : Int) : By (hd8 n nx) := By.cons (by omega) (By.cons (by omega) (By.cons (by omega) (By.cons (by omega) (By.cons (by omega) (By.cons (by omega) (By.cons (by omega) (By.cons (by omega) By.nil)))))))
theorem pg_by (nx : Int) (rs : List (List Int)) (h : ∀ r ∈ rs, By r) : By (pg nx rs) := (((hd8_by _ _).append (slots_by rs 512)).append (By.zeros _)).append (back_by rs h)
/-- What a loop over the slots has seen, and what is left of the page. -/
structure Part (b : List Int) (todo : List (List Int)) (i e : Nat) (F : List Int) (m : Nat) (B : List Int) : Prop where
  eq : b = F ++ slotsOf todo e ++ List.replicate m 0 ++ (back todo ++ B)
  lF : F.length = 8 + 4 * i
  lB : e + B.length = 512
  sz : 8 + 4 * i + 4 * todo.length + m + tot todo = e
theorem Part.start (nx : Int) (rs : List (List Int)) (h : 4 * rs.length + tot rs ≤ 504) : Part (pg nx rs) rs 0 512 (hd8 rs.length nx) (504 - 4 * rs.length - tot rs) [] := ⟨by rw [List.append_nil]; rfl, rfl, rfl, by omega⟩
theorem Part.next {b r : List Int} {rs : List (List Int)} {i e m : Nat} {F B : List Int} (h : Part b (r :: rs) i e F m B) : Part b rs (i + 1) (e - r.length) (F ++ sl4 (e - r.length) r.length) m (r ++ B) := by
  have hs := h.sz
  have hF := h.lF
  have hB := h.lB
  rw [List.length_cons, tot] at hs
  refine ⟨?_, ?_, ?_, ?_⟩
  · rw [h.eq, slotsOf, back]
    simp only [List.append_assoc]
  · rw [List.length_append, hF]
    simp only [sl4, List.length_cons, List.length_nil]
    omega
  · rw [List.length_append]
    omega
  · omega
theorem rd_at (F C : List Int) (x : Int) (n : Nat) (h : F.length = n) (j : Int) (hj : j = (n : Int)) : rd (F ++ x :: C) j = x := by
  subst hj h
  simp [rd]
theorem Part.slot {b r : List Int} {rs : List (List Int)} {i e m : Nat} {F B : List Int} (h : Part b (r :: rs) i e F m B) :
    rd b ((8 + 4 * i : Nat) : Int) = ((e - r.length : Nat) : Int) / 256 % 256 ∧ rd b ((8 + 4 * i + 1 : Nat) : Int) = ((e - r.length : Nat) : Int) % 256 ∧ rd b ((8 + 4 * i + 2 : Nat) : Int) = (r.length : Int) / 256 % 256 ∧ rd b ((8 + 4 * i + 3 : Nat) : Int) = (r.length : Int) % 256 := by
  have hb : ∃ T : List Int, b = F ++ (((e - r.length : Nat) : Int) / 256 % 256 :: ((e - r.length : Nat) : Int) % 256 :: (r.length : Int) / 256 % 256 :: (r.length : Int) % 256 :: T) := ⟨slotsOf rs (e - r.length) ++ List.replicate m 0 ++ (back (r :: rs) ++ B), by rw [h.eq, slotsOf, sl4]; simp⟩
  obtain ⟨T, hb⟩ := hb
  have hF := h.lF
  refine ⟨?_, ?_, ?_, ?_⟩
  · rw [hb]
    exact rd_at F _ _ _ hF _ rfl
  · rw [hb, show F ++ (((e - r.length : Nat) : Int) / 256 % 256 :: ((e - r.length : Nat) : Int) % 256 :: (r.length : Int) / 256 % 256 :: (r.length : Int) % 256 :: T) = (F ++ [((e - r.length : Nat) : Int) / 256 % 256]) ++ ((e - r.length : Nat) : Int) % 256 :: ((r.length : Int) / 256 % 256 :: (r.length : Int) % 256 :: T) by simp]
    exact rd_at _ _ _ _ (by rw [List.length_append, hF]; rfl) _ rfl
  · rw [hb, show F ++ (((e - r.length : Nat) : Int) / 256 % 256 :: ((e - r.length : Nat) : Int) % 256 :: (r.length : Int) / 256 % 256 :: (r.length : Int) % 256 :: T) = (F ++ [((e - r.length : Nat) : Int) / 256 % 256, ((e - r.length : Nat) : Int) % 256]) ++ (r.length : Int) / 256 % 256 :: ((r.length : Int) % 256 :: T) by simp]
    exact rd_at _ _ _ _ (by rw [List.length_append, hF]; rfl) _ rfl
  · rw [hb, show F ++ (((e - r.length : Nat) : Int) / 256 % 256 :: ((e - r.length : Nat) : Int) % 256 :: (r.length : Int) / 256 % 256 :: (r.length : Int) % 256 :: T) = (F ++ [((e - r.length : Nat) : Int) / 256 % 256, ((e - r.length : Nat) : Int) % 256, (r.length : Int) / 256 % 256]) ++ (r.length : Int) % 256 :: T by simp]
    exact rd_at _ _ _ _ (by rw [List.length_append, hF]; rfl) _ rfl
theorem Part.cut {b r : List Int} {rs : List (List Int)} {i e m : Nat} {F B : List Int} (h : Part b (r :: rs) i e F m B) : (b.take e).drop (e - r.length) = r := by
  have hs := h.sz
  have hF := h.lF
  have hB := h.lB
  rw [List.length_cons, tot] at hs
  rw [h.eq, back, show F ++ slotsOf (r :: rs) e ++ List.replicate m 0 ++ (back rs ++ r ++ B) = ((F ++ slotsOf (r :: rs) e ++ List.replicate m 0 ++ back rs) ++ r) ++ B by simp]
  have hX : (F ++ slotsOf (r :: rs) e ++ List.replicate m 0 ++ back rs).length = e - r.length := by
    simp only [List.length_append, slots_len, List.length_replicate, back_len, hF, List.length_cons]
    omega
  rw [List.take_left' (by rw [List.length_append, hX]; omega), List.drop_left' hX]
end Go.Proofs.Ytolgcohmmghehaa.PureS
