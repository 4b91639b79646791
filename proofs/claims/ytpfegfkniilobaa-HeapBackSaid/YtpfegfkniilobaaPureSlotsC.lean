/- Heap pages as lists of bytes: what the program's laying comes to. Conditions: the records have room. -/
import Derived.Test.YtpfegfkniilobaaSlotsB
import Derived.Test.YtpfegfkniilobaaByt
import Derived.Test.YtpfegfkniilobaaXHeapx8
import Derived.Test.YtpfegfkniilobaaXHeapx9
import Derived.Test.YtpfegfkniilobaaXHeapx1
namespace Go.Proofs.Ytpfegfkniilobaa.PureSl
open Go.RowKit Go.Proofs.YtpfegfkniilobaaW.PrintWords Go.Proofs.YtpfegfkniilobaaW.PrintLast Go.Proofs.YtpfegfkniilobaaW.PrintMore Go.Proofs.Ytpfegfkniilobaa.Byt Go.Proofs.Ytpfegfkniilobaa.Slb
set_option linter.unusedVariables false
set_option linter.unusedSimpArgs false
/-- The slots of records, whose last byte stands ahead of e. -/
def sl4 (e n : Nat) : List Int := [(e : Int) / 256 % 256, (e : Int) % 256, (n : Int) / 256 % 256, (n : Int) % 256]
def slotsOf : List (List Int) → Nat → List Int
  | [], _ => []
  | r :: rs, e => sl4 (e - r.length) r.length ++ slotsOf rs (e - r.length)
/-- The records, the last one first. -/
def back : List (List Int) → List Int
  | [] => []
  | r :: rs => back rs ++ r
theorem slots_len : ∀ (rs : List (List Int)) (e : Nat), (slotsOf rs e).length = 4 * rs.length
  | [], _ => rfl
  | r :: rs, e => by
    rw [slotsOf, List.length_append, slots_len rs, List.length_cons, sl4]
    simp only [List.length_cons, List.length_nil]
    omega
theorem back_len : ∀ rs : List (List Int), (back rs).length = tot rs
  | [] => rfl
  | r :: rs => by
    rw [back, List.length_append, back_len rs, tot]
    omega
theorem tot_append : ∀ a b : List (List Int), tot (a ++ b) = tot a + tot b
  | [], b => by rw [List.nil_append, tot, Nat.zero_add]
  | r :: a, b => by
    rw [List.cons_append, tot, tot, tot_append a b]
    omega
theorem set_at {α : Type} (F : List α) (x y : α) (C : List α) (n : Nat) (h : F.length = n) : (F ++ y :: C).set n x = F ++ x :: C := by
  subst h
  rw [List.set_append_right _ _ (Nat.le_refl _), Nat.sub_self, List.set_cons_zero]
/-- One record laid over zeros. -/
theorem lay1_eq (F B r : List Int) (i m e : Nat) (hF : F.length = 8 + 4 * i) (he : 8 + 4 * i + m = e) (hr : r.length + 4 ≤ m) :
    lay1 (F ++ List.replicate m 0 ++ B) i (e - r.length) r = (F ++ sl4 (e - r.length) r.length) ++ List.replicate (m - r.length - 4) 0 ++ (r ++ B) := by
  obtain ⟨z, hz⟩ : ∃ z, z = m - r.length - 4 := ⟨_, rfl⟩
  have hm : m = (z + 4) + r.length := by omega
  have h1 : splice (F ++ List.replicate m 0 ++ B) (e - r.length) r = F ++ (0 :: 0 :: 0 :: 0 :: (List.replicate z 0 ++ (r ++ B))) := by
    rw [splice, hm, ← List.replicate_append_replicate]
    have a1 : (F ++ (List.replicate (z + 4) (0 : Int) ++ List.replicate r.length 0) ++ B).take (e - r.length) = F ++ List.replicate (z + 4) 0 := by
      rw [List.append_assoc, List.append_assoc, ← List.append_assoc]
      exact List.take_left' (by rw [List.length_append, List.length_replicate]; omega)
    have a2 : (F ++ (List.replicate (z + 4) (0 : Int) ++ List.replicate r.length 0) ++ B).drop (e - r.length + r.length) = B := by
      exact List.drop_left' (by simp only [List.length_append, List.length_replicate]; omega)
    rw [a1, a2, List.append_assoc]
    rfl
  rw [lay1, h1]
  rw [set_at F _ _ _ (8 + 4 * i) hF]
  rw [show F ++ ((e - r.length : Nat) : Int) / 256 % 256 :: 0 :: 0 :: 0 :: (List.replicate z 0 ++ (r ++ B)) = (F ++ [((e - r.length : Nat) : Int) / 256 % 256]) ++ 0 :: 0 :: 0 :: (List.replicate z 0 ++ (r ++ B)) by simp]
  rw [set_at _ _ _ _ (8 + 4 * i + 1) (by rw [List.length_append, hF]; rfl)]
  rw [show (F ++ [((e - r.length : Nat) : Int) / 256 % 256]) ++ ((e - r.length : Nat) : Int) % 256 :: 0 :: 0 :: (List.replicate z 0 ++ (r ++ B)) = (F ++ [((e - r.length : Nat) : Int) / 256 % 256, ((e - r.length : Nat) : Int) % 256]) ++ 0 :: 0 :: (List.replicate z 0 ++ (r ++ B)) by simp]
  rw [set_at _ _ _ _ (8 + 4 * i + 2) (by rw [List.length_append, hF]; rfl)]
  rw [show (F ++ [((e - r.length : Nat) : Int) / 256 % 256, ((e - r.length : Nat) : Int) % 256]) ++ (r.length : Int) / 256 % 256 :: 0 :: (List.replicate z 0 ++ (r ++ B)) = (F ++ [((e - r.length : Nat) : Int) / 256 % 256, ((e - r.length : Nat) : Int) % 256, (r.length : Int) / 256 % 256]) ++ 0 :: (List.replicate z 0 ++ (r ++ B)) by simp]
  rw [set_at _ _ _ _ (8 + 4 * i + 3) (by rw [List.length_append, hF]; rfl), ← hz]
  simp [sl4]
theorem lays_eq : ∀ (rs : List (List Int)) (i e m : Nat) (F B : List Int), F.length = 8 + 4 * i → 8 + 4 * i + m = e → 4 * rs.length + tot rs ≤ m →
    lays rs i e (F ++ List.replicate m 0 ++ B) = F ++ slotsOf rs e ++ List.replicate (m - 4 * rs.length - tot rs) 0 ++ (back rs ++ B)
  | [], i, e, m, F, B, hF, he, hm => by simp [lays, slotsOf, back, tot]
  | r :: rs, i, e, m, F, B, hF, he, hm => by
    rw [List.length_cons, tot] at hm
    rw [lays, lay1_eq F B r i m e hF he (by omega), lays_eq rs (i + 1) (e - r.length) (m - r.length - 4) _ (r ++ B) (by rw [List.length_append, hF]; simp only [sl4, List.length_cons, List.length_nil]; omega) (by omega) (by omega)]
    rw [slotsOf, back, List.length_cons, tot, show m - r.length - 4 - 4 * rs.length - tot rs = m - 4 * (rs.length + 1) - (r.length + tot rs) by omega]
    simp only [List.append_assoc]
/-- The head of a heap page. -/
def hd8 (n nx : Int) : List Int := XHeap.disk_Put.hd 1 n nx
theorem hd8_len (n nx : Int) : (hd8 n nx).length = 8 := rfl
/-- A heap page. -/
def pg (nx : Int) (rs : List (List Int)) : List Int := hd8 rs.length nx ++ slotsOf rs 512 ++ List.replicate (504 - 4 * rs.length - tot rs) 0 ++ back rs
theorem pg_eq (nx : Int) (rs : List (List Int)) (h : 4 * rs.length + tot rs ≤ 504) : lays rs 0 512 (XHeap.disk_Put.hd 1 (rs.length : Int) nx ++ List.replicate 504 0) = pg nx rs := by
  have := lays_eq rs 0 512 504 (hd8 rs.length nx) [] rfl rfl h
  rw [List.append_nil, List.append_nil] at this
  exact this
theorem pg_len (nx : Int) (rs : List (List Int)) (h : 4 * rs.length + tot rs ≤ 504) : (pg nx rs).length = 512 := by
  simp only [pg, List.length_append, hd8_len, slots_len, back_len, List.length_replicate]
  omega
theorem sl4_by (e n : Nat) : By (sl4 e n) := By.cons (by omega) (By.cons (by omega) (By.cons (by omega) (By.cons (by omega) By.nil)))
theorem slots_by : ∀ (rs : List (List Int)) (e : Nat), By (slotsOf rs e)
  | [], _ => By.nil
  | r :: rs, e => (sl4_by _ _).append (slots_by rs _)
theorem back_by : ∀ rs : List (List Int), (∀ r ∈ rs, By r) → By (back rs)
  | [], _ => By.nil
  | r :: rs, h => (back_by rs fun q hq => h q (List.mem_cons_of_mem _ hq)).append (h r List.mem_cons_self)
theorem hd8_by (n nx : Int) : By (hd8 n nx) := By.cons (by omega) (By.cons (by omega) (By.cons (by omega) (By.cons (by omega) (By.cons (by omega) (By.cons (by omega) (By.cons (by omega) (By.cons (by omega) By.nil)))))))
theorem pg_by (nx : Int) (rs : List (List Int)) (h : ∀ r ∈ rs, By r) : By (pg nx rs) := (((hd8_by _ _).append (slots_by rs 512)).append (By.zeros _)).append (back_by rs h)
/-- What a loop over the slots has seen, and what is left of the page. -/
structure Part (b : List Int) (todo : List (List Int)) (i e : Nat) (F : List Int) (m : Nat) (B : List Int) : Prop where
  eq : b = F ++ slotsOf todo e ++ List.replicate m 0 ++ (back todo ++ B)
  lF : F.length = 8 + 4 * i
  lB : e + B.length = 512
  sz : 8 + 4 * i + 4 * todo.length + m + tot todo = e
theorem Part.start (nx : Int) (rs : List (List Int)) (h : 4 * rs.length + tot rs ≤ 504) : Part (pg nx rs) rs 0 512 (hd8 rs.length nx) (504 - 4 * rs.length - tot rs) [] := ⟨by rw [List.append_nil]; rfl, rfl, rfl, by omega⟩
theorem Part.next {b r : List Int} {rs : List (List Int)} {i e m : Nat} {F B : List Int} (h : Part b (r :: rs) i e F m B) : Part b rs (i + 1) (e - r.length) (F ++ sl4 (e - r.length) r.length) m (r ++ B) := by
  have hs := h.sz
  have hF := h.lF
  have hB := h.lB
  rw [List.length_cons, tot] at hs
  refine ⟨?_, ?_, ?_, ?_⟩
  · rw [h.eq, slotsOf, back]
    simp only [List.append_assoc]
  · rw [List.length_append, hF]
    simp only [sl4, List.length_cons, List.length_nil]
    omega
  · rw [List.length_append]
    omega
  · omega
theorem rd_at (F C : List Int) (x : Int) (n : Nat) (h : F.length = n) (j : Int) (hj : j = (n : Int)) : rd (F ++ x :: C) j = x := by
  subst hj h
  simp [rd]
theorem Part.slot {b r : List Int} {rs : List (List Int)} {i e m : Nat} {F B : List Int} (h : Part b (r :: rs) i e F m B) :
    rd b ((8 + 4 * i : Nat) : Int) = ((e - r.length : Nat) : Int) / 256 % 256 ∧ rd b ((8 + 4 * i + 1 : Nat) : Int) = ((e - r.length : Nat) : Int) % 256 ∧ rd b ((8 + 4 * i + 2 : Nat) : Int) = (r.length : Int) / 256 % 256 ∧ rd b ((8 + 4 * i + 3 : Nat) : Int) = (r.length : Int) % 256 := by
  have hb : ∃ T : List Int, b = F ++ (((e - r.length : Nat) : Int) / 256 % 256 :: ((e - r.length : Nat) : Int) % 256 :: (r.length : Int) / 256 % 256 :: (r.length : Int) % 256 :: T) := ⟨slotsOf rs (e - r.length) ++ List.replicate m 0 ++ (back (r :: rs) ++ B), by rw [h.eq, slotsOf, sl4]; simp⟩
  obtain ⟨T, hb⟩ := hb
  have hF := h.lF
  refine ⟨?_, ?_, ?_, ?_⟩
  · rw [hb]
    exact rd_at F _ _ _ hF _ rfl
  · rw [hb, show F ++ (((e - r.length : Nat) : Int) / 256 % 256 :: ((e - r.length : Nat) : Int) % 256 :: (r.length : Int) / 256 % 256 :: (r.length : Int) % 256 :: T) = (F ++ [((e - r.length : Nat) : Int) / 256 % 256]) ++ ((e - r.length : Nat) : Int) % 256 :: ((r.length : Int) / 256 % 256 :: (r.length : Int) % 256 :: T) by simp]
    exact rd_at _ _ _ _ (by rw [List.length_append, hF]; rfl) _ rfl
  · rw [hb, show F ++ (((e - r.length : Nat) : Int) / 256 % 256 :: ((e - r.length : Nat) : Int) % 256 :: (r.length : Int) / 256 % 256 :: (r.length : Int) % 256 :: T) = (F ++ [((e - r.length : Nat) : Int) / 256 % 256, ((e - r.length : Nat) : Int) % 256]) ++ (r.length : Int) / 256 % 256 :: ((r.length : Int) % 256 :: T) by simp]
    exact rd_at _ _ _ _ (by rw [List.length_append, hF]; rfl) _ rfl
  · rw [hb, show F ++ (((e - r.length : Nat) : Int) / 256 % 256 :: ((e - r.length : Nat) : Int) % 256 :: (r.length : Int) / 256 % 256 :: (r.length : Int) % 256 :: T) = (F ++ [((e - r.length : Nat) : Int) / 256 % 256, ((e - r.length : Nat) : Int) % 256, (r.length : Int) / 256 % 256]) ++ (r.length : Int) % 256 :: T by simp]
    exact rd_at _ _ _ _ (by rw [List.length_append, hF]; rfl) _ rfl
theorem Part.cut {b r : List Int} {rs : List (List Int)} {i e m : Nat} {F B : List Int} (h : Part b (r :: rs) i e F m B) : (b.take e).drop (e - r.length) = r := by
  have hs := h.sz
  have hF := h.lF
  have hB := h.lB
  rw [List.length_cons, tot] at hs
  rw [h.eq, back, show F ++ slotsOf (r :: rs) e ++ List.replicate m 0 ++ (back rs ++ r ++ B) = ((F ++ slotsOf (r :: rs) e ++ List.replicate m 0 ++ back rs) ++ r) ++ B by simp]
  have hX : (F ++ slotsOf (r :: rs) e ++ List.replicate m 0 ++ back rs).length = e - r.length := by
    simp only [List.length_append, slots_len, List.length_replicate, back_len, hF, List.length_cons]
    omega
  rw [List.take_left' (by rw [List.length_append, hX]; omega), List.drop_left' hX]
end Go.Proofs.Ytpfegfkniilobaa.PureSl
namespace Go.Proofs.Ytpfegfkniilobaa.PureSl
open Go.RowKit Go.Proofs.YtpfegfkniilobaaW.PrintWords Go.Proofs.YtpfegfkniilobaaW.PrintLast Go.Proofs.YtpfegfkniilobaaW.PrintMore Go.Proofs.Ytpfegfkniilobaa.XHeap Go.Proofs.Ytpfegfkniilobaa.Byt Go.Proofs.Ytpfegfkniilobaa.Slb
set_option linter.unusedVariables false
set_option linter.unusedSimpArgs false
def getR (l : List Int) : Int × Int × Int × Bool := if l.length = 512 ∧ rd l 1 = 0 then (rd l 0, rd l 2 * 256 + rd l 3, ((rd l 4 * 256 + rd l 5) * 256 + rd l 6) * 256 + rd l 7, true) else (0, 0, 0, false)
theorem get_f (k : Nat) (l : List Int) (hy : By l) : disk_Get.f (k + 10) l = some (getR l) := by
  rw [disk_Get.f, getR]
  by_cases h : l.length = 512
  · rw [if_pos (by omega), if_pos (by omega)]
    by_cases h1 : rd l 1 = 0
    · rw [if_pos ⟨h, h1⟩, show (rd l 1 != 0) = false from bne_eq_false_iff_eq.mpr h1]
      have hl : ((l.take 8).drop 4).length = 4 := by rw [List.length_drop, List.length_take]; omega
      have r0 : rd ((l.take 8).drop 4) 0 = rd l 4 := rd_drop_take l 4 8 0 (by omega) (by omega)
      have r1 : rd ((l.take 8).drop 4) 1 = rd l 5 := rd_drop_take l 4 8 1 (by omega) (by omega)
      have r2 : rd ((l.take 8).drop 4) 2 = rd l 6 := rd_drop_take l 4 8 2 (by omega) (by omega)
      have r3 : rd ((l.take 8).drop 4) 3 = rd l 7 := rd_drop_take l 4 8 3 (by omega) (by omega)
      have w0 : wrap64 (0 + 1) = 1 := w64_in _ (by omega)
      have w1 : wrap64 (1 + 1) = 2 := w64_in _ (by omega)
      have w2 : wrap64 (2 + 1) = 3 := w64_in _ (by omega)
      have w3 : wrap64 (3 + 1) = 4 := w64_in _ (by omega)
      have b4 := hy.rdb 4
      have b5 := hy.rdb 5
      have b6 := hy.rdb 6
      have b7 := hy.rdb 7
      have o0 : Go.bits .or .u32 ((0 * 256) % 4294967296) (rd l 4 % 4294967296) = rd l 4 := by rw [or32 0 _ (by omega) (by omega) b4.1 b4.2]; omega
      rw [disk_Get.j0, if_neg (by decide), if_pos (by omega), if_pos (by omega), hl]
      rw [disk_Get.l0, if_pos (by decide), if_pos (by omega), if_pos (by rw [hl]; omega), r0, w0, o0]
      rw [disk_Get.l0, if_pos (by decide), if_pos (by omega), if_pos (by rw [hl]; omega), r1, w1, or32 _ _ (by omega) (by omega) b5.1 b5.2]
      rw [disk_Get.l0, if_pos (by decide), if_pos (by omega), if_pos (by rw [hl]; omega), r2, w2, or32 _ _ (by omega) (by omega) b6.1 b6.2]
      rw [disk_Get.l0, if_pos (by decide), if_pos (by omega), if_pos (by rw [hl]; omega), r3, w3, or32 _ _ (by omega) (by omega) b7.1 b7.2]
      rw [disk_Get.l0, if_neg (by decide), if_pos (by omega), if_pos (by omega), if_pos (by omega), or16 _ _ (hy.rdb 2) (hy.rdb 3)]
    · rw [if_neg (by omega), show (rd l 1 != 0) = true from bne_iff_ne.mpr h1, disk_Get.j0, if_pos rfl]
  · rw [if_neg (by omega), if_neg (by omega), disk_Get.j0, if_pos rfl]
/-- All that a page's records fulfil. -/
structure Ok (nx : Int) (rs : List (List Int)) : Prop where
  sz : 4 * rs.length + tot rs ≤ 504
  pos : ∀ r ∈ rs, 0 < r.length
  by_ : ∀ r ∈ rs, By r
  nx_ : 0 ≤ nx ∧ nx < 4294967296
theorem Ok.page {nx : Int} {rs : List (List Int)} (h : Ok nx rs) : slots_page_bytes.f nx rs = some (pg nx rs) := by
  have hs := h.sz
  rw [slots_page_bytes.f, if_pos, pg_eq nx rs hs]
  refine ⟨by omega, ?_⟩
  rw [List.all_eq_true]
  intro r hr
  exact decide_eq_true (h.pos r hr)
theorem Ok.len {nx : Int} {rs : List (List Int)} (h : Ok nx rs) : (pg nx rs).length = 512 := pg_len nx rs h.sz
theorem Ok.get {nx : Int} {rs : List (List Int)} (h : Ok nx rs) (k : Nat) : disk_Get.f (k + 10) (pg nx rs) = some (1, (rs.length : Int), nx, true) := by
  have hs := h.sz
  have hn := h.nx_
  rw [get_f k _ (pg_by nx rs h.by_), getR, if_pos ⟨h.len, rfl⟩]
  show some (1, (rs.length : Int) / 256 % 256 * 256 + (rs.length : Int) % 256, ((nx / 16777216 % 256 * 256 + nx / 65536 % 256) * 256 + nx / 256 % 256) * 256 + nx % 256, true) = _
  have e1 : (rs.length : Int) / 256 % 256 * 256 + (rs.length : Int) % 256 = (rs.length : Int) := by omega
  have e2 : ((nx / 16777216 % 256 * 256 + nx / 65536 % 256) * 256 + nx / 256 % 256) * 256 + nx % 256 = nx := by omega
  rw [e1, e2]
theorem or64 (a x : Int) (ha : 0 ≤ a ∧ a ≤ 255) (hx : 0 ≤ x ∧ x ≤ 255) : Go.bits .or .i64 (wrap64 (wrap64 a * 256)) (wrap64 x) = a * 256 + x := by
  rw [w64_in a (by omega), w64_in (a * 256) (by omega), w64_in x (by omega)]
  obtain ⟨b, rfl⟩ := Int.eq_ofNat_of_zero_le hx.1
  obtain ⟨m, rfl⟩ := Int.eq_ofNat_of_zero_le ha.1
  have e1 : BitVec.ofInt 64 (((m : Nat) : Int) * 256) = BitVec.ofNat 64 (256 * m) := by
    apply BitVec.eq_of_toNat_eq
    rw [BitVec.toNat_ofInt, BitVec.toNat_ofNat]
    omega
  have e2 : BitVec.ofInt 64 ((b : Nat) : Int) = BitVec.ofNat 64 b := by
    apply BitVec.eq_of_toNat_eq
    rw [BitVec.toNat_ofInt, BitVec.toNat_ofNat]
    omega
  have e3 : 256 * m ||| b = 256 * m + b := (Nat.two_pow_add_eq_or_of_lt (i := 8) (by omega) m).symm
  simp only [Go.bits]
  rw [show IntKind.i64.bits = 64 from rfl, e1, e2, ← BitVec.ofNat_or, e3, BitVec.toNat_ofNat, w64_eq, w64_in _ (by omega)]
  omega
theorem clone_f (l : List Int) (h : l.length ≤ 512) : bytes_Clone.f l = some l := by rw [bytes_Clone.f, if_pos (by omega)]
theorem w64n (a b : Nat) (h : b ≤ a) (ha : a ≤ 1000000) : wrap64 ((a : Int) - (b : Int)) = ((a - b : Nat) : Int) := by
  rw [w64_in _ (by omega)]
  omega
theorem w64p (a b c : Nat) (ha : a ≤ 1000000) (hb : b ≤ 1000000) (hc : a + b = c) : wrap64 ((a : Int) + (b : Int)) = (c : Int) := by
  rw [w64_in _ (by omega)]
  omega
theorem len64 (n : Nat) (h : n ≤ 512) : Go.bits .or .i64 (wrap64 (wrap64 ((n : Int) / 256 % 256) * 256)) (wrap64 ((n : Int) % 256)) = (n : Int) := by
  rw [or64 _ _ (by omega) (by omega)]
  omega
theorem read_loop (nx : Int) (N : Nat) (b : List Int) (hb : b.length = 512) : ∀ (todo : List (List Int)) (i e : Nat) (F : List Int) (m : Nat) (B : List Int) (acc : List (List Int)), Part b todo i e F m B → N = i + todo.length → (∀ r ∈ todo, 0 < r.length) → acc.length = i → ∀ k, slots_read.l0 (todo.length + k + 1) b ((8 + 4 * N : Nat) : Int) (e : Int) ((8 + 4 * i : Nat) : Int) nx acc =
    (slots_page_bytes.f nx (acc ++ todo)).bind fun t118 => (bytes_Equal.f t118 b).bind fun t121 => some (nx, acc ++ todo, t121)
  | [], i, e, F, m, B, acc, hP, hN, hpos, ha, k => by
    rw [List.length_nil] at hN
    rw [slots_read.l0, if_neg (by omega), List.append_nil]
  | r :: rs, i, e, F, m, B, acc, hP, hN, hpos, ha, k => by
    have hs := hP.sz
    have hB := hP.lB
    rw [List.length_cons] at hs hN
    rw [tot] at hs
    have hr : 0 < r.length := hpos r List.mem_cons_self
    have hrec := read_loop nx N b hb rs (i + 1) (e - r.length) _ m (r ++ B) (acc ++ [r]) hP.next (by clear hpos; omega) (fun q hq => hpos q (List.mem_cons_of_mem _ hq)) (by rw [List.length_append, ha]; rfl) k
    obtain ⟨_, _, s2, s3⟩ := hP.slot
    have hcut := hP.cut
    clear hP hpos
    have g : 8 + 4 * i + 4 ≤ e ∧ r.length ≤ e - (8 + 4 * N) ∧ 8 + 4 * N ≤ e ∧ i < N ∧ e ≤ 512 ∧ r.length ≤ 512 ∧ r.length ≤ e ∧ acc.length ≤ 512 := by
      clear hrec s2 s3 hcut
      omega
    clear hs hB hN ha
    obtain ⟨g1, g2, g3, g4, g5, g6, g7, g8⟩ := g
    have hn := len64 r.length g6
    have w2 : wrap64 (((8 + 4 * i : Nat) : Int) + 2) = ((8 + 4 * i + 2 : Nat) : Int) := w64p (8 + 4 * i) 2 _ (by clear hrec s2 s3 hcut hn; omega) (by decide) rfl
    have w3 : wrap64 (((8 + 4 * i : Nat) : Int) + 3) = ((8 + 4 * i + 3 : Nat) : Int) := w64p (8 + 4 * i) 3 _ (by clear hrec s2 s3 hcut hn w2; omega) (by decide) rfl
    have w4 : wrap64 (((8 + 4 * i : Nat) : Int) + 4) = ((8 + 4 * (i + 1) : Nat) : Int) := w64p (8 + 4 * i) 4 _ (by clear hrec s2 s3 hcut hn w2 w3; omega) (by decide) (by clear hrec s2 s3 hcut hn w2 w3; omega)
    have we : wrap64 ((e : Int) - ((8 + 4 * N : Nat) : Int)) = ((e - (8 + 4 * N) : Nat) : Int) := w64n e _ g3 (Nat.le_trans g5 (by decide))
    have wr : wrap64 ((e : Int) - (r.length : Int)) = ((e - r.length : Nat) : Int) := w64n e _ g7 (Nat.le_trans g5 (by decide))
    have c : ((8 + 4 * i : Nat) : Int) < ((8 + 4 * N : Nat) : Int) ∧ ¬ ((8 + 4 * (i + 1) : Nat) : Int) > (e : Int) ∧ (0 : Int) ≤ ((8 + 4 * i + 2 : Nat) : Int) ∧ ((8 + 4 * i + 2 : Nat) : Int) < (b.length : Int) ∧ (0 : Int) ≤ ((8 + 4 * i + 3 : Nat) : Int) ∧ ((8 + 4 * i + 3 : Nat) : Int) < (b.length : Int) ∧ ¬ (r.length : Int) = 0 ∧ ¬ (r.length : Int) > ((e - (8 + 4 * N) : Nat) : Int) ∧ (0 : Int) ≤ ((e - r.length : Nat) : Int) ∧ ((e - r.length : Nat) : Int) ≤ (e : Int) ∧ (e : Int) ≤ (b.length : Int) ∧ acc.length < 5864062014805 := by
      clear hrec s2 s3 hcut hn w2 w3 w4 we wr
      omega
    obtain ⟨c1, c2, c3, c4, c5, c6, c7, c8, c9, c10, c11, c12⟩ := c
    clear hb g1 g2 g3 g4 g5 g7 g8 hr
    rw [List.length_cons, show rs.length + 1 + k + 1 = (rs.length + k + 1) + 1 from by rw [Nat.add_right_comm rs.length 1 k]]
    rw [slots_read.l0, if_pos c1, w2, w3, w4, s2, s3, hn, we, wr, if_neg c2, if_pos c3, if_pos c4, if_pos c5, if_pos c6, if_neg c7, if_neg c8, if_pos c9, if_pos c10, if_pos c11]
    rw [Int.toNat_natCast, Int.toNat_natCast, hcut, clone_f r g6, Option.bind_some, if_pos c12, hrec, List.append_assoc]
    rfl
/-- A heap page is taken apart. -/
theorem Ok.read {nx : Int} {rs : List (List Int)} (h : Ok nx rs) (k : Nat) : slots_read.f (rs.length + k + 10) (pg nx rs) = some (nx, rs, true) := by
  have hs := h.sz
  rw [slots_read.f, h.get (rs.length + k), Option.bind_some, if_pos rfl]
  show slots_read.j0 (rs.length + k + 10) (pg nx rs) false 1 (rs.length : Int) nx = _
  rw [show rs.length + k + 10 = (rs.length + (k + 8) + 1) + 1 by omega, slots_read.j0, if_neg (by decide)]
  rw [w64_in (rs.length : Int) (by omega), w64_in ((rs.length : Int) * 4) (by omega), w64_in _ (by omega), show 8 + (rs.length : Int) * 4 = ((8 + 4 * rs.length : Nat) : Int) by omega]
  have hl := read_loop nx rs.length (pg nx rs) h.len rs 0 512 _ _ _ [] (Part.start nx rs hs) (by omega) h.pos rfl (k + 8)
  rw [List.nil_append, h.page, Option.bind_some, bytes_Equal.f, Option.bind_some] at hl
  rw [show (some (nx, rs, (strOfNums (pg nx rs)).toList == (strOfNums (pg nx rs)).toList)) = some (nx, rs, true) by rw [beq_self_eq_true]] at hl
  exact hl
theorem up {α : Type} {f : Nat → Option α} (hm : ∀ k, LeO (f k) (f (k + 1))) {r : α} : ∀ (d k : Nat), f k = some r → f (k + d) = some r
  | 0, k, h => h
  | d + 1, k, h => hm (k + d) r (up hm d k h)
theorem Ok.count {nx : Int} {rs : List (List Int)} (h : Ok nx rs) : rs.length ≤ 126 := by
  have := h.sz
  omega
theorem Ok.read' {nx : Int} {rs : List (List Int)} (h : Ok nx rs) (k : Nat) : slots_read.f (k + 200) (pg nx rs) = some (nx, rs, true) := by
  have := h.count
  have := h.read (k + 190 - rs.length)
  rwa [show rs.length + (k + 190 - rs.length) + 10 = k + 200 by omega] at this
/-- How much is used. -/
theorem used_loop : ∀ (rs : List (List Int)) (pre : List (List Int)) (x : Int) (k : Nat), 0 ≤ x → x + 4 * rs.length + tot rs ≤ 100000 → pre.length + rs.length ≤ 100000 → slots_page_used.l0 (rs.length + k + 1) x (pre ++ rs) ((pre ++ rs).length : Int) (pre.length : Int) = some (x + 4 * rs.length + tot rs)
  | [], pre, x, k, h0, h1, h2 => by
    rw [List.append_nil, slots_page_used.l0, if_neg (by omega)]
    simp [tot]
  | r :: rs, pre, x, k, h0, h1, h2 => by
    rw [List.length_cons, tot] at h1
    have h2' := h2
    rw [List.length_cons] at h2'
    have hrec := used_loop rs (pre ++ [r]) (x + (4 + r.length)) k (by omega) (by omega) (by rw [List.length_append]; rw [List.length_cons] at h2; simp only [List.length_cons, List.length_nil]; omega)
    have hl : ((pre ++ [r]).length : Int) = (pre.length : Int) + 1 := by simp
    rw [show pre ++ [r] ++ rs = pre ++ r :: rs by simp, hl] at hrec
    have hrd : rd_L1 (pre ++ r :: rs) (pre.length : Int) = r := by simp [rd_L1]
    rw [List.length_cons, show rs.length + 1 + k + 1 = (rs.length + k + 1) + 1 by omega, slots_page_used.l0, if_pos (by rw [List.length_append, List.length_cons]; omega), if_pos (by omega), if_pos (by rw [List.length_append, List.length_cons]; omega), hrd, w64_in (4 + (r.length : Int)) (by omega), w64_in (x + (4 + (r.length : Int))) (by omega), w64_in ((pre.length : Int) + 1) (by omega), hrec, tot]
    congr 1
    omega
theorem used_f (nx : Int) (rs : List (List Int)) (k : Nat) (h : 4 * rs.length + tot rs ≤ 504) (hk : rs.length < k) : slots_page_used.f k nx rs = some (8 + 4 * rs.length + tot rs : Int) := by
  have := used_loop rs [] 8 (k - rs.length - 1) (by omega) (by omega) (by rw [List.length_nil]; omega)
  rw [show rs.length + (k - rs.length - 1) + 1 = k by omega] at this
  exact this
/-- The room for one record more. -/
def room (rs : List (List Int)) : Nat := 500 - 4 * rs.length - tot rs
theorem room_f (nx : Int) (rs : List (List Int)) (k : Nat) (h : 4 * rs.length + tot rs ≤ 504) (hk : rs.length < k) : slots_page_room.f k nx rs = some (room rs : Int) := by
  rw [slots_page_room.f, used_f nx rs k h hk, Option.bind_some, w64_in (512 - (8 + 4 * (rs.length : Int) + (tot rs : Int))) (by omega), w64_in _ (by omega), mx, room]
  split <;> congr 1 <;> omega
theorem Ok.link {nx other : Int} {rs : List (List Int)} (h : Ok nx rs) (ho : Ok other rs) (k : Nat) : slots_Link.f (k + 200) (pg nx rs) other = some (pg other rs, 0) := by
  rw [slots_Link.f, h.read', Option.bind_some, if_pos rfl, ho.page, Option.bind_some]
theorem Ok.all {nx : Int} {rs : List (List Int)} (h : Ok nx rs) (k : Nat) : slots_All.f (k + 200) (pg nx rs) = some (rs, 0) := by
  rw [slots_All.f, h.read', Option.bind_some, if_pos rfl]
theorem Ok.add_full {nx : Int} {rs : List (List Int)} (h : Ok nx rs) (k : Nat) (r : List Int) (hr : 0 < r.length) (hf : room rs < r.length) : slots_Add.f (k + 200) (pg nx rs) r = some ([], 0, 7) := by
  have := h.count
  rw [slots_Add.f, h.read', Option.bind_some, if_pos rfl, if_neg (by omega), room_f nx rs _ h.sz (by omega), Option.bind_some, if_pos (by omega)]
theorem Ok.more {nx : Int} {rs : List (List Int)} (h : Ok nx rs) (r : List Int) (hr : 0 < r.length) (hy : By r) (hf : r.length ≤ room rs) : Ok nx (rs ++ [r]) := by
  have hs := h.sz
  rw [room] at hf
  refine ⟨?_, ?_, ?_, h.nx_⟩
  · rw [List.length_append, tot_append, tot, tot]
    simp only [List.length_cons, List.length_nil]
    omega
  · intro q hq
    rcases List.mem_append.1 hq with hq | hq
    · exact h.pos q hq
    · rw [List.mem_singleton.1 hq]
      exact hr
  · intro q hq
    rcases List.mem_append.1 hq with hq | hq
    · exact h.by_ q hq
    · rw [List.mem_singleton.1 hq]
      exact hy
theorem Ok.add {nx : Int} {rs : List (List Int)} (h : Ok nx rs) (k : Nat) (r : List Int) (hr : 0 < r.length) (hy : By r) (hf : r.length ≤ room rs) : slots_Add.f (k + 200) (pg nx rs) r = some (pg nx (rs ++ [r]), (rs.length : Int), 0) := by
  have := h.count
  rw [slots_Add.f, h.read', Option.bind_some, if_pos rfl, if_neg (by omega), room_f nx rs _ h.sz (by omega), Option.bind_some, if_neg (by omega), if_pos (by show rs.length < _; omega), Option.bind_some]
  show (slots_page_bytes.f nx (rs ++ [r])).bind _ = _
  rw [(h.more r hr hy hf).page, Option.bind_some, List.length_append]
  rw [w64_in _ (by simp only [List.length_cons, List.length_nil]; omega)]
  simp
end Go.Proofs.Ytpfegfkniilobaa.PureSl
namespace Go.Proofs.Ytpfegfkniilobaa.PureSl
open Go.RowKit Go.Proofs.YtpfegfkniilobaaW.PrintWords Go.Proofs.YtpfegfkniilobaaW.PrintLast Go.Proofs.YtpfegfkniilobaaW.PrintMore Go.Proofs.Ytpfegfkniilobaa.XHeap Go.Proofs.Ytpfegfkniilobaa.Byt Go.Proofs.Ytpfegfkniilobaa.Slb
set_option linter.unusedVariables false
set_option linter.unusedSimpArgs false
/-- The records as texts. -/
def txt (rs : List (List Int)) : List ByteArray := rs.map strOfNums
theorem ok_nil (nx : Int) (h : 0 ≤ nx ∧ nx < 4294967296) : Ok nx [] := ⟨by decide, (fun r hr => nomatch hr), (fun r hr => nomatch hr), h⟩
theorem new_f (nx : Int) (h : 0 ≤ nx ∧ nx < 4294967296) : slots_New.f nx = some (pg nx []) := by
  rw [slots_New.f, (ok_nil nx h).page]
  rfl
end Go.Proofs.Ytpfegfkniilobaa.PureSl
