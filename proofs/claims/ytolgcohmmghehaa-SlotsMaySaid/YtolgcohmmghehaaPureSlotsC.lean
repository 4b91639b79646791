/- Heap pages: the reference's page laid, its room, and what 'fixed' and 'same' answer. Conditions: the records have room. -/
import Derived.Test.YtolgcohmmghehaaPureSlotsB
namespace Go.Proofs.Ytolgcohmmghehaa.PureS
open Go.RowKit Go.Proofs.YtolgcohmmghehaaW.PrintWords Go.Proofs.YtolgcohmmghehaaW.PrintLast Go.Proofs.YtolgcohmmghehaaW.PrintMore Go.Proofs.Ytolgcohmmghehaa.XSlotsPlays Go.Proofs.Ytolgcohmmghehaa.Byt Go.Proofs.Ytolgcohmmghehaa.Slb
set_option linter.unusedVariables false
set_option linter.unusedSimpArgs false
/-- The records as texts. -/
def txt (rs : List (List Int)) : List ByteArray := rs.map strOfNums
theorem txt_len (rs : List (List Int)) : (txt rs).length = rs.length := List.length_map _
theorem txt_more (rs : List (List Int)) (r : List Int) : txt (rs ++ [r]) = txt rs ++ [strOfNums r] := by simp [txt]
theorem txt_at (rs : List (List Int)) (i : Nat) : rdOf ByteArray.empty (txt rs) i = strOfNums (rd_L rs i) := by
  rw [rdOf, rd_L, txt, Int.toNat_natCast]
  simp only [List.getD_eq_getElem?_getD, List.getElem?_map]
  cases rs[i]? <;> rfl
theorem txt_mid (pre : List (List Int)) (r : List Int) (rs : List (List Int)) : rdOf ByteArray.empty (txt (pre ++ r :: rs)) (pre.length : Int) = strOfNums r := by
  rw [txt_at, rd_L, Int.toNat_natCast]
  simp
theorem ref_used_loop : ∀ (rs pre : List (List Int)) (x nx : Int) (k : Nat), 0 ≤ x → x + 4 * rs.length + tot rs ≤ 100000 → pre.length + rs.length ≤ 100000 → rowlockref08_Page_Used.l0 (rs.length + k + 1) x ((pre ++ rs).length : Int) (pre.length : Int) nx (txt (pre ++ rs)) = some (x + 4 * rs.length + tot rs)
  | [], pre, x, nx, k, h0, h1, h2 => by
    rw [List.append_nil, rowlockref08_Page_Used.l0, if_neg (by omega)]
    simp [tot]
  | r :: rs, pre, x, nx, k, h0, h1, h2 => by
    rw [List.length_cons, tot] at h1
    have h2' := h2
    rw [List.length_cons] at h2'
    have hrec := ref_used_loop rs (pre ++ [r]) (x + (4 + r.length)) nx k (by omega) (by omega) (by rw [List.length_append]; rw [List.length_cons] at h2; simp only [List.length_cons, List.length_nil]; omega)
    have hl : ((pre ++ [r]).length : Int) = (pre.length : Int) + 1 := by simp
    rw [show pre ++ [r] ++ rs = pre ++ r :: rs by simp, hl] at hrec
    rw [List.length_cons, show rs.length + 1 + k + 1 = (rs.length + k + 1) + 1 by omega, rowlockref08_Page_Used.l0, if_pos (by rw [List.length_append, List.length_cons]; omega), if_pos (by omega), if_pos (by rw [txt_len, List.length_append, List.length_cons]; omega), txt_mid, str_size, w64_in (4 + (r.length : Int)) (by omega), w64_in (x + (4 + (r.length : Int))) (by omega), w64_in ((pre.length : Int) + 1) (by omega), hrec, tot]
    congr 1
    omega
theorem ref_used (nx : Int) (rs : List (List Int)) (k : Nat) (h : 4 * rs.length + tot rs ≤ 504) (hk : rs.length < k) : rowlockref08_Page_Used.f k nx (txt rs) = some (8 + 4 * rs.length + tot rs : Int) := by
  have := ref_used_loop rs [] 8 nx (k - rs.length - 1) (by omega) (by omega) (by rw [List.length_nil]; omega)
  rw [show rs.length + (k - rs.length - 1) + 1 = k by omega, List.nil_append] at this
  rw [rowlockref08_Page_Used.f, txt_len]
  exact this
theorem ref_room (nx : Int) (rs : List (List Int)) (k : Nat) (h : 4 * rs.length + tot rs ≤ 504) (hk : rs.length < k) : rowlockref08_Page_Room.f k nx (txt rs) = some (room rs : Int) := by
  rw [rowlockref08_Page_Room.f, ref_used nx rs k h hk, Option.bind_some, room]
  split
  · congr 1
    omega
  · rw [Option.bind_some, w64_in _ (by omega)]
    congr 1
    omega
theorem w512 (r b : Nat) (h : b + r ≤ 512) : wrap64 (512 - ((r + b : Nat) : Int)) = ((512 - b - r : Nat) : Int) := by
  rw [w64_in _ (by omega)]
  omega
theorem num_in (n : Nat) (h : n ≤ 512) : 0 ≤ (n : Int) ∧ (n : Int) < 65536 := by omega
set_option maxHeartbeats 1000000 in
theorem lay_loop : ∀ (rs pre : List (List Int)) (F B : List Int) (nx : Int) (k : Nat), F.length + B.length + 4 * rs.length + tot rs ≤ 512 → pre.length + rs.length ≤ 100000 →
    rowlockref08_Page_Lay.l0 (rs.length + k + 10) (strOfNums F) (strOfNums B) ((pre ++ rs).length : Int) (pre.length : Int) nx (txt (pre ++ rs)) = some (strOfNums (F ++ slotsOf rs (512 - B.length) ++ List.replicate (512 - F.length - B.length - 4 * rs.length - tot rs) 0 ++ (back rs ++ B)))
  | [], pre, F, B, nx, k, h, hp => by
    rw [tot, List.length_nil] at h
    have e1 : wrap64 (512 - ((strOfNums F).size : Int)) = 512 - (F.length : Int) := by rw [str_size, w64_in _ (by omega)]
    have e2 : wrap64 (wrap64 (512 - ((strOfNums F).size : Int)) - ((strOfNums B).size : Int)) = ((512 - F.length - B.length : Nat) : Int) := by rw [e1, str_size, w64_in _ (by omega)]; omega
    have c1 : (0 : Int) ≤ ((512 - F.length - B.length : Nat) : Int) := by omega
    have c2 : (512 - F.length - B.length : Nat) ≤ 281474976710656 := by omega
    rw [List.append_nil, show List.length ([] : List (List Int)) + k + 10 = (k + 9) + 1 by rw [List.length_nil]; omega, rowlockref08_Page_Lay.l0, if_neg (by omega), e2, if_pos c1, Int.toNat_natCast, if_pos c2, Option.bind_some]
    rw [← str_append, ← str_append, str_size, str_size, str_size, str_size, if_pos (by rw [List.length_replicate]; omega), if_pos (by simp only [List.length_append, List.length_replicate]; omega)]
    simp [slotsOf, back, tot]
  | r :: rs, pre, F, B, nx, k, h, hp => by
    rw [tot, List.length_cons] at h
    have hp' := hp
    rw [List.length_cons] at hp'
    have g : r.length ≤ 512 ∧ B.length + r.length ≤ 512 ∧ F.length ≤ 512 ∧ pre.length + 1 ≤ 1000000 ∧ pre.length + 1 + rs.length ≤ 100000 ∧ F.length + 4 + (r.length + B.length) + 4 * rs.length + tot rs ≤ 512 := by omega
    obtain ⟨g1, g2, g3, g4, g5, g6⟩ := g
    have c1 : (pre.length : Int) < ((pre ++ r :: rs).length : Int) := by
      rw [List.length_append, List.length_cons]
      omega
    have c2 : (0 : Int) ≤ (pre.length : Int) := Int.natCast_nonneg _
    have c3 : (pre.length : Int) < ((txt (pre ++ r :: rs)).length : Int) := by rw [txt_len]; exact c1
    have c4 : r.length + B.length ≤ 9223372036854775807 := by omega
    have c5 : F.length + 2 ≤ 9223372036854775807 := by omega
    have c6 : F.length + 2 + 2 ≤ 9223372036854775807 := by omega
    have hrec := lay_loop rs (pre ++ [r]) (F ++ sl4 (512 - B.length - r.length) r.length) (r ++ B) nx k (by simp only [List.length_append, sl4, List.length_cons, List.length_nil]; exact g6) (by rw [List.length_append]; exact g5)
    have hl : ((pre ++ [r]).length : Int) = (pre.length : Int) + 1 := by simp
    rw [show pre ++ [r] ++ rs = pre ++ r :: rs by simp, hl] at hrec
    have n1 := number2 (rs.length + k + 5) ((512 - B.length - r.length : Nat) : Int) (num_in _ (by omega))
    have n2 := number2 (rs.length + k + 5) (r.length : Int) (num_in _ (by omega))
    have ew : wrap64 (512 - ((r ++ B).length : Int)) = ((512 - B.length - r.length : Nat) : Int) := by
      rw [List.length_append]
      exact w512 _ _ g2
    have wi : wrap64 ((pre.length : Int) + 1) = (pre.length : Int) + 1 := w64p pre.length 1 _ (by omega) (by decide) rfl
    have eF : F ++ sl4 (512 - B.length - r.length) r.length ++ slotsOf rs (512 - (r ++ B).length) = F ++ slotsOf (r :: rs) (512 - B.length) := by rw [slotsOf, List.length_append, show 512 - (r.length + B.length) = 512 - B.length - r.length by omega, List.append_assoc]
    have eB : back rs ++ (r ++ B) = back (r :: rs) ++ B := by rw [back, List.append_assoc]
    have eZ : 512 - (F ++ sl4 (512 - B.length - r.length) r.length).length - (r ++ B).length - 4 * rs.length - tot rs = 512 - F.length - B.length - 4 * (r :: rs).length - tot (r :: rs) := by
      simp only [List.length_append, sl4, List.length_cons, List.length_nil, tot]
      omega
    rw [eF, eB, eZ] at hrec
    have e4 : strOfNums (F ++ sl4 (512 - B.length - r.length) r.length) = strOfNums F ++ strOfNums [((512 - B.length - r.length : Nat) : Int) / 256 % 256, ((512 - B.length - r.length : Nat) : Int) % 256] ++ strOfNums [(r.length : Int) / 256 % 256, (r.length : Int) % 256] := by
      rw [← str_append, ← str_append, List.append_assoc]
      rfl
    rw [e4, str_append r B] at hrec
    rw [List.length_cons, show rs.length + 1 + k + 10 = (rs.length + k + 10) + 1 by omega]
    have l2 : ∀ a b : Int, (strOfNums [a, b]).size = 2 := fun a b => str_size _
    clear h hp hp' eF eB eZ e4 hl
    rw [rowlockref08_Page_Lay.l0, if_pos c1, if_pos c2, if_pos c3, txt_mid]
    rw [str_size, str_size, if_pos c4, ← str_append r B, str_size (r ++ B), ew, n1, Option.bind_some, l2, str_size F, if_pos c5, n2, Option.bind_some, ← str_append F, str_size, l2, if_pos (by rw [List.length_append]; exact c6), wi, str_append F, str_append r B]
    exact hrec
theorem Ok.lay {nx : Int} {rs : List (List Int)} (h : Ok nx rs) (k : Nat) : rowlockref08_Page_Lay.f (k + 200) nx (txt rs) = some (strOfNums (pg nx rs)) := by
  have hs := h.sz
  have hc := h.count
  have hn := h.nx_
  have hh := head_f (k + 195) 1 (rs.length : Int) nx (by omega) hn
  have hl := lay_loop rs [] (hd8 rs.length nx) [] nx (k + 190 - rs.length) (by rw [hd8_len, List.length_nil]; omega) (by rw [List.length_nil]; omega)
  rw [show rs.length + (k + 190 - rs.length) + 10 = k + 200 by omega, List.nil_append, List.length_nil, hd8_len, List.append_nil] at hl
  have ex : (strOfNums (XDiskHeads.disk_Put.hd 1 (rs.length : Int) nx ++ List.replicate 504 0)).extract 0 8 = strOfNums (hd8 rs.length nx) := by
    rw [str_extract]
    rfl
  have sz : (strOfNums (XDiskHeads.disk_Put.hd 1 (rs.length : Int) nx ++ List.replicate 504 0)).size = 512 := by
    rw [str_size, List.length_append, List.length_replicate]
    rfl
  have ew : IntKind.u16.wrap (rs.length : Int) = (rs.length : Int) := by rw [u16_eq]; omega
  rw [rowlockref08_Page_Lay.f, txt_len, ew, hh, Option.bind_some, if_pos (by decide), sz, if_pos (by decide), ex]
  exact hl
theorem ok_nil (nx : Int) (h : 0 ≤ nx ∧ nx < 4294967296) : Ok nx [] := ⟨by decide, (fun r hr => nomatch hr), (fun r hr => nomatch hr), h⟩
theorem new_f (nx : Int) (h : 0 ≤ nx ∧ nx < 4294967296) : slots_New.f nx = some (pg nx []) := by
  rw [slots_New.f, (ok_nil nx h).page]
  rfl
theorem fixed_f (k : Nat) : rowlocklaw08_fixed.f (k + 200) = some true := by
  have h0 := ok_nil 0 (by omega)
  have hr : (List.replicate 10 (0 : Int)).length = 10 := List.length_replicate
  have h1 := h0.more (List.replicate 10 0) (by rw [hr]; omega) (By.zeros 10) (by rw [hr]; decide)
  rw [rowlocklaw08_fixed.f, new_f 0 (by omega), Option.bind_some, if_pos (by decide), h0.add k (List.replicate 10 0) (by rw [hr]; omega) (By.zeros 10) (by rw [hr]; decide), Option.bind_some, h0.room_ k, Option.bind_some]
  show (if ((500 : Nat) : Int) = 500 then _ else _) = _
  rw [if_pos (by decide)]
  show (if (((0 : Nat) : Int)) = 0 then (if (0 : Int) = 0 then _ else _) else _) = _
  rw [if_pos (by decide), if_pos rfl, h1.room_ k, Option.bind_some]
  rfl
theorem same_f {nx : Int} {rs : List (List Int)} (h : Ok nx rs) (k : Nat) : rowlocklaw08_same.f (k + 200) (pg nx rs) nx (txt rs) = some true := by
  have hc := h.count
  rw [rowlocklaw08_same.f, h.all k, Option.bind_some, if_pos]
  refine ⟨rfl, (txt_len rs).symm, ?_, fun i hi => txt_at rs i, fun i hi => h.get_in k i hi, h.get_low k, h.get_high k⟩
  show rs.length ≤ 1000
  omega
end Go.Proofs.Ytolgcohmmghehaa.PureS
