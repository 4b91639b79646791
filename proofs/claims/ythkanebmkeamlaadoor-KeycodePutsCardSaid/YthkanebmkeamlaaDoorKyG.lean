/- The text behind others: what keycode.Behind gives. Conditions: stated in each theorem. -/
import Derived.Test.YthkanebmkeamlaaDoorKyF
namespace Go.Proofs.YthkanebmkeamlaaDoor.Ky
open Go.RowKit Go.Proofs.YthkanebmkeamlaaDoorW.PrintWords Go.Proofs.YthkanebmkeamlaaDoorW.PrintLast Go.Proofs.YthkanebmkeamlaaDoorW.PrintMore Go.Proofs.YthkanebmkeamlaaDoor.XKey Go.Proofs.YthkanebmkeamlaaDoor.Byt
set_option linter.unusedVariables false
set_option linter.unusedSimpArgs false
set_option maxRecDepth 100000
theorem str_bytes (s : ByteArray) : strOfNums (bytesOf s) = s := by
  rw [bytes_map, str_of_u]
theorem beh_nil : KeyM.beh [] = none := rfl
theorem beh_255 (l : List Int) : KeyM.beh (l ++ [255]) = KeyM.beh l := by
  unfold KeyM.beh
  rw [List.reverse_append, List.reverse_singleton, List.singleton_append, KeyM.behR, if_pos rfl]
theorem beh_up (l : List Int) (x : Int) (h : x ≠ 255) : KeyM.beh (l ++ [x]) = some (l ++ [x + 1]) := by
  unfold KeyM.beh
  rw [List.reverse_append, List.reverse_singleton, List.singleton_append, KeyM.behR, if_neg h]
  simp
def behindR (s : ByteArray) : ByteArray × Bool := match KeyM.beh (bytesOf s) with | some u => (strOfNums u, true) | none => (⟨#[]⟩, false)
theorem bytes_cut (t : ByteArray) (n : Nat) (h : t.size = n + 1) (h2 : n < t.size) : bytesOf t = bytesOf (t.extract 0 n) ++ [(t[n].toNat : Int)] := by
  rw [bytes_map, bytes_map, ByteArray.data_extract, Array.toList_extract, List.extract_eq_take_drop, List.drop_zero, Nat.sub_zero]
  have hl : t.data.toList.length = n + 1 := h
  have e : t.data.toList.drop n = [t[n]] := by
    rw [List.drop_eq_getElem_cons (by omega), List.drop_of_length_le (by omega)]
    rfl
  have e2 : t.data.toList = t.data.toList.take n ++ [t[n]] := by rw [← e, List.take_append_drop]
  conv => lhs; rw [e2]
  simp
theorem empty_list {t : ByteArray} (h : t.size = 0) : t.toList = [] := by
  rw [ByteArray.toList_eq]
  exact List.eq_nil_of_length_eq_zero h
theorem nonempty_list {t : ByteArray} (h : t.size ≠ 0) : t.toList ≠ [] := fun e => by
  rw [ByteArray.toList_eq] at e
  exact h (by have := congrArg List.length e; exact this)
set_option maxHeartbeats 4000000 in
theorem behind_ok (s : ByteArray) (w : World) (hs : s.size ≤ 1000000) :
    Calls Tryd.prog 16 #[.string s] w fun e w' => e = .returned (.tuple #[.string (behindR s).1, .bool (behindR s).2]) ∧ Below w.heap.size w w' := by
  obtain ⟨R, hR⟩ : ∃ R, KeyM.beh (bytesOf s) = R := ⟨_, rfl⟩
  have HR := Aside0.mk hR
  have HS := Aside0.mk hs
  clear hR hs
  go_enter Tryd.func16, Tryd.ntmps16
  go_wp2
  go_loopg [0] (s.size + 1) (fun kq v0 w' => ∃ (t : ByteArray), v0 = .string t ∧ Aside0 (t.size < kq ∧ t.size ≤ s.size) ∧ Aside0 (KeyM.beh (bytesOf t) = R) ∧ w = w')
  case atStart => exact ⟨s, rfl, ⟨by omega, by omega⟩, HR, rfl⟩
  case round =>
    obtain ⟨t, rfl, HK, HT, rfl⟩ := hrel
    by_cases h0 : t.size = 0
    · have e1 := empty_list h0
      have e2 : t.toList.isEmpty = true := by rw [e1]; rfl
      have HRES := Aside0.mk (show none = R by rw [← HT.out, (bytes_nil t).2 e1]; rfl)
      clear h0
      go_wp2
      go_ret2
      exact ⟨by rw [behindR, HR.out, ← HRES.out]; rfl, Below.refl _ _⟩
    · have e1 := nonempty_list h0
      have e2 : t.toList.isEmpty = false := by
        cases h : t.toList.isEmpty
        · rfl
        · exact absurd (List.isEmpty_iff.1 h) e1
      obtain ⟨n, hn⟩ : ∃ n, t.size = n + 1 := ⟨t.size - 1, by omega⟩
      have hn2 : n < t.size := by omega
      obtain ⟨d, hd⟩ : ∃ d, t[n] = d := ⟨_, rfl⟩
      have hn3 : n + 1 ≤ 1000000 := by have := HK.out.2; have := HS.out; omega
      by_cases h5 : d = 255
      · have HRES := Aside0.mk (show KeyM.beh (bytesOf (t.extract 0 n)) = R by
          rw [← HT.out, bytes_cut t n hn hn2, hd, h5]
          exact (beh_255 _).symm)
        have e5 : ((t[n].toNat : Int) == 255) = true := by rw [hd, h5]; rfl
        have HN := Aside0.mk hn
        clear h0 hd h5
        go_wp2
        go_roundg (gk - 1)
        case measure => have := HK.out; have := HN.out; omega
        case rel => exact ⟨_, rfl, ⟨by have := HK.out; have := HN.out; rw [ByteArray.size_extract]; omega, by have := HK.out; rw [ByteArray.size_extract]; omega⟩, HRES, rfl⟩
      · have hdv : ¬ (d.toNat : Int) = 255 := fun e => h5 (UInt8.toNat_inj.1 (by rw [show (255 : UInt8).toNat = 255 from rfl]; omega))
        have hlt := d.toNat_lt
        have hcut := bytes_cut t n hn hn2
        rw [hd] at hcut
        obtain ⟨xs, hxs⟩ : ∃ xs, bytesOf (t.extract 0 n) = xs := ⟨_, rfl⟩
        rw [hxs] at hcut
        obtain ⟨x, hx⟩ : ∃ x, (d.toNat : Int) = x := ⟨_, rfl⟩
        rw [hx] at hcut hdv
        have hx2 : 0 ≤ x ∧ x ≤ 254 := by omega
        have hxl : xs.length = n := by rw [← hxs, bytesOf_length, ByteArray.size_extract]; omega
        have hres : some (xs ++ [x + 1]) = R := by rw [← HT.out, hcut, beh_up _ _ hdv]
        have HRES := Aside0.mk hres
        have e5 : ((t[n].toNat : Int) == 255) = false := by rw [hd, hx]; exact beq_eq_false_iff_ne.mpr hdv
        have kb := fun W => print_bytes (P := Tryd.prog) 9 31 5 Tryd.underlying9 Tryd.underlying31 Tryd.underlying5 t W
        have hv := RV.bytes w (bytesOf t) (fun c hc => bytes_rng t c hc) (by rw [bytesOf_length]; omega)
        rw [str_bytes, bytesOf_length, hcut] at hv
        obtain ⟨g, cap, e, hr⟩ := hv
        injection e with ea eb ec
        injection ea with ea
        injection ea with ea
        subst ea
        have hjn : n < (xs ++ [x]).length := by rw [List.length_append, hxl]; simp
        have hc1 := hr.cell hjn
        have hf1 := hr.free (Nat.lt_of_lt_of_le hjn hr.len)
        have hst := hr.store n (x + 1) hjn
        have hgd : (xs ++ [x]).getD n 0 = x := by rw [List.getD_eq_getElem?_getD, ← hxl]; simp
        have hset : (xs ++ [x]).set n (x + 1) = xs ++ [x + 1] := by rw [← hxl]; simp
        rw [hgd] at hc1
        rw [hset] at hst
        have hcv := Kd.C_string (P := Tryd.prog) (c := cap) Tryd.underlying31 Tryd.underlying5 Tryd.underlying9 (RV.C ⟨w.heap.size, cap, rfl, hst⟩).1
        rw [show (xs ++ [x + 1]).length = n + 1 by rw [List.length_append, hxl]; rfl] at hcv
        have HBB := Aside0.mk ((bytes_below (Below.refl w.heap.size w) (Nat.le_refl _) 5 t).setCell (p := ⟨w.heap.size, n, none⟩) (Nat.le_refl _) (.int .u8 (x + 1)))
        have eadd : (⟨w.heap.size, 0, none⟩ : Addr).add n = ⟨w.heap.size, n, none⟩ := by unfold Addr.add; split <;> simp_all
        have hmod : (x + 1) % 256 = x + 1 := by omega
        subst ec
        rw [hn] at hcv
        clear h0 hd h5 hdv hlt hcut hxs hx hxl hres hjn hst hgd hset hr eb
        go_wp2
        go_ret2
        exact ⟨by rw [behindR, HR.out, ← HRES.out]; rfl, HBB.out⟩
end Go.Proofs.YthkanebmkeamlaaDoor.Ky
