/- A key's text is read. Conditions: stated in each theorem. -/
import Derived.Test.YthkanebmkeamlaaDoorKyE
namespace Go.Proofs.YthkanebmkeamlaaDoor.Ky
open Go.RowKit Go.Proofs.YthkanebmkeamlaaDoorW.PrintWords Go.Proofs.YthkanebmkeamlaaDoorW.PrintLast Go.Proofs.YthkanebmkeamlaaDoorW.PrintMore Go.Proofs.YthkanebmkeamlaaDoor.XKey Go.Proofs.YthkanebmkeamlaaDoor.Byt
set_option linter.unusedVariables false
set_option linter.unusedSimpArgs false
set_option maxRecDepth 100000
/-- The text at the front of a key's bytes: the text, what is behind it, the error's number. -/
def txt : List UInt8 → List UInt8 → List UInt8 × List UInt8 × Int
  | [], out => ([], [], 3)
  | [c], out => ([], [], 3)
  | c :: d :: r, out => if c = 0 then (if d = 1 then (if 48 < out.length then ([], [], 4) else (out, r, 0)) else if d = 255 then txt r (out ++ [0]) else ([], [], 2)) else txt (d :: r) (out ++ [c])
theorem txt_none : ∀ (s out : List UInt8), (∀ c ∈ s, c ≠ 0) → txt s out = ([], [], 3)
  | [], out, h => rfl
  | [c], out, h => rfl
  | c :: d :: r, out, h => by
    rw [txt, if_neg (h c (List.mem_cons_self ..)), txt_none (d :: r) _ (fun x hx => h x (List.mem_cons_of_mem _ hx))]
theorem txt_last : ∀ (s out : List UInt8), (∀ c ∈ s, c ≠ 0) → txt (s ++ [0]) out = ([], [], 3)
  | [], out, h => rfl
  | [c], out, h => by
    show txt (c :: 0 :: []) out = _
    rw [txt, if_neg (h c (List.mem_cons_self ..))]
    rfl
  | c :: d :: r, out, h => by
    show txt (c :: d :: (r ++ [0])) out = _
    rw [txt, if_neg (h c (List.mem_cons_self ..))]
    exact txt_last (d :: r) _ (fun x hx => h x (List.mem_cons_of_mem _ hx))
theorem txt_pre : ∀ (p : List UInt8) (d : UInt8) (r out : List UInt8), (∀ c ∈ p, c ≠ 0) → txt (p ++ 0 :: d :: r) out = txt (0 :: d :: r) (out ++ p)
  | [], d, r, out, h => by simp
  | [c], d, r, out, h => by
    show txt (c :: 0 :: d :: r) out = _
    rw [txt, if_neg (h c (List.mem_cons_self ..))]
  | c :: e :: p, d, r, out, h => by
    show txt (c :: e :: (p ++ 0 :: d :: r)) out = _
    rw [txt, if_neg (h c (List.mem_cons_self ..))]
    have := txt_pre (e :: p) d r (out ++ [c]) (fun x hx => h x (List.mem_cons_of_mem _ hx))
    rw [show e :: (p ++ 0 :: d :: r) = (e :: p) ++ 0 :: d :: r from rfl, this]
    simp
theorem txt_zero (d : UInt8) (r out : List UInt8) : txt (0 :: d :: r) out = if d = 1 then (if 48 < out.length then ([], [], 4) else (out, r, 0)) else if d = 255 then txt r (out ++ [0]) else ([], [], 2) := by
  rw [txt, if_pos rfl]
def bst (l : List UInt8) : ByteArray := ⟨l.toArray⟩
def textR (s : ByteArray) : ByteArray × ByteArray × Int := (bst (txt s.data.toList []).1, bst (txt s.data.toList []).2.1, (txt s.data.toList []).2.2)
theorem bst_data (s : ByteArray) : bst s.data.toList = s := by simp [bst]
theorem wzero_ok (B b : Nat) (l : List UInt8) (w : World) (h : Lib.IsBuilder 48 5 B b (Lib.byteCells l) w) (hlen : l.length ≤ 1000000000) (hBw : B ≤ w.heap.size) :
    Calls Tryd.prog 40 #[.pointer (some ⟨b, 0, none⟩), .int .u8 0] w fun e w' => e = .returned .nilIface ∧ Lib.IsBuilder 48 5 B b (Lib.byteCells (l ++ [0])) w' ∧ Below B w w' := wbyte_ok B b l 0 w h hlen hBw
theorem len_is {B b : Nat} {q : List UInt8} {w : World} {n : Nat} (h : Lib.IsBuilder 48 5 B b (Lib.byteCells q) w) (hn : q.length = n) : Calls Tryd.prog 39 #[.pointer (some ⟨b, 0, none⟩)] w fun e w' => e = .returned (.int .i64 n) ∧ w' = w := by
  have := Tryd.Builder_Len B b _ w h
  rw [Lib.byteCells_length, hn] at this
  exact this
set_option maxHeartbeats 8000000 in
theorem text_ok (s : ByteArray) (w : World) (hs : s.size ≤ 1000000) :
    Calls Tryd.prog 34 #[.string s] w fun e w' => e = .returned (.tuple #[.string (textR s).1, .string (textR s).2.1, .int .i64 (textR s).2.2]) ∧ Below w.heap.size w w' := by
  have HIB := Aside0.mk (Lib.fresh_isBuilder 48 5 w)
  have HB0 := Aside0.mk (below_alloc (Below.refl w.heap.size w) (.cells #[.pointer none, .slice none 0 0] 48))
  have HS := Aside0.mk hs
  obtain ⟨R, hR⟩ : ∃ R, txt s.data.toList [] = R := ⟨_, rfl⟩
  have HR := Aside0.mk hR
  have HR0 := Aside0.mk hR
  clear hs hR
  go_enter Tryd.func34, Tryd.ntmps34
  go_wp2
  go_loopg [0] (s.size + 1) (fun kq v0 w' => ∃ (t : ByteArray) (out : List UInt8), v0 = .string t ∧ Aside0 (t.size < kq) ∧ Aside0 (out.length + t.size ≤ s.size) ∧ Aside0 (txt t.data.toList out = R) ∧ Aside0 (Lib.IsBuilder 48 5 w.heap.size w.heap.size (Lib.byteCells out) w') ∧ Aside0 (Below w.heap.size w w'))
  case atStart => exact ⟨s, [], rfl, ⟨by omega⟩, ⟨by simp⟩, HR, HIB, HB0⟩
  case round =>
    clear HIB HB0 HR
    obtain ⟨t, out, rfl, HK, HL, HR, HIB, HB⟩ := hrel
    by_cases h0 : Lib.indexByte t.data.toList 0 = -1
    · have HIX := Aside0.mk h0
      have HRES := Aside0.mk (show ([], [], 3) = R by rw [← HR.out, txt_none _ _ (none0 h0)])
      clear h0
      go_wp2_with (go_at_call 38; (with_reducible refine (Tryd.strings_IndexByte t 0 _).mono ?_); rintro en w1 ⟨rfl, rfl⟩; rw [show ((0 : Int).toNat.toUInt8) = (0 : UInt8) from rfl, HIX.out])
      go_ret3
      exact ⟨by rw [textR, HR0.out, ← HRES.out]; rfl, HB.out⟩
    · obtain ⟨i, hi⟩ := Int.eq_ofNat_of_zero_le (show 0 ≤ Lib.indexByte t.data.toList 0 by have := Lib.indexByte_ge t.data.toList 0; omega)
      obtain ⟨hsp, hp, hlt⟩ := split0 hi
      have hsz : t.data.toList.length = t.size := rfl
      have HIX := Aside0.mk hi
      have c1 : decide ((i : Int) < 0) = false := decide_eq_false (by omega)
      have hi3 : t.size ≤ 1000000 := by have := HL.out; have := HS.out; omega
      by_cases h1 : i + 1 = t.size
      · have c2 : (((i : Int) + 1) == (t.size : Int)) = true := beq_iff_eq.mpr (by omega)
        have HRES := Aside0.mk (show ([], [], 3) = R by
          rw [← HR.out, hsp, List.drop_of_length_le (by omega), txt_last _ _ hp])
        have hi4 : i + 1 ≤ t.size := by omega
        clear hi hsp hp hlt h0 h1 hsz
        go_wp2_with (go_at_call 38; (with_reducible refine (Tryd.strings_IndexByte t 0 _).mono ?_); rintro en w1 ⟨rfl, rfl⟩; rw [show ((0 : Int).toNat.toUInt8) = (0 : UInt8) from rfl, HIX.out])
        go_ret3
        exact ⟨by rw [textR, HR0.out, ← HRES.out]; rfl, HB.out⟩
      · have c2 : (((i : Int) + 1) == (t.size : Int)) = false := beq_eq_false_iff_ne.mpr (by omega)
        have hi2 : i + 2 ≤ t.size := by omega
        have HXL := Aside0.mk (show out.length + (t.extract 0 i).size ≤ 1000000000 by rw [ByteArray.size_extract]; have := HL.out; have := HS.out; omega)
        have hpe : (t.extract 0 i).data.toList = t.data.toList.take i := by
          rw [ByteArray.data_extract]
          simp
        obtain ⟨q, hq⟩ : ∃ q, out ++ (t.extract 0 i).data.toList = q := ⟨_, rfl⟩
        have HQ := Aside0.mk hq
        have hql : q.length = out.length + i := by rw [← hq, List.length_append, hpe, List.length_take]; omega
        have hre : (t.extract (i + 2) t.size).data.toList = t.data.toList.drop (i + 2) := by
          rw [ByteArray.data_extract]
          simp only [Array.toList_extract, List.extract_eq_take_drop]
          rw [List.take_of_length_le (by rw [List.length_drop]; omega)]
        obtain ⟨d, hd⟩ : ∃ d, t[i + 1] = d := ⟨_, rfl⟩
        have hde : t.data.toList.drop (i + 1) = d :: t.data.toList.drop (i + 2) := by
          rw [List.drop_eq_getElem_cons (by omega), ← hd]
          rfl
        have hstep : (if d = 1 then (if 48 < q.length then ([], [], 4) else (q, (t.extract (i + 2) t.size).data.toList, 0)) else if d = 255 then txt (t.extract (i + 2) t.size).data.toList (q ++ [0]) else ([], [], 2)) = R := by
          rw [← HR.out, hsp, hde, txt_pre _ _ _ _ hp, txt_zero, ← hpe, hq, hre]
        have HQL := Aside0.mk hql
        have HQ1 := Aside0.mk (show q.length ≤ 1000000000 by have := HL.out; have := HS.out; omega)
        have hdn : (d.toNat : Int) ≤ 255 := by have := d.toNat_lt; omega
        clear hi hsp hp hlt h0 h1 hpe hq hre hde hdn
        by_cases d1 : d = 1
        · rw [if_pos d1] at hstep
          have e1 : ((t[i + 1].toNat : Int) == 1) = true := by rw [hd, d1]; rfl
          by_cases d2 : 48 < q.length
          · rw [if_pos d2] at hstep
            have HRES := Aside0.mk hstep
            have g1 : decide (48 < ((out.length + i : Nat) : Int)) = true := decide_eq_true (by omega)
            have g2 : decide (48 < out.length + i) = true := decide_eq_true (by omega)
            have g3 : decide (48 < ((out.length : Int) + i)) = true := decide_eq_true (by omega)
            clear hstep d1 d2 hd hsz hql
            go_wp2_with (first
              | (go_at_call 38; (with_reducible refine (Tryd.strings_IndexByte t 0 _).mono ?_); rintro en w1 ⟨rfl, rfl⟩; rw [show ((0 : Int).toNat.toUInt8) = (0 : UInt8) from rfl, HIX.out])
              | (go_at_call 24; (with_reducible refine (wstr_ok w.heap.size w.heap.size out (t.extract 0 i) w1 HIB.out HXL.out HB.out.size).mono ?_); rintro en w2 ⟨rfl, hI, hb⟩; rw [HQ.out] at hI; have HI2 := Aside0.mk hI; have HB2 := Aside0.mk (HB.out.trans hb); clear hI hb)
              | (go_at_call 39; (with_reducible refine (len_is HI2.out HQL.out).mono ?_); rintro en w3 ⟨rfl, rfl⟩))
            go_ret3
            exact ⟨by rw [textR, HR0.out, ← HRES.out]; rfl, HB2.out⟩
          · rw [if_neg d2] at hstep
            have HRES := Aside0.mk hstep
            have g1 : decide (48 < ((out.length + i : Nat) : Int)) = false := decide_eq_false (by omega)
            have g2 : decide (48 < out.length + i) = false := decide_eq_false (by omega)
            have g3 : decide (48 < ((out.length : Int) + i)) = false := decide_eq_false (by omega)
            clear hstep d1 d2 hd hsz hql
            go_wp2_with (first
              | (go_at_call 38; (with_reducible refine (Tryd.strings_IndexByte t 0 _).mono ?_); rintro en w1 ⟨rfl, rfl⟩; rw [show ((0 : Int).toNat.toUInt8) = (0 : UInt8) from rfl, HIX.out])
              | (go_at_call 24; (with_reducible refine (wstr_ok w.heap.size w.heap.size out (t.extract 0 i) w1 HIB.out HXL.out HB.out.size).mono ?_); rintro en w2 ⟨rfl, hI, hb⟩; rw [HQ.out] at hI; have HI2 := Aside0.mk hI; have HB2 := Aside0.mk (HB.out.trans hb); clear hI hb)
              | (go_at_call 39; (with_reducible refine (len_is HI2.out HQL.out).mono ?_); rintro en w3 ⟨rfl, rfl⟩)
              | (go_at_call 26; (with_reducible refine (Tryd.Builder_String_any w.heap.size w.heap.size q w3 HI2.out HB2.out.size).mono ?_); rintro en w4 ⟨rfl, hb⟩; have HB4 := Aside0.mk (HB2.out.trans hb); clear hb))
            go_ret3
            exact ⟨by rw [textR, HR0.out, ← HRES.out, bst_data]; rfl, HB4.out⟩
        · rw [if_neg d1] at hstep
          have e1 : ((t[i + 1].toNat : Int) == 1) = false := beq_eq_false_iff_ne.mpr (fun e => d1 (by rw [← hd]; exact UInt8.toNat_inj.1 (by rw [show (1 : UInt8).toNat = 1 from rfl]; omega)))
          by_cases d2 : d = 255
          · rw [if_pos d2] at hstep
            have HRES := Aside0.mk hstep
            have e2 : ((t[i + 1].toNat : Int) == 255) = true := by rw [hd, d2]; rfl
            clear hstep d1 d2 hd hsz hql
            go_wp2_with (first
              | (go_at_call 38; (with_reducible refine (Tryd.strings_IndexByte t 0 _).mono ?_); rintro en w1 ⟨rfl, rfl⟩; rw [show ((0 : Int).toNat.toUInt8) = (0 : UInt8) from rfl, HIX.out])
              | (go_at_call 24; (with_reducible refine (wstr_ok w.heap.size w.heap.size out (t.extract 0 i) w1 HIB.out HXL.out HB.out.size).mono ?_); rintro en w2 ⟨rfl, hI, hb⟩; rw [HQ.out] at hI; have HI2 := Aside0.mk hI; have HB2 := Aside0.mk (HB.out.trans hb); clear hI hb)
              | (go_at_call 40; (with_reducible refine (wzero_ok w.heap.size w.heap.size q w2 HI2.out HQ1.out HB2.out.size).mono ?_); rintro en w3 ⟨rfl, hI, hb⟩; have HI3 := Aside0.mk hI; have HB3 := Aside0.mk (HB2.out.trans hb); clear hI hb))
            go_roundg (gk - 1)
            case measure => have := HK.out; omega
            case rel =>
              refine ⟨t.extract (i + 2) t.size, q ++ [0], rfl, ⟨?_⟩, ⟨?_⟩, HRES, HI3, HB3⟩
              · have := HK.out
                rw [ByteArray.size_extract]
                omega
              · have := HL.out
                have := HQL.out
                rw [ByteArray.size_extract, List.length_append, List.length_singleton]
                omega
          · rw [if_neg d2] at hstep
            have HRES := Aside0.mk hstep
            have e2 : ((t[i + 1].toNat : Int) == 255) = false := beq_eq_false_iff_ne.mpr (fun e => d2 (by rw [← hd]; exact UInt8.toNat_inj.1 (by rw [show (255 : UInt8).toNat = 255 from rfl]; omega)))
            clear hstep d1 d2 hd hsz hql
            go_wp2_with (first
              | (go_at_call 38; (with_reducible refine (Tryd.strings_IndexByte t 0 _).mono ?_); rintro en w1 ⟨rfl, rfl⟩; rw [show ((0 : Int).toNat.toUInt8) = (0 : UInt8) from rfl, HIX.out])
              | (go_at_call 24; (with_reducible refine (wstr_ok w.heap.size w.heap.size out (t.extract 0 i) w1 HIB.out HXL.out HB.out.size).mono ?_); rintro en w2 ⟨rfl, hI, hb⟩; rw [HQ.out] at hI; have HI2 := Aside0.mk hI; have HB2 := Aside0.mk (HB.out.trans hb); clear hI hb))
            go_ret3
            exact ⟨by rw [textR, HR0.out, ← HRES.out]; rfl, HB2.out⟩
end Go.Proofs.YthkanebmkeamlaaDoor.Ky
