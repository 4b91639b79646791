/- A row's key: what keycode.Put gives. Conditions: stated in each theorem. -/
import Derived.Test.YthkanebmkeamlaaDoorKyD
namespace Go.Proofs.YthkanebmkeamlaaDoor.Ky
open Go.RowKit Go.Proofs.YthkanebmkeamlaaDoorW.PrintWords Go.Proofs.YthkanebmkeamlaaDoorW.PrintLast Go.Proofs.YthkanebmkeamlaaDoorW.PrintMore Go.Proofs.YthkanebmkeamlaaDoor.XKey Go.Proofs.YthkanebmkeamlaaDoor.Byt
set_option linter.unusedVariables false
set_option linter.unusedSimpArgs false
set_option maxRecDepth 100000
def toV (x : S34) : KeyM.V := ⟨x.f0, x.f1, bytesOf x.f2⟩
/-- Fields of their kinds. -/
def rng (x : S34) : Prop := 0 ≤ x.f0 ∧ x.f0 ≤ 255 ∧ -9223372036854775808 ≤ x.f1 ∧ x.f1 ≤ 9223372036854775807
theorem bytes_nil (t : ByteArray) : bytesOf t = [] ↔ t.toList = ([] : List UInt8) := by
  rw [bytes_map, List.map_eq_nil_iff]
  have e : t.toList = t.data.toList := ByteArray.toList_eq t
  rw [e]
theorem bytes_rng (t : ByteArray) : ∀ c ∈ bytesOf t, 0 ≤ c ∧ c ≤ 255 := fun c hc => by
  rw [bytes_map] at hc
  obtain ⟨b, _, rfl⟩ := List.mem_map.1 hc
  have := b.toNat_lt
  omega
theorem may_cases (x : S34) (h : rng x) : (val_May.f x.f0 x.f1 x.f2 = some true ∧ (toV x).ok) ∨ (val_May.f x.f0 x.f1 x.f2 = some false ∧ ¬ (toV x).ok) := by
  obtain ⟨k, n, t⟩ := x
  simp only [rng] at h
  have hb := bytes_nil t
  have hl : (bytesOf t).length = t.size := bytesOf_length t
  have hr := bytes_rng t
  simp only [val_May.f, toV, KeyM.V.ok]
  by_cases h0 : k = 0
  · subst h0
    rw [if_pos rfl]
    by_cases hn : n = 0
    · subst hn
      by_cases ht : t.toList = []
      · left
        simp [ht, hb.2 ht]
      · right
        have h2 : ¬ bytesOf t = [] := fun e => ht (hb.1 e)
        simp [h2, ht]
    · right
      simp [hn]
  · rw [if_neg h0]
    by_cases h1 : k = 1
    · subst h1
      rw [if_pos rfl]
      by_cases ht : t.toList = []
      · left
        simp only [ht, hb.2 ht]
        exact ⟨by simp, .inr (.inl ⟨trivial, trivial, h.2.2⟩)⟩
      · right
        have h2 : ¬ bytesOf t = [] := fun e => ht (hb.1 e)
        simp [h2, ht]
    · rw [if_neg h1]
      by_cases h2 : k = 2
      · subst h2
        rw [if_pos rfl]
        by_cases ht : t.toList = []
        · rw [if_pos ht]
          by_cases hn : n = 0
          · left
            rw [if_pos hn]
            simp [hb.2 ht, hn]
          · rw [if_neg hn]
            by_cases hn1 : n = 1
            · left
              simp [hb.2 ht, hn1]
            · right
              refine ⟨by simp [hn1], ?_⟩
              rintro (h | h | h | h)
              · simp at h
              · simp at h
              · omega
              · simp at h
        · right
          have h3 : ¬ bytesOf t = [] := fun e => ht (hb.1 e)
          rw [if_neg ht]
          simp [h3]
      · rw [if_neg h2]
        by_cases h3 : k = 3
        · subst h3
          rw [if_pos rfl]
          by_cases hn : n = 0
          · rw [if_pos hn]
            by_cases ht : (t.size : Int) ≤ 48
            · left
              exact ⟨by simp [ht], .inr (.inr (.inr ⟨rfl, hn, by omega, hr⟩))⟩
            · right
              refine ⟨by simp [ht], ?_⟩
              rintro (h | h | h | h)
              · simp at h
              · simp at h
              · simp at h
              · omega
          · right
            rw [if_neg hn]
            simp [hn]
        · right
          rw [if_neg h3]
          refine ⟨rfl, ?_⟩
          omega
theorem one_ok (x : S34) (hv : (toV x).ok) (m : Int) (w : World) (hm : w.cell? ⟨0, 0, none⟩ = some (.int .i64 m)) : Calls Tryd.prog 25 #[.agg #[.int .u8 x.f0, .int .i64 x.f1, .string x.f2]] w fun e w' => e = .returned (.string (strOfNums (KeyM.one (toV x)))) ∧ Below w.heap.size w w' := by
  obtain ⟨k, n, t⟩ := x
  simp only [toV, KeyM.V.ok] at hv
  rcases hv with ⟨rfl, h1, h2⟩ | ⟨rfl, h1, h2⟩ | ⟨rfl, h1, h2⟩ | ⟨rfl, h1, h2⟩
  · exact one_nul n t w
  · exact one_int n t w h2
  · have := one_bool n t w h2
    have e : KeyM.one (toV ⟨2, n, t⟩) = [3, n] := by
      show ([2 + 1, n % 256] : List Int) = _
      rw [show n % 256 = n by omega]
      rfl
    rw [e]
    exact this
  · exact one_text n t m w (by rw [bytesOf_length] at h2; exact h2.1) hm
instance (v : KeyM.V) : Decidable v.ok := by unfold KeyM.V.ok; infer_instance
instance (x : S34) : Decidable (rng x) := by unfold rng; infer_instance
def putR (l : List S34) : ByteArray × Int := if ∀ x ∈ l, (toV x).ok then (strOfNums (KeyM.key (l.map toV)), 0) else (⟨#[]⟩, 1)
theorem one_len (v : KeyM.V) (h : v.ok) : (KeyM.one v).length ≤ 120 := by
  rw [KeyM.one]
  have he : ∀ t : List Int, (KeyM.esc t).length ≤ 2 * t.length := by
    intro t
    induction t with
    | nil => simp [KeyM.esc]
    | cons c t ih => rw [KeyM.esc]; split <;> simp <;> omega
  have := he v.t
  split
  · rw [List.length_cons, KeyM.be_len]; omega
  · split
    · simp
    · split
      · rcases h with h | h | h | h
        · omega
        · omega
        · omega
        · have := h.2.2.1
          simp
          omega
      · simp
theorem key_len (l : List S34) (h : ∀ x ∈ l, (toV x).ok) : (KeyM.key (l.map toV)).length ≤ 120 * l.length := by
  induction l with
  | nil => simp [KeyM.key]
  | cons x l ih =>
    have h1 := one_len _ (h x (List.mem_cons_self ..))
    have h2 := ih (fun y hy => h y (List.mem_cons_of_mem _ hy))
    rw [List.map_cons, KeyM.key_cons, List.length_append, List.length_cons]
    omega
theorem rd_at (l : List S34) (i : Nat) (h : i < l.length) : rd_T34 l (i : Int) = l[i] := by
  rw [rd_T34, List.getD_eq_getElem?_getD, Int.toNat_natCast, List.getElem?_eq_getElem h]
  rfl
theorem take_key (l : List S34) (i : Nat) (h : i < l.length) : KeyM.key ((l.take (i + 1)).map toV) = KeyM.key ((l.take i).map toV) ++ KeyM.one (toV (rd_T34 l (i : Int))) := by
  rw [rd_at l i h, List.take_succ_eq_append_getElem h, List.map_append, KeyM.key, List.flatMap_append]
  simp [KeyM.key]
/-- Numbers as bytes. -/
def toU (xs : List Int) : List UInt8 := xs.map fun n => UInt8.ofNat n.toNat
theorem toU_str (xs : List Int) : (strOfNums xs).data.toList = toU xs := by simp [strOfNums, toU]
theorem toU_back (xs : List Int) : (⟨(toU xs).toArray⟩ : ByteArray) = strOfNums xs := rfl
theorem toU_app (a b : List Int) : toU (a ++ b) = toU a ++ toU b := by simp [toU]
theorem toU_len (a : List Int) : (toU a).length = a.length := by simp [toU]
theorem wr_s (i n : Nat) (h : i < n) (hn : n ≤ 9223372036854775807) : wrap64 ((i : Int) + 1) = ((i + 1 : Nat) : Int) := by rw [w64_in _ (by omega)]; omega
theorem isb_below {B b : Nat} {bs : List Value} {w w' : World} (h : Lib.IsBuilder 48 5 B b bs w) (hb : Below w.heap.size w w') : Lib.IsBuilder 48 5 B b bs w' := by
  have key : ∀ p, Lib.BuilderAt 48 5 B b p bs w → Lib.BuilderAt 48 5 B b p bs w' := fun p h => by
    have hlt := h.lt
    obtain ⟨hB, v, hk, hown, hne⟩ := h
    refine ⟨hB, v, (hb.block b hlt).trans hk, hown.kept (row := none) ⟨hb.os, hb.tape, hb.output, hb.size, fun k hk _ => hb.block k hk⟩ ?_, hne⟩
    cases h : v.ownBlock
    · exact .inl rfl
    · exact .inr (by simp)
  exact h.imp (key _) (key _)
theorem isb_alloc {B b : Nat} {bs : List Value} {w : World} (h : Lib.IsBuilder 48 5 B b bs w) (o : Obj) : Lib.IsBuilder 48 5 B b bs (w.alloc o) := isb_below h (below_alloc (Below.refl _ _) o)
set_option maxHeartbeats 8000000 in
theorem put_ok (A : Option Addr) (c : Nat) (l : List S34) (m : Int) (w : World) (hC : Kd.C k34 w A l.length l) (hc : l.length ≤ c) (hl : l.length ≤ 10000) (hr : ∀ x ∈ l, rng x) (hm : w.cell? ⟨0, 0, none⟩ = some (.int .i64 m)) :
    Calls Tryd.prog 12 #[.slice A l.length c] w fun e w' => e = .returned (.tuple #[.string (putR l).1, .int .i64 (putR l).2]) ∧ Below w.heap.size w w' := by
  have HC := Aside0.mk (And.intro hC (And.intro hl hr))
  have hw0 : 0 < w.heap.size := World.block_lt_of_cell? w _ hm
  have HM := Aside0.mk (And.intro hm hw0)
  have HIB := Aside0.mk (Lib.fresh_isBuilder 48 5 w)
  have HB0 := Aside0.mk (below_alloc (Below.refl w.heap.size w) (.cells #[.pointer none, .slice none 0 0] 48))
  clear hC hc hl hr hm hw0
  go_enter Tryd.func12, Tryd.ntmps12
  go_wp2
  go_loopg [9] l.length (fun kq v9 w' => ∃ i : Nat, v9 = .int .i64 (i : Int) ∧ Aside0 (kq + i = l.length) ∧ Aside0 (∀ x ∈ l.take i, (toV x).ok) ∧ Aside0 (Lib.IsBuilder 48 5 w.heap.size w.heap.size (Lib.byteCells (toU (KeyM.key ((l.take i).map toV)))) w') ∧ Aside0 (Below w.heap.size w w'))
  case atStart => exact ⟨0, rfl, ⟨by omega⟩, ⟨fun x hx => by cases hx⟩, HIB, HB0⟩
  case round =>
    clear HIB HB0
    obtain ⟨i, rfl, HI, HOK, HIB, HB⟩ := hrel
    by_cases c5 : i < l.length
    · have c1 : decide ((i : Int) < (l.length : Int)) = true := decide_eq_true (by omega)
      have c1b : decide (i < l.length) = true := decide_eq_true c5
      obtain ⟨ad, e1, hx0, hx1, hx2⟩ := at_T34 HC.out.1 (i : Int) (by omega) (by omega)
      subst e1
      replace hx0 := (HB.out.cell (World.block_lt_of_cell? w _ hx0)).trans hx0
      replace hx1 := (HB.out.cell (World.block_lt_of_cell? w _ hx1)).trans hx1
      replace hx2 := (HB.out.cell (World.block_lt_of_cell? w _ hx2)).trans hx2
      rw [Int.toNat_natCast] at hx0 hx1 hx2
      have p9 : (0 ≤ (i : Int)) = True := eq_true (by omega)
      have q9 : ((i : Int) < (l.length : Int)) = True := eq_true (by omega)
      have q9b : (i < l.length) = True := eq_true c5
      have hmem : rd_T34 l (i : Int) ∈ l := by rw [rd_at l i c5]; exact List.getElem_mem c5
      have hrx := HC.out.2.2 _ hmem
      have htk := take_key l i c5
      obtain ⟨t, ht⟩ : ∃ t, t = rd_T34 l (i : Int) := ⟨_, rfl⟩
      rw [← ht] at hx0 hx1 hx2 hmem hrx htk
      have H := Aside0.mk c5
      have HT := Aside0.mk htk
      have HME := Aside0.mk hmem
      have HTL := Aside0.mk (show l.take (i + 1) = l.take i ++ [t] by rw [List.take_succ_eq_append_getElem c5, ht, rd_at l i c5])
      clear c5 ht hmem htk
      have HLN := Aside0.mk (show (toU (KeyM.key ((l.take i).map toV))).length + (strOfNums (KeyM.one (toV t))).size ≤ 1000000000 ∨ ¬ (toV t).ok by
        by_cases hv : (toV t).ok
        · left
          have h1 := key_len (l.take i) HOK.out
          have h2 := one_len _ hv
          have h3 := HC.out.2.1
          rw [toU_len, str_size]
          rw [List.length_take] at h1
          omega
        · exact .inr hv)
      rcases may_cases t hrx with ⟨hmay, hok⟩ | ⟨hmay, hok⟩
      · have HMY := Aside0.mk hmay
        have HV := Aside0.mk hok
        clear hmay hok hrx
        have HLM := Aside0.mk (HLN.out.resolve_right (fun h => h HV.out))
        have HX1 := Aside0.mk (blk_new wr (.cells #[.int .u8 t.f0, .int .i64 t.f1, .string t.f2] 34))
        have HI1 := Aside0.mk (isb_alloc HIB.out (.cells #[.int .u8 t.f0, .int .i64 t.f1, .string t.f2] 34))
        have HB1 := Aside0.mk (below_alloc HB.out (.cells #[.int .u8 t.f0, .int .i64 t.f1, .string t.f2] 34))
        go_wp2_with (first
          | (go_at_call 23; (with_reducible refine (val_May.calls t.f0 t.f1 t.f2 true _ HMY.out).mono ?_); rintro en w2 ⟨rfl, hb⟩; have HX2 := Aside0.mk (blk_below HX1.out hb); have HI2 := Aside0.mk (isb_below HI1.out hb); have HB2 := Aside0.mk (below_then HB1.out HB1.out.size hb); clear hb hx0 hx1 hx2; have hx0 := (blk_cell HX2.out 0).trans rfl; have hx1 := (blk_cell HX2.out 1).trans rfl; have hx2 := (blk_cell HX2.out 2).trans rfl)
          | (go_at_call 25; (with_reducible refine (one_ok t HV.out m w2 ((HB2.out.cell (p := ⟨0, 0, none⟩) HM.out.2).trans HM.out.1)).mono ?_); rintro en w3 ⟨rfl, hb⟩; have HI3 := Aside0.mk (isb_below HI2.out hb); have HB3 := Aside0.mk (below_then HB2.out HB2.out.size hb); clear hb hx0 hx1 hx2)
          | (go_at_call 24; (with_reducible refine (wstr_ok w.heap.size w.heap.size (toU (KeyM.key ((l.take i).map toV))) (strOfNums (KeyM.one (toV t))) w3 HI3.out HLM.out HB3.out.size).mono ?_); rintro en w4 ⟨rfl, hI, hb⟩; have HI4 := Aside0.mk hI; have HB4 := Aside0.mk (HB3.out.trans hb); clear hI hb))
        go_roundg (gk - 1)
        case measure => have h1 := HI.out; have h2 := H.out; omega
        case rel =>
          have h1 := HI.out
          have h2 := H.out
          have h3 := HC.out.2.1
          refine ⟨i + 1, by first | rfl | (rw [wr_s i l.length h2 (by omega)]), ⟨by omega⟩, ⟨fun x hx => ?_⟩, ⟨?_⟩, HB4⟩
          · rw [HTL.out] at hx
            rcases List.mem_append.1 hx with hx | hx
            · exact HOK.out x hx
            · rw [List.mem_singleton.1 hx]; exact HV.out
          · rw [HT.out, toU_app, ← toU_str (KeyM.one (toV t))]
            exact HI4.out
      · have HMY := Aside0.mk hmay
        have HV := Aside0.mk hok
        clear hmay hok hrx
        have HB1 := Aside0.mk (below_alloc HB.out (.cells #[.int .u8 t.f0, .int .i64 t.f1, .string t.f2] 34))
        have hres : putR l = (⟨#[]⟩, 1) := by
          rw [putR, if_neg (fun h => HV.out (h t HME.out))]
        have HRES := Aside0.mk hres
        clear hres
        go_wp2_with (go_at_call 23; (with_reducible refine (val_May.calls t.f0 t.f1 t.f2 false _ HMY.out).mono ?_); rintro en w2 ⟨rfl, hb⟩; have HB2 := Aside0.mk (below_then HB1.out HB1.out.size hb); clear hb)
        go_ret2
        exact ⟨by rw [HRES.out]; rfl, HB2.out⟩
    · have c1 : decide ((i : Int) < (l.length : Int)) = false := decide_eq_false (by omega)
      have c1b : decide (i < l.length) = false := decide_eq_false c5
      have hall : ∀ x ∈ l, (toV x).ok := by have := HOK.out; rwa [List.take_of_length_le (by omega)] at this
      have hI2 := HIB.out
      rw [List.take_of_length_le (by omega)] at hI2
      have HI2 := Aside0.mk hI2
      have hres : putR l = (⟨(toU (KeyM.key (l.map toV))).toArray⟩, 0) := by
        rw [putR, if_pos hall, toU_back]
      have HRES := Aside0.mk hres
      clear hres hI2 hall c5
      go_wp2_with (go_at_call 26; (with_reducible refine (Tryd.Builder_String_any w.heap.size w.heap.size _ wr HI2.out HB.out.size).mono ?_); rintro en w2 ⟨rfl, hb⟩; have HB2 := Aside0.mk (HB.out.trans hb); clear hb)
      go_ret2
      exact ⟨by rw [HRES.out]; rfl, HB2.out⟩
end Go.Proofs.YthkanebmkeamlaaDoor.Ky
