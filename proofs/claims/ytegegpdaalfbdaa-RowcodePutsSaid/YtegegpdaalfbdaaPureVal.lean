/- What a value's reading gives: the reference's answer, and its writing again; the bytes are bytes, 5000 at most. -/
import Derived.Test.YtegegpdaalfbdaaPureNum
namespace Go.Proofs.Ytegegpdaalfbdaa.PureG
open Go.RowKit Go.Proofs.Ytegegpdaalfbdaa.XRowcodeGets Go.Proofs.YtegegpdaalfbdaaW.PrintWords Go.Proofs.YtegegpdaalfbdaaW.PrintLast Go.Proofs.YtegegpdaalfbdaaW.PrintMore
set_option linter.unusedVariables false
set_option linter.unusedSimpArgs false
/-- May a value be? -/
def mayv (k i : Int) (s : ByteArray) : Bool :=
  if k = 0 then decide (i = 0 ∧ s.toList = []) else if k = 1 then decide (s.toList = []) else if k = 2 then decide (s.toList = [] ∧ (i = 0 ∨ i = 1)) else
  if k = 3 then decide (i = 0 ∧ (s.size : Int) ≤ 48) else false
theorem may_f (k i : Int) (s : ByteArray) : val_May.f k i s = some (mayv k i s) := by
  unfold val_May.f mayv
  by_cases h0 : k = 0
  · rw [if_pos h0, if_pos h0]; subst h0; congr 1
    rw [Bool.eq_iff_iff]; simp
  · rw [if_neg h0, if_neg h0]
    by_cases h1 : k = 1
    · rw [if_pos h1, if_pos h1]; congr 1
      rw [Bool.eq_iff_iff]; simp
    · rw [if_neg h1, if_neg h1]
      by_cases h2 : k = 2
      · rw [if_pos h2, if_pos h2]
        by_cases hs : s.toList = []
        · rw [if_pos hs]
          by_cases hi : i = 0
          · rw [if_pos hi]; congr 1; simp [hs, hi]
          · rw [if_neg hi]; congr 1; rw [Bool.eq_iff_iff]; simp [hs, hi]
        · rw [if_neg hs]; congr 1; simp [hs]
      · rw [if_neg h2, if_neg h2]
        by_cases h3 : k = 3
        · rw [if_pos h3, if_pos h3]
          by_cases hi : i = 0
          · rw [if_pos hi]; congr 1; simp [hi]
          · rw [if_neg hi]; congr 1; simp [hi]
        · rw [if_neg h3, if_neg h3]
theorem tk_in (ys : List Int) (n : Nat) (h : n ≤ ys.length) : Rd.tk ys 0 (n : Int) = (ys.take n, ys.drop n, 0) := by
  rw [Rd.tk, if_pos ⟨rfl, by omega⟩]
  rfl
theorem tk_out (ys : List Int) (n : Nat) (h : ys.length < n) : Rd.tk ys 0 (n : Int) = (List.replicate n 0, ys, 3) := by
  rw [Rd.tk, if_neg (by omega)]
  rfl
theorem bytes_str (xs : List Int) (h : ∀ x ∈ xs, 0 ≤ x ∧ x ≤ 255) : bytesOf (strOfNums xs) = xs := by
  induction xs with
  | nil => rfl
  | cons x xs ih =>
    have hx := h x (List.mem_cons_self ..)
    have := ih fun y hy => h y (List.mem_cons_of_mem _ hy)
    simp only [bytesOf, strOfNums, List.map_cons] at this ⊢
    simp only [List.cons.injEq]
    refine ⟨?_, this⟩
    simp only [UInt8.toNat_ofNat']
    omega
theorem str_size (xs : List Int) : (strOfNums xs).size = xs.length := strOfNums_size xs
/-- What a value is read as: its kind, number and text may be, and its writing is what was read. -/
def Writes (xs : List Int) : Prop := (Rd.vl xs 0).2.2 = 0 → mayv (Rd.vl xs 0).1.1 (Rd.vl xs 0).1.2.1 (Rd.vl xs 0).1.2.2 = true ∧ ∃ head : List Int, xs = head ++ (Rd.vl xs 0).2.1 ∧ head.length ≤ 60 ∧
  ∀ (q : Nat) (out : List Int), 20 < q → out.length ≤ 100000 → rowcode_one.f q out (Rd.vl xs 0).1.1 (Rd.vl xs 0).1.2.1 (Rd.vl xs 0).1.2.2 = some (out ++ head)
/-- The reference's answer at a place. -/
def Refs (l : List Int) (p : Nat) : Prop := ∀ q, 20 < q → ∃ v i s next e, rowlockref04_value.f q l (p : Int) = some (v, i, s, next, e) ∧ e = (Rd.vl (l.drop p) 0).2.2 ∧ (e = 0 → (v, i, s) = (Rd.vl (l.drop p) 0).1 ∧ ∃ p' : Nat, next = p' ∧ p' ≤ l.length ∧ l.drop p' = (Rd.vl (l.drop p) 0).2.1)
theorem hz0 : wrap64 (rd (List.replicate 1 0) 0) = 0 := by
  rw [show rd (List.replicate 1 (0 : Int)) 0 = 0 from rfl]
  unfold wrap64
  omega
theorem vl_nil : Rd.vl [] 0 = ((0, 0, ⟨#[]⟩), [], 3) := by
  have h := tk_out [] 1 (by decide)
  simp only [Int.natCast_one] at h
  simp only [Rd.vl]
  rw [h]
  rfl
theorem c2h {W L z n : Int} (hw : W = 1 + n) (hL : L = z + 1) (h : z + 1 < 1 + n) : L < W := by omega
theorem c2k {W L z n : Int} (hw : W = 1 + n) (hL : L = z + 1) (h : ¬ z + 1 < 1 + n) : ¬ L < W := by omega
theorem c3h {W n : Int} (hw : W = 1 + n) (h : 1 ≤ 1 + n) : 1 ≤ W := by omega
theorem c4h {W L z n : Int} (hw : W = 1 + n) (hL : L = z + 1) (h : 1 + n ≤ z + 1) : W ≤ L := by omega
theorem a0 (z : Nat) : ¬ (z : Int) + 1 < 1 := by omega
theorem a00 (z : Nat) : 0 < (z : Int) + 1 := by omega
theorem a2 {z n : Nat} (h : z < n) : (z : Int) + 1 < 1 + (n : Int) := by omega
theorem b2 {z n : Nat} (h : ¬ z < n) : ¬ (z : Int) + 1 < 1 + (n : Int) := by omega
theorem b3 (n : Nat) : 1 ≤ 1 + (n : Int) := by omega
theorem b4 {z n : Nat} (h : ¬ z < n) : 1 + (n : Int) ≤ (z : Int) + 1 := by omega
theorem bpl {z n p L : Nat} (h : ¬ z < n) (hy : z + 1 = L - (p + 1)) (hp : p < L) : p + 2 + n ≤ L := by omega
theorem bwn {p n L : Nat} (hL : L ≤ 5000) (hp : p + 2 + n ≤ L) : wrap64 (wrap64 ((p : Int) + 2) + (n : Int)) = ((p + 2 + n : Nat) : Int) := by unfold wrap64; omega
theorem btn (n : Nat) : (1 + (n : Int)).toNat = n + 1 := by omega
theorem bnn (p n : Nat) : p + 2 + n = p + 1 + (n + 1) := by omega
theorem b256 {n : Nat} (h : ¬ 48 < (n : Int)) : (n : Int) % 256 = n := by omega
theorem bmin {z n : Nat} (h : ¬ z < n) : min n z = n := by omega
theorem bmy {n : Nat} {s : ByteArray} (h : ¬ 48 < (n : Int)) (hs : s.size = n) : mayv 3 0 s = true := by simp [mayv, hs]; omega
theorem b60 {n : Nat} {zs : List Int} (h : ¬ 48 < (n : Int)) : (3 :: (n : Int) :: zs.take n).length ≤ 60 := by simp; omega
theorem blt {out : List Int} (h : out.length ≤ 100000) : out.length < 140737488355328 := by omega
theorem blt1 {out : List Int} (h : out.length ≤ 100000) : (out ++ [3]).length < 140737488355328 := by simp; omega
theorem blt2 {out : List Int} {n : Nat} (h : out.length ≤ 100000) (hn : ¬ 48 < (n : Int)) : (out ++ [3] ++ [(n : Int) % 256]).length + n < 140737488355328 := by simp; omega
set_option maxHeartbeats 4000000 in
theorem value_all (l : List Int) (p : Nat) (hy : Rd.By l) (hl : l.length ≤ 5000) (hp : p ≤ l.length) : Refs l p ∧ Writes (l.drop p) := by
  cases hxs : l.drop p with
  | nil =>
    have hlen : l.length ≤ p := List.drop_eq_nil_iff.mp hxs
    constructor
    · intro q hq
      refine ⟨0, 0, ⟨#[]⟩, 0, 3, ?_, ?_, fun h => absurd h (by decide)⟩
      · unfold rowlockref04_value.f
        rw [if_pos (by omega)]
      · rw [hxs, vl_nil]
    · intro h
      rw [vl_nil] at h
      exact absurd h (by decide)
  | cons k ys =>
    have hlt : p < l.length := by
      have := congrArg List.length hxs
      rw [List.length_drop, List.length_cons] at this
      omega
    have hcons := List.drop_eq_getElem_cons hlt
    rw [hxs] at hcons
    injection hcons with hk hys
    have hrd : rd l (p : Int) = k := by rw [Rd.rd_get (by simpa using hlt), hk]; rfl
    have hdr : l.drop (wrap64 ((p : Int) + 1)).toNat = ys := by rw [show (wrap64 ((p : Int) + 1)).toNat = p + 1 by unfold wrap64; omega, ← hys]
    have hyl : ys.length = l.length - (p + 1) := by rw [hys, List.length_drop]
    have hby : ∀ x ∈ ys, 0 ≤ x ∧ x ≤ 255 := fun x hx => hy x (List.mem_of_mem_drop (by rw [← hys]; exact hx))
    have hkb : 0 ≤ k ∧ k ≤ 255 := by rw [hk]; exact hy _ (List.getElem_mem hlt)
    have hnext : ∀ n : Nat, n ≤ ys.length → l.drop (p + 1 + n) = ys.drop n := fun n _ => by rw [hys, List.drop_drop]
    have ht1 : Rd.tk (k :: ys) 0 1 = ([k], ys, 0) := tk_in (k :: ys) 1 (by simp)
    have hr1 : rd [k] 0 = k := rfl
    have hnil : (⟨#[]⟩ : ByteArray).toList = [] := by first | decide | (simp; done) | rw [ByteArray.toList_eq]
    have hf : ∀ q r, (if k = 0 then some ((0, 0, ⟨#[]⟩, wrap64 ((p : Int) + 1), 0) : Int × Int × ByteArray × Int × Int) else if k = 1 then (if (ys.length : Int) < 8 then some (0, 0, ⟨#[]⟩, 0, 3) else rowlockref04_value.l0 q (p : Int) ys 0 0) else if k = 2 then (if (ys.length : Int) < 1 then some (0, 0, ⟨#[]⟩, 0, 3) else if 0 < (ys.length : Int) then (if rd ys 0 > 1 then some (0, 0, ⟨#[]⟩, 0, 2) else some (2, wrap64 (rd ys 0), ⟨#[]⟩, wrap64 ((p : Int) + 2), 0)) else none) else if k = 3 then (if (ys.length : Int) < 1 then some (0, 0, ⟨#[]⟩, 0, 3) else if 0 < (ys.length : Int) then (if wrap64 (rd ys 0) > 48 then some (0, 0, ⟨#[]⟩, 0, 4) else if (ys.length : Int) < wrap64 (1 + wrap64 (rd ys 0)) then some (0, 0, ⟨#[]⟩, 0, 3) else if 1 ≤ wrap64 (1 + wrap64 (rd ys 0)) then (if wrap64 (1 + wrap64 (rd ys 0)) ≤ (ys.length : Int) then some (3, 0, strOfNums ((ys.take (wrap64 (1 + wrap64 (rd ys 0))).toNat).drop 1), wrap64 (wrap64 ((p : Int) + 2) + wrap64 (rd ys 0)), 0) else none) else none) else none) else some (0, 0, ⟨#[]⟩, 0, 6)) = r → rowlockref04_value.f q l (p : Int) = r := fun q r hr => by
      unfold rowlockref04_value.f
      rw [if_neg (by omega), hdr, hrd, if_pos (by unfold wrap64; omega), if_pos (by unfold wrap64; omega), if_pos (by omega), if_pos (by omega)]
      exact hr
    have hw1 : ∀ n : Nat, n ≤ 10000 → wrap64 ((p : Int) + n) = ((p + n : Nat) : Int) := fun n hn => by unfold wrap64; omega
    by_cases h0 : k = 0
    · subst h0
      have ev : Rd.vl (0 :: ys) 0 = ((0, 0, ⟨#[]⟩), ys, 0) := by simp only [Rd.vl, ht1, hr1, if_true]
      constructor
      · intro q hq
        refine ⟨_, _, _, _, _, hf q _ (if_pos rfl), by rw [hxs, ev], fun _ => ⟨by rw [hxs, ev], p + 1, hw1 1 (by omega), hlt, by rw [hxs, ev, hys]⟩⟩
      · intro _
        rw [ev]
        refine ⟨by simp [mayv, hnil], [0], rfl, by simp, fun q out hq ho => ?_⟩
        unfold rowcode_one.f
        rw [if_pos (by omega)]
        simp
    by_cases h1 : k = 1
    · subst h1
      by_cases h8 : ys.length < 8
      · have ev : (Rd.vl (1 :: ys) 0).2.2 = 3 := by
          have e := tk_out ys 8 h8
          simp only [Rd.vl, ht1, hr1, if_true, if_neg h0]
          rw [show ((8 : Nat) : Int) = 8 from rfl] at e
          rw [e]
        constructor
        · intro q hq
          refine ⟨_, _, _, _, _, hf q _ ((if_neg h0).trans ((if_pos rfl).trans (if_pos (by omega)))), by rw [hxs, ev], fun h => absurd h (by decide)⟩
        · intro h
          rw [ev] at h
          exact absurd h (by decide)
      · have e := tk_in ys 8 (by omega)
        rw [show ((8 : Nat) : Int) = 8 from rfl] at e
        have h8b : ∀ x ∈ ys.take 8, 0 ≤ x ∧ x ≤ 255 := fun x hx => hby x (List.mem_of_mem_take hx)
        have ev : Rd.vl (1 :: ys) 0 = ((1, wrap64 (num 0 (ys.take 8)), ⟨#[]⟩), ys.drop 8, 0) := by
          simp only [Rd.vl, ht1, hr1, if_true, if_neg h0, e]
          rw [acc8_num _ h8b]
        constructor
        · intro q hq
          have := ref_num (p : Int) ys (by omega) hby 8 q 0 0 0 (by omega) rfl (by omega) rfl
          refine ⟨_, _, _, _, _, hf q _ ((if_neg h0).trans ((if_pos rfl).trans ((if_neg (by omega)).trans this))), by rw [hxs, ev], fun _ => ⟨by rw [hxs, ev]; rfl, p + 9, hw1 9 (by omega), by omega, by rw [hxs, ev]; exact hnext 8 (by omega)⟩⟩
        · intro _
          rw [ev]
          refine ⟨by simp [mayv, hnil], 1 :: ys.take 8, by simp [List.take_append_drop], by simp; omega, fun q out hq ho => ?_⟩
          unfold rowcode_one.f
          rw [if_pos (by omega)]
          simp only [Option.bind_some, if_true]
          have := one_num 1 (wrap64 (num 0 (ys.take 8))) ⟨#[]⟩ 8 q 0 (out ++ [1]) (by omega) rfl (by omega) (by simp; omega)
          rw [show ((0 : Nat) : Int) = 0 from rfl] at this
          rw [this, back8 _ (by rw [List.length_take]; omega) h8b]
          simp
    by_cases h2 : k = 2
    · subst h2
      cases ys with
      | nil =>
        have ev : (Rd.vl [2] 0).2.2 = 3 := by
          have e := tk_out [] 1 (by decide)
          rw [show ((1 : Nat) : Int) = 1 from rfl] at e
          simp only [Rd.vl, ht1, hr1, if_true, if_neg h0, if_neg h1, e, hz0]
          rfl
        constructor
        · intro q hq
          refine ⟨_, _, _, _, _, hf q _ ((if_neg h0).trans ((if_neg h1).trans ((if_pos rfl).trans (if_pos (by simp))))), by rw [hxs, ev], fun h => absurd h (by decide)⟩
        · intro h
          rw [ev] at h
          exact absurd h (by decide)
      | cons b zs =>
        have hb := hby b (List.mem_cons_self ..)
        have e : Rd.tk (b :: zs) 0 1 = ([b], zs, 0) := tk_in (b :: zs) 1 (by simp)
        have hrb : rd [b] 0 = b := rfl
        have hrb2 : rd (b :: zs) 0 = b := rfl
        have hwb : wrap64 b = b := by unfold wrap64; omega
        have hlz : ((b :: zs).length : Int) = zs.length + 1 := by simp
        by_cases hb1 : 1 < b
        · have ev : (Rd.vl (2 :: b :: zs) 0).2.2 = 2 := by
            simp only [Rd.vl, ht1, hr1, if_true, if_neg h0, if_neg h1, e, hrb, hwb, if_pos hb1]
            rfl
          constructor
          · intro q hq
            refine ⟨_, _, _, _, _, hf q _ ((if_neg h0).trans ((if_neg h1).trans ((if_pos rfl).trans ((if_neg (by omega)).trans ((if_pos (by omega)).trans (if_pos (by rw [hrb2]; omega))))))), by rw [hxs, ev], fun h => absurd h (by decide)⟩
          · intro h
            rw [ev] at h
            exact absurd h (by decide)
        · have ev : Rd.vl (2 :: b :: zs) 0 = ((2, b, ⟨#[]⟩), zs, 0) := by
            simp only [Rd.vl, ht1, hr1, if_true, if_neg h0, if_neg h1, e, hrb, hwb, if_neg hb1]
          constructor
          · intro q hq
            refine ⟨_, _, _, _, _, hf q _ ((if_neg h0).trans ((if_neg h1).trans ((if_pos rfl).trans ((if_neg (by omega)).trans ((if_pos (by omega)).trans (if_neg (by rw [hrb2]; omega))))))), by rw [hxs, ev], fun _ => ⟨by rw [hxs, ev, hrb2, hwb], p + 2, hw1 2 (by omega), by omega, by rw [hxs, ev]; exact hnext 1 (by simp)⟩⟩
          · intro _
            rw [ev]
            refine ⟨by simp [mayv, hnil]; omega, [2, b], rfl, by simp, fun q out hq ho => ?_⟩
            unfold rowcode_one.f
            rw [if_pos (by omega)]
            simp only [Option.bind_some]
            rw [if_neg h1, if_pos trivial, if_pos (by simp; omega), show b % 256 = b by omega]
            simp
    by_cases h3 : k = 3
    · subst h3
      cases ys with
      | nil =>
        have ev : (Rd.vl [3] 0).2.2 = 3 := by
          have e := tk_out [] 1 (by decide)
          rw [show ((1 : Nat) : Int) = 1 from rfl] at e
          simp only [Rd.vl, ht1, hr1, if_true, if_neg h0, if_neg h1, if_neg h2, e, hz0]
          rfl
        constructor
        · intro q hq
          refine ⟨_, _, _, _, _, hf q _ ((if_neg h0).trans ((if_neg h1).trans ((if_neg h2).trans ((if_pos rfl).trans (if_pos (by simp)))))), by rw [hxs, ev], fun h => absurd h (by decide)⟩
        · intro h
          rw [ev] at h
          exact absurd h (by decide)
      | cons b zs =>
        have hb := hby b (List.mem_cons_self ..)
        have e : Rd.tk (b :: zs) 0 1 = ([b], zs, 0) := tk_in (b :: zs) 1 (by simp)
        have hrb : rd [b] 0 = b := rfl
        have hrb2 : rd (b :: zs) 0 = b := rfl
        have hwb : wrap64 b = b := by unfold wrap64; omega
        have hwb1 : wrap64 (1 + b) = 1 + b := by unfold wrap64; omega
        have hlz : ((b :: zs).length : Int) = zs.length + 1 := by simp
        obtain ⟨n, rfl⟩ : ∃ n : Nat, b = n := ⟨b.toNat, by omega⟩
        by_cases hb1 : 48 < (n : Int)
        · have ev : (Rd.vl (3 :: (n : Int) :: zs) 0).2.2 = 4 := by
            simp only [Rd.vl, ht1, hr1, if_true, if_neg h0, if_neg h1, if_neg h2, e, hrb, hwb, if_pos hb1]
            rfl
          constructor
          · intro q hq
            refine ⟨_, _, _, _, _, hf q _ ((if_neg h0).trans ((if_neg h1).trans ((if_neg h2).trans ((if_pos rfl).trans ((if_neg (by omega)).trans ((if_pos (by omega)).trans (if_pos (by rw [hrb2, hwb]; omega)))))))), by rw [hxs, ev], fun h => absurd h (by decide)⟩
          · intro h
            rw [ev] at h
            exact absurd h (by decide)
        · by_cases hz : zs.length < n
          · have d2 : (zs.length : Int) + 1 < 1 + n := a2 hz
            have c0 : ¬ (((n : Int) :: zs).length : Int) < 1 := by rw [hlz]; exact a0 _
            have c00 : 0 < (((n : Int) :: zs).length : Int) := by rw [hlz]; exact a00 _
            have c1 : ¬ wrap64 (rd ((n : Int) :: zs) 0) > 48 := by rw [hrb2, hwb]; exact hb1
            have hww : wrap64 (1 + wrap64 (rd ((n : Int) :: zs) 0)) = 1 + n := by rw [hrb2, hwb]; exact hwb1
            have c2 : (((n : Int) :: zs).length : Int) < wrap64 (1 + wrap64 (rd ((n : Int) :: zs) 0)) := c2h hww hlz d2
            have ev : (Rd.vl (3 :: (n : Int) :: zs) 0).2.2 = 3 := by
              simp only [Rd.vl, ht1, hr1, if_true, if_neg h0, if_neg h1, if_neg h2, e, hrb, hwb, if_neg hb1, tk_out zs n hz]
            constructor
            · intro q hq
              refine ⟨0, 0, ⟨#[]⟩, 0, 3, hf q _ (by rw [if_neg h0, if_neg h1, if_neg h2, if_pos rfl, if_neg c0, if_pos c00, if_neg c1, if_pos c2]), by rw [hxs, ev], fun h => absurd h (by decide)⟩
            · intro h
              rw [ev] at h
              exact absurd h (by decide)
          · have d9 := hz
            have d0 : ¬ (zs.length : Int) + 1 < 1 := a0 _
            have d00 : 0 < (zs.length : Int) + 1 := a00 _
            have d2 : ¬ (zs.length : Int) + 1 < 1 + n := b2 hz
            have d3 : 1 ≤ 1 + (n : Int) := b3 _
            have d4 : 1 + (n : Int) ≤ (zs.length : Int) + 1 := b4 hz
            have hzb : ∀ x ∈ zs.take n, 0 ≤ x ∧ x ≤ 255 := fun x hx => hby x (List.mem_cons_of_mem _ (List.mem_of_mem_take hx))
            have hsz : (strOfNums (zs.take n)).size = n := by rw [str_size, List.length_take]; exact bmin hz
            have hpl : p + 2 + n ≤ l.length := bpl hz (by rw [← hyl]; rfl) hlt
            have hwn : wrap64 (wrap64 ((p : Int) + 2) + (n : Int)) = ((p + 2 + n : Nat) : Int) := bwn hl hpl
            have htn : (1 + (n : Int)).toNat = n + 1 := btn n
            have hnn : p + 2 + n = p + 1 + (n + 1) := bnn p n
            have hdn := hnext (n + 1) (Nat.succ_le_succ (Nat.le_of_not_lt hz))
            have hh60 : (3 :: (n : Int) :: zs.take n).length ≤ 60 := b60 hb1
            have hn256 : (n : Int) % 256 = n := b256 hb1
            have hmy : mayv 3 0 (strOfNums (zs.take n)) = true := bmy hb1 hsz
            have c0 : ¬ (((n : Int) :: zs).length : Int) < 1 := by rw [hlz]; exact d0
            have c00 : 0 < (((n : Int) :: zs).length : Int) := by rw [hlz]; exact d00
            have c1 : ¬ wrap64 (rd ((n : Int) :: zs) 0) > 48 := by rw [hrb2, hwb]; exact hb1
            have hww : wrap64 (1 + wrap64 (rd ((n : Int) :: zs) 0)) = 1 + n := by rw [hrb2, hwb]; exact hwb1
            have c2 : ¬ (((n : Int) :: zs).length : Int) < wrap64 (1 + wrap64 (rd ((n : Int) :: zs) 0)) := c2k hww hlz d2
            have c3 : 1 ≤ wrap64 (1 + wrap64 (rd ((n : Int) :: zs) 0)) := c3h hww d3
            have c4 : wrap64 (1 + wrap64 (rd ((n : Int) :: zs) 0)) ≤ (((n : Int) :: zs).length : Int) := c4h hww hlz d4
            have ev : Rd.vl (3 :: (n : Int) :: zs) 0 = ((3, 0, strOfNums (zs.take n)), zs.drop n, 0) := by
              simp only [Rd.vl, ht1, hr1, if_true, if_neg h0, if_neg h1, if_neg h2, e, hrb, hwb, if_neg hb1, tk_in zs n (Nat.le_of_not_lt hz)]
            constructor
            · intro q hq
              refine ⟨3, 0, strOfNums ((((n : Int) :: zs).take (wrap64 (1 + wrap64 (rd ((n : Int) :: zs) 0))).toNat).drop 1), wrap64 (wrap64 ((p : Int) + 2) + wrap64 (rd ((n : Int) :: zs) 0)), 0, hf q _ (by rw [if_neg h0, if_neg h1, if_neg h2, if_pos rfl, if_neg c0, if_pos c00, if_neg c1, if_neg c2, if_pos c3, if_pos c4]), by rw [hxs, ev], fun _ => ⟨?_, p + 2 + n, ?_, hpl, ?_⟩⟩
              · rw [hxs, ev, hww, htn]
                rfl
              · rw [hrb2, hwb]
                exact hwn
              · rw [hxs, ev, hnn]
                exact hdn
            · intro _
              rw [ev]
              clear ev
              refine ⟨hmy, 3 :: (n : Int) :: zs.take n, by simp [List.take_append_drop], hh60, fun q out hq ho => ?_⟩
              unfold rowcode_one.f
              rw [if_pos (blt ho)]
              simp only [Option.bind_some]
              rw [if_neg h1, if_neg h2, if_pos trivial, if_pos (blt1 ho), hsz, if_pos (blt2 ho hb1), bytes_str _ hzb, hn256]
              simp
    have ev : (Rd.vl (k :: ys) 0).2.2 = 6 := by
      simp only [Rd.vl, ht1, hr1, if_neg h0, if_neg h1, if_neg h2, if_neg h3]
      rfl
    constructor
    · intro q hq
      refine ⟨_, _, _, _, _, hf q _ ((if_neg h0).trans ((if_neg h1).trans ((if_neg h2).trans (if_neg h3)))), by rw [hxs, ev], fun h => absurd h (by decide)⟩
    · intro h
      rw [ev] at h
      exact absurd h (by decide)
end Go.Proofs.Ytegegpdaalfbdaa.PureG
