/- The reference's reader: numbers and texts that are read, in plain Lean and as contracts. Conditions: bytes, not endless. -/
import Derived.Test.YtpfegfkniilobaaXSchemax14
import Derived.Test.YtpfegfkniilobaaEyeG
import Derived.Test.YtpfegfkniilobaaPureSchC
import Derived.Deep.RegionLaw
import Derived.Test.YtpfegfkniilobaaXSchemax10
namespace Go.Proofs.Ytpfegfkniilobaa.Rr
open Go.RowKit Go.Proofs.YtpfegfkniilobaaW.PrintWords Go.Proofs.YtpfegfkniilobaaW.PrintLast Go.Proofs.YtpfegfkniilobaaW.PrintMore
open Go.Proofs.Ytpfegfkniilobaa.XSchema Go.Proofs.Ytpfegfkniilobaa.PureS
open Go.Proofs.Ytpfegfkniilobaa.Tk (St nv By nv_lt By.take)
set_option linter.unusedVariables false
set_option linter.unusedSimpArgs false
/-- So many bytes that are taken, and what is left. -/
def rt (s : St) (n : Int) : List Int × St := if s.2 = true ∨ (s.1.length : Int) < n then (List.replicate n.toNat 0, ([], true)) else (s.1.take n.toNat, (s.1.drop n.toNat, false))
def rnb (n : Int) (s : St) : Int × St := (nv (rt s n).1, (rt s n).2)
def rtx (s : St) : ByteArray × St := (strOfNums (rt (rnb 1 s).2 (rnb 1 s).1).1, (rt (rnb 1 s).2 (rnb 1 s).1).2)
theorem rt_ok {s : St} (h : St.ok s) (n : Int) : St.ok (rt s n).2 := by
  unfold rt
  split
  · exact ⟨(fun x hx => nomatch hx), Nat.zero_le _⟩
  · exact ⟨fun x hx => h.1 x (List.mem_of_mem_drop hx), Nat.le_trans (by simp) h.2⟩
theorem rt_by {s : St} (h : St.ok s) (n : Int) : By (rt s n).1 := by
  unfold rt
  split
  · intro x hx
    rw [(List.mem_replicate.mp hx).2]
    omega
  · exact fun x hx => h.1 x (List.mem_of_mem_take hx)
theorem rt_len (s : St) (n : Int) (h0 : 0 ≤ n) : (rt s n).1.length = n.toNat := by
  unfold rt
  split
  · exact List.length_replicate
  · rename_i h
    rw [List.length_take]
    omega
theorem rnb_ok {s : St} (h : St.ok s) (n : Int) : St.ok (rnb n s).2 := rt_ok h n
theorem rtx_ok {s : St} (h : St.ok s) : St.ok (rtx s).2 := rt_ok (rt_ok h 1) _
theorem nv_one {l : List Int} (h : l.length = 1) : nv l = rd l 0 := by
  cases l with
  | nil => simp at h
  | cons x l =>
    cases l with
    | nil => simp [nv, rd]
    | cons y l => simp at h
theorem rn1_in {s : St} (h : St.ok s) : 0 ≤ (rnb 1 s).1 ∧ (rnb 1 s).1 ≤ 255 := by
  show 0 ≤ nv (rt s 1).1 ∧ nv (rt s 1).1 ≤ 255
  rw [nv_one (by rw [rt_len s 1 (by omega)]; rfl)]
  exact Byt.By.rdb (l := (rt s 1).1) (rt_by h 1) 0
theorem rn4_in {s : St} (h : St.ok s) : 0 ≤ (rnb 4 s).1 ∧ (rnb 4 s).1 < 4294967296 := nv_lt (rt_by h 4) (by rw [rt_len s 4 (by omega)]; decide)
theorem take_f (s : St) (n : Int) (h0 : 0 ≤ n) (hn : n ≤ 100000) (hl : s.1.length ≤ 1000000000) : rowlockref12_R_take.f (strOfNums s.1) s.2 n = some (strOfNums (rt s n).1, strOfNums (rt s n).2.1, (rt s n).2.2) := by
  obtain ⟨xs, b⟩ := s
  unfold rowlockref12_R_take.f rt
  simp only at hl ⊢
  cases b
  · rw [if_neg (by decide)]
    by_cases h : (xs.length : Int) < n
    · rw [if_pos (by rw [Byt.str_size]; omega), if_pos h0, if_pos (by omega), if_pos (.inr h)]
      rfl
    · rw [if_neg (by rw [Byt.str_size]; omega), if_pos h0, if_pos (by rw [Byt.str_size]; omega), if_neg (by rintro (h1 | h1); cases h1; exact h h1), Byt.str_extract, Byt.str_extract, Byt.str_size, List.drop_zero, List.take_of_length_le (Nat.le_refl _)]
  · rw [if_pos rfl, if_pos h0, if_pos (by omega), if_pos (.inl rfl)]
    rfl
theorem value_go (l : List Int) (h : By l) (hl : l.length ≤ 4) : ∀ (m i : Nat), i + m = l.length → Ev (fun k => rowlockref06_Value.l0 k (strOfNums l) (nv (l.take i)) (i : Int)) (nv l)
  | 0, i, hi => by
    rw [List.take_of_length_le (by omega)]
    exact Ev.step (f := fun _ => some (nv l)) (fun k => by rw [rowlockref06_Value.l0, if_neg (by rw [Byt.str_size]; omega)]) (Ev.now _)
  | m + 1, i, hi => by
    have ih := value_go l h hl m (i + 1) (by omega)
    have hb := Byt.By.rdb (l := l) h (i : Int)
    have hp := nv_lt (By.take h i) (by rw [List.length_take]; omega)
    have e : nv (l.take (i + 1)) = nv (l.take i) * 256 + rd l (i : Int) := by
      have e1 : rd l (i : Int) = l[i]'(by omega) := by simp [rd, List.getD_eq_getElem?_getD, show i < l.length by omega]
      rw [e1, nv, nv, List.take_succ_eq_append_getElem (by omega), List.foldl_append]
      rfl
    refine Ev.step (fun k => ?_) ih
    rw [rowlockref06_Value.l0, if_pos (by rw [Byt.str_size]; omega), if_pos (by omega), Byt.str_bt h, u64_in (256 * _) (by omega), u64_in (rd l (i : Int)) (by omega), u64_in _ (by omega), wr_s i l.length (by omega) (by omega), e, Int.mul_comm]
theorem eValue (l : List Int) (h : By l) (hl : l.length ≤ 4) : Ev (fun k => rowlockref06_Value.f k (strOfNums l)) (nv l) :=
  Ev.congr (fun k => by rw [rowlockref06_Value.f]; rfl) (value_go l h hl l.length 0 (by omega))
theorem eNumber (s : St) (h : St.ok s) (n : Int) (h0 : 0 ≤ n) (hn : n ≤ 4) : Ev (fun k => rowlockref12_R_number.f k (strOfNums s.1) s.2 n) ((rnb n s).1, strOfNums (rnb n s).2.1, (rnb n s).2.2) := by
  have hl := rt_len s n h0
  have hb := nv_lt (rt_by h n) (by omega)
  refine Ev.congr (fun k => by rw [rowlockref12_R_number.f, take_f s n h0 (by omega) h.2, Option.bind_some]) (Ev.bind (f := fun _ t => some (wrap64 t, strOfNums (rt s n).2.1, (rt s n).2.2)) (eValue (rt s n).1 (rt_by h n) (by omega)) ?_)
  rw [wr_in _ (by omega)]
  exact Ev.now _
theorem eText (s : St) (h : St.ok s) : Ev (fun k => rowlockref12_R_text.f k (strOfNums s.1) s.2) ((rtx s).1, strOfNums (rtx s).2.1, (rtx s).2.2) := by
  have hr := rn1_in h
  refine Ev.congr (fun k => by rw [rowlockref12_R_text.f]) (Ev.bind (f := fun _ bt => (rowlockref12_R_take.f bt.2.1 bt.2.2 bt.1).bind fun bt2 => some (bt2.1, bt2.2.1, bt2.2.2)) (eNumber s h 1 (by omega) (by omega)) ?_)
  simp only
  rw [take_f (rnb 1 s).2 (rnb 1 s).1 hr.1 (by omega) (rnb_ok h 1).2, Option.bind_some]
  exact Ev.now _
/-- A state as it is handed on. -/
def sv (s : St) : Value := .agg #[.string (strOfNums s.1), .bool s.2]
theorem number_r {s s1 : St} {a n : Int} (w : World) (h : St.ok s) (h0 : 0 ≤ n) (hn : n ≤ 4) (e : rnb n s = (a, s1)) : Calls Try.prog 77 #[.agg #[.string (strOfNums s.1), .bool s.2], .int .i64 n] w fun en w' => en = .returned (.tuple #[.int .i64 a, .agg #[.string (strOfNums s1.1), .bool s1.2]]) ∧ Below w.heap.size w w' := by
  obtain ⟨k, hk⟩ := (eNumber s h n h0 hn).rounds
  rw [e] at hk
  exact rowlockref12_R_number.calls k _ _ _ _ _ _ w hk
theorem text_r {s s1 : St} {a : ByteArray} (w : World) (h : St.ok s) (e : rtx s = (a, s1)) : Calls Try.prog 105 #[.agg #[.string (strOfNums s.1), .bool s.2]] w fun en w' => en = .returned (.tuple #[.string a, .agg #[.string (strOfNums s1.1), .bool s1.2]]) ∧ Below w.heap.size w w' := by
  obtain ⟨k, hk⟩ := (eText s h).rounds
  rw [e] at hk
  exact rowlockref12_R_text.calls k _ _ _ _ _ w hk
end Go.Proofs.Ytpfegfkniilobaa.Rr
namespace Go.Proofs.Ytpfegfkniilobaa.Rr
open Go.RowKit Go.Proofs.YtpfegfkniilobaaW.PrintWords Go.Proofs.YtpfegfkniilobaaW.PrintLast Go.Proofs.YtpfegfkniilobaaW.PrintMore
open Go.Proofs.Ytpfegfkniilobaa.XSchema Go.Proofs.Ytpfegfkniilobaa.PureS
open Go.Proofs.Ytpfegfkniilobaa.Tk (St nv By nv_lt By.take mod8 mod32)
set_option linter.unusedVariables false
set_option linter.unusedSimpArgs false
set_option maxRecDepth 100000
def rcolE (a : ByteArray × St) : S87 × St := (⟨a.1, (rnb 1 a.2).1, (rnb 4 (rnb 1 a.2).2).1, (rnb 4 (rnb 4 (rnb 1 a.2).2).2).1⟩, (rnb 4 (rnb 4 (rnb 1 a.2).2).2).2)
def rcol (s : St) : S87 × St := rcolE (rtx s)
def rcols : Nat → List S87 → St → List S87 × St
  | 0, cs, s => (cs, s)
  | n + 1, cs, s => if s.2 = true then (cs, s) else rcols n (cs ++ [(rcol s).1]) (rcol s).2
def rtabE (a : ByteArray) (c : List S87 × St) : S84 × St := (⟨a, c.1, (rnb 4 c.2).1, (rnb 4 (rnb 4 c.2).2).1, (rnb 4 (rnb 4 (rnb 4 c.2).2).2).1⟩, (rnb 4 (rnb 4 (rnb 4 c.2).2).2).2)
def rtab (s : St) : S84 × St := rtabE (rtx s).1 (rcols (rnb 1 (rtx s).2).1.toNat [] (rnb 1 (rtx s).2).2)
theorem rcols_bad : ∀ (n : Nat) (cs : List S87) (s : St), s.2 = true → rcols n cs s = (cs, s)
  | 0, _, _, _ => rfl
  | n + 1, cs, s, h => by rw [rcols, if_pos h]
theorem far2 {w : World} {g ga : Nat} {t : TypeId} {cs : Array Value} (h : w.heap[g]? = some (.cells cs t (0, 0))) (hn : g ≠ ga) (u v : Value) : ((w.setCell ⟨ga, 0, none⟩ u).setCell ⟨ga, 1, none⟩ v).heap[g]? = some (.cells cs t (0, 0)) := blk_far (blk_far h hn u) hn v
theorem put2 {w : World} {g : Nat} {t : TypeId} {a b : Value} (h : w.heap[g]? = some (.cells #[a, b] t (0, 0))) (u v : Value) : ((w.setCell ⟨g, 0, none⟩ u).setCell ⟨g, 1, none⟩ v).heap[g]? = some (.cells #[u, v] t (0, 0)) := blk_put (blk_put h 0 u rfl) 1 v rfl
theorem below2 {w W : World} {g : Nat} {u v : Value} (h : Below w.heap.size w W) (hg : w.heap.size ≤ g) : Below w.heap.size w ((W.setCell ⟨g, 0, none⟩ u).setCell ⟨g, 1, none⟩ v) := below_set (below_set h hg) hg
theorem new2 (w : World) (g : Nat) (u v : Value) (o : Obj) : (((w.setCell ⟨g, 0, none⟩ u).setCell ⟨g, 1, none⟩ v).alloc o).heap[w.heap.size]? = some o := by
  have h := blk_new ((w.setCell ⟨g, 0, none⟩ u).setCell ⟨g, 1, none⟩ v) o
  rwa [show ((w.setCell ⟨g, 0, none⟩ u).setCell ⟨g, 1, none⟩ v).heap.size = w.heap.size by simp] at h
theorem text_f {s s1 : St} {a : ByteArray} (w : World) (hf : s.2 = false) (h : St.ok s) (e : rtx s = (a, s1)) : Calls Try.prog 105 #[.agg #[.string (strOfNums s.1), .bool false]] w fun en w' => en = .returned (.tuple #[.string a, .agg #[.string (strOfNums s1.1), .bool s1.2]]) ∧ Below w.heap.size w w' := by
  have := text_r w h e
  rwa [hf] at this
theorem row2 {α : Type} {d : Kd α} {e base : Nat} {ok : Nat → Prop} {W : World} {x a b : Value} {xs : List α} {g : Nat} {t : TypeId} (h : d.R e W base ok x xs) (hx : W.heap[g]? = some (.cells #[a, b] t (0, 0))) (ht : ∀ q, q ∈ e :: d.E → q ≠ t) (u v : Value) : d.R e ((W.setCell ⟨g, 0, none⟩ u).setCell ⟨g, 1, none⟩ v) base ok x xs := Kd.R_set (Kd.R_set h hx ht 0 u) (blk_put hx 0 u rfl) ht 1 v
set_option maxHeartbeats 16000000 in
theorem table_r (w : World) (s : St) (h : St.ok s) (t : S84) (sf : St) (e : rtab s = (t, sf)) :
    Calls Try.prog 78 #[.agg #[.string (strOfNums s.1), .bool s.2]] w fun en w' => ∃ A n c, en = .returned (.tuple #[.agg #[.string t.f0, .slice A n c, .int .u32 t.f2, .int .i64 t.f3, .int .i64 t.f4], .agg #[.string (strOfNums sf.1), .bool sf.2]]) ∧ Kd.R k87 87 w' w.heap.size (fun _ => True) (.slice A n c) t.f1 ∧ Below w.heap.size w w' := by
  obtain ⟨a, s1, e1⟩ : ∃ a s1, rtx s = (a, s1) := ⟨_, _, rfl⟩
  obtain ⟨n, s2, e2⟩ : ∃ n s2, rnb 1 s1 = (n, s2) := ⟨_, _, rfl⟩
  have o1 : St.ok s1 := by have := rtx_ok h; rwa [e1] at this
  have o2 : St.ok s2 := by have := rnb_ok o1 1; rwa [e2] at this
  have hn := rn1_in o1
  rw [e2] at hn
  simp only at hn
  obtain ⟨C, s3, e3⟩ : ∃ C s3, rcols n.toNat [] s2 = (C, s3) := ⟨_, _, rfl⟩
  obtain ⟨f, s4, e4⟩ : ∃ f s4, rnb 4 s3 = (f, s4) := ⟨_, _, rfl⟩
  obtain ⟨r, s5, e5⟩ : ∃ r s5, rnb 4 s4 = (r, s5) := ⟨_, _, rfl⟩
  obtain ⟨p, s6, e6⟩ : ∃ p s6, rnb 4 s5 = (p, s6) := ⟨_, _, rfl⟩
  have e' : rtab s = (⟨a, C, f, r, p⟩, s6) := by simp only [rtab, rtabE, e1, e2, e3, e4, e5, e6]
  rw [e'] at e
  injection e with ea eb
  subst ea eb
  have HE := Aside0.mk (And.intro e1 (And.intro e2 (And.intro e3 (And.intro e4 (And.intro e5 e6)))))
  have HOK := Aside0.mk (And.intro h (And.intro o1 o2))
  have HN := Aside0.mk hn
  have hn0 := hn.1
  have HB := Aside0.mk (below_alloc (below_alloc (below_alloc (Below.refl w.heap.size w) (.cells #[.string (strOfNums s.1), .bool s.2] 159)) (.cells #[.string ⟨#[]⟩, .slice none 0 0, .int .u32 0, .int .i64 0, .int .i64 0] 84)) (.cells #[.string ⟨#[]⟩, .bool false] 159))
  have H1 := Aside0.mk (blk_alloc (blk_alloc (blk_new w (.cells #[.string (strOfNums s.1), .bool s.2] 159)) (.cells #[.string ⟨#[]⟩, .slice none 0 0, .int .u32 0, .int .i64 0, .int .i64 0] 84)) (.cells #[.string ⟨#[]⟩, .bool false] 159))
  have H2 := Aside0.mk (blk_alloc (blk_new (w.alloc (.cells #[.string (strOfNums s.1), .bool s.2] 159)) (.cells #[.string ⟨#[]⟩, .slice none 0 0, .int .u32 0, .int .i64 0, .int .i64 0] 84)) (.cells #[.string ⟨#[]⟩, .bool false] 159))
  have H3 := Aside0.mk (blk_new ((w.alloc (.cells #[.string (strOfNums s.1), .bool s.2] 159)).alloc (.cells #[.string ⟨#[]⟩, .slice none 0 0, .int .u32 0, .int .i64 0, .int .i64 0] 84)) (.cells #[.string ⟨#[]⟩, .bool false] 159))
  have s1_ : (w.alloc (.cells #[.string (strOfNums s.1), .bool s.2] 159)).heap.size = w.heap.size + 1 := by simp
  have s2_ : ((w.alloc (.cells #[.string (strOfNums s.1), .bool s.2] 159)).alloc (.cells #[.string ⟨#[]⟩, .slice none 0 0, .int .u32 0, .int .i64 0, .int .i64 0] 84)).heap.size = w.heap.size + 1 + 1 := by simp
  rw [s1_] at H2
  rw [s2_] at H3
  have HLT := Aside0.mk (show w.heap.size ≤ w.heap.size ∧ w.heap.size < w.heap.size + 1 ∧ w.heap.size + 1 < w.heap.size + 1 + 1 by omega)
  clear h e' e1 e2 e3 e4 e5 e6 o1 o2 hn s1_ s2_
  go_enter Try.func78, Try.ntmps78
  go_upto_region 1 with fail
  generalize ((w.alloc (.cells #[.string (strOfNums s.1), .bool s.2] 159)).alloc (.cells #[.string ⟨#[]⟩, .slice none 0 0, .int .u32 0, .int .i64 0, .int .i64 0] 84)).alloc (.cells #[.string ⟨#[]⟩, .bool false] 159) = w1 at HB H1 H2 H3 ⊢
  generalize w.heap.size + 1 + 1 = gc at H3 HLT ⊢
  generalize w.heap.size + 1 = gb at H2 HLT ⊢
  obtain ⟨ga, hga⟩ : ∃ ga, w.heap.size = ga := ⟨_, rfl⟩
  replace HLT : Aside0 (w.heap.size ≤ ga ∧ ga < gb ∧ gb < gc) := ⟨by rw [← hga]; exact HLT.out⟩
  rw [hga] at H1
  simp only [hga]
  clear hga
  have a0 := (blk_cell H1.out 0).trans rfl; have a1 := (blk_cell H1.out 1).trans rfl; have af0 := blk_frozen H1.out 0; have af1 := blk_frozen H1.out 1; have al := blk_lt H1.out; 
  go_wp2_with (first
    | (go_at_call 105; (with_reducible refine (text_r _ HOK.out.1 HE.out.1).mono ?_); rintro en wa ⟨rfl, hb_⟩; (try clear a0 af0 a1 af1); (try clear al); replace HB := Aside0.mk (below_then HB.out HB.out.size hb_); replace H1 := Aside0.mk (blk_below H1.out hb_); replace H2 := Aside0.mk (blk_below H2.out hb_); replace H3 := Aside0.mk (blk_below H3.out hb_); clear hb_; have a0 := (blk_cell H1.out 0).trans rfl; have a1 := (blk_cell H1.out 1).trans rfl; have af0 := blk_frozen H1.out 0; have af1 := blk_frozen H1.out 1; have al := blk_lt H1.out; )
    | (go_at_call 77; (try clear a0 af0 a1 af1); (try clear al); (have hl_ := blk_lt H3.out); replace H2 := Aside0.mk (far2 H2.out (show gb ≠ ga by have := HLT.out; omega) (.string (strOfNums s1.1)) (.bool s1.2)); replace H3 := Aside0.mk (far2 H3.out (show gc ≠ ga by have := HLT.out; omega) (.string (strOfNums s1.1)) (.bool s1.2)); replace HB := Aside0.mk (below2 (u := .string (strOfNums s1.1)) (v := .bool s1.2) HB.out (show w.heap.size ≤ ga by have := HLT.out; omega)); replace H1 := Aside0.mk (put2 H1.out (.string (strOfNums s1.1)) (.bool s1.2)); (have H5 := Aside0.mk (new2 wa ga (.string (strOfNums s1.1)) (.bool s1.2) (.cells #[.string a, .slice none 0 0, .int .u32 0, .int .i64 0, .int .i64 0] 84))); replace H1 := Aside0.mk (blk_alloc H1.out (.cells #[.string a, .slice none 0 0, .int .u32 0, .int .i64 0, .int .i64 0] 84)); replace H2 := Aside0.mk (blk_alloc H2.out (.cells #[.string a, .slice none 0 0, .int .u32 0, .int .i64 0, .int .i64 0] 84)); replace H3 := Aside0.mk (blk_alloc H3.out (.cells #[.string a, .slice none 0 0, .int .u32 0, .int .i64 0, .int .i64 0] 84)); replace HB := Aside0.mk (below_alloc HB.out (.cells #[.string a, .slice none 0 0, .int .u32 0, .int .i64 0, .int .i64 0] 84)); (with_reducible refine (number_r _ HOK.out.2.1 (by decide) (by decide) HE.out.2.1).mono ?_); rintro en wb ⟨rfl, hb_⟩; replace HB := Aside0.mk (below_then HB.out HB.out.size hb_); replace H1 := Aside0.mk (blk_below H1.out hb_); replace H2 := Aside0.mk (blk_below H2.out hb_); replace H3 := Aside0.mk (blk_below H3.out hb_); replace H5 := Aside0.mk (blk_below H5.out hb_); clear hb_; generalize wa.heap.size = ge at H5 hl_ ⊢; replace HLT := Aside0.mk (And.intro HLT.out hl_); clear hl_; have a0 := (blk_cell H1.out 0).trans rfl; have a1 := (blk_cell H1.out 1).trans rfl; have af0 := blk_frozen H1.out 0; have af1 := blk_frozen H1.out 1; have al := blk_lt H1.out; have h0 := (blk_cell H5.out 0).trans rfl; have h1 := (blk_cell H5.out 1).trans rfl; have h2 := (blk_cell H5.out 2).trans rfl; have h3 := (blk_cell H5.out 3).trans rfl; have h4 := (blk_cell H5.out 4).trans rfl; have hf0 := blk_frozen H5.out 0; have hf1 := blk_frozen H5.out 1; have hf2 := blk_frozen H5.out 2; have hf3 := blk_frozen H5.out 3; have hf4 := blk_frozen H5.out 4; have hl := blk_lt H5.out; ))
  (try clear a0 af0 a1 af1); (try clear al); (try clear h0 hf0 h1 hf1 h2 hf2 h3 hf3 h4 hf4); (try clear hl); 
  go_loopg [7] n.toNat (fun kq v7 w' => ∃ (i : Nat) (cs : List S87) (sq : St) (v : Value), v7 = .int .i64 (i : Int) ∧ Aside0 (kq + i = n.toNat) ∧ Aside0 (rcols kq cs sq = (C, s3)) ∧ Aside0 (cs.length ≤ i) ∧ Aside0 (St.ok sq) ∧ Aside0 (Kd.R k87 87 w' w.heap.size (fun k => w.heap.size ≤ k) v cs) ∧ Aside0 (Below w.heap.size w w') ∧ Aside0 (w'.heap[ga]? = some (.cells #[.string (strOfNums sq.1), .bool sq.2] 159 (0, 0))) ∧ Aside0 (w'.heap[gb]? = some (.cells #[.string ⟨#[]⟩, .slice none 0 0, .int .u32 0, .int .i64 0, .int .i64 0] 84 (0, 0))) ∧ Aside0 (w'.heap[gc]? = some (.cells #[.string ⟨#[]⟩, .bool false] 159 (0, 0))) ∧ Aside0 (w'.heap[ge]? = some (.cells #[.string a, v, .int .u32 0, .int .i64 0, .int .i64 0] 84 (0, 0))))
  case atStart =>
    replace H2 := Aside0.mk (far2 H2.out (show gb ≠ ga by have := HLT.out; omega) (.string (strOfNums s2.1)) (.bool s2.2)); replace H3 := Aside0.mk (far2 H3.out (show gc ≠ ga by have := HLT.out; omega) (.string (strOfNums s2.1)) (.bool s2.2)); replace H5 := Aside0.mk (far2 H5.out (show ge ≠ ga by have := HLT.out; omega) (.string (strOfNums s2.1)) (.bool s2.2)); replace HB := Aside0.mk (below2 (u := .string (strOfNums s2.1)) (v := .bool s2.2) HB.out (show w.heap.size ≤ ga by have := HLT.out; omega)); replace H1 := Aside0.mk (put2 H1.out (.string (strOfNums s2.1)) (.bool s2.2)); 
    exact ⟨0, [], s2, _, rfl, ⟨by omega⟩, ⟨HE.out.2.2.1⟩, ⟨by simp⟩, ⟨HOK.out.2.2⟩, ⟨Kd.R_nil _ _ _ _ _⟩, HB, H1, H2, H3, H5⟩
  case round =>
    clear HB H1 H2 H3 H5
    obtain ⟨i, cs, sq, v, rfl, HJ, HQ, HCL, HSQ, HO, HB, H1, H2, H3, H5⟩ := hrel
    obtain ⟨Av, cv, ev⟩ := Kd.R_slice HO.out
    generalize List.length _ = nv_ at ev
    subst ev
    have hn5 : ga ≠ ge := by have := HLT.out; omega
    have hn6 : ge ≠ ga := by have := HLT.out; omega
    by_cases c5 : (i : Int) < n ∧ sq.2 = false
    · obtain ⟨c5, c6⟩ := c5
      have c1 : decide ((i : Int) < n) = true := decide_eq_true c5
      obtain ⟨k1, hk1⟩ : ∃ k1, gk = k1 + 1 := ⟨gk - 1, by have := HJ.out; omega⟩
      obtain ⟨q0, t1, e1⟩ : ∃ a s1, rtx sq = (a, s1) := ⟨_, _, rfl⟩
      obtain ⟨k, t2, e2⟩ : ∃ n s2, rnb 1 t1 = (n, s2) := ⟨_, _, rfl⟩
      obtain ⟨d, t3, e3⟩ : ∃ f s4, rnb 4 t2 = (f, s4) := ⟨_, _, rfl⟩
      obtain ⟨m, t4, e4⟩ : ∃ r s5, rnb 4 t3 = (r, s5) := ⟨_, _, rfl⟩
      have o1 : St.ok t1 := by have := rtx_ok HSQ.out; rwa [e1] at this
      have o2 : St.ok t2 := by have := rnb_ok o1 1; rwa [e2] at this
      have o3 : St.ok t3 := by have := rnb_ok o2 4; rwa [e3] at this
      have o4 : St.ok t4 := by have := rnb_ok o3 4; rwa [e4] at this
      have hk := rn1_in o1
      rw [e2] at hk
      simp only at hk
      have e5 : rcol sq = (⟨q0, k, d, m⟩, t4) := by simp only [rcol, rcolE, e1, e2, e3, e4]
      have hq := HQ.out
      rw [hk1, rcols, if_neg (by rw [c6]; decide), e5] at hq
      simp only at hq
      have HER := Aside0.mk (And.intro e1 (And.intro e2 (And.intro e3 e4)))
      have HERO := Aside0.mk (And.intro o1 (And.intro o2 (And.intro o3 o4)))
      have HC6 := Aside0.mk c6
      have HQ1 := Aside0.mk (And.intro hk1 (And.intro hq c5))
      have hkm := mod8 k hk
      have hk0 := hk.1
      have hk9 := hk.2
      have hku : IntKind.u8.wrap k = k := by show k % 256 = k; exact hkm
      clear e1 e2 e3 e4 e5 o1 o2 o3 o4 hk hk1 hq c5 HQ
      have a0 := (blk_cell H1.out 0).trans rfl; have a1 := (blk_cell H1.out 1).trans rfl; have af0 := blk_frozen H1.out 0; have af1 := blk_frozen H1.out 1; have al := blk_lt H1.out; have h0 := (blk_cell H5.out 0).trans rfl; have h1 := (blk_cell H5.out 1).trans rfl; have h2 := (blk_cell H5.out 2).trans rfl; have h3 := (blk_cell H5.out 3).trans rfl; have h4 := (blk_cell H5.out 4).trans rfl; have hf0 := blk_frozen H5.out 0; have hf1 := blk_frozen H5.out 1; have hf2 := blk_frozen H5.out 2; have hf3 := blk_frozen H5.out 3; have hf4 := blk_frozen H5.out 4; have hl := blk_lt H5.out; 
      go_wp2_with (first
        | (go_at_call 105; (with_reducible refine (text_f _ HC6.out HSQ.out HER.out.1).mono ?_); rintro en wa ⟨rfl, hb_⟩; (try clear a0 af0 a1 af1); (try clear al); (try clear h0 hf0 h1 hf1 h2 hf2 h3 hf3 h4 hf4); (try clear hl); replace HB := Aside0.mk (below_then HB.out HB.out.size hb_); replace H1 := Aside0.mk (blk_below H1.out hb_); replace H2 := Aside0.mk (blk_below H2.out hb_); replace H3 := Aside0.mk (blk_below H3.out hb_); replace H5 := Aside0.mk (blk_below H5.out hb_); replace HO := Aside0.mk (Kd.R_below HO.out hb_); clear hb_; have a0 := (blk_cell H1.out 0).trans rfl; have a1 := (blk_cell H1.out 1).trans rfl; have af0 := blk_frozen H1.out 0; have af1 := blk_frozen H1.out 1; have al := blk_lt H1.out; have h0 := (blk_cell H5.out 0).trans rfl; have h1 := (blk_cell H5.out 1).trans rfl; have h2 := (blk_cell H5.out 2).trans rfl; have h3 := (blk_cell H5.out 3).trans rfl; have h4 := (blk_cell H5.out 4).trans rfl; have hf0 := blk_frozen H5.out 0; have hf1 := blk_frozen H5.out 1; have hf2 := blk_frozen H5.out 2; have hf3 := blk_frozen H5.out 3; have hf4 := blk_frozen H5.out 4; have hl := blk_lt H5.out; )
        | (go_at_call 77; (try clear a0 af0 a1 af1); (try clear al); (try clear h0 hf0 h1 hf1 h2 hf2 h3 hf3 h4 hf4); (try clear hl); (have HX := Aside0.mk (blk_new wa (.cells #[.string (strOfNums t1.1), .bool t1.2] 159))); (have hl_ := blk_lt H5.out); replace H1 := Aside0.mk (blk_alloc H1.out (.cells #[.string (strOfNums t1.1), .bool t1.2] 159)); replace H2 := Aside0.mk (blk_alloc H2.out (.cells #[.string (strOfNums t1.1), .bool t1.2] 159)); replace H3 := Aside0.mk (blk_alloc H3.out (.cells #[.string (strOfNums t1.1), .bool t1.2] 159)); replace H5 := Aside0.mk (blk_alloc H5.out (.cells #[.string (strOfNums t1.1), .bool t1.2] 159)); replace HO := Aside0.mk (Kd.R_alloc HO.out (.cells #[.string (strOfNums t1.1), .bool t1.2] 159)); replace HB := Aside0.mk (below_alloc HB.out (.cells #[.string (strOfNums t1.1), .bool t1.2] 159)); (with_reducible refine (number_r _ HERO.out.1 (by decide) (by decide) HER.out.2.1).mono ?_); rintro en wb ⟨rfl, hb_⟩; replace HB := Aside0.mk (below_then HB.out HB.out.size hb_); replace H1 := Aside0.mk (blk_below H1.out hb_); replace H2 := Aside0.mk (blk_below H2.out hb_); replace H3 := Aside0.mk (blk_below H3.out hb_); replace H5 := Aside0.mk (blk_below H5.out hb_); replace HX := Aside0.mk (blk_below HX.out hb_); replace HO := Aside0.mk (Kd.R_below HO.out hb_); clear hb_; generalize wa.heap.size = gx at HX hl_ ⊢; replace HLT := Aside0.mk (And.intro HLT.out hl_); clear hl_; (have hn1 : ga ≠ gx := by have := HLT.out; omega); (have hn2 : gx ≠ ga := by have := HLT.out; omega); (have hn3 : ge ≠ gx := by have := HLT.out; omega); (have hn4 : gx ≠ ge := by have := HLT.out; omega); have a0 := (blk_cell H1.out 0).trans rfl; have a1 := (blk_cell H1.out 1).trans rfl; have af0 := blk_frozen H1.out 0; have af1 := blk_frozen H1.out 1; have al := blk_lt H1.out; have h0 := (blk_cell H5.out 0).trans rfl; have h1 := (blk_cell H5.out 1).trans rfl; have h2 := (blk_cell H5.out 2).trans rfl; have h3 := (blk_cell H5.out 3).trans rfl; have h4 := (blk_cell H5.out 4).trans rfl; have hf0 := blk_frozen H5.out 0; have hf1 := blk_frozen H5.out 1; have hf2 := blk_frozen H5.out 2; have hf3 := blk_frozen H5.out 3; have hf4 := blk_frozen H5.out 4; have hl := blk_lt H5.out; have x0 := (blk_cell HX.out 0).trans rfl; have x1 := (blk_cell HX.out 1).trans rfl; have xf0 := blk_frozen HX.out 0; have xf1 := blk_frozen HX.out 1; have xl := blk_lt HX.out; )
        | (go_at_call 77; (try clear a0 af0 a1 af1); (try clear al); (try clear h0 hf0 h1 hf1 h2 hf2 h3 hf3 h4 hf4); (try clear hl); (try clear x0 xf0 x1 xf1); (try clear xl); replace H1 := Aside0.mk (far2 H1.out (show ga ≠ gx by have := HLT.out; omega) (.string (strOfNums t2.1)) (.bool t2.2)); replace H2 := Aside0.mk (far2 H2.out (show gb ≠ gx by have := HLT.out; omega) (.string (strOfNums t2.1)) (.bool t2.2)); replace H3 := Aside0.mk (far2 H3.out (show gc ≠ gx by have := HLT.out; omega) (.string (strOfNums t2.1)) (.bool t2.2)); replace H5 := Aside0.mk (far2 H5.out (show ge ≠ gx by have := HLT.out; omega) (.string (strOfNums t2.1)) (.bool t2.2)); replace HO := Aside0.mk (row2 HO.out HX.out (by decide) (.string (strOfNums t2.1)) (.bool t2.2)); replace HB := Aside0.mk (below2 (u := .string (strOfNums t2.1)) (v := .bool t2.2) HB.out (show w.heap.size ≤ gx by have := HLT.out; omega)); replace HX := Aside0.mk (put2 HX.out (.string (strOfNums t2.1)) (.bool t2.2)); (with_reducible refine (number_r _ HERO.out.2.1 (by decide) (by decide) HER.out.2.2.1).mono ?_); rintro en wa ⟨rfl, hb_⟩; (try clear a0 af0 a1 af1); (try clear al); (try clear h0 hf0 h1 hf1 h2 hf2 h3 hf3 h4 hf4); (try clear hl); (try clear x0 xf0 x1 xf1); (try clear xl); replace HB := Aside0.mk (below_then HB.out HB.out.size hb_); replace H1 := Aside0.mk (blk_below H1.out hb_); replace H2 := Aside0.mk (blk_below H2.out hb_); replace H3 := Aside0.mk (blk_below H3.out hb_); replace H5 := Aside0.mk (blk_below H5.out hb_); replace HX := Aside0.mk (blk_below HX.out hb_); replace HO := Aside0.mk (Kd.R_below HO.out hb_); clear hb_; have a0 := (blk_cell H1.out 0).trans rfl; have a1 := (blk_cell H1.out 1).trans rfl; have af0 := blk_frozen H1.out 0; have af1 := blk_frozen H1.out 1; have al := blk_lt H1.out; have h0 := (blk_cell H5.out 0).trans rfl; have h1 := (blk_cell H5.out 1).trans rfl; have h2 := (blk_cell H5.out 2).trans rfl; have h3 := (blk_cell H5.out 3).trans rfl; have h4 := (blk_cell H5.out 4).trans rfl; have hf0 := blk_frozen H5.out 0; have hf1 := blk_frozen H5.out 1; have hf2 := blk_frozen H5.out 2; have hf3 := blk_frozen H5.out 3; have hf4 := blk_frozen H5.out 4; have hl := blk_lt H5.out; have x0 := (blk_cell HX.out 0).trans rfl; have x1 := (blk_cell HX.out 1).trans rfl; have xf0 := blk_frozen HX.out 0; have xf1 := blk_frozen HX.out 1; have xl := blk_lt HX.out; )
        | (go_at_call 77; (try clear a0 af0 a1 af1); (try clear al); (try clear h0 hf0 h1 hf1 h2 hf2 h3 hf3 h4 hf4); (try clear hl); (try clear x0 xf0 x1 xf1); (try clear xl); replace H1 := Aside0.mk (far2 H1.out (show ga ≠ gx by have := HLT.out; omega) (.string (strOfNums t3.1)) (.bool t3.2)); replace H2 := Aside0.mk (far2 H2.out (show gb ≠ gx by have := HLT.out; omega) (.string (strOfNums t3.1)) (.bool t3.2)); replace H3 := Aside0.mk (far2 H3.out (show gc ≠ gx by have := HLT.out; omega) (.string (strOfNums t3.1)) (.bool t3.2)); replace H5 := Aside0.mk (far2 H5.out (show ge ≠ gx by have := HLT.out; omega) (.string (strOfNums t3.1)) (.bool t3.2)); replace HO := Aside0.mk (row2 HO.out HX.out (by decide) (.string (strOfNums t3.1)) (.bool t3.2)); replace HB := Aside0.mk (below2 (u := .string (strOfNums t3.1)) (v := .bool t3.2) HB.out (show w.heap.size ≤ gx by have := HLT.out; omega)); replace HX := Aside0.mk (put2 HX.out (.string (strOfNums t3.1)) (.bool t3.2)); (with_reducible refine (number_r _ HERO.out.2.2.1 (by decide) (by decide) HER.out.2.2.2).mono ?_); rintro en wa ⟨rfl, hb_⟩; (try clear a0 af0 a1 af1); (try clear al); (try clear h0 hf0 h1 hf1 h2 hf2 h3 hf3 h4 hf4); (try clear hl); (try clear x0 xf0 x1 xf1); (try clear xl); replace HB := Aside0.mk (below_then HB.out HB.out.size hb_); replace H1 := Aside0.mk (blk_below H1.out hb_); replace H2 := Aside0.mk (blk_below H2.out hb_); replace H3 := Aside0.mk (blk_below H3.out hb_); replace H5 := Aside0.mk (blk_below H5.out hb_); replace HX := Aside0.mk (blk_below HX.out hb_); replace HO := Aside0.mk (Kd.R_below HO.out hb_); clear hb_; have a0 := (blk_cell H1.out 0).trans rfl; have a1 := (blk_cell H1.out 1).trans rfl; have af0 := blk_frozen H1.out 0; have af1 := blk_frozen H1.out 1; have al := blk_lt H1.out; have h0 := (blk_cell H5.out 0).trans rfl; have h1 := (blk_cell H5.out 1).trans rfl; have h2 := (blk_cell H5.out 2).trans rfl; have h3 := (blk_cell H5.out 3).trans rfl; have h4 := (blk_cell H5.out 4).trans rfl; have hf0 := blk_frozen H5.out 0; have hf1 := blk_frozen H5.out 1; have hf2 := blk_frozen H5.out 2; have hf3 := blk_frozen H5.out 3; have hf4 := blk_frozen H5.out 4; have hl := blk_lt H5.out; have x0 := (blk_cell HX.out 0).trans rfl; have x1 := (blk_cell HX.out 1).trans rfl; have xf0 := blk_frozen HX.out 0; have xf1 := blk_frozen HX.out 1; have xl := blk_lt HX.out; )
        | ((with_reducible refine gate_builtin (b := .append) (xs := #[.tmp 60, .tmp 67]) rfl ?_); (try clear a0 af0 a1 af1); (try clear al); (try clear h0 hf0 h1 hf1 h2 hf2 h3 hf3 h4 hf4); (try clear hl); (try clear x0 xf0 x1 xf1); (try clear xl); replace H1 := Aside0.mk (far2 H1.out (show ga ≠ gx by have := HLT.out; omega) (.string (strOfNums t4.1)) (.bool t4.2)); replace H2 := Aside0.mk (far2 H2.out (show gb ≠ gx by have := HLT.out; omega) (.string (strOfNums t4.1)) (.bool t4.2)); replace H3 := Aside0.mk (far2 H3.out (show gc ≠ gx by have := HLT.out; omega) (.string (strOfNums t4.1)) (.bool t4.2)); replace H5 := Aside0.mk (far2 H5.out (show ge ≠ gx by have := HLT.out; omega) (.string (strOfNums t4.1)) (.bool t4.2)); replace HO := Aside0.mk (row2 HO.out HX.out (by decide) (.string (strOfNums t4.1)) (.bool t4.2)); replace HB := Aside0.mk (below2 (u := .string (strOfNums t4.1)) (v := .bool t4.2) HB.out (show w.heap.size ≤ gx by have := HLT.out; omega)); replace HX := Aside0.mk (put2 HX.out (.string (strOfNums t4.1)) (.bool t4.2)); replace H2 := Aside0.mk (far2 H2.out (show gb ≠ ga by have := HLT.out; omega) (.string (strOfNums t4.1)) (.bool t4.2)); replace H3 := Aside0.mk (far2 H3.out (show gc ≠ ga by have := HLT.out; omega) (.string (strOfNums t4.1)) (.bool t4.2)); replace H5 := Aside0.mk (far2 H5.out (show ge ≠ ga by have := HLT.out; omega) (.string (strOfNums t4.1)) (.bool t4.2)); replace HX := Aside0.mk (far2 HX.out (show gx ≠ ga by have := HLT.out; omega) (.string (strOfNums t4.1)) (.bool t4.2)); replace HO := Aside0.mk (row2 HO.out H1.out (by decide) (.string (strOfNums t4.1)) (.bool t4.2)); replace HB := Aside0.mk (below2 (u := .string (strOfNums t4.1)) (v := .bool t4.2) HB.out (show w.heap.size ≤ ga by have := HLT.out; omega)); replace H1 := Aside0.mk (put2 H1.out (.string (strOfNums t4.1)) (.bool t4.2)); at_builtin; refine Kd.R_append k87 (w0 := w) w.heap.size rfl (.tmp 60) (.tmp 67) 82 87 (.agg #[(.string ⟨#[]⟩), (.int .u8 0), (.int .i64 0), (.int .i64 0)]) 40 rfl Try.underlying82 info87 rfl (by decide) (by omega) (.slice Av nv_ cv) cs ⟨q0, k, d, m⟩ [.string q0, .int .u8 k, .int .i64 d, .int .i64 m] (fun k => w.heap.size ≤ k) (fun _ => False) rfl (by first | (go_simp; done) | (go_simp; rfl)) ?aP (fun _ hk => hk.elim) ?aF ?aO ?aB ?aS ?aL ?_; (case aP => exact k87_mkM _ _ _ ⟨q0, k, d, m⟩); (case aF => exact (fun k hk => Nat.le_trans HB.out.size hk)); (case aO => exact HO.out); (case aB => exact HB.out); (case aS => exact HB.out.size); (case aL => have h1 := HCL.out; have h2 := HQ1.out.2.2; have h3 := HN.out; omega); intro v6 w6 ho hb hg_ hat; (obtain ⟨A6, c6, e6⟩ := Kd.R_slice ho); generalize List.length _ = nn at e6; subst e6; replace H1 := Aside0.mk (blk_grown H1.out hg_ (Kd.R_ne HO.out H1.out (by decide))); replace H2 := Aside0.mk (blk_grown H2.out hg_ (Kd.R_ne HO.out H2.out (by decide))); replace H3 := Aside0.mk (blk_grown H3.out hg_ (Kd.R_ne HO.out H3.out (by decide))); replace H5 := Aside0.mk (blk_grown H5.out hg_ (Kd.R_ne HO.out H5.out (by decide))); replace HB := Aside0.mk hb; replace HO := Aside0.mk ho; clear HX ho hb hg_ hat; have h0 := (blk_cell H5.out 0).trans rfl; have h1 := (blk_cell H5.out 1).trans rfl; have h2 := (blk_cell H5.out 2).trans rfl; have h3 := (blk_cell H5.out 3).trans rfl; have h4 := (blk_cell H5.out 4).trans rfl; have hf0 := blk_frozen H5.out 0; have hf1 := blk_frozen H5.out 1; have hf2 := blk_frozen H5.out 2; have hf3 := blk_frozen H5.out 3; have hf4 := blk_frozen H5.out 4; have hl := blk_lt H5.out; ))
      go_roundg k1
      case measure => have := HQ1.out.1; omega
      case rel =>
        have h1 := HJ.out
        have h2 := HQ1.out
        have h3 := HCL.out
        replace H1 := Aside0.mk (blk_far (p := ⟨ge, 1, none⟩) H1.out (show ga ≠ ge by have := HLT.out; omega) (.slice A6 nn c6)); replace H2 := Aside0.mk (blk_far (p := ⟨ge, 1, none⟩) H2.out (show gb ≠ ge by have := HLT.out; omega) (.slice A6 nn c6)); replace H3 := Aside0.mk (blk_far (p := ⟨ge, 1, none⟩) H3.out (show gc ≠ ge by have := HLT.out; omega) (.slice A6 nn c6)); replace HO := Aside0.mk (Kd.R_set HO.out H5.out (by decide) 1 (.slice A6 nn c6)); replace HB := Aside0.mk (below_set (j := 1) (v := .slice A6 nn c6) HB.out (show w.heap.size ≤ ge by have := HLT.out; omega)); replace H5 := Aside0.mk (blk_put H5.out 1 (.slice A6 nn c6) rfl); 
        exact ⟨i + 1, cs ++ [⟨q0, k, d, m⟩], t4, .slice A6 nn c6, by first | rfl | (rw [Tk.wr_in ((i : Int) + 1) (by have := HN.out; omega)]; rfl), ⟨by omega⟩, ⟨h2.2.1⟩, ⟨by rw [List.length_append, List.length_singleton]; omega⟩, ⟨HERO.out.2.2.2⟩, HO, HB, H1, H2, H3, H5⟩
    · have hz : C = cs ∧ s3 = sq := by
        have hq := HQ.out
        rcases Nat.eq_zero_or_pos gk with h0 | h0
        · rw [h0, rcols] at hq
          injection hq with hq1 hq2
          exact ⟨hq1.symm, hq2.symm⟩
        · rw [rcols_bad gk cs sq (by
            cases hb : sq.2
            · exact absurd ⟨(by have := HJ.out; omega), hb⟩ c5
            · rfl)] at hq
          injection hq with hq1 hq2
          exact ⟨hq1.symm, hq2.symm⟩
      obtain ⟨rfl, rfl⟩ := hz
      have hf := rn4_in HSQ.out
      rw [HE.out.2.2.2.1] at hf
      simp only at hf
      have hfm := mod32 f hf
      have hfu : IntKind.u32.wrap f = f := by show f % 4294967296 = f; exact hfm
      have o4 : St.ok s4 := by have := rnb_ok HSQ.out 4; rwa [HE.out.2.2.2.1] at this
      have o5 : St.ok s5 := by have := rnb_ok o4 4; rwa [HE.out.2.2.2.2.1] at this
      have HOK2 := Aside0.mk (And.intro o4 o5)
      have c9 : (decide ((i : Int) < n) = true ∧ s3.2 = true) ∨ decide ((i : Int) < n) = false := by
        by_cases h : (i : Int) < n
        · exact .inl ⟨decide_eq_true h, by cases hb : s3.2; exact absurd ⟨h, hb⟩ c5; rfl⟩
        · exact .inr (decide_eq_false h)
      clear hf c5 o4 o5 HQ
      have a0 := (blk_cell H1.out 0).trans rfl; have a1 := (blk_cell H1.out 1).trans rfl; have af0 := blk_frozen H1.out 0; have af1 := blk_frozen H1.out 1; have al := blk_lt H1.out; have h0 := (blk_cell H5.out 0).trans rfl; have h1 := (blk_cell H5.out 1).trans rfl; have h2 := (blk_cell H5.out 2).trans rfl; have h3 := (blk_cell H5.out 3).trans rfl; have h4 := (blk_cell H5.out 4).trans rfl; have hf0 := blk_frozen H5.out 0; have hf1 := blk_frozen H5.out 1; have hf2 := blk_frozen H5.out 2; have hf3 := blk_frozen H5.out 3; have hf4 := blk_frozen H5.out 4; have hl := blk_lt H5.out; 
      rcases c9 with ⟨c1, c6⟩ | c1
      all_goals
        go_upto_region 13 with fail
        (try clear c6)
        go_upto_region 19 with (first
          | (go_at_call 77; (with_reducible refine (number_r _ HSQ.out (by decide) (by decide) HE.out.2.2.2.1).mono ?_); rintro en wa ⟨rfl, hb_⟩; (try clear a0 af0 a1 af1); (try clear al); (try clear h0 hf0 h1 hf1 h2 hf2 h3 hf3 h4 hf4); (try clear hl); replace HB := Aside0.mk (below_then HB.out HB.out.size hb_); replace H1 := Aside0.mk (blk_below H1.out hb_); replace H2 := Aside0.mk (blk_below H2.out hb_); replace H3 := Aside0.mk (blk_below H3.out hb_); replace H5 := Aside0.mk (blk_below H5.out hb_); replace HO := Aside0.mk (Kd.R_below HO.out hb_); clear hb_; have a0 := (blk_cell H1.out 0).trans rfl; have a1 := (blk_cell H1.out 1).trans rfl; have af0 := blk_frozen H1.out 0; have af1 := blk_frozen H1.out 1; have al := blk_lt H1.out; have h0 := (blk_cell H5.out 0).trans rfl; have h1 := (blk_cell H5.out 1).trans rfl; have h2 := (blk_cell H5.out 2).trans rfl; have h3 := (blk_cell H5.out 3).trans rfl; have h4 := (blk_cell H5.out 4).trans rfl; have hf0 := blk_frozen H5.out 0; have hf1 := blk_frozen H5.out 1; have hf2 := blk_frozen H5.out 2; have hf3 := blk_frozen H5.out 3; have hf4 := blk_frozen H5.out 4; have hl := blk_lt H5.out; )
          | (go_at_call 77; (try clear a0 af0 a1 af1); (try clear al); (try clear h0 hf0 h1 hf1 h2 hf2 h3 hf3 h4 hf4); (try clear hl); replace H2 := Aside0.mk (far2 H2.out (show gb ≠ ga by have := HLT.out; omega) (.string (strOfNums s4.1)) (.bool s4.2)); replace H3 := Aside0.mk (far2 H3.out (show gc ≠ ga by have := HLT.out; omega) (.string (strOfNums s4.1)) (.bool s4.2)); replace H5 := Aside0.mk (far2 H5.out (show ge ≠ ga by have := HLT.out; omega) (.string (strOfNums s4.1)) (.bool s4.2)); replace HO := Aside0.mk (row2 HO.out H1.out (by decide) (.string (strOfNums s4.1)) (.bool s4.2)); replace HB := Aside0.mk (below2 (u := .string (strOfNums s4.1)) (v := .bool s4.2) HB.out (show w.heap.size ≤ ga by have := HLT.out; omega)); replace H1 := Aside0.mk (put2 H1.out (.string (strOfNums s4.1)) (.bool s4.2)); (with_reducible refine (number_r _ HOK2.out.1 (by decide) (by decide) HE.out.2.2.2.2.1).mono ?_); rintro en wa ⟨rfl, hb_⟩; (try clear a0 af0 a1 af1); (try clear al); (try clear h0 hf0 h1 hf1 h2 hf2 h3 hf3 h4 hf4); (try clear hl); replace HB := Aside0.mk (below_then HB.out HB.out.size hb_); replace H1 := Aside0.mk (blk_below H1.out hb_); replace H2 := Aside0.mk (blk_below H2.out hb_); replace H3 := Aside0.mk (blk_below H3.out hb_); replace H5 := Aside0.mk (blk_below H5.out hb_); replace HO := Aside0.mk (Kd.R_below HO.out hb_); clear hb_; have a0 := (blk_cell H1.out 0).trans rfl; have a1 := (blk_cell H1.out 1).trans rfl; have af0 := blk_frozen H1.out 0; have af1 := blk_frozen H1.out 1; have al := blk_lt H1.out; have h0 := (blk_cell H5.out 0).trans rfl; have h1 := (blk_cell H5.out 1).trans rfl; have h2 := (blk_cell H5.out 2).trans rfl; have h3 := (blk_cell H5.out 3).trans rfl; have h4 := (blk_cell H5.out 4).trans rfl; have hf0 := blk_frozen H5.out 0; have hf1 := blk_frozen H5.out 1; have hf2 := blk_frozen H5.out 2; have hf3 := blk_frozen H5.out 3; have hf4 := blk_frozen H5.out 4; have hl := blk_lt H5.out; )
          | (go_at_call 77; (try clear a0 af0 a1 af1); (try clear al); (try clear h0 hf0 h1 hf1 h2 hf2 h3 hf3 h4 hf4); (try clear hl); replace H2 := Aside0.mk (far2 H2.out (show gb ≠ ga by have := HLT.out; omega) (.string (strOfNums s5.1)) (.bool s5.2)); replace H3 := Aside0.mk (far2 H3.out (show gc ≠ ga by have := HLT.out; omega) (.string (strOfNums s5.1)) (.bool s5.2)); replace H5 := Aside0.mk (far2 H5.out (show ge ≠ ga by have := HLT.out; omega) (.string (strOfNums s5.1)) (.bool s5.2)); replace HO := Aside0.mk (row2 HO.out H1.out (by decide) (.string (strOfNums s5.1)) (.bool s5.2)); replace HB := Aside0.mk (below2 (u := .string (strOfNums s5.1)) (v := .bool s5.2) HB.out (show w.heap.size ≤ ga by have := HLT.out; omega)); replace H1 := Aside0.mk (put2 H1.out (.string (strOfNums s5.1)) (.bool s5.2)); (with_reducible refine (number_r _ HOK2.out.2 (by decide) (by decide) HE.out.2.2.2.2.2).mono ?_); rintro en wa ⟨rfl, hb_⟩; (try clear a0 af0 a1 af1); (try clear al); (try clear h0 hf0 h1 hf1 h2 hf2 h3 hf3 h4 hf4); (try clear hl); replace HB := Aside0.mk (below_then HB.out HB.out.size hb_); replace H1 := Aside0.mk (blk_below H1.out hb_); replace H2 := Aside0.mk (blk_below H2.out hb_); replace H3 := Aside0.mk (blk_below H3.out hb_); replace H5 := Aside0.mk (blk_below H5.out hb_); replace HO := Aside0.mk (Kd.R_below HO.out hb_); clear hb_; have a0 := (blk_cell H1.out 0).trans rfl; have a1 := (blk_cell H1.out 1).trans rfl; have af0 := blk_frozen H1.out 0; have af1 := blk_frozen H1.out 1; have al := blk_lt H1.out; have h0 := (blk_cell H5.out 0).trans rfl; have h1 := (blk_cell H5.out 1).trans rfl; have h2 := (blk_cell H5.out 2).trans rfl; have h3 := (blk_cell H5.out 3).trans rfl; have h4 := (blk_cell H5.out 4).trans rfl; have hf0 := blk_frozen H5.out 0; have hf1 := blk_frozen H5.out 1; have hf2 := blk_frozen H5.out 2; have hf3 := blk_frozen H5.out 3; have hf4 := blk_frozen H5.out 4; have hl := blk_lt H5.out; ))
        (try clear a0 af0 a1 af1); (try clear al); (try clear h0 hf0 h1 hf1 h2 hf2 h3 hf3 h4 hf4); (try clear hl); replace H2 := Aside0.mk (far2 H2.out (show gb ≠ ga by have := HLT.out; omega) (.string (strOfNums s6.1)) (.bool s6.2)); replace H3 := Aside0.mk (far2 H3.out (show gc ≠ ga by have := HLT.out; omega) (.string (strOfNums s6.1)) (.bool s6.2)); replace H5 := Aside0.mk (far2 H5.out (show ge ≠ ga by have := HLT.out; omega) (.string (strOfNums s6.1)) (.bool s6.2)); replace HO := Aside0.mk (row2 HO.out H1.out (by decide) (.string (strOfNums s6.1)) (.bool s6.2)); replace HB := Aside0.mk (below2 (u := .string (strOfNums s6.1)) (v := .bool s6.2) HB.out (show w.heap.size ≤ ga by have := HLT.out; omega)); replace H1 := Aside0.mk (put2 H1.out (.string (strOfNums s6.1)) (.bool s6.2)); replace H1 := Aside0.mk (blk_far (p := ⟨ge, 2, none⟩) H1.out (show ga ≠ ge by have := HLT.out; omega) (.int .u32 f)); replace H2 := Aside0.mk (blk_far (p := ⟨ge, 2, none⟩) H2.out (show gb ≠ ge by have := HLT.out; omega) (.int .u32 f)); replace H3 := Aside0.mk (blk_far (p := ⟨ge, 2, none⟩) H3.out (show gc ≠ ge by have := HLT.out; omega) (.int .u32 f)); replace HO := Aside0.mk (Kd.R_set HO.out H5.out (by decide) 2 (.int .u32 f)); replace HB := Aside0.mk (below_set (j := 2) (v := .int .u32 f) HB.out (show w.heap.size ≤ ge by have := HLT.out; omega)); replace H5 := Aside0.mk (blk_put H5.out 2 (.int .u32 f) rfl); replace H1 := Aside0.mk (blk_far (p := ⟨ge, 3, none⟩) H1.out (show ga ≠ ge by have := HLT.out; omega) (.int .i64 r)); replace H2 := Aside0.mk (blk_far (p := ⟨ge, 3, none⟩) H2.out (show gb ≠ ge by have := HLT.out; omega) (.int .i64 r)); replace H3 := Aside0.mk (blk_far (p := ⟨ge, 3, none⟩) H3.out (show gc ≠ ge by have := HLT.out; omega) (.int .i64 r)); replace HO := Aside0.mk (Kd.R_set HO.out H5.out (by decide) 3 (.int .i64 r)); replace HB := Aside0.mk (below_set (j := 3) (v := .int .i64 r) HB.out (show w.heap.size ≤ ge by have := HLT.out; omega)); replace H5 := Aside0.mk (blk_put H5.out 3 (.int .i64 r) rfl); replace H1 := Aside0.mk (blk_far (p := ⟨ge, 4, none⟩) H1.out (show ga ≠ ge by have := HLT.out; omega) (.int .i64 p)); replace H2 := Aside0.mk (blk_far (p := ⟨ge, 4, none⟩) H2.out (show gb ≠ ge by have := HLT.out; omega) (.int .i64 p)); replace H3 := Aside0.mk (blk_far (p := ⟨ge, 4, none⟩) H3.out (show gc ≠ ge by have := HLT.out; omega) (.int .i64 p)); replace HO := Aside0.mk (Kd.R_set HO.out H5.out (by decide) 4 (.int .i64 p)); replace HB := Aside0.mk (below_set (j := 4) (v := .int .i64 p) HB.out (show w.heap.size ≤ ge by have := HLT.out; omega)); replace H5 := Aside0.mk (blk_put H5.out 4 (.int .i64 p) rfl); 
        replace H1 := Aside0.mk (blk_drew H1.out); replace H2 := Aside0.mk (blk_drew H2.out); replace H3 := Aside0.mk (blk_drew H3.out); replace H5 := Aside0.mk (blk_drew H5.out); replace HO := Aside0.mk (Kd.R_drew HO.out); replace HB := Aside0.mk (below_drew1 HB.out)
        refine start_ (n := 4) (S := fun w' => w'.cell? ⟨ge, 0, none⟩ = some (.string a) ∧ w'.cell? ⟨ge, 1, none⟩ = some (.slice Av nv_ cv) ∧ w'.cell? ⟨ge, 2, none⟩ = some (.int .u32 f) ∧ w'.cell? ⟨ge, 3, none⟩ = some (.int .i64 r) ∧ w'.cell? ⟨ge, 4, none⟩ = some (.int .i64 p) ∧ w'.cell? ⟨ga, 0, none⟩ = some (.string (strOfNums s6.1)) ∧ w'.cell? ⟨ga, 1, none⟩ = some (.bool s6.2)) (ds := []) #[false, false, false, false] (by kernel_rfl) rfl rfl ⟨(blk_cell H5.out 0).trans rfl, (blk_cell H5.out 1).trans rfl, (blk_cell H5.out 2).trans rfl, (blk_cell H5.out 3).trans rfl, (blk_cell H5.out 4).trans rfl, (blk_cell H1.out 0).trans rfl, (blk_cell H1.out 1).trans rfl⟩ (fun hHeld => ?_)
        generalize World.drew _ = w73 at H1 H2 H3 H5 HO HB hHeld ⊢
        have hm0 := (show ga ≠ gb by have := HLT.out; omega); have hm1 := (show ga ≠ gc by have := HLT.out; omega); have hm2 := (show ga ≠ ge by have := HLT.out; omega); have hm3 := (show gb ≠ ga by have := HLT.out; omega); have hm4 := (show gb ≠ gc by have := HLT.out; omega); have hm5 := (show gb ≠ ge by have := HLT.out; omega); have hm6 := (show gc ≠ ga by have := HLT.out; omega); have hm7 := (show gc ≠ gb by have := HLT.out; omega); have hm8 := (show gc ≠ ge by have := HLT.out; omega); have hm9 := (show ge ≠ ga by have := HLT.out; omega); have hm10 := (show ge ≠ gb by have := HLT.out; omega); have hm11 := (show ge ≠ gc by have := HLT.out; omega)
        refine take_ (i := 0) (N := some 92) (v := ?_) (a' := ?_) #[true, false, false, false] rfl rfl (by kernel_rfl) (fun _ _ _ h => h) (Or.inl ⟨by rfl, ?_⟩) hHeld ?_ ?_
        rotate_left
        · rintro w' ⟨s0_, s1_, s2_, s3_, s4_, s5_, s6_⟩
          go_simp
          with_reducible rfl
        rotate_left
        · simp only [Act.put, List.setIfInBounds_toArray, List.set_cons_zero, List.set_cons_succ, i64_w, i32_w]
          rfl
        refine take_ (i := 1) (N := some 93) (v := ?_) (a' := ?_) #[true, true, false, false] rfl rfl (by kernel_rfl) (fun _ _ _ h => h) (Or.inl ⟨by rfl, ?_⟩) hHeld ?_ ?_
        rotate_left
        · rintro w' ⟨s0_, s1_, s2_, s3_, s4_, s5_, s6_⟩
          go_simp
          with_reducible rfl
        rotate_left
        · simp only [Act.put, List.setIfInBounds_toArray, List.set_cons_zero, List.set_cons_succ, i64_w, i32_w]
          rfl
        refine one_ (i := 2) (N := none) #[true, true, true, false] rfl rfl (by kernel_rfl) (by decide) (fun K hK => ?_)
        have z0 := (blk_cell H2.out 0).trans rfl; have z1 := (blk_cell H2.out 1).trans rfl; have z2 := (blk_cell H2.out 2).trans rfl; have z3 := (blk_cell H2.out 3).trans rfl; have z4 := (blk_cell H2.out 4).trans rfl; have zf0 := blk_frozen H2.out 0; have zf1 := blk_frozen H2.out 1; have zf2 := blk_frozen H2.out 2; have zf3 := blk_frozen H2.out 3; have zf4 := blk_frozen H2.out 4; have zl := blk_lt H2.out; 
        refine skip_ (w1 := ?_) (by rfl) rfl ?_ ?_
        rotate_left
        · go_simp
          rfl
        replace H1 := Aside0.mk (blk_far (p := ⟨gb, 0, none⟩) H1.out (show ga ≠ gb by have := HLT.out; omega) (.string a)); replace H3 := Aside0.mk (blk_far (p := ⟨gb, 0, none⟩) H3.out (show gc ≠ gb by have := HLT.out; omega) (.string a)); replace H5 := Aside0.mk (blk_far (p := ⟨gb, 0, none⟩) H5.out (show ge ≠ gb by have := HLT.out; omega) (.string a)); replace HO := Aside0.mk (Kd.R_set HO.out H2.out (by decide) 0 (.string a)); replace HB := Aside0.mk (below_set (j := 0) (v := .string a) HB.out (show w.heap.size ≤ gb by have := HLT.out; omega)); replace H2 := Aside0.mk (blk_put H2.out 0 (.string a) rfl); replace H1 := Aside0.mk (blk_far (p := ⟨gb, 1, none⟩) H1.out (show ga ≠ gb by have := HLT.out; omega) (.slice Av nv_ cv)); replace H3 := Aside0.mk (blk_far (p := ⟨gb, 1, none⟩) H3.out (show gc ≠ gb by have := HLT.out; omega) (.slice Av nv_ cv)); replace H5 := Aside0.mk (blk_far (p := ⟨gb, 1, none⟩) H5.out (show ge ≠ gb by have := HLT.out; omega) (.slice Av nv_ cv)); replace HO := Aside0.mk (Kd.R_set HO.out H2.out (by decide) 1 (.slice Av nv_ cv)); replace HB := Aside0.mk (below_set (j := 1) (v := .slice Av nv_ cv) HB.out (show w.heap.size ≤ gb by have := HLT.out; omega)); replace H2 := Aside0.mk (blk_put H2.out 1 (.slice Av nv_ cv) rfl); replace H1 := Aside0.mk (blk_far (p := ⟨gb, 2, none⟩) H1.out (show ga ≠ gb by have := HLT.out; omega) (.int .u32 f)); replace H3 := Aside0.mk (blk_far (p := ⟨gb, 2, none⟩) H3.out (show gc ≠ gb by have := HLT.out; omega) (.int .u32 f)); replace H5 := Aside0.mk (blk_far (p := ⟨gb, 2, none⟩) H5.out (show ge ≠ gb by have := HLT.out; omega) (.int .u32 f)); replace HO := Aside0.mk (Kd.R_set HO.out H2.out (by decide) 2 (.int .u32 f)); replace HB := Aside0.mk (below_set (j := 2) (v := .int .u32 f) HB.out (show w.heap.size ≤ gb by have := HLT.out; omega)); replace H2 := Aside0.mk (blk_put H2.out 2 (.int .u32 f) rfl); replace H1 := Aside0.mk (blk_far (p := ⟨gb, 3, none⟩) H1.out (show ga ≠ gb by have := HLT.out; omega) (.int .i64 r)); replace H3 := Aside0.mk (blk_far (p := ⟨gb, 3, none⟩) H3.out (show gc ≠ gb by have := HLT.out; omega) (.int .i64 r)); replace H5 := Aside0.mk (blk_far (p := ⟨gb, 3, none⟩) H5.out (show ge ≠ gb by have := HLT.out; omega) (.int .i64 r)); replace HO := Aside0.mk (Kd.R_set HO.out H2.out (by decide) 3 (.int .i64 r)); replace HB := Aside0.mk (below_set (j := 3) (v := .int .i64 r) HB.out (show w.heap.size ≤ gb by have := HLT.out; omega)); replace H2 := Aside0.mk (blk_put H2.out 3 (.int .i64 r) rfl); replace H1 := Aside0.mk (blk_far (p := ⟨gb, 4, none⟩) H1.out (show ga ≠ gb by have := HLT.out; omega) (.int .i64 p)); replace H3 := Aside0.mk (blk_far (p := ⟨gb, 4, none⟩) H3.out (show gc ≠ gb by have := HLT.out; omega) (.int .i64 p)); replace H5 := Aside0.mk (blk_far (p := ⟨gb, 4, none⟩) H5.out (show ge ≠ gb by have := HLT.out; omega) (.int .i64 p)); replace HO := Aside0.mk (Kd.R_set HO.out H2.out (by decide) 4 (.int .i64 p)); replace HB := Aside0.mk (below_set (j := 4) (v := .int .i64 p) HB.out (show w.heap.size ≤ gb by have := HLT.out; omega)); replace H2 := Aside0.mk (blk_put H2.out 4 (.int .i64 p) rfl); (try clear z0 zf0 z1 zf1 z2 zf2 z3 zf3 z4 zf4); (try clear zl); 
        refine hK.out _ _ ⟨(blk_cell H5.out 0).trans rfl, (blk_cell H5.out 1).trans rfl, (blk_cell H5.out 2).trans rfl, (blk_cell H5.out 3).trans rfl, (blk_cell H5.out 4).trans rfl, (blk_cell H1.out 0).trans rfl, (blk_cell H1.out 1).trans rfl⟩ (fun hHeld => ?_)
        clear hK K
        refine one_ (i := 3) (N := none) #[true, true, true, true] rfl rfl (by kernel_rfl) (by decide) (fun K hK => ?_)
        have y0 := (blk_cell H3.out 0).trans rfl; have y1 := (blk_cell H3.out 1).trans rfl; have yf0 := blk_frozen H3.out 0; have yf1 := blk_frozen H3.out 1; have yl := blk_lt H3.out; 
        refine skip_ (w1 := ?_) (by rfl) rfl ?_ ?_
        rotate_left
        · go_simp
          rfl
        replace H1 := Aside0.mk (far2 H1.out (show ga ≠ gc by have := HLT.out; omega) (.string (strOfNums s6.1)) (.bool s6.2)); replace H2 := Aside0.mk (far2 H2.out (show gb ≠ gc by have := HLT.out; omega) (.string (strOfNums s6.1)) (.bool s6.2)); replace H5 := Aside0.mk (far2 H5.out (show ge ≠ gc by have := HLT.out; omega) (.string (strOfNums s6.1)) (.bool s6.2)); replace HO := Aside0.mk (row2 HO.out H3.out (by decide) (.string (strOfNums s6.1)) (.bool s6.2)); replace HB := Aside0.mk (below2 (u := .string (strOfNums s6.1)) (v := .bool s6.2) HB.out (show w.heap.size ≤ gc by have := HLT.out; omega)); replace H3 := Aside0.mk (put2 H3.out (.string (strOfNums s6.1)) (.bool s6.2)); (try clear y0 yf0 y1 yf1); (try clear yl); 
        refine hK.out _ _ ⟨(blk_cell H5.out 0).trans rfl, (blk_cell H5.out 1).trans rfl, (blk_cell H5.out 2).trans rfl, (blk_cell H5.out 3).trans rfl, (blk_cell H5.out 4).trans rfl, (blk_cell H1.out 0).trans rfl, (blk_cell H1.out 1).trans rfl⟩ (fun hHeld => ?_)
        clear hK K
        refine done_ (by kernel_rfl) ?_
        try go_wp2
        refine bodyPost_ret (results_cc rfl _ _ gb gc 84 159 #[.string a, .slice Av nv_ cv, .int .u32 f, .int .i64 r, .int .i64 p] #[.string (strOfNums s6.1), .bool s6.2] (0, 0) (0, 0) _ _ rfl H2.out Try.underlying84 rfl (by kernel_rfl) rfl H3.out Try.underlying159 rfl (by kernel_rfl)) rfl ?_
        exact ⟨_, _, _, rfl, Kd.R_mono HO.out (fun _ _ => trivial), HB.out⟩
end Go.Proofs.Ytpfegfkniilobaa.Rr
namespace Go.Proofs.Ytpfegfkniilobaa.Rr
open Go.RowKit Go.Proofs.YtpfegfkniilobaaW.PrintWords Go.Proofs.YtpfegfkniilobaaW.PrintLast Go.Proofs.YtpfegfkniilobaaW.PrintMore
open Go.Proofs.Ytpfegfkniilobaa.XSchema Go.Proofs.Ytpfegfkniilobaa.PureS
open Go.Proofs.Ytpfegfkniilobaa.Tk (St nv By nv_lt By.take mod8 mod32 row_grown)
set_option linter.unusedVariables false
set_option linter.unusedSimpArgs false
set_option maxRecDepth 100000
def rns (m : Int) : Nat → List Int → St → List Int × St
  | 0, cs, s => (cs, s)
  | n + 1, cs, s => if s.2 = true then (cs, s) else rns m n (cs ++ [(rnb m s).1]) (rnb m s).2
theorem rns_bad (m : Int) : ∀ (n : Nat) (cs : List Int) (s : St), s.2 = true → rns m n cs s = (cs, s)
  | 0, _, _, _ => rfl
  | n + 1, cs, s, h => by rw [rns, if_pos h]
def ridxD (n : Nat) (c : List Int × St) : List Int × St := rns 4 n [] (rnb 4 (rnb 4 (rnb 4 c.2).2).2).2
def ridxF (a : ByteArray) (t : Int) (c d : List Int × St) : S135 × St := (⟨a, t, c.1, (rnb 4 c.2).1, (rnb 4 (rnb 4 c.2).2).1, (rnb 4 (rnb 4 (rnb 4 c.2).2).2).1, d.1⟩, d.2)
def ridxG (a : ByteArray) (t : Int) (n : Nat) (c : List Int × St) : S135 × St := ridxF a t c (ridxD n c)
def ridx (s : St) : S135 × St := ridxG (rtx s).1 (rnb 1 (rtx s).2).1 (rnb 1 (rnb 1 (rtx s).2).2).1.toNat (rns 1 (rnb 1 (rnb 1 (rtx s).2).2).1.toNat [] (rnb 1 (rnb 1 (rtx s).2).2).2)
theorem sz2 {gq g : Nat} {w : World} {u v : Value} {o : Obj} (h : gq ≤ w.heap.size) : gq ≤ (((w.setCell ⟨g, 0, none⟩ u).setCell ⟨g, 1, none⟩ v).alloc o).heap.size := by simp; omega
theorem number_f {s s1 : St} {a n : Int} (w : World) (hf : s.2 = false) (h : St.ok s) (h0 : 0 ≤ n) (hn : n ≤ 4) (e : rnb n s = (a, s1)) : Calls Try.prog 77 #[.agg #[.string (strOfNums s.1), .bool false], .int .i64 n] w fun en w' => en = .returned (.tuple #[.int .i64 a, .agg #[.string (strOfNums s1.1), .bool s1.2]]) ∧ Below w.heap.size w w' := by
  have := number_r w h h0 hn e
  rwa [hf] at this
set_option maxHeartbeats 16000000 in
theorem index_r (w : World) (s : St) (h : St.ok s) (t : S135) (sf : St) (e : ridx s = (t, sf)) :
    Calls Try.prog 79 #[.agg #[.string (strOfNums s.1), .bool s.2]] w fun en w' => ∃ A n c B m d, en = .returned (.tuple #[.agg #[.string t.f0, .int .i64 t.f1, .slice A n c, .int .u32 t.f3, .int .i64 t.f4, .int .i64 t.f5, .slice B m d], .agg #[.string (strOfNums sf.1), .bool sf.2]]) ∧ Kd.R (Kd.int .i64) 3 w' w.heap.size (fun _ => True) (.slice A n c) t.f2 ∧ Kd.R (Kd.int .i64) 3 w' w.heap.size (fun _ => True) (.slice B m d) t.f6 ∧ Below w.heap.size w w' := by
  obtain ⟨a, s1, e1⟩ : ∃ a s1, rtx s = (a, s1) := ⟨_, _, rfl⟩
  obtain ⟨tn, s2, e2⟩ : ∃ n s2, rnb 1 s1 = (n, s2) := ⟨_, _, rfl⟩
  obtain ⟨n, s3, e3⟩ : ∃ n s3, rnb 1 s2 = (n, s3) := ⟨_, _, rfl⟩
  have o1 : St.ok s1 := by have := rtx_ok h; rwa [e1] at this
  have o2 : St.ok s2 := by have := rnb_ok o1 1; rwa [e2] at this
  have o3 : St.ok s3 := by have := rnb_ok o2 1; rwa [e3] at this
  have hn := rn1_in o2
  rw [e3] at hn
  simp only at hn
  obtain ⟨C, s4, e4⟩ : ∃ C s4, rns 1 n.toNat [] s3 = (C, s4) := ⟨_, _, rfl⟩
  obtain ⟨f, s5, e5⟩ : ∃ f s5, rnb 4 s4 = (f, s5) := ⟨_, _, rfl⟩
  obtain ⟨r, s6, e6⟩ : ∃ r s6, rnb 4 s5 = (r, s6) := ⟨_, _, rfl⟩
  obtain ⟨p, s7, e7⟩ : ∃ p s7, rnb 4 s6 = (p, s7) := ⟨_, _, rfl⟩
  obtain ⟨D, s8, e8⟩ : ∃ C s3, rns 4 n.toNat [] s7 = (C, s3) := ⟨_, _, rfl⟩
  have e' : ridx s = (⟨a, tn, C, f, r, p, D⟩, s8) := by simp only [ridx, ridxG, ridxF, ridxD, e1, e2, e3, e4, e5, e6, e7, e8]
  rw [e'] at e
  injection e with ea eb
  subst ea eb
  have HE := Aside0.mk (And.intro e1 (And.intro e2 (And.intro e3 (And.intro e4 (And.intro e5 (And.intro e6 (And.intro e7 e8)))))))
  have HOK := Aside0.mk (And.intro h (And.intro o1 (And.intro o2 o3)))
  have HN := Aside0.mk hn
  have hn0 := hn.1
  have HB := Aside0.mk (below_alloc (below_alloc (below_alloc (Below.refl w.heap.size w) (.cells #[.string (strOfNums s.1), .bool s.2] 159)) (.cells #[.string ⟨#[]⟩, .int .i64 0, .slice none 0 0, .int .u32 0, .int .i64 0, .int .i64 0, .slice none 0 0] 135)) (.cells #[.string ⟨#[]⟩, .bool false] 159))
  have H1 := Aside0.mk (blk_alloc (blk_alloc (blk_new w (.cells #[.string (strOfNums s.1), .bool s.2] 159)) (.cells #[.string ⟨#[]⟩, .int .i64 0, .slice none 0 0, .int .u32 0, .int .i64 0, .int .i64 0, .slice none 0 0] 135)) (.cells #[.string ⟨#[]⟩, .bool false] 159))
  have H2 := Aside0.mk (blk_alloc (blk_new (w.alloc (.cells #[.string (strOfNums s.1), .bool s.2] 159)) (.cells #[.string ⟨#[]⟩, .int .i64 0, .slice none 0 0, .int .u32 0, .int .i64 0, .int .i64 0, .slice none 0 0] 135)) (.cells #[.string ⟨#[]⟩, .bool false] 159))
  have H3 := Aside0.mk (blk_new ((w.alloc (.cells #[.string (strOfNums s.1), .bool s.2] 159)).alloc (.cells #[.string ⟨#[]⟩, .int .i64 0, .slice none 0 0, .int .u32 0, .int .i64 0, .int .i64 0, .slice none 0 0] 135)) (.cells #[.string ⟨#[]⟩, .bool false] 159))
  have s1_ : (w.alloc (.cells #[.string (strOfNums s.1), .bool s.2] 159)).heap.size = w.heap.size + 1 := by simp
  have s2_ : ((w.alloc (.cells #[.string (strOfNums s.1), .bool s.2] 159)).alloc (.cells #[.string ⟨#[]⟩, .int .i64 0, .slice none 0 0, .int .u32 0, .int .i64 0, .int .i64 0, .slice none 0 0] 135)).heap.size = w.heap.size + 1 + 1 := by simp
  rw [s1_] at H2
  rw [s2_] at H3
  have HLT := Aside0.mk (show w.heap.size ≤ w.heap.size ∧ w.heap.size < w.heap.size + 1 ∧ w.heap.size + 1 < w.heap.size + 1 + 1 by omega)
  clear h e' e1 e2 e3 e4 e5 e6 e7 e8 o1 o2 o3 hn s1_ s2_
  go_enter Try.func79, Try.ntmps79
  go_upto_region 1 with fail
  generalize ((w.alloc (.cells #[.string (strOfNums s.1), .bool s.2] 159)).alloc (.cells #[.string ⟨#[]⟩, .int .i64 0, .slice none 0 0, .int .u32 0, .int .i64 0, .int .i64 0, .slice none 0 0] 135)).alloc (.cells #[.string ⟨#[]⟩, .bool false] 159) = w1 at HB H1 H2 H3 ⊢
  generalize w.heap.size + 1 + 1 = gc at H3 HLT ⊢
  generalize w.heap.size + 1 = gb at H2 HLT ⊢
  obtain ⟨ga, hga⟩ : ∃ ga, w.heap.size = ga := ⟨_, rfl⟩
  replace HLT : Aside0 (w.heap.size ≤ ga ∧ ga < gb ∧ gb < gc) := ⟨by rw [← hga]; exact HLT.out⟩
  rw [hga] at H1
  simp only [hga]
  clear hga
  have a0 := (blk_cell H1.out 0).trans rfl; have a1 := (blk_cell H1.out 1).trans rfl; have af0 := blk_frozen H1.out 0; have af1 := blk_frozen H1.out 1; have al := blk_lt H1.out; 
  go_wp2_with (first
    | (go_at_call 105; (with_reducible refine (text_r _ HOK.out.1 HE.out.1).mono ?_); rintro en wa ⟨rfl, hb_⟩; (try clear a0 af0 a1 af1); (try clear al); replace HB := Aside0.mk (below_then HB.out HB.out.size hb_); replace H1 := Aside0.mk (blk_below H1.out hb_); replace H2 := Aside0.mk (blk_below H2.out hb_); replace H3 := Aside0.mk (blk_below H3.out hb_); clear hb_; have a0 := (blk_cell H1.out 0).trans rfl; have a1 := (blk_cell H1.out 1).trans rfl; have af0 := blk_frozen H1.out 0; have af1 := blk_frozen H1.out 1; have al := blk_lt H1.out; )
    | (go_at_call 77; (try clear a0 af0 a1 af1); (try clear al); replace H2 := Aside0.mk (far2 H2.out (show gb ≠ ga by have := HLT.out; omega) (.string (strOfNums s1.1)) (.bool s1.2)); replace H3 := Aside0.mk (far2 H3.out (show gc ≠ ga by have := HLT.out; omega) (.string (strOfNums s1.1)) (.bool s1.2)); replace HB := Aside0.mk (below2 (u := .string (strOfNums s1.1)) (v := .bool s1.2) HB.out (show w.heap.size ≤ ga by have := HLT.out; omega)); replace H1 := Aside0.mk (put2 H1.out (.string (strOfNums s1.1)) (.bool s1.2)); (with_reducible refine (number_r _ HOK.out.2.1 (by decide) (by decide) HE.out.2.1).mono ?_); rintro en wa ⟨rfl, hb_⟩; (try clear a0 af0 a1 af1); (try clear al); replace HB := Aside0.mk (below_then HB.out HB.out.size hb_); replace H1 := Aside0.mk (blk_below H1.out hb_); replace H2 := Aside0.mk (blk_below H2.out hb_); replace H3 := Aside0.mk (blk_below H3.out hb_); clear hb_; have a0 := (blk_cell H1.out 0).trans rfl; have a1 := (blk_cell H1.out 1).trans rfl; have af0 := blk_frozen H1.out 0; have af1 := blk_frozen H1.out 1; have al := blk_lt H1.out; )
    | (go_at_call 77; (try clear a0 af0 a1 af1); (try clear al); (have hl_ := blk_lt H3.out); replace H2 := Aside0.mk (far2 H2.out (show gb ≠ ga by have := HLT.out; omega) (.string (strOfNums s2.1)) (.bool s2.2)); replace H3 := Aside0.mk (far2 H3.out (show gc ≠ ga by have := HLT.out; omega) (.string (strOfNums s2.1)) (.bool s2.2)); replace HB := Aside0.mk (below2 (u := .string (strOfNums s2.1)) (v := .bool s2.2) HB.out (show w.heap.size ≤ ga by have := HLT.out; omega)); replace H1 := Aside0.mk (put2 H1.out (.string (strOfNums s2.1)) (.bool s2.2)); (have H6 := Aside0.mk (new2 wa ga (.string (strOfNums s2.1)) (.bool s2.2) (.cells #[.string a, .int .i64 tn, .slice none 0 0, .int .u32 0, .int .i64 0, .int .i64 0, .slice none 0 0] 135))); replace H1 := Aside0.mk (blk_alloc H1.out (.cells #[.string a, .int .i64 tn, .slice none 0 0, .int .u32 0, .int .i64 0, .int .i64 0, .slice none 0 0] 135)); replace H2 := Aside0.mk (blk_alloc H2.out (.cells #[.string a, .int .i64 tn, .slice none 0 0, .int .u32 0, .int .i64 0, .int .i64 0, .slice none 0 0] 135)); replace H3 := Aside0.mk (blk_alloc H3.out (.cells #[.string a, .int .i64 tn, .slice none 0 0, .int .u32 0, .int .i64 0, .int .i64 0, .slice none 0 0] 135)); replace HB := Aside0.mk (below_alloc HB.out (.cells #[.string a, .int .i64 tn, .slice none 0 0, .int .u32 0, .int .i64 0, .int .i64 0, .slice none 0 0] 135)); (with_reducible refine (number_r _ HOK.out.2.2.1 (by decide) (by decide) HE.out.2.2.1).mono ?_); rintro en wb ⟨rfl, hb_⟩; replace HB := Aside0.mk (below_then HB.out HB.out.size hb_); replace H1 := Aside0.mk (blk_below H1.out hb_); replace H2 := Aside0.mk (blk_below H2.out hb_); replace H3 := Aside0.mk (blk_below H3.out hb_); replace H6 := Aside0.mk (blk_below H6.out hb_); clear hb_; generalize wa.heap.size = ge at H6 hl_ ⊢; replace HLT := Aside0.mk (And.intro HLT.out hl_); clear hl_; have a0 := (blk_cell H1.out 0).trans rfl; have a1 := (blk_cell H1.out 1).trans rfl; have af0 := blk_frozen H1.out 0; have af1 := blk_frozen H1.out 1; have al := blk_lt H1.out; have h0 := (blk_cell H6.out 0).trans rfl; have h1 := (blk_cell H6.out 1).trans rfl; have h2 := (blk_cell H6.out 2).trans rfl; have h3 := (blk_cell H6.out 3).trans rfl; have h4 := (blk_cell H6.out 4).trans rfl; have h5 := (blk_cell H6.out 5).trans rfl; have h6 := (blk_cell H6.out 6).trans rfl; have hf0 := blk_frozen H6.out 0; have hf1 := blk_frozen H6.out 1; have hf2 := blk_frozen H6.out 2; have hf3 := blk_frozen H6.out 3; have hf4 := blk_frozen H6.out 4; have hf5 := blk_frozen H6.out 5; have hf6 := blk_frozen H6.out 6; have hl := blk_lt H6.out; ))
  (try clear a0 af0 a1 af1); (try clear al); (try clear h0 hf0 h1 hf1 h2 hf2 h3 hf3 h4 hf4 h5 hf5 h6 hf6); (try clear hl); 
  have hn5 : ga ≠ ge := by have := HLT.out; omega
  have hn6 : ge ≠ ga := by have := HLT.out; omega
  go_loopg [8] n.toNat (fun kq v8 w' => ∃ (i : Nat) (cs : List Int) (sq : St) (v : Value), v8 = .int .i64 (i : Int) ∧ Aside0 (kq + i = n.toNat) ∧ Aside0 (rns 1 kq cs sq = (C, s4)) ∧ Aside0 (cs.length ≤ i) ∧ Aside0 (St.ok sq) ∧ Aside0 (Kd.R (Kd.int .i64) 3 w' w.heap.size (fun k => w.heap.size ≤ k) v cs) ∧ Aside0 (Below w.heap.size w w') ∧ Aside0 (w'.heap[ga]? = some (.cells #[.string (strOfNums sq.1), .bool sq.2] 159 (0, 0))) ∧ Aside0 (w'.heap[gb]? = some (.cells #[.string ⟨#[]⟩, .int .i64 0, .slice none 0 0, .int .u32 0, .int .i64 0, .int .i64 0, .slice none 0 0] 135 (0, 0))) ∧ Aside0 (w'.heap[gc]? = some (.cells #[.string ⟨#[]⟩, .bool false] 159 (0, 0))) ∧ Aside0 (w'.heap[ge]? = some (.cells #[.string a, .int .i64 tn, v, .int .u32 0, .int .i64 0, .int .i64 0, .slice none 0 0] 135 (0, 0))))
  case atStart =>
    replace H2 := Aside0.mk (far2 H2.out (show gb ≠ ga by have := HLT.out; omega) (.string (strOfNums s3.1)) (.bool s3.2)); replace H3 := Aside0.mk (far2 H3.out (show gc ≠ ga by have := HLT.out; omega) (.string (strOfNums s3.1)) (.bool s3.2)); replace H6 := Aside0.mk (far2 H6.out (show ge ≠ ga by have := HLT.out; omega) (.string (strOfNums s3.1)) (.bool s3.2)); replace HB := Aside0.mk (below2 (u := .string (strOfNums s3.1)) (v := .bool s3.2) HB.out (show w.heap.size ≤ ga by have := HLT.out; omega)); replace H1 := Aside0.mk (put2 H1.out (.string (strOfNums s3.1)) (.bool s3.2)); 
    exact ⟨0, [], s3, _, rfl, ⟨by omega⟩, ⟨HE.out.2.2.2.1⟩, ⟨by simp⟩, ⟨HOK.out.2.2.2⟩, ⟨Kd.R_nil _ _ _ _ _⟩, HB, H1, H2, H3, H6⟩
  case round =>
    clear HB H1 H2 H3 H6
    obtain ⟨i, cs, sq, v, rfl, HJ, HQ, HCL, HSQ, HO, HB, H1, H2, H3, H6⟩ := hrel
    obtain ⟨Av, cv, ev⟩ := Kd.R_slice HO.out
    generalize List.length _ = nv_ at ev
    subst ev
    by_cases c5 : (i : Int) < n ∧ sq.2 = false
    · obtain ⟨c5, c6⟩ := c5
      have c1 : decide ((i : Int) < n) = true := decide_eq_true c5
      obtain ⟨k1, hk1⟩ : ∃ k1, gk = k1 + 1 := ⟨gk - 1, by have := HJ.out; omega⟩
      obtain ⟨k, t1, e1⟩ : ∃ n s2, rnb 1 sq = (n, s2) := ⟨_, _, rfl⟩
      have o1 : St.ok t1 := by have := rnb_ok HSQ.out 1; rwa [e1] at this
      have hq := HQ.out
      rw [hk1, rns, if_neg (by rw [c6]; decide), e1] at hq
      simp only at hq
      have HER := Aside0.mk e1
      have HERO := Aside0.mk o1
      have HC6 := Aside0.mk c6
      have HQ1 := Aside0.mk (And.intro hk1 (And.intro hq c5))
      clear e1 o1 hk1 hq c5 HQ
      have a0 := (blk_cell H1.out 0).trans rfl; have a1 := (blk_cell H1.out 1).trans rfl; have af0 := blk_frozen H1.out 0; have af1 := blk_frozen H1.out 1; have al := blk_lt H1.out; have h0 := (blk_cell H6.out 0).trans rfl; have h1 := (blk_cell H6.out 1).trans rfl; have h2 := (blk_cell H6.out 2).trans rfl; have h3 := (blk_cell H6.out 3).trans rfl; have h4 := (blk_cell H6.out 4).trans rfl; have h5 := (blk_cell H6.out 5).trans rfl; have h6 := (blk_cell H6.out 6).trans rfl; have hf0 := blk_frozen H6.out 0; have hf1 := blk_frozen H6.out 1; have hf2 := blk_frozen H6.out 2; have hf3 := blk_frozen H6.out 3; have hf4 := blk_frozen H6.out 4; have hf5 := blk_frozen H6.out 5; have hf6 := blk_frozen H6.out 6; have hl := blk_lt H6.out; 
      go_wp2_with (first
        | (go_at_call 77; (with_reducible refine (number_f _ HC6.out HSQ.out (by decide) (by decide) HER.out).mono ?_); rintro en wa ⟨rfl, hb_⟩; (try clear a0 af0 a1 af1); (try clear al); (try clear h0 hf0 h1 hf1 h2 hf2 h3 hf3 h4 hf4 h5 hf5 h6 hf6); (try clear hl); replace HB := Aside0.mk (below_then HB.out HB.out.size hb_); replace H1 := Aside0.mk (blk_below H1.out hb_); replace H2 := Aside0.mk (blk_below H2.out hb_); replace H3 := Aside0.mk (blk_below H3.out hb_); replace H6 := Aside0.mk (blk_below H6.out hb_); replace HO := Aside0.mk (Kd.R_below HO.out hb_); clear hb_; have a0 := (blk_cell H1.out 0).trans rfl; have a1 := (blk_cell H1.out 1).trans rfl; have af0 := blk_frozen H1.out 0; have af1 := blk_frozen H1.out 1; have al := blk_lt H1.out; have h0 := (blk_cell H6.out 0).trans rfl; have h1 := (blk_cell H6.out 1).trans rfl; have h2 := (blk_cell H6.out 2).trans rfl; have h3 := (blk_cell H6.out 3).trans rfl; have h4 := (blk_cell H6.out 4).trans rfl; have h5 := (blk_cell H6.out 5).trans rfl; have h6 := (blk_cell H6.out 6).trans rfl; have hf0 := blk_frozen H6.out 0; have hf1 := blk_frozen H6.out 1; have hf2 := blk_frozen H6.out 2; have hf3 := blk_frozen H6.out 3; have hf4 := blk_frozen H6.out 4; have hf5 := blk_frozen H6.out 5; have hf6 := blk_frozen H6.out 6; have hl := blk_lt H6.out; )
        | ((with_reducible refine gate_builtin (b := .append) (xs := #[.tmp 52, .tmp 54]) rfl ?_); (try clear a0 af0 a1 af1); (try clear al); (try clear h0 hf0 h1 hf1 h2 hf2 h3 hf3 h4 hf4 h5 hf5 h6 hf6); (try clear hl); replace H2 := Aside0.mk (far2 H2.out (show gb ≠ ga by have := HLT.out; omega) (.string (strOfNums t1.1)) (.bool t1.2)); replace H3 := Aside0.mk (far2 H3.out (show gc ≠ ga by have := HLT.out; omega) (.string (strOfNums t1.1)) (.bool t1.2)); replace H6 := Aside0.mk (far2 H6.out (show ge ≠ ga by have := HLT.out; omega) (.string (strOfNums t1.1)) (.bool t1.2)); replace HO := Aside0.mk (row2 HO.out H1.out (by decide) (.string (strOfNums t1.1)) (.bool t1.2)); replace HB := Aside0.mk (below2 (u := .string (strOfNums t1.1)) (v := .bool t1.2) HB.out (show w.heap.size ≤ ga by have := HLT.out; omega)); replace H1 := Aside0.mk (put2 H1.out (.string (strOfNums t1.1)) (.bool t1.2)); replace H1 := Aside0.mk (blk_alloc H1.out (.cells #[.string (strOfNums t1.1), .bool t1.2] 159)); replace H2 := Aside0.mk (blk_alloc H2.out (.cells #[.string (strOfNums t1.1), .bool t1.2] 159)); replace H3 := Aside0.mk (blk_alloc H3.out (.cells #[.string (strOfNums t1.1), .bool t1.2] 159)); replace H6 := Aside0.mk (blk_alloc H6.out (.cells #[.string (strOfNums t1.1), .bool t1.2] 159)); replace HO := Aside0.mk (Kd.R_alloc HO.out (.cells #[.string (strOfNums t1.1), .bool t1.2] 159)); replace HB := Aside0.mk (below_alloc HB.out (.cells #[.string (strOfNums t1.1), .bool t1.2] 159)); at_builtin; refine Kd.R_append (Kd.int .i64) (w0 := w) w.heap.size rfl (.tmp 52) (.tmp 54) 74 3 (.int .i64 0) 8 rfl Try.underlying74 XSchema.info3 rfl (by decide) (by omega) (.slice Av nv_ cv) cs k [.int .i64 k] (fun k => w.heap.size ≤ k) (fun _ => False) rfl (by first | (go_simp; done) | (go_simp; rfl)) ?aP (fun _ hk => hk.elim) ?aF ?aO ?aB ?aS ?aL ?_; (case aP => exact rfl); (case aF => exact (fun k hk => Nat.le_trans HB.out.size hk)); (case aO => exact HO.out); (case aB => exact HB.out); (case aS => exact HB.out.size); (case aL => have h1 := HCL.out; have h2 := HQ1.out.2.2; have h3 := HN.out; omega); intro v6 w6 ho hb hg_ hat; (obtain ⟨A6, c6, e6⟩ := Kd.R_slice ho); generalize List.length _ = nn at e6; subst e6; replace H1 := Aside0.mk (blk_grown H1.out hg_ (Kd.R_ne HO.out H1.out (by decide))); replace H2 := Aside0.mk (blk_grown H2.out hg_ (Kd.R_ne HO.out H2.out (by decide))); replace H3 := Aside0.mk (blk_grown H3.out hg_ (Kd.R_ne HO.out H3.out (by decide))); replace H6 := Aside0.mk (blk_grown H6.out hg_ (Kd.R_ne HO.out H6.out (by decide))); replace HB := Aside0.mk hb; replace HO := Aside0.mk ho; clear ho hb hg_ hat; have h0 := (blk_cell H6.out 0).trans rfl; have h1 := (blk_cell H6.out 1).trans rfl; have h2 := (blk_cell H6.out 2).trans rfl; have h3 := (blk_cell H6.out 3).trans rfl; have h4 := (blk_cell H6.out 4).trans rfl; have h5 := (blk_cell H6.out 5).trans rfl; have h6 := (blk_cell H6.out 6).trans rfl; have hf0 := blk_frozen H6.out 0; have hf1 := blk_frozen H6.out 1; have hf2 := blk_frozen H6.out 2; have hf3 := blk_frozen H6.out 3; have hf4 := blk_frozen H6.out 4; have hf5 := blk_frozen H6.out 5; have hf6 := blk_frozen H6.out 6; have hl := blk_lt H6.out; ))
      go_roundg k1
      case measure => have := HQ1.out.1; omega
      case rel =>
        have h1 := HJ.out
        have h2 := HQ1.out
        have h3 := HCL.out
        replace H1 := Aside0.mk (blk_far (p := ⟨ge, 2, none⟩) H1.out (show ga ≠ ge by have := HLT.out; omega) (.slice A6 nn c6)); replace H2 := Aside0.mk (blk_far (p := ⟨ge, 2, none⟩) H2.out (show gb ≠ ge by have := HLT.out; omega) (.slice A6 nn c6)); replace H3 := Aside0.mk (blk_far (p := ⟨ge, 2, none⟩) H3.out (show gc ≠ ge by have := HLT.out; omega) (.slice A6 nn c6)); replace HO := Aside0.mk (Kd.R_set HO.out H6.out (by decide) 2 (.slice A6 nn c6)); replace HB := Aside0.mk (below_set (j := 2) (v := .slice A6 nn c6) HB.out (show w.heap.size ≤ ge by have := HLT.out; omega)); replace H6 := Aside0.mk (blk_put H6.out 2 (.slice A6 nn c6) rfl); 
        exact ⟨i + 1, cs ++ [k], t1, .slice A6 nn c6, by first | rfl | (rw [Tk.wr_in ((i : Int) + 1) (by have := HN.out; omega)]; rfl), ⟨by omega⟩, ⟨h2.2.1⟩, ⟨by rw [List.length_append, List.length_singleton]; omega⟩, ⟨HERO.out⟩, HO, HB, H1, H2, H3, H6⟩
    · have hz : C = cs ∧ s4 = sq := by
        have hq := HQ.out
        rcases Nat.eq_zero_or_pos gk with h0 | h0
        · rw [h0, rns] at hq
          injection hq with hq1 hq2
          exact ⟨hq1.symm, hq2.symm⟩
        · rw [rns_bad 1 gk cs sq (by
            cases hb : sq.2
            · exact absurd ⟨(by have := HJ.out; omega), hb⟩ c5
            · rfl)] at hq
          injection hq with hq1 hq2
          exact ⟨hq1.symm, hq2.symm⟩
      obtain ⟨rfl, rfl⟩ := hz
      have c9 : (decide ((i : Int) < n) = true ∧ s4.2 = true) ∨ decide ((i : Int) < n) = false := by
        by_cases h : (i : Int) < n
        · exact .inl ⟨decide_eq_true h, by cases hb : s4.2; exact absurd ⟨h, hb⟩ c5; rfl⟩
        · exact .inr (decide_eq_false h)
      clear c5 HQ
      have hf := rn4_in HSQ.out
      rw [HE.out.2.2.2.2.1] at hf
      simp only at hf
      have hfm := mod32 f hf
      have hfu : IntKind.u32.wrap f = f := by show f % 4294967296 = f; exact hfm
      have o5 : St.ok s5 := by have := rnb_ok HSQ.out 4; rwa [HE.out.2.2.2.2.1] at this
      have o6 : St.ok s6 := by have := rnb_ok o5 4; rwa [HE.out.2.2.2.2.2.1] at this
      have o7 : St.ok s7 := by have := rnb_ok o6 4; rwa [HE.out.2.2.2.2.2.2.1] at this
      have HOK2 := Aside0.mk (And.intro o5 (And.intro o6 o7))
      clear hf o5 o6 o7
      obtain ⟨rfl, _⟩ := Kd.R_reads' HO.out
      have a0 := (blk_cell H1.out 0).trans rfl; have a1 := (blk_cell H1.out 1).trans rfl; have af0 := blk_frozen H1.out 0; have af1 := blk_frozen H1.out 1; have al := blk_lt H1.out; have h0 := (blk_cell H6.out 0).trans rfl; have h1 := (blk_cell H6.out 1).trans rfl; have h2 := (blk_cell H6.out 2).trans rfl; have h3 := (blk_cell H6.out 3).trans rfl; have h4 := (blk_cell H6.out 4).trans rfl; have h5 := (blk_cell H6.out 5).trans rfl; have h6 := (blk_cell H6.out 6).trans rfl; have hf0 := blk_frozen H6.out 0; have hf1 := blk_frozen H6.out 1; have hf2 := blk_frozen H6.out 2; have hf3 := blk_frozen H6.out 3; have hf4 := blk_frozen H6.out 4; have hf5 := blk_frozen H6.out 5; have hf6 := blk_frozen H6.out 6; have hl := blk_lt H6.out; 
      rcases c9 with ⟨c1, c6⟩ | c1
      all_goals
        go_upto_region 11 with fail
        (try clear c6)
        clear c1
        go_wp2_with (first
          | (go_at_call 77; (with_reducible refine (number_r _ HSQ.out (by decide) (by decide) HE.out.2.2.2.2.1).mono ?_); rintro en wa ⟨rfl, hb_⟩; (try clear a0 af0 a1 af1); (try clear al); (try clear h0 hf0 h1 hf1 h2 hf2 h3 hf3 h4 hf4 h5 hf5 h6 hf6); (try clear hl); replace HB := Aside0.mk (below_then HB.out HB.out.size hb_); replace H1 := Aside0.mk (blk_below H1.out hb_); replace H2 := Aside0.mk (blk_below H2.out hb_); replace H3 := Aside0.mk (blk_below H3.out hb_); replace H6 := Aside0.mk (blk_below H6.out hb_); replace HO := Aside0.mk (Kd.R_below HO.out hb_); clear hb_; have a0 := (blk_cell H1.out 0).trans rfl; have a1 := (blk_cell H1.out 1).trans rfl; have af0 := blk_frozen H1.out 0; have af1 := blk_frozen H1.out 1; have al := blk_lt H1.out; have h0 := (blk_cell H6.out 0).trans rfl; have h1 := (blk_cell H6.out 1).trans rfl; have h2 := (blk_cell H6.out 2).trans rfl; have h3 := (blk_cell H6.out 3).trans rfl; have h4 := (blk_cell H6.out 4).trans rfl; have h5 := (blk_cell H6.out 5).trans rfl; have h6 := (blk_cell H6.out 6).trans rfl; have hf0 := blk_frozen H6.out 0; have hf1 := blk_frozen H6.out 1; have hf2 := blk_frozen H6.out 2; have hf3 := blk_frozen H6.out 3; have hf4 := blk_frozen H6.out 4; have hf5 := blk_frozen H6.out 5; have hf6 := blk_frozen H6.out 6; have hl := blk_lt H6.out; )
          | (go_at_call 77; (try clear a0 af0 a1 af1); (try clear al); (try clear h0 hf0 h1 hf1 h2 hf2 h3 hf3 h4 hf4 h5 hf5 h6 hf6); (try clear hl); replace H2 := Aside0.mk (far2 H2.out (show gb ≠ ga by have := HLT.out; omega) (.string (strOfNums s5.1)) (.bool s5.2)); replace H3 := Aside0.mk (far2 H3.out (show gc ≠ ga by have := HLT.out; omega) (.string (strOfNums s5.1)) (.bool s5.2)); replace H6 := Aside0.mk (far2 H6.out (show ge ≠ ga by have := HLT.out; omega) (.string (strOfNums s5.1)) (.bool s5.2)); replace HO := Aside0.mk (row2 HO.out H1.out (by decide) (.string (strOfNums s5.1)) (.bool s5.2)); replace HB := Aside0.mk (below2 (u := .string (strOfNums s5.1)) (v := .bool s5.2) HB.out (show w.heap.size ≤ ga by have := HLT.out; omega)); replace H1 := Aside0.mk (put2 H1.out (.string (strOfNums s5.1)) (.bool s5.2)); (with_reducible refine (number_r _ HOK2.out.1 (by decide) (by decide) HE.out.2.2.2.2.2.1).mono ?_); rintro en wa ⟨rfl, hb_⟩; (try clear a0 af0 a1 af1); (try clear al); (try clear h0 hf0 h1 hf1 h2 hf2 h3 hf3 h4 hf4 h5 hf5 h6 hf6); (try clear hl); replace HB := Aside0.mk (below_then HB.out HB.out.size hb_); replace H1 := Aside0.mk (blk_below H1.out hb_); replace H2 := Aside0.mk (blk_below H2.out hb_); replace H3 := Aside0.mk (blk_below H3.out hb_); replace H6 := Aside0.mk (blk_below H6.out hb_); replace HO := Aside0.mk (Kd.R_below HO.out hb_); clear hb_; have a0 := (blk_cell H1.out 0).trans rfl; have a1 := (blk_cell H1.out 1).trans rfl; have af0 := blk_frozen H1.out 0; have af1 := blk_frozen H1.out 1; have al := blk_lt H1.out; have h0 := (blk_cell H6.out 0).trans rfl; have h1 := (blk_cell H6.out 1).trans rfl; have h2 := (blk_cell H6.out 2).trans rfl; have h3 := (blk_cell H6.out 3).trans rfl; have h4 := (blk_cell H6.out 4).trans rfl; have h5 := (blk_cell H6.out 5).trans rfl; have h6 := (blk_cell H6.out 6).trans rfl; have hf0 := blk_frozen H6.out 0; have hf1 := blk_frozen H6.out 1; have hf2 := blk_frozen H6.out 2; have hf3 := blk_frozen H6.out 3; have hf4 := blk_frozen H6.out 4; have hf5 := blk_frozen H6.out 5; have hf6 := blk_frozen H6.out 6; have hl := blk_lt H6.out; )
          | (go_at_call 77; (try clear a0 af0 a1 af1); (try clear al); (try clear h0 hf0 h1 hf1 h2 hf2 h3 hf3 h4 hf4 h5 hf5 h6 hf6); (try clear hl); replace H2 := Aside0.mk (far2 H2.out (show gb ≠ ga by have := HLT.out; omega) (.string (strOfNums s6.1)) (.bool s6.2)); replace H3 := Aside0.mk (far2 H3.out (show gc ≠ ga by have := HLT.out; omega) (.string (strOfNums s6.1)) (.bool s6.2)); replace H6 := Aside0.mk (far2 H6.out (show ge ≠ ga by have := HLT.out; omega) (.string (strOfNums s6.1)) (.bool s6.2)); replace HO := Aside0.mk (row2 HO.out H1.out (by decide) (.string (strOfNums s6.1)) (.bool s6.2)); replace HB := Aside0.mk (below2 (u := .string (strOfNums s6.1)) (v := .bool s6.2) HB.out (show w.heap.size ≤ ga by have := HLT.out; omega)); replace H1 := Aside0.mk (put2 H1.out (.string (strOfNums s6.1)) (.bool s6.2)); (with_reducible refine (number_r _ HOK2.out.2.1 (by decide) (by decide) HE.out.2.2.2.2.2.2.1).mono ?_); rintro en wa ⟨rfl, hb_⟩; (try clear a0 af0 a1 af1); (try clear al); (try clear h0 hf0 h1 hf1 h2 hf2 h3 hf3 h4 hf4 h5 hf5 h6 hf6); (try clear hl); replace HB := Aside0.mk (below_then HB.out HB.out.size hb_); replace H1 := Aside0.mk (blk_below H1.out hb_); replace H2 := Aside0.mk (blk_below H2.out hb_); replace H3 := Aside0.mk (blk_below H3.out hb_); replace H6 := Aside0.mk (blk_below H6.out hb_); replace HO := Aside0.mk (Kd.R_below HO.out hb_); clear hb_; have a0 := (blk_cell H1.out 0).trans rfl; have a1 := (blk_cell H1.out 1).trans rfl; have af0 := blk_frozen H1.out 0; have af1 := blk_frozen H1.out 1; have al := blk_lt H1.out; have h0 := (blk_cell H6.out 0).trans rfl; have h1 := (blk_cell H6.out 1).trans rfl; have h2 := (blk_cell H6.out 2).trans rfl; have h3 := (blk_cell H6.out 3).trans rfl; have h4 := (blk_cell H6.out 4).trans rfl; have h5 := (blk_cell H6.out 5).trans rfl; have h6 := (blk_cell H6.out 6).trans rfl; have hf0 := blk_frozen H6.out 0; have hf1 := blk_frozen H6.out 1; have hf2 := blk_frozen H6.out 2; have hf3 := blk_frozen H6.out 3; have hf4 := blk_frozen H6.out 4; have hf5 := blk_frozen H6.out 5; have hf6 := blk_frozen H6.out 6; have hl := blk_lt H6.out; ))
        have hgs := HB.out.size
        obtain ⟨gq, hgq⟩ : ∃ gq, gq = wa.heap.size := ⟨_, rfl⟩
        replace HO := Aside0.mk (Kd.R_mono (ok' := fun k => w.heap.size ≤ k ∧ k < gq) (Kd.R_bound HO.out) (fun k hk => ⟨hk.1, by rw [hgq]; exact hk.2.2.1⟩))
        rw [← hgq] at hgs
        have HGW := Aside0.mk hgs
        have HGQ := Aside0.mk (Nat.le_of_eq hgq)
        clear hgs hgq
        (try clear a0 af0 a1 af1); (try clear al); (try clear h0 hf0 h1 hf1 h2 hf2 h3 hf3 h4 hf4 h5 hf5 h6 hf6); (try clear hl); replace H2 := Aside0.mk (far2 H2.out (show gb ≠ ga by have := HLT.out; omega) (.string (strOfNums s7.1)) (.bool s7.2)); replace H3 := Aside0.mk (far2 H3.out (show gc ≠ ga by have := HLT.out; omega) (.string (strOfNums s7.1)) (.bool s7.2)); replace H6 := Aside0.mk (far2 H6.out (show ge ≠ ga by have := HLT.out; omega) (.string (strOfNums s7.1)) (.bool s7.2)); replace HO := Aside0.mk (row2 HO.out H1.out (by decide) (.string (strOfNums s7.1)) (.bool s7.2)); replace HB := Aside0.mk (below2 (u := .string (strOfNums s7.1)) (v := .bool s7.2) HB.out (show w.heap.size ≤ ga by have := HLT.out; omega)); replace H1 := Aside0.mk (put2 H1.out (.string (strOfNums s7.1)) (.bool s7.2)); replace H1 := Aside0.mk (blk_far (p := ⟨ge, 3, none⟩) H1.out (show ga ≠ ge by have := HLT.out; omega) (.int .u32 f)); replace H2 := Aside0.mk (blk_far (p := ⟨ge, 3, none⟩) H2.out (show gb ≠ ge by have := HLT.out; omega) (.int .u32 f)); replace H3 := Aside0.mk (blk_far (p := ⟨ge, 3, none⟩) H3.out (show gc ≠ ge by have := HLT.out; omega) (.int .u32 f)); replace HO := Aside0.mk (Kd.R_set HO.out H6.out (by decide) 3 (.int .u32 f)); replace HB := Aside0.mk (below_set (j := 3) (v := .int .u32 f) HB.out (show w.heap.size ≤ ge by have := HLT.out; omega)); replace H6 := Aside0.mk (blk_put H6.out 3 (.int .u32 f) rfl); replace H1 := Aside0.mk (blk_far (p := ⟨ge, 4, none⟩) H1.out (show ga ≠ ge by have := HLT.out; omega) (.int .i64 r)); replace H2 := Aside0.mk (blk_far (p := ⟨ge, 4, none⟩) H2.out (show gb ≠ ge by have := HLT.out; omega) (.int .i64 r)); replace H3 := Aside0.mk (blk_far (p := ⟨ge, 4, none⟩) H3.out (show gc ≠ ge by have := HLT.out; omega) (.int .i64 r)); replace HO := Aside0.mk (Kd.R_set HO.out H6.out (by decide) 4 (.int .i64 r)); replace HB := Aside0.mk (below_set (j := 4) (v := .int .i64 r) HB.out (show w.heap.size ≤ ge by have := HLT.out; omega)); replace H6 := Aside0.mk (blk_put H6.out 4 (.int .i64 r) rfl); replace H1 := Aside0.mk (blk_far (p := ⟨ge, 5, none⟩) H1.out (show ga ≠ ge by have := HLT.out; omega) (.int .i64 p)); replace H2 := Aside0.mk (blk_far (p := ⟨ge, 5, none⟩) H2.out (show gb ≠ ge by have := HLT.out; omega) (.int .i64 p)); replace H3 := Aside0.mk (blk_far (p := ⟨ge, 5, none⟩) H3.out (show gc ≠ ge by have := HLT.out; omega) (.int .i64 p)); replace HO := Aside0.mk (Kd.R_set HO.out H6.out (by decide) 5 (.int .i64 p)); replace HB := Aside0.mk (below_set (j := 5) (v := .int .i64 p) HB.out (show w.heap.size ≤ ge by have := HLT.out; omega)); replace H6 := Aside0.mk (blk_put H6.out 5 (.int .i64 p) rfl); 
        obtain ⟨gko, rfl⟩ : ∃ x, x = gk := ⟨gk, rfl⟩
        go_loopg [14] n.toNat (fun kq v14 w' => ∃ (i : Nat) (ds : List Int) (sq : St) (v : Value), v14 = .int .i64 (i : Int) ∧ Aside0 (kq + i = n.toNat) ∧ Aside0 (rns 4 kq ds sq = (D, s8)) ∧ Aside0 (ds.length ≤ i) ∧ Aside0 (St.ok sq) ∧ Aside0 (Kd.R (Kd.int .i64) 3 w' w.heap.size (fun k => gq ≤ k) v ds) ∧ Aside0 (Kd.R (Kd.int .i64) 3 w' w.heap.size (fun k => w.heap.size ≤ k ∧ k < gq) (.slice Av C.length cv) C) ∧ Aside0 (gq ≤ w'.heap.size) ∧ Aside0 (Below w.heap.size w w') ∧ Aside0 (w'.heap[ga]? = some (.cells #[.string (strOfNums sq.1), .bool sq.2] 159 (0, 0))) ∧ Aside0 (w'.heap[gb]? = some (.cells #[.string ⟨#[]⟩, .int .i64 0, .slice none 0 0, .int .u32 0, .int .i64 0, .int .i64 0, .slice none 0 0] 135 (0, 0))) ∧ Aside0 (w'.heap[gc]? = some (.cells #[.string ⟨#[]⟩, .bool false] 159 (0, 0))) ∧ Aside0 (w'.heap[ge]? = some (.cells #[.string a, .int .i64 tn, .slice Av C.length cv, .int .u32 f, .int .i64 r, .int .i64 p, v] 135 (0, 0))))
        case atStart => exact ⟨0, [], s7, _, rfl, ⟨by omega⟩, ⟨HE.out.2.2.2.2.2.2.2⟩, ⟨by simp⟩, ⟨HOK2.out.2.2⟩, ⟨Kd.R_nil _ _ _ _ _⟩, HO, ⟨by have h1 := HGQ.out; simpa [World.setCell] using h1⟩, HB, H1, H2, H3, H6⟩
        case round =>
          clear HB H1 H2 H3 H6 HO HGQ HJ HCL HSQ
          obtain ⟨i, ds, sq, v, rfl, HJ, HQ, HCL, HSQ, HO, HP, HGQ, HB, H1, H2, H3, H6⟩ := hrel
          obtain ⟨Av2, cv2, ev⟩ := Kd.R_slice HO.out
          generalize List.length _ = nv_ at ev
          subst ev
          by_cases c5 : (i : Int) < n ∧ sq.2 = false
          · obtain ⟨c5, c6⟩ := c5
            have c1 : decide ((i : Int) < n) = true := decide_eq_true c5
            obtain ⟨k1, hk1⟩ : ∃ k1, gk = k1 + 1 := ⟨gk - 1, by have := HJ.out; omega⟩
            obtain ⟨k, t1, e1⟩ : ∃ n s2, rnb 4 sq = (n, s2) := ⟨_, _, rfl⟩
            have o1 : St.ok t1 := by have := rnb_ok HSQ.out 4; rwa [e1] at this
            have hq := HQ.out
            rw [hk1, rns, if_neg (by rw [c6]; decide), e1] at hq
            simp only at hq
            have HER := Aside0.mk e1
            have HERO := Aside0.mk o1
            have HC6 := Aside0.mk c6
            have HQ1 := Aside0.mk (And.intro hk1 (And.intro hq c5))
            clear e1 o1 hk1 hq c5 HQ
            have a0 := (blk_cell H1.out 0).trans rfl; have a1 := (blk_cell H1.out 1).trans rfl; have af0 := blk_frozen H1.out 0; have af1 := blk_frozen H1.out 1; have al := blk_lt H1.out; have h0 := (blk_cell H6.out 0).trans rfl; have h1 := (blk_cell H6.out 1).trans rfl; have h2 := (blk_cell H6.out 2).trans rfl; have h3 := (blk_cell H6.out 3).trans rfl; have h4 := (blk_cell H6.out 4).trans rfl; have h5 := (blk_cell H6.out 5).trans rfl; have h6 := (blk_cell H6.out 6).trans rfl; have hf0 := blk_frozen H6.out 0; have hf1 := blk_frozen H6.out 1; have hf2 := blk_frozen H6.out 2; have hf3 := blk_frozen H6.out 3; have hf4 := blk_frozen H6.out 4; have hf5 := blk_frozen H6.out 5; have hf6 := blk_frozen H6.out 6; have hl := blk_lt H6.out; 
            go_wp2_with (first
              | (go_at_call 77; (with_reducible refine (number_f _ HC6.out HSQ.out (by decide) (by decide) HER.out).mono ?_); rintro en wa ⟨rfl, hb_⟩; (try clear a0 af0 a1 af1); (try clear al); (try clear h0 hf0 h1 hf1 h2 hf2 h3 hf3 h4 hf4 h5 hf5 h6 hf6); (try clear hl); replace HB := Aside0.mk (below_then HB.out HB.out.size hb_); replace H1 := Aside0.mk (blk_below H1.out hb_); replace H2 := Aside0.mk (blk_below H2.out hb_); replace H3 := Aside0.mk (blk_below H3.out hb_); replace H6 := Aside0.mk (blk_below H6.out hb_); replace HO := Aside0.mk (Kd.R_below HO.out hb_); replace HP := Aside0.mk (Kd.R_below HP.out hb_); replace HGQ := Aside0.mk (Nat.le_trans HGQ.out hb_.size); clear hb_; have a0 := (blk_cell H1.out 0).trans rfl; have a1 := (blk_cell H1.out 1).trans rfl; have af0 := blk_frozen H1.out 0; have af1 := blk_frozen H1.out 1; have al := blk_lt H1.out; have h0 := (blk_cell H6.out 0).trans rfl; have h1 := (blk_cell H6.out 1).trans rfl; have h2 := (blk_cell H6.out 2).trans rfl; have h3 := (blk_cell H6.out 3).trans rfl; have h4 := (blk_cell H6.out 4).trans rfl; have h5 := (blk_cell H6.out 5).trans rfl; have h6 := (blk_cell H6.out 6).trans rfl; have hf0 := blk_frozen H6.out 0; have hf1 := blk_frozen H6.out 1; have hf2 := blk_frozen H6.out 2; have hf3 := blk_frozen H6.out 3; have hf4 := blk_frozen H6.out 4; have hf5 := blk_frozen H6.out 5; have hf6 := blk_frozen H6.out 6; have hl := blk_lt H6.out; )
              | ((with_reducible refine gate_builtin (b := .append) (xs := #[.tmp 96, .tmp 98]) rfl ?_); (try clear a0 af0 a1 af1); (try clear al); (try clear h0 hf0 h1 hf1 h2 hf2 h3 hf3 h4 hf4 h5 hf5 h6 hf6); (try clear hl); replace H2 := Aside0.mk (far2 H2.out (show gb ≠ ga by have := HLT.out; omega) (.string (strOfNums t1.1)) (.bool t1.2)); replace H3 := Aside0.mk (far2 H3.out (show gc ≠ ga by have := HLT.out; omega) (.string (strOfNums t1.1)) (.bool t1.2)); replace H6 := Aside0.mk (far2 H6.out (show ge ≠ ga by have := HLT.out; omega) (.string (strOfNums t1.1)) (.bool t1.2)); replace HO := Aside0.mk (row2 HO.out H1.out (by decide) (.string (strOfNums t1.1)) (.bool t1.2)); replace HP := Aside0.mk (row2 HP.out H1.out (by decide) (.string (strOfNums t1.1)) (.bool t1.2)); replace HB := Aside0.mk (below2 (u := .string (strOfNums t1.1)) (v := .bool t1.2) HB.out (show w.heap.size ≤ ga by have := HLT.out; omega)); replace H1 := Aside0.mk (put2 H1.out (.string (strOfNums t1.1)) (.bool t1.2)); replace H1 := Aside0.mk (blk_alloc H1.out (.cells #[.string (strOfNums t1.1), .bool t1.2] 159)); replace H2 := Aside0.mk (blk_alloc H2.out (.cells #[.string (strOfNums t1.1), .bool t1.2] 159)); replace H3 := Aside0.mk (blk_alloc H3.out (.cells #[.string (strOfNums t1.1), .bool t1.2] 159)); replace H6 := Aside0.mk (blk_alloc H6.out (.cells #[.string (strOfNums t1.1), .bool t1.2] 159)); replace HO := Aside0.mk (Kd.R_alloc HO.out (.cells #[.string (strOfNums t1.1), .bool t1.2] 159)); replace HP := Aside0.mk (Kd.R_alloc HP.out (.cells #[.string (strOfNums t1.1), .bool t1.2] 159)); replace HB := Aside0.mk (below_alloc HB.out (.cells #[.string (strOfNums t1.1), .bool t1.2] 159)); replace HGQ := Aside0.mk (sz2 (g := ga) (u := .string (strOfNums t1.1)) (v := .bool t1.2) (o := .cells #[.string (strOfNums t1.1), .bool t1.2] 159) HGQ.out); at_builtin; refine Kd.R_append (Kd.int .i64) (w0 := w) w.heap.size rfl (.tmp 96) (.tmp 98) 74 3 (.int .i64 0) 8 rfl Try.underlying74 XSchema.info3 rfl (by decide) (by omega) (.slice Av2 nv_ cv2) ds k [.int .i64 k] (fun k => gq ≤ k) (fun _ => False) rfl (by first | (go_simp; done) | (go_simp; rfl)) ?aP (fun _ hk => hk.elim) ?aF ?aO ?aB ?aS ?aL ?_; (case aP => exact rfl); (case aF => exact (fun k hk => Nat.le_trans HGQ.out hk)); (case aO => exact HO.out); (case aB => exact HB.out); (case aS => exact HB.out.size); (case aL => have h1 := HCL.out; have h2 := HQ1.out.2.2; have h3 := HN.out; omega); intro v6 w6 ho hb hg_ hat; (obtain ⟨A6, c6, e6⟩ := Kd.R_slice ho); generalize List.length _ = nn at e6; subst e6; replace H1 := Aside0.mk (blk_grown H1.out hg_ (Kd.R_ne HO.out H1.out (by decide))); replace H2 := Aside0.mk (blk_grown H2.out hg_ (Kd.R_ne HO.out H2.out (by decide))); replace H3 := Aside0.mk (blk_grown H3.out hg_ (Kd.R_ne HO.out H3.out (by decide))); replace H6 := Aside0.mk (blk_grown H6.out hg_ (Kd.R_ne HO.out H6.out (by decide))); replace HP := Aside0.mk (row_grown HP.out HO.out (fun k h1 h2 => Nat.not_le_of_lt h1.2 h2) hg_); replace HGQ := Aside0.mk (Nat.le_trans HGQ.out hg_.size); replace HB := Aside0.mk hb; replace HO := Aside0.mk ho; clear ho hb hg_ hat; have h0 := (blk_cell H6.out 0).trans rfl; have h1 := (blk_cell H6.out 1).trans rfl; have h2 := (blk_cell H6.out 2).trans rfl; have h3 := (blk_cell H6.out 3).trans rfl; have h4 := (blk_cell H6.out 4).trans rfl; have h5 := (blk_cell H6.out 5).trans rfl; have h6 := (blk_cell H6.out 6).trans rfl; have hf0 := blk_frozen H6.out 0; have hf1 := blk_frozen H6.out 1; have hf2 := blk_frozen H6.out 2; have hf3 := blk_frozen H6.out 3; have hf4 := blk_frozen H6.out 4; have hf5 := blk_frozen H6.out 5; have hf6 := blk_frozen H6.out 6; have hl := blk_lt H6.out; ))
            go_roundg k1
            case measure => have := HQ1.out.1; omega
            case rel =>
              have h1 := HJ.out
              have h2 := HQ1.out
              have h3 := HCL.out
              replace H1 := Aside0.mk (blk_far (p := ⟨ge, 6, none⟩) H1.out (show ga ≠ ge by have := HLT.out; omega) (.slice A6 nn c6)); replace H2 := Aside0.mk (blk_far (p := ⟨ge, 6, none⟩) H2.out (show gb ≠ ge by have := HLT.out; omega) (.slice A6 nn c6)); replace H3 := Aside0.mk (blk_far (p := ⟨ge, 6, none⟩) H3.out (show gc ≠ ge by have := HLT.out; omega) (.slice A6 nn c6)); replace HO := Aside0.mk (Kd.R_set HO.out H6.out (by decide) 6 (.slice A6 nn c6)); replace HP := Aside0.mk (Kd.R_set HP.out H6.out (by decide) 6 (.slice A6 nn c6)); replace HB := Aside0.mk (below_set (j := 6) (v := .slice A6 nn c6) HB.out (show w.heap.size ≤ ge by have := HLT.out; omega)); replace H6 := Aside0.mk (blk_put H6.out 6 (.slice A6 nn c6) rfl); 
              exact ⟨i + 1, ds ++ [k], t1, .slice A6 nn c6, by first | rfl | (rw [Tk.wr_in ((i : Int) + 1) (by have := HN.out; omega)]; rfl), ⟨by omega⟩, ⟨h2.2.1⟩, ⟨by rw [List.length_append, List.length_singleton]; omega⟩, ⟨HERO.out⟩, HO, HP, ⟨by have h1 := HGQ.out; simpa [World.setCell] using h1⟩, HB, H1, H2, H3, H6⟩
          · have hz : D = ds ∧ s8 = sq := by
              have hq := HQ.out
              rcases Nat.eq_zero_or_pos gk with h0 | h0
              · rw [h0, rns] at hq
                injection hq with hq1 hq2
                exact ⟨hq1.symm, hq2.symm⟩
              · rw [rns_bad 4 gk ds sq (by
                  cases hb : sq.2
                  · exact absurd ⟨(by have := HJ.out; omega), hb⟩ c5
                  · rfl)] at hq
                injection hq with hq1 hq2
                exact ⟨hq1.symm, hq2.symm⟩
            obtain ⟨rfl, rfl⟩ := hz
            have c9 : (decide ((i : Int) < n) = true ∧ s8.2 = true) ∨ decide ((i : Int) < n) = false := by
              by_cases h : (i : Int) < n
              · exact .inl ⟨decide_eq_true h, by cases hb : s8.2; exact absurd ⟨h, hb⟩ c5; rfl⟩
              · exact .inr (decide_eq_false h)
            clear c5 HQ
            have a0 := (blk_cell H1.out 0).trans rfl; have a1 := (blk_cell H1.out 1).trans rfl; have af0 := blk_frozen H1.out 0; have af1 := blk_frozen H1.out 1; have al := blk_lt H1.out; have h0 := (blk_cell H6.out 0).trans rfl; have h1 := (blk_cell H6.out 1).trans rfl; have h2 := (blk_cell H6.out 2).trans rfl; have h3 := (blk_cell H6.out 3).trans rfl; have h4 := (blk_cell H6.out 4).trans rfl; have h5 := (blk_cell H6.out 5).trans rfl; have h6 := (blk_cell H6.out 6).trans rfl; have hf0 := blk_frozen H6.out 0; have hf1 := blk_frozen H6.out 1; have hf2 := blk_frozen H6.out 2; have hf3 := blk_frozen H6.out 3; have hf4 := blk_frozen H6.out 4; have hf5 := blk_frozen H6.out 5; have hf6 := blk_frozen H6.out 6; have hl := blk_lt H6.out; 
            rcases c9 with ⟨c1, c6⟩ | c1
            all_goals
              go_upto_region 23 with fail
              (try clear c6)
              clear c1
              (try clear a0 af0 a1 af1); (try clear al); (try clear h0 hf0 h1 hf1 h2 hf2 h3 hf3 h4 hf4 h5 hf5 h6 hf6); (try clear hl); 
              replace H1 := Aside0.mk (blk_drew H1.out); replace H2 := Aside0.mk (blk_drew H2.out); replace H3 := Aside0.mk (blk_drew H3.out); replace H6 := Aside0.mk (blk_drew H6.out); replace HO := Aside0.mk (Kd.R_drew HO.out); replace HP := Aside0.mk (Kd.R_drew HP.out); replace HB := Aside0.mk (below_drew1 HB.out)
              refine start_ (n := 4) (S := fun w' => w'.cell? ⟨ge, 0, none⟩ = some (.string a) ∧ w'.cell? ⟨ge, 1, none⟩ = some (.int .i64 tn) ∧ w'.cell? ⟨ge, 2, none⟩ = some (.slice Av C.length cv) ∧ w'.cell? ⟨ge, 3, none⟩ = some (.int .u32 f) ∧ w'.cell? ⟨ge, 4, none⟩ = some (.int .i64 r) ∧ w'.cell? ⟨ge, 5, none⟩ = some (.int .i64 p) ∧ w'.cell? ⟨ge, 6, none⟩ = some (.slice Av2 nv_ cv2) ∧ w'.cell? ⟨ga, 0, none⟩ = some (.string (strOfNums s8.1)) ∧ w'.cell? ⟨ga, 1, none⟩ = some (.bool s8.2)) (ds := []) #[false, false, false, false] (by kernel_rfl) rfl rfl ⟨(blk_cell H6.out 0).trans rfl, (blk_cell H6.out 1).trans rfl, (blk_cell H6.out 2).trans rfl, (blk_cell H6.out 3).trans rfl, (blk_cell H6.out 4).trans rfl, (blk_cell H6.out 5).trans rfl, (blk_cell H6.out 6).trans rfl, (blk_cell H1.out 0).trans rfl, (blk_cell H1.out 1).trans rfl⟩ (fun hHeld => ?_)
              generalize World.drew _ = w73 at H1 H2 H3 H6 HO HP HB hHeld ⊢
              have hm0 := (show ga ≠ gb by have := HLT.out; omega); have hm1 := (show ga ≠ gc by have := HLT.out; omega); have hm2 := (show ga ≠ ge by have := HLT.out; omega); have hm3 := (show gb ≠ ga by have := HLT.out; omega); have hm4 := (show gb ≠ gc by have := HLT.out; omega); have hm5 := (show gb ≠ ge by have := HLT.out; omega); have hm6 := (show gc ≠ ga by have := HLT.out; omega); have hm7 := (show gc ≠ gb by have := HLT.out; omega); have hm8 := (show gc ≠ ge by have := HLT.out; omega); have hm9 := (show ge ≠ ga by have := HLT.out; omega); have hm10 := (show ge ≠ gb by have := HLT.out; omega); have hm11 := (show ge ≠ gc by have := HLT.out; omega)
              refine take_ (i := 0) (N := some 101) (v := ?_) (a' := ?_) #[true, false, false, false] rfl rfl (by kernel_rfl) (fun _ _ _ h => h) (Or.inl ⟨by rfl, ?_⟩) hHeld ?_ ?_
              rotate_left
              · rintro w' ⟨s0_, s1_, s2_, s3_, s4_, s5_, s6_, s7_, s8_⟩
                go_simp
                with_reducible rfl
              rotate_left
              · simp only [Act.put, List.setIfInBounds_toArray, List.set_cons_zero, List.set_cons_succ, i64_w, i32_w]
                rfl
              refine take_ (i := 1) (N := some 102) (v := ?_) (a' := ?_) #[true, true, false, false] rfl rfl (by kernel_rfl) (fun _ _ _ h => h) (Or.inl ⟨by rfl, ?_⟩) hHeld ?_ ?_
              rotate_left
              · rintro w' ⟨s0_, s1_, s2_, s3_, s4_, s5_, s6_, s7_, s8_⟩
                go_simp
                with_reducible rfl
              rotate_left
              · simp only [Act.put, List.setIfInBounds_toArray, List.set_cons_zero, List.set_cons_succ, i64_w, i32_w]
                rfl
              refine one_ (i := 2) (N := none) #[true, true, true, false] rfl rfl (by kernel_rfl) (by decide) (fun K hK => ?_)
              have z0 := (blk_cell H2.out 0).trans rfl; have z1 := (blk_cell H2.out 1).trans rfl; have z2 := (blk_cell H2.out 2).trans rfl; have z3 := (blk_cell H2.out 3).trans rfl; have z4 := (blk_cell H2.out 4).trans rfl; have z5 := (blk_cell H2.out 5).trans rfl; have z6 := (blk_cell H2.out 6).trans rfl; have zf0 := blk_frozen H2.out 0; have zf1 := blk_frozen H2.out 1; have zf2 := blk_frozen H2.out 2; have zf3 := blk_frozen H2.out 3; have zf4 := blk_frozen H2.out 4; have zf5 := blk_frozen H2.out 5; have zf6 := blk_frozen H2.out 6; have zl := blk_lt H2.out; 
              refine skip_ (w1 := ?_) (by rfl) rfl ?_ ?_
              rotate_left
              · go_simp
                rfl
              replace H1 := Aside0.mk (blk_far (p := ⟨gb, 0, none⟩) H1.out (show ga ≠ gb by have := HLT.out; omega) (.string a)); replace H3 := Aside0.mk (blk_far (p := ⟨gb, 0, none⟩) H3.out (show gc ≠ gb by have := HLT.out; omega) (.string a)); replace H6 := Aside0.mk (blk_far (p := ⟨gb, 0, none⟩) H6.out (show ge ≠ gb by have := HLT.out; omega) (.string a)); replace HO := Aside0.mk (Kd.R_set HO.out H2.out (by decide) 0 (.string a)); replace HP := Aside0.mk (Kd.R_set HP.out H2.out (by decide) 0 (.string a)); replace HB := Aside0.mk (below_set (j := 0) (v := .string a) HB.out (show w.heap.size ≤ gb by have := HLT.out; omega)); replace H2 := Aside0.mk (blk_put H2.out 0 (.string a) rfl); replace H1 := Aside0.mk (blk_far (p := ⟨gb, 1, none⟩) H1.out (show ga ≠ gb by have := HLT.out; omega) (.int .i64 tn)); replace H3 := Aside0.mk (blk_far (p := ⟨gb, 1, none⟩) H3.out (show gc ≠ gb by have := HLT.out; omega) (.int .i64 tn)); replace H6 := Aside0.mk (blk_far (p := ⟨gb, 1, none⟩) H6.out (show ge ≠ gb by have := HLT.out; omega) (.int .i64 tn)); replace HO := Aside0.mk (Kd.R_set HO.out H2.out (by decide) 1 (.int .i64 tn)); replace HP := Aside0.mk (Kd.R_set HP.out H2.out (by decide) 1 (.int .i64 tn)); replace HB := Aside0.mk (below_set (j := 1) (v := .int .i64 tn) HB.out (show w.heap.size ≤ gb by have := HLT.out; omega)); replace H2 := Aside0.mk (blk_put H2.out 1 (.int .i64 tn) rfl); replace H1 := Aside0.mk (blk_far (p := ⟨gb, 2, none⟩) H1.out (show ga ≠ gb by have := HLT.out; omega) (.slice Av C.length cv)); replace H3 := Aside0.mk (blk_far (p := ⟨gb, 2, none⟩) H3.out (show gc ≠ gb by have := HLT.out; omega) (.slice Av C.length cv)); replace H6 := Aside0.mk (blk_far (p := ⟨gb, 2, none⟩) H6.out (show ge ≠ gb by have := HLT.out; omega) (.slice Av C.length cv)); replace HO := Aside0.mk (Kd.R_set HO.out H2.out (by decide) 2 (.slice Av C.length cv)); replace HP := Aside0.mk (Kd.R_set HP.out H2.out (by decide) 2 (.slice Av C.length cv)); replace HB := Aside0.mk (below_set (j := 2) (v := .slice Av C.length cv) HB.out (show w.heap.size ≤ gb by have := HLT.out; omega)); replace H2 := Aside0.mk (blk_put H2.out 2 (.slice Av C.length cv) rfl); replace H1 := Aside0.mk (blk_far (p := ⟨gb, 3, none⟩) H1.out (show ga ≠ gb by have := HLT.out; omega) (.int .u32 f)); replace H3 := Aside0.mk (blk_far (p := ⟨gb, 3, none⟩) H3.out (show gc ≠ gb by have := HLT.out; omega) (.int .u32 f)); replace H6 := Aside0.mk (blk_far (p := ⟨gb, 3, none⟩) H6.out (show ge ≠ gb by have := HLT.out; omega) (.int .u32 f)); replace HO := Aside0.mk (Kd.R_set HO.out H2.out (by decide) 3 (.int .u32 f)); replace HP := Aside0.mk (Kd.R_set HP.out H2.out (by decide) 3 (.int .u32 f)); replace HB := Aside0.mk (below_set (j := 3) (v := .int .u32 f) HB.out (show w.heap.size ≤ gb by have := HLT.out; omega)); replace H2 := Aside0.mk (blk_put H2.out 3 (.int .u32 f) rfl); replace H1 := Aside0.mk (blk_far (p := ⟨gb, 4, none⟩) H1.out (show ga ≠ gb by have := HLT.out; omega) (.int .i64 r)); replace H3 := Aside0.mk (blk_far (p := ⟨gb, 4, none⟩) H3.out (show gc ≠ gb by have := HLT.out; omega) (.int .i64 r)); replace H6 := Aside0.mk (blk_far (p := ⟨gb, 4, none⟩) H6.out (show ge ≠ gb by have := HLT.out; omega) (.int .i64 r)); replace HO := Aside0.mk (Kd.R_set HO.out H2.out (by decide) 4 (.int .i64 r)); replace HP := Aside0.mk (Kd.R_set HP.out H2.out (by decide) 4 (.int .i64 r)); replace HB := Aside0.mk (below_set (j := 4) (v := .int .i64 r) HB.out (show w.heap.size ≤ gb by have := HLT.out; omega)); replace H2 := Aside0.mk (blk_put H2.out 4 (.int .i64 r) rfl); replace H1 := Aside0.mk (blk_far (p := ⟨gb, 5, none⟩) H1.out (show ga ≠ gb by have := HLT.out; omega) (.int .i64 p)); replace H3 := Aside0.mk (blk_far (p := ⟨gb, 5, none⟩) H3.out (show gc ≠ gb by have := HLT.out; omega) (.int .i64 p)); replace H6 := Aside0.mk (blk_far (p := ⟨gb, 5, none⟩) H6.out (show ge ≠ gb by have := HLT.out; omega) (.int .i64 p)); replace HO := Aside0.mk (Kd.R_set HO.out H2.out (by decide) 5 (.int .i64 p)); replace HP := Aside0.mk (Kd.R_set HP.out H2.out (by decide) 5 (.int .i64 p)); replace HB := Aside0.mk (below_set (j := 5) (v := .int .i64 p) HB.out (show w.heap.size ≤ gb by have := HLT.out; omega)); replace H2 := Aside0.mk (blk_put H2.out 5 (.int .i64 p) rfl); replace H1 := Aside0.mk (blk_far (p := ⟨gb, 6, none⟩) H1.out (show ga ≠ gb by have := HLT.out; omega) (.slice Av2 nv_ cv2)); replace H3 := Aside0.mk (blk_far (p := ⟨gb, 6, none⟩) H3.out (show gc ≠ gb by have := HLT.out; omega) (.slice Av2 nv_ cv2)); replace H6 := Aside0.mk (blk_far (p := ⟨gb, 6, none⟩) H6.out (show ge ≠ gb by have := HLT.out; omega) (.slice Av2 nv_ cv2)); replace HO := Aside0.mk (Kd.R_set HO.out H2.out (by decide) 6 (.slice Av2 nv_ cv2)); replace HP := Aside0.mk (Kd.R_set HP.out H2.out (by decide) 6 (.slice Av2 nv_ cv2)); replace HB := Aside0.mk (below_set (j := 6) (v := .slice Av2 nv_ cv2) HB.out (show w.heap.size ≤ gb by have := HLT.out; omega)); replace H2 := Aside0.mk (blk_put H2.out 6 (.slice Av2 nv_ cv2) rfl); (try clear z0 zf0 z1 zf1 z2 zf2 z3 zf3 z4 zf4 z5 zf5 z6 zf6); (try clear zl); 
              refine hK.out _ _ ⟨(blk_cell H6.out 0).trans rfl, (blk_cell H6.out 1).trans rfl, (blk_cell H6.out 2).trans rfl, (blk_cell H6.out 3).trans rfl, (blk_cell H6.out 4).trans rfl, (blk_cell H6.out 5).trans rfl, (blk_cell H6.out 6).trans rfl, (blk_cell H1.out 0).trans rfl, (blk_cell H1.out 1).trans rfl⟩ (fun hHeld => ?_)
              clear hK K
              refine one_ (i := 3) (N := none) #[true, true, true, true] rfl rfl (by kernel_rfl) (by decide) (fun K hK => ?_)
              have y0 := (blk_cell H3.out 0).trans rfl; have y1 := (blk_cell H3.out 1).trans rfl; have yf0 := blk_frozen H3.out 0; have yf1 := blk_frozen H3.out 1; have yl := blk_lt H3.out; 
              refine skip_ ?_ ?_ (w1 := ?_) ?_ ?_
              rotate_left 2
              · go_simp
              · first | (go_simp; done) | (go_simp; rfl)
              rotate_left
              · rfl
              replace H1 := Aside0.mk (far2 H1.out (show ga ≠ gc by have := HLT.out; omega) (.string (strOfNums s8.1)) (.bool s8.2)); replace H2 := Aside0.mk (far2 H2.out (show gb ≠ gc by have := HLT.out; omega) (.string (strOfNums s8.1)) (.bool s8.2)); replace H6 := Aside0.mk (far2 H6.out (show ge ≠ gc by have := HLT.out; omega) (.string (strOfNums s8.1)) (.bool s8.2)); replace HO := Aside0.mk (row2 HO.out H3.out (by decide) (.string (strOfNums s8.1)) (.bool s8.2)); replace HP := Aside0.mk (row2 HP.out H3.out (by decide) (.string (strOfNums s8.1)) (.bool s8.2)); replace HB := Aside0.mk (below2 (u := .string (strOfNums s8.1)) (v := .bool s8.2) HB.out (show w.heap.size ≤ gc by have := HLT.out; omega)); replace H3 := Aside0.mk (put2 H3.out (.string (strOfNums s8.1)) (.bool s8.2)); (try clear y0 yf0 y1 yf1); (try clear yl); 
              refine hK.out _ _ ⟨(blk_cell H6.out 0).trans rfl, (blk_cell H6.out 1).trans rfl, (blk_cell H6.out 2).trans rfl, (blk_cell H6.out 3).trans rfl, (blk_cell H6.out 4).trans rfl, (blk_cell H6.out 5).trans rfl, (blk_cell H6.out 6).trans rfl, (blk_cell H1.out 0).trans rfl, (blk_cell H1.out 1).trans rfl⟩ (fun hHeld => ?_)
              clear hK K
              refine done_ (by kernel_rfl) ?_
              try go_wp2
              refine bodyPost_ret (results_cc rfl _ _ gb gc 135 159 #[.string a, .int .i64 tn, .slice Av C.length cv, .int .u32 f, .int .i64 r, .int .i64 p, .slice Av2 nv_ cv2] #[.string (strOfNums s8.1), .bool s8.2] (0, 0) (0, 0) _ _ rfl H2.out Try.underlying135 rfl (by kernel_rfl) rfl H3.out Try.underlying159 rfl (by kernel_rfl)) rfl ?_
              exact ⟨_, _, _, _, _, _, rfl, Kd.R_mono HP.out (fun _ _ => trivial), Kd.R_mono HO.out (fun _ _ => trivial), HB.out⟩
end Go.Proofs.Ytpfegfkniilobaa.Rr
namespace Go.Proofs.Ytpfegfkniilobaa.Rr
open Go.RowKit Go.Proofs.YtpfegfkniilobaaW.PrintWords Go.Proofs.YtpfegfkniilobaaW.PrintLast Go.Proofs.YtpfegfkniilobaaW.PrintMore
open Go.Proofs.Ytpfegfkniilobaa.XSchema Go.Proofs.Ytpfegfkniilobaa.PureS
open Go.Proofs.Ytpfegfkniilobaa.Tk (St nv By nv_lt By.take mod8 mod32 row_grown row_tgrown results_cell1 tok)
set_option linter.unusedVariables false
set_option linter.unusedSimpArgs false
set_option maxRecDepth 100000
def rtabs : Nat → List S84 → St → List S84 × St
  | 0, cs, s => (cs, s)
  | n + 1, cs, s => if s.2 = true then (cs, s) else rtabs n (cs ++ [(rtab s).1]) (rtab s).2
def ridxs : Nat → List S135 → St → List S135 × St
  | 0, cs, s => (cs, s)
  | n + 1, cs, s => if s.2 = true then (cs, s) else ridxs n (cs ++ [(ridx s).1]) (ridx s).2
theorem rtabs_bad : ∀ (n : Nat) (cs : List S84) (s : St), s.2 = true → rtabs n cs s = (cs, s)
  | 0, _, _, _ => rfl
  | n + 1, cs, s, h => by rw [rtabs, if_pos h]
theorem ridxs_bad : ∀ (n : Nat) (cs : List S135) (s : St), s.2 = true → ridxs n cs s = (cs, s)
  | 0, _, _, _ => rfl
  | n + 1, cs, s, h => by rw [ridxs, if_pos h]
def rgetG (t : List S84 × St) : (List S84 × List S135) × St := ((t.1, (ridxs (rnb 1 t.2).1.toNat [] (rnb 1 t.2).2).1), (ridxs (rnb 1 t.2).1.toNat [] (rnb 1 t.2).2).2)
/-- What is read. -/
def rget (s : St) : (List S84 × List S135) × St := rgetG (rtabs (rnb 1 s).1.toNat [] (rnb 1 s).2)
theorem rns_ok (m : Int) : ∀ (n : Nat) (cs : List Int) {s : St}, St.ok s → St.ok (rns m n cs s).2
  | 0, _, _, h => h
  | n + 1, cs, s, h => by
    rw [rns]
    split
    · exact h
    · exact rns_ok m n _ (rnb_ok h m)
theorem rcols_ok : ∀ (n : Nat) (cs : List S87) {s : St}, St.ok s → St.ok (rcols n cs s).2
  | 0, _, _, h => h
  | n + 1, cs, s, h => by
    rw [rcols]
    split
    · exact h
    · exact rcols_ok n _ (rnb_ok (rnb_ok (rnb_ok (rtx_ok h) 1) 4) 4)
theorem rtab_ok {s : St} (h : St.ok s) : St.ok (rtab s).2 := rnb_ok (rnb_ok (rnb_ok (rcols_ok _ _ (rnb_ok (rtx_ok h) 1)) 4) 4) 4
theorem ridx_ok {s : St} (h : St.ok s) : St.ok (ridx s).2 := rns_ok 4 _ _ (rnb_ok (rnb_ok (rnb_ok (rns_ok 1 _ _ (rnb_ok (rnb_ok (rtx_ok h) 1) 1)) 4) 4) 4)
theorem number_b {b : List Int} {s1 : St} {a n : Int} (w : World) (h : St.ok (b, false)) (h0 : 0 ≤ n) (hn : n ≤ 4) (e : rnb n (b, false) = (a, s1)) : Calls Try.prog 77 #[.agg #[.string (strOfNums b), .bool false], .int .i64 n] w fun en w' => en = .returned (.tuple #[.int .i64 a, .agg #[.string (strOfNums s1.1), .bool s1.2]]) ∧ Below w.heap.size w w' := number_r (s := (b, false)) w h h0 hn e
theorem table_f (w : World) {s sf : St} {t : S84} (hf : s.2 = false) (h : St.ok s) (e : rtab s = (t, sf)) : Calls Try.prog 78 #[.agg #[.string (strOfNums s.1), .bool false]] w fun en w' => ∃ A n c, en = .returned (.tuple #[.agg #[.string t.f0, .slice A n c, .int .u32 t.f2, .int .i64 t.f3, .int .i64 t.f4], .agg #[.string (strOfNums sf.1), .bool sf.2]]) ∧ Kd.R k87 87 w' w.heap.size (fun _ => True) (.slice A n c) t.f1 ∧ Below w.heap.size w w' := by
  have := table_r w s h t sf e
  rwa [hf] at this
theorem index_f (w : World) {s sf : St} {t : S135} (hf : s.2 = false) (h : St.ok s) (e : ridx s = (t, sf)) : Calls Try.prog 79 #[.agg #[.string (strOfNums s.1), .bool false]] w fun en w' => ∃ A n c B m d, en = .returned (.tuple #[.agg #[.string t.f0, .int .i64 t.f1, .slice A n c, .int .u32 t.f3, .int .i64 t.f4, .int .i64 t.f5, .slice B m d], .agg #[.string (strOfNums sf.1), .bool sf.2]]) ∧ Kd.R (Kd.int .i64) 3 w' w.heap.size (fun _ => True) (.slice A n c) t.f2 ∧ Kd.R (Kd.int .i64) 3 w' w.heap.size (fun _ => True) (.slice B m d) t.f6 ∧ Below w.heap.size w w' := by
  have := index_r w s h t sf e
  rwa [hf] at this
theorem may_t (w : World) {A1 A2 : Option Addr} {c1 c2 : Nat} {T : List S84} {X : List S135} (h1 : Kd.C k84 w A1 T.length T) (h2 : Kd.C k135 w A2 X.length X) (hW : bookW T X) (h : MayP T X) : Calls Try.prog 30 #[.agg #[.slice A1 T.length c1, .slice A2 X.length c2]] w fun e w' => e = .returned (.bool true) ∧ Below w.heap.size w w' := Rp.may_ok w A1 c1 T A2 c2 X h1 h2 hW true ⟨fun _ => h, fun _ => rfl⟩
theorem may_f (w : World) {A1 A2 : Option Addr} {c1 c2 : Nat} {T : List S84} {X : List S135} (h1 : Kd.C k84 w A1 T.length T) (h2 : Kd.C k135 w A2 X.length X) (hW : bookW T X) (h : ¬ MayP T X) : Calls Try.prog 30 #[.agg #[.slice A1 T.length c1, .slice A2 X.length c2]] w fun e w' => e = .returned (.bool false) ∧ Below w.heap.size w w' := Rp.may_ok w A1 c1 T A2 c2 X h1 h2 hW false ⟨(fun h1 => nomatch h1), fun h1 => absurd h1 h⟩
set_option maxHeartbeats 16000000 in
theorem get_r (w : World) (b : List Int) (hok : St.ok (b, false)) (T : List S84) (X : List S135) (sf : St) (he : rget (b, false) = ((T, X), sf)) (hW : bookW T X) (R : Bool) (hR : R = true ↔ (sf.2 = false ∧ sf.1 = [] ∧ MayP T X)) :
    Calls Try.prog 38 #[.string (strOfNums b)] w fun en w' => ∃ v u, en = .returned (.tuple #[.agg #[v, u], .bool R]) ∧ Kd.R k84 84 w' w.heap.size (fun _ => True) v (if R = true then T else []) ∧ Kd.R k135 135 w' w.heap.size (fun _ => True) u (if R = true then X else []) ∧ Below w.heap.size w w' := by
  obtain ⟨n, s1, e1⟩ : ∃ n s1, rnb 1 (b, false) = (n, s1) := ⟨_, _, rfl⟩
  have o1 : St.ok s1 := by have := rnb_ok hok 1; rwa [e1] at this
  have hn := rn1_in hok
  rw [e1] at hn
  simp only at hn
  obtain ⟨T', s2, e2⟩ : ∃ T s2, rtabs n.toNat [] s1 = (T, s2) := ⟨_, _, rfl⟩
  obtain ⟨n2, s3, e3⟩ : ∃ n s3, rnb 1 s2 = (n, s3) := ⟨_, _, rfl⟩
  obtain ⟨X', s4, e4⟩ : ∃ T s4, ridxs n2.toNat [] s3 = (T, s4) := ⟨_, _, rfl⟩
  have e : rget (b, false) = ((T', X'), s4) := by simp only [rget, rgetG, e1, e2, e3, e4]
  rw [e] at he
  injection he with he1 he2
  injection he1 with he3 he4
  subst he2 he3 he4
  clear e
  have HE := Aside0.mk (And.intro e1 (And.intro e2 (And.intro e3 e4)))
  have HN := Aside0.mk hn
  have HWW := Aside0.mk hW
  have HR := Aside0.mk hR
  have HOK := Aside0.mk hok
  have HOK1 := Aside0.mk o1
  have hn0 := hn.1
  have HB := Aside0.mk (below_alloc (below_alloc (below_alloc (Below.refl w.heap.size w) (.cells #[.slice none 0 0, .slice none 0 0] 80)) (.cells #[.string (strOfNums b), .bool false] 159)) (.cells #[.slice none 0 0, .slice none 0 0] 80))
  have H2 := Aside0.mk (blk_alloc (blk_alloc (blk_new w (.cells #[.slice none 0 0, .slice none 0 0] 80)) (.cells #[.string (strOfNums b), .bool false] 159)) (.cells #[.slice none 0 0, .slice none 0 0] 80))
  have H1 := Aside0.mk (blk_alloc (blk_new (w.alloc (.cells #[.slice none 0 0, .slice none 0 0] 80)) (.cells #[.string (strOfNums b), .bool false] 159)) (.cells #[.slice none 0 0, .slice none 0 0] 80))
  have H5 := Aside0.mk (blk_new ((w.alloc (.cells #[.slice none 0 0, .slice none 0 0] 80)).alloc (.cells #[.string (strOfNums b), .bool false] 159)) (.cells #[.slice none 0 0, .slice none 0 0] 80))
  have s1_ : (w.alloc (.cells #[.slice none 0 0, .slice none 0 0] 80)).heap.size = w.heap.size + 1 := by simp
  have s2_ : ((w.alloc (.cells #[.slice none 0 0, .slice none 0 0] 80)).alloc (.cells #[.string (strOfNums b), .bool false] 159)).heap.size = w.heap.size + 1 + 1 := by simp
  rw [s1_] at H1
  rw [s2_] at H5
  have HLT := Aside0.mk (show w.heap.size ≤ w.heap.size ∧ w.heap.size < w.heap.size + 1 ∧ w.heap.size + 1 < w.heap.size + 1 + 1 by omega)
  clear hok hW hR e1 e2 e3 e4 o1 hn s1_ s2_
  go_enter Try.func38, Try.ntmps38
  go_upto_region 3 with fail
  generalize ((w.alloc (.cells #[.slice none 0 0, .slice none 0 0] 80)).alloc (.cells #[.string (strOfNums b), .bool false] 159)).alloc (.cells #[.slice none 0 0, .slice none 0 0] 80) = w1 at HB H1 H2 H5 ⊢
  generalize w.heap.size + 1 + 1 = ge at H5 HLT ⊢
  generalize w.heap.size + 1 = ga at H1 HLT ⊢
  obtain ⟨gr, hgr⟩ : ∃ gr, w.heap.size = gr := ⟨_, rfl⟩
  replace HLT : Aside0 (w.heap.size ≤ gr ∧ gr < ga ∧ ga < ge) := ⟨by rw [← hgr]; exact HLT.out⟩
  rw [hgr] at H2
  simp only [hgr]
  clear hgr
  have a0 := (blk_cell H1.out 0).trans rfl; have a1 := (blk_cell H1.out 1).trans rfl; have af0 := blk_frozen H1.out 0; have af1 := blk_frozen H1.out 1; have al := blk_lt H1.out; 
  go_wp2_with ((go_at_call 77; (with_reducible refine (number_b _ HOK.out (by decide) (by decide) HE.out.1).mono ?_); rintro en wa ⟨rfl, hb_⟩; (try clear a0 af0 a1 af1); (try clear al); replace HB := Aside0.mk (below_then HB.out HB.out.size hb_); replace H1 := Aside0.mk (blk_below H1.out hb_); replace H2 := Aside0.mk (blk_below H2.out hb_); replace H5 := Aside0.mk (blk_below H5.out hb_); clear hb_; have a0 := (blk_cell H1.out 0).trans rfl; have a1 := (blk_cell H1.out 1).trans rfl; have af0 := blk_frozen H1.out 0; have af1 := blk_frozen H1.out 1; have al := blk_lt H1.out; ))
  (try clear a0 af0 a1 af1); (try clear al); 
  have hn1 : ga ≠ ge := by have := HLT.out; omega
  have hn2 : ge ≠ ga := by have := HLT.out; omega
  have hn3 : gr ≠ ge := by have := HLT.out; omega
  have hn4 : ge ≠ gr := by have := HLT.out; omega
  have hn5 : gr ≠ ga := by have := HLT.out; omega
  have hn6 : ga ≠ gr := by have := HLT.out; omega
  go_loopg [7] n.toNat (fun kq v7 w' => ∃ (i : Nat) (cs : List S84) (sq : St) (v : Value), v7 = .int .i64 (i : Int) ∧ Aside0 (kq + i = n.toNat) ∧ Aside0 (rtabs kq cs sq = (T', s2)) ∧ Aside0 (cs.length ≤ i) ∧ Aside0 (St.ok sq) ∧ Aside0 (Kd.R k84 84 w' w.heap.size (fun _ => True) v cs) ∧ Aside0 (Below w.heap.size w w') ∧ Aside0 (w'.heap[ga]? = some (.cells #[.string (strOfNums sq.1), .bool sq.2] 159 (0, 0))) ∧ Aside0 (w'.heap[gr]? = some (.cells #[.slice none 0 0, .slice none 0 0] 80 (0, 0))) ∧ Aside0 (w'.heap[ge]? = some (.cells #[v, .slice none 0 0] 80 (0, 0))))
  case atStart =>
    replace H2 := Aside0.mk (far2 H2.out (show gr ≠ ga by have := HLT.out; omega) (.string (strOfNums s1.1)) (.bool s1.2)); replace H5 := Aside0.mk (far2 H5.out (show ge ≠ ga by have := HLT.out; omega) (.string (strOfNums s1.1)) (.bool s1.2)); replace HB := Aside0.mk (below2 (u := .string (strOfNums s1.1)) (v := .bool s1.2) HB.out (show w.heap.size ≤ ga by have := HLT.out; omega)); replace H1 := Aside0.mk (put2 H1.out (.string (strOfNums s1.1)) (.bool s1.2)); 
    exact ⟨0, [], s1, _, rfl, ⟨by omega⟩, ⟨HE.out.2.1⟩, ⟨by simp⟩, ⟨HOK1.out⟩, ⟨Kd.R_nil _ _ _ _ _⟩, HB, H1, H2, H5⟩
  case round =>
    clear HB H1 H2 H5
    obtain ⟨i, cs, sq, v, rfl, HJ, HQ, HCL, HSQ, HO, HB, H1, H2, H5⟩ := hrel
    obtain ⟨Av, cv, ev⟩ := Kd.R_slice HO.out
    generalize List.length _ = nv_ at ev
    subst ev
    by_cases c5 : (i : Int) < n ∧ sq.2 = false
    · obtain ⟨c5, c6⟩ := c5
      have c1 : decide ((i : Int) < n) = true := decide_eq_true c5
      obtain ⟨k1, hk1⟩ : ∃ k1, gk = k1 + 1 := ⟨gk - 1, by have := HJ.out; omega⟩
      obtain ⟨t, t1, e1⟩ : ∃ n s2, rtab sq = (n, s2) := ⟨_, _, rfl⟩
      have o1 : St.ok t1 := by have := rtab_ok HSQ.out; rwa [e1] at this
      have hq := HQ.out
      rw [hk1, rtabs, if_neg (by rw [c6]; decide), e1] at hq
      simp only at hq
      have HER := Aside0.mk e1
      have HERO := Aside0.mk o1
      have HC6 := Aside0.mk c6
      have HQ1 := Aside0.mk (And.intro hk1 (And.intro hq c5))
      clear e1 o1 hk1 hq c5 HQ
      have a0 := (blk_cell H1.out 0).trans rfl; have a1 := (blk_cell H1.out 1).trans rfl; have af0 := blk_frozen H1.out 0; have af1 := blk_frozen H1.out 1; have al := blk_lt H1.out; have h0 := (blk_cell H5.out 0).trans rfl; have h1 := (blk_cell H5.out 1).trans rfl; have hf0 := blk_frozen H5.out 0; have hf1 := blk_frozen H5.out 1; have hl := blk_lt H5.out; 
      go_wp2_with (first
        | (go_at_call 78; (have hs_ := HB.out.size); (with_reducible refine (table_f _ HC6.out HSQ.out HER.out).mono ?_); rintro en wa ⟨A1, n1, q1, rfl, hR1, hb_⟩; (try clear a0 af0 a1 af1); (try clear al); (try clear h0 hf0 h1 hf1); (try clear hl); replace HB := Aside0.mk (below_then HB.out HB.out.size hb_); replace H1 := Aside0.mk (blk_below H1.out hb_); replace H2 := Aside0.mk (blk_below H2.out hb_); replace H5 := Aside0.mk (blk_below H5.out hb_); replace HO := Aside0.mk (Kd.R_below HO.out hb_); clear hb_; (have HR1 := Aside0.mk (Kd.R_lower hR1 hs_)); clear hR1;  clear hs_; have a0 := (blk_cell H1.out 0).trans rfl; have a1 := (blk_cell H1.out 1).trans rfl; have af0 := blk_frozen H1.out 0; have af1 := blk_frozen H1.out 1; have al := blk_lt H1.out; have h0 := (blk_cell H5.out 0).trans rfl; have h1 := (blk_cell H5.out 1).trans rfl; have hf0 := blk_frozen H5.out 0; have hf1 := blk_frozen H5.out 1; have hl := blk_lt H5.out; )
        | ((with_reducible refine gate_builtin (b := .append) (xs := #[.tmp 39, .tmp 41]) rfl ?_); (try clear a0 af0 a1 af1); (try clear al); (try clear h0 hf0 h1 hf1); (try clear hl); replace H2 := Aside0.mk (far2 H2.out (show gr ≠ ga by have := HLT.out; omega) (.string (strOfNums t1.1)) (.bool t1.2)); replace H5 := Aside0.mk (far2 H5.out (show ge ≠ ga by have := HLT.out; omega) (.string (strOfNums t1.1)) (.bool t1.2)); replace HO := Aside0.mk (row2 HO.out H1.out (by decide) (.string (strOfNums t1.1)) (.bool t1.2)); replace HR1 := Aside0.mk (row2 HR1.out H1.out (by decide) (.string (strOfNums t1.1)) (.bool t1.2)); replace HB := Aside0.mk (below2 (u := .string (strOfNums t1.1)) (v := .bool t1.2) HB.out (show w.heap.size ≤ ga by have := HLT.out; omega)); replace H1 := Aside0.mk (put2 H1.out (.string (strOfNums t1.1)) (.bool t1.2)); replace H1 := Aside0.mk (blk_alloc H1.out (.cells #[.string t.f0, .slice A1 n1 q1, .int .u32 t.f2, .int .i64 t.f3, .int .i64 t.f4] 84)); replace H2 := Aside0.mk (blk_alloc H2.out (.cells #[.string t.f0, .slice A1 n1 q1, .int .u32 t.f2, .int .i64 t.f3, .int .i64 t.f4] 84)); replace H5 := Aside0.mk (blk_alloc H5.out (.cells #[.string t.f0, .slice A1 n1 q1, .int .u32 t.f2, .int .i64 t.f3, .int .i64 t.f4] 84)); replace HO := Aside0.mk (Kd.R_alloc HO.out (.cells #[.string t.f0, .slice A1 n1 q1, .int .u32 t.f2, .int .i64 t.f3, .int .i64 t.f4] 84)); replace HR1 := Aside0.mk (Kd.R_alloc HR1.out (.cells #[.string t.f0, .slice A1 n1 q1, .int .u32 t.f2, .int .i64 t.f3, .int .i64 t.f4] 84)); replace HB := Aside0.mk (below_alloc HB.out (.cells #[.string t.f0, .slice A1 n1 q1, .int .u32 t.f2, .int .i64 t.f3, .int .i64 t.f4] 84)); replace H1 := Aside0.mk (blk_alloc H1.out (.cells #[.string (strOfNums t1.1), .bool t1.2] 159)); replace H2 := Aside0.mk (blk_alloc H2.out (.cells #[.string (strOfNums t1.1), .bool t1.2] 159)); replace H5 := Aside0.mk (blk_alloc H5.out (.cells #[.string (strOfNums t1.1), .bool t1.2] 159)); replace HO := Aside0.mk (Kd.R_alloc HO.out (.cells #[.string (strOfNums t1.1), .bool t1.2] 159)); replace HR1 := Aside0.mk (Kd.R_alloc HR1.out (.cells #[.string (strOfNums t1.1), .bool t1.2] 159)); replace HB := Aside0.mk (below_alloc HB.out (.cells #[.string (strOfNums t1.1), .bool t1.2] 159)); at_builtin; refine Kd.R_append k84 (w0 := w) w.heap.size rfl (.tmp 39) (.tmp 41) 77 84 (.agg #[(.string ⟨#[]⟩), (.slice none 0 0), (.int .u32 0), (.int .i64 0), (.int .i64 0)]) 64 rfl Try.underlying77 info84 rfl (by decide) (by omega) (.slice Av nv_ cv) cs t [.string t.f0, .slice A1 n1 q1, .int .u32 t.f2, .int .i64 t.f3, .int .i64 t.f4] (fun _ => True) (fun k => ∃ cells, ((((wa.setCell ⟨ga, 0, none⟩ (.string (strOfNums t1.1))).setCell ⟨ga, 1, none⟩ (.bool t1.2)).alloc (.cells #[.string t.f0, .slice A1 n1 q1, .int .u32 t.f2, .int .i64 t.f3, .int .i64 t.f4] 84)).alloc (.cells #[.string (strOfNums t1.1), .bool t1.2] 159)).heap[k]? = some (.cells cells 87 (0, 0))) rfl (by first | (go_simp; done) | (go_simp; rfl)) ?aP ?aK ?aF ?aO ?aB ?aS ?aL ?_; (case aP => exact k84_mkM _ _ _ t (tok rfl HR1.out)); (case aK => exact (fun k hk => ⟨trivial, (by obtain ⟨cells, hc⟩ := hk; exact Kd.R_ne HO.out hc (by decide))⟩)); (case aF => exact (fun _ _ => trivial)); (case aO => exact HO.out); (case aB => exact HB.out); (case aS => exact HB.out.size); (case aL => have h1 := HCL.out; have h2 := HQ1.out.2.2; have h3 := HN.out; omega); intro v6 w6 ho hb hg_ hat; (obtain ⟨A6, c6, e6⟩ := Kd.R_slice ho); generalize List.length _ = nn at e6; subst e6; replace H1 := Aside0.mk (blk_grown H1.out hg_ (Kd.R_ne HO.out H1.out (by decide))); replace H2 := Aside0.mk (blk_grown H2.out hg_ (Kd.R_ne HO.out H2.out (by decide))); replace H5 := Aside0.mk (blk_grown H5.out hg_ (Kd.R_ne HO.out H5.out (by decide))); replace HB := Aside0.mk hb; replace HO := Aside0.mk ho; clear ho hb hg_ hat ; have h0 := (blk_cell H5.out 0).trans rfl; have h1 := (blk_cell H5.out 1).trans rfl; have hf0 := blk_frozen H5.out 0; have hf1 := blk_frozen H5.out 1; have hl := blk_lt H5.out; ))
      go_roundg k1
      case measure => have := HQ1.out.1; omega
      case rel =>
        have h1 := HJ.out
        have h2 := HQ1.out
        have h3 := HCL.out
        replace H1 := Aside0.mk (blk_far (p := ⟨ge, 0, none⟩) H1.out (show ga ≠ ge by have := HLT.out; omega) (.slice A6 nn c6)); replace H2 := Aside0.mk (blk_far (p := ⟨ge, 0, none⟩) H2.out (show gr ≠ ge by have := HLT.out; omega) (.slice A6 nn c6)); replace HO := Aside0.mk (Kd.R_set HO.out H5.out (by decide) 0 (.slice A6 nn c6)); replace HB := Aside0.mk (below_set (j := 0) (v := .slice A6 nn c6) HB.out (show w.heap.size ≤ ge by have := HLT.out; omega)); replace H5 := Aside0.mk (blk_put H5.out 0 (.slice A6 nn c6) rfl); 
        exact ⟨i + 1, cs ++ [t], t1, .slice A6 nn c6, by first | rfl | (rw [Tk.wr_in ((i : Int) + 1) (by have := HN.out; omega)]; rfl), ⟨by omega⟩, ⟨h2.2.1⟩, ⟨by rw [List.length_append, List.length_singleton]; omega⟩, HERO, HO, HB, H1, H2, H5⟩
    · have hz : T' = cs ∧ s2 = sq := by
        have hq := HQ.out
        rcases Nat.eq_zero_or_pos gk with h0 | h0
        · rw [h0, rtabs] at hq
          injection hq with hq1 hq2
          exact ⟨hq1.symm, hq2.symm⟩
        · rw [rtabs_bad gk cs sq (by
            cases hb : sq.2
            · exact absurd ⟨(by have := HJ.out; omega), hb⟩ c5
            · rfl)] at hq
          injection hq with hq1 hq2
          exact ⟨hq1.symm, hq2.symm⟩
      obtain ⟨rfl, rfl⟩ := hz
      have c9 : (decide ((i : Int) < n) = true ∧ s2.2 = true) ∨ decide ((i : Int) < n) = false := by
        by_cases h : (i : Int) < n
        · exact .inl ⟨decide_eq_true h, by cases hb : s2.2; exact absurd ⟨h, hb⟩ c5; rfl⟩
        · exact .inr (decide_eq_false h)
      clear c5 HQ
      obtain ⟨rfl, _⟩ := Kd.R_reads' HO.out
      have hn2 := rn1_in HSQ.out
      rw [HE.out.2.2.1] at hn2
      simp only at hn2
      have hn20 := hn2.1
      have o3 : St.ok s3 := by have := rnb_ok HSQ.out 1; rwa [HE.out.2.2.1] at this
      have HOK3 := Aside0.mk o3
      replace HN := Aside0.mk hn2
      clear o3 hn2 hn0
      have a0 := (blk_cell H1.out 0).trans rfl; have a1 := (blk_cell H1.out 1).trans rfl; have af0 := blk_frozen H1.out 0; have af1 := blk_frozen H1.out 1; have al := blk_lt H1.out; have h0 := (blk_cell H5.out 0).trans rfl; have h1 := (blk_cell H5.out 1).trans rfl; have hf0 := blk_frozen H5.out 0; have hf1 := blk_frozen H5.out 1; have hl := blk_lt H5.out; 
      rcases c9 with ⟨c1, c6⟩ | c1
      all_goals
        go_upto_region 10 with fail
        (try clear c6)
        clear c1
        go_wp2_with ((go_at_call 77; (with_reducible refine (number_r _ HSQ.out (by decide) (by decide) HE.out.2.2.1).mono ?_); rintro en wa ⟨rfl, hb_⟩; (try clear a0 af0 a1 af1); (try clear al); (try clear h0 hf0 h1 hf1); (try clear hl); replace HB := Aside0.mk (below_then HB.out HB.out.size hb_); replace H1 := Aside0.mk (blk_below H1.out hb_); replace H2 := Aside0.mk (blk_below H2.out hb_); replace H5 := Aside0.mk (blk_below H5.out hb_); replace HO := Aside0.mk (Kd.R_below HO.out hb_); clear hb_; have a0 := (blk_cell H1.out 0).trans rfl; have a1 := (blk_cell H1.out 1).trans rfl; have af0 := blk_frozen H1.out 0; have af1 := blk_frozen H1.out 1; have al := blk_lt H1.out; have h0 := (blk_cell H5.out 0).trans rfl; have h1 := (blk_cell H5.out 1).trans rfl; have hf0 := blk_frozen H5.out 0; have hf1 := blk_frozen H5.out 1; have hl := blk_lt H5.out; ))
        have HP := HO
        clear HO HCL HJ HSQ
        (try clear a0 af0 a1 af1); (try clear al); (try clear h0 hf0 h1 hf1); (try clear hl); replace H2 := Aside0.mk (far2 H2.out (show gr ≠ ga by have := HLT.out; omega) (.string (strOfNums s3.1)) (.bool s3.2)); replace H5 := Aside0.mk (far2 H5.out (show ge ≠ ga by have := HLT.out; omega) (.string (strOfNums s3.1)) (.bool s3.2)); replace HP := Aside0.mk (row2 HP.out H1.out (by decide) (.string (strOfNums s3.1)) (.bool s3.2)); replace HB := Aside0.mk (below2 (u := .string (strOfNums s3.1)) (v := .bool s3.2) HB.out (show w.heap.size ≤ ga by have := HLT.out; omega)); replace H1 := Aside0.mk (put2 H1.out (.string (strOfNums s3.1)) (.bool s3.2)); 
        obtain ⟨gko, rfl⟩ : ∃ x, x = gk := ⟨gk, rfl⟩
        go_loopg [11] n2.toNat (fun kq v11 w' => ∃ (i : Nat) (ds : List S135) (sq : St) (v : Value), v11 = .int .i64 (i : Int) ∧ Aside0 (kq + i = n2.toNat) ∧ Aside0 (ridxs kq ds sq = (X', s4)) ∧ Aside0 (ds.length ≤ i) ∧ Aside0 (St.ok sq) ∧ Aside0 (Kd.R k135 135 w' w.heap.size (fun _ => True) v ds) ∧ Aside0 (Kd.R k84 84 w' w.heap.size (fun _ => True) (.slice Av T'.length cv) T') ∧ Aside0 (Below w.heap.size w w') ∧ Aside0 (w'.heap[ga]? = some (.cells #[.string (strOfNums sq.1), .bool sq.2] 159 (0, 0))) ∧ Aside0 (w'.heap[gr]? = some (.cells #[.slice none 0 0, .slice none 0 0] 80 (0, 0))) ∧ Aside0 (w'.heap[ge]? = some (.cells #[.slice Av T'.length cv, v] 80 (0, 0))))
        case atStart => exact ⟨0, [], s3, _, rfl, ⟨by omega⟩, ⟨HE.out.2.2.2⟩, ⟨by simp⟩, HOK3, ⟨Kd.R_nil _ _ _ _ _⟩, HP, HB, H1, H2, H5⟩
        case round =>
          clear HB H1 H2 H5 HP
          obtain ⟨i, ds, sq, v, rfl, HJ, HQ, HCL, HSQ, HO, HP, HB, H1, H2, H5⟩ := hrel
          obtain ⟨Av2, cv2, ev⟩ := Kd.R_slice HO.out
          generalize List.length _ = nv_ at ev
          subst ev
          by_cases c5 : (i : Int) < n2 ∧ sq.2 = false
          · obtain ⟨c5, c6⟩ := c5
            have c1 : decide ((i : Int) < n2) = true := decide_eq_true c5
            obtain ⟨k1, hk1⟩ : ∃ k1, gk = k1 + 1 := ⟨gk - 1, by have := HJ.out; omega⟩
            obtain ⟨t, t1, e1⟩ : ∃ n s2, ridx sq = (n, s2) := ⟨_, _, rfl⟩
            have o1 : St.ok t1 := by have := ridx_ok HSQ.out; rwa [e1] at this
            have hq := HQ.out
            rw [hk1, ridxs, if_neg (by rw [c6]; decide), e1] at hq
            simp only at hq
            have HER := Aside0.mk e1
            have HERO := Aside0.mk o1
            have HC6 := Aside0.mk c6
            have HQ1 := Aside0.mk (And.intro hk1 (And.intro hq c5))
            clear e1 o1 hk1 hq c5 HQ
            have a0 := (blk_cell H1.out 0).trans rfl; have a1 := (blk_cell H1.out 1).trans rfl; have af0 := blk_frozen H1.out 0; have af1 := blk_frozen H1.out 1; have al := blk_lt H1.out; have h0 := (blk_cell H5.out 0).trans rfl; have h1 := (blk_cell H5.out 1).trans rfl; have hf0 := blk_frozen H5.out 0; have hf1 := blk_frozen H5.out 1; have hl := blk_lt H5.out; 
            go_wp2_with (first
              | (go_at_call 79; (have hs_ := HB.out.size); (with_reducible refine (index_f _ HC6.out HSQ.out HER.out).mono ?_); rintro en wa ⟨A1, n1, q1, B1, m1, d1, rfl, hR1, hR2, hb_⟩; (try clear a0 af0 a1 af1); (try clear al); (try clear h0 hf0 h1 hf1); (try clear hl); replace HB := Aside0.mk (below_then HB.out HB.out.size hb_); replace H1 := Aside0.mk (blk_below H1.out hb_); replace H2 := Aside0.mk (blk_below H2.out hb_); replace H5 := Aside0.mk (blk_below H5.out hb_); replace HO := Aside0.mk (Kd.R_below HO.out hb_); replace HP := Aside0.mk (Kd.R_below HP.out hb_); clear hb_; (have HR1 := Aside0.mk (Kd.R_lower hR1 hs_)); clear hR1; (have HR2 := Aside0.mk (Kd.R_lower hR2 hs_)); clear hR2;  clear hs_; have a0 := (blk_cell H1.out 0).trans rfl; have a1 := (blk_cell H1.out 1).trans rfl; have af0 := blk_frozen H1.out 0; have af1 := blk_frozen H1.out 1; have al := blk_lt H1.out; have h0 := (blk_cell H5.out 0).trans rfl; have h1 := (blk_cell H5.out 1).trans rfl; have hf0 := blk_frozen H5.out 0; have hf1 := blk_frozen H5.out 1; have hl := blk_lt H5.out; )
              | ((with_reducible refine gate_builtin (b := .append) (xs := #[.tmp 66, .tmp 68]) rfl ?_); (try clear a0 af0 a1 af1); (try clear al); (try clear h0 hf0 h1 hf1); (try clear hl); replace H2 := Aside0.mk (far2 H2.out (show gr ≠ ga by have := HLT.out; omega) (.string (strOfNums t1.1)) (.bool t1.2)); replace H5 := Aside0.mk (far2 H5.out (show ge ≠ ga by have := HLT.out; omega) (.string (strOfNums t1.1)) (.bool t1.2)); replace HO := Aside0.mk (row2 HO.out H1.out (by decide) (.string (strOfNums t1.1)) (.bool t1.2)); replace HP := Aside0.mk (row2 HP.out H1.out (by decide) (.string (strOfNums t1.1)) (.bool t1.2)); replace HR1 := Aside0.mk (row2 HR1.out H1.out (by decide) (.string (strOfNums t1.1)) (.bool t1.2)); replace HR2 := Aside0.mk (row2 HR2.out H1.out (by decide) (.string (strOfNums t1.1)) (.bool t1.2)); replace HB := Aside0.mk (below2 (u := .string (strOfNums t1.1)) (v := .bool t1.2) HB.out (show w.heap.size ≤ ga by have := HLT.out; omega)); replace H1 := Aside0.mk (put2 H1.out (.string (strOfNums t1.1)) (.bool t1.2)); replace H1 := Aside0.mk (blk_alloc H1.out (.cells #[.string t.f0, .int .i64 t.f1, .slice A1 n1 q1, .int .u32 t.f3, .int .i64 t.f4, .int .i64 t.f5, .slice B1 m1 d1] 135)); replace H2 := Aside0.mk (blk_alloc H2.out (.cells #[.string t.f0, .int .i64 t.f1, .slice A1 n1 q1, .int .u32 t.f3, .int .i64 t.f4, .int .i64 t.f5, .slice B1 m1 d1] 135)); replace H5 := Aside0.mk (blk_alloc H5.out (.cells #[.string t.f0, .int .i64 t.f1, .slice A1 n1 q1, .int .u32 t.f3, .int .i64 t.f4, .int .i64 t.f5, .slice B1 m1 d1] 135)); replace HO := Aside0.mk (Kd.R_alloc HO.out (.cells #[.string t.f0, .int .i64 t.f1, .slice A1 n1 q1, .int .u32 t.f3, .int .i64 t.f4, .int .i64 t.f5, .slice B1 m1 d1] 135)); replace HP := Aside0.mk (Kd.R_alloc HP.out (.cells #[.string t.f0, .int .i64 t.f1, .slice A1 n1 q1, .int .u32 t.f3, .int .i64 t.f4, .int .i64 t.f5, .slice B1 m1 d1] 135)); replace HR1 := Aside0.mk (Kd.R_alloc HR1.out (.cells #[.string t.f0, .int .i64 t.f1, .slice A1 n1 q1, .int .u32 t.f3, .int .i64 t.f4, .int .i64 t.f5, .slice B1 m1 d1] 135)); replace HR2 := Aside0.mk (Kd.R_alloc HR2.out (.cells #[.string t.f0, .int .i64 t.f1, .slice A1 n1 q1, .int .u32 t.f3, .int .i64 t.f4, .int .i64 t.f5, .slice B1 m1 d1] 135)); replace HB := Aside0.mk (below_alloc HB.out (.cells #[.string t.f0, .int .i64 t.f1, .slice A1 n1 q1, .int .u32 t.f3, .int .i64 t.f4, .int .i64 t.f5, .slice B1 m1 d1] 135)); replace H1 := Aside0.mk (blk_alloc H1.out (.cells #[.string (strOfNums t1.1), .bool t1.2] 159)); replace H2 := Aside0.mk (blk_alloc H2.out (.cells #[.string (strOfNums t1.1), .bool t1.2] 159)); replace H5 := Aside0.mk (blk_alloc H5.out (.cells #[.string (strOfNums t1.1), .bool t1.2] 159)); replace HO := Aside0.mk (Kd.R_alloc HO.out (.cells #[.string (strOfNums t1.1), .bool t1.2] 159)); replace HP := Aside0.mk (Kd.R_alloc HP.out (.cells #[.string (strOfNums t1.1), .bool t1.2] 159)); replace HR1 := Aside0.mk (Kd.R_alloc HR1.out (.cells #[.string (strOfNums t1.1), .bool t1.2] 159)); replace HR2 := Aside0.mk (Kd.R_alloc HR2.out (.cells #[.string (strOfNums t1.1), .bool t1.2] 159)); replace HB := Aside0.mk (below_alloc HB.out (.cells #[.string (strOfNums t1.1), .bool t1.2] 159)); at_builtin; refine Kd.R_append k135 (w0 := w) w.heap.size rfl (.tmp 66) (.tmp 68) 78 135 (.agg #[(.string ⟨#[]⟩), (.int .i64 0), (.slice none 0 0), (.int .u32 0), (.int .i64 0), (.int .i64 0), (.slice none 0 0)]) 96 rfl Try.underlying78 info135 rfl (by decide) (by omega) (.slice Av2 nv_ cv2) ds t [.string t.f0, .int .i64 t.f1, .slice A1 n1 q1, .int .u32 t.f3, .int .i64 t.f4, .int .i64 t.f5, .slice B1 m1 d1] (fun _ => True) (fun k => ∃ cells, ((((wa.setCell ⟨ga, 0, none⟩ (.string (strOfNums t1.1))).setCell ⟨ga, 1, none⟩ (.bool t1.2)).alloc (.cells #[.string t.f0, .int .i64 t.f1, .slice A1 n1 q1, .int .u32 t.f3, .int .i64 t.f4, .int .i64 t.f5, .slice B1 m1 d1] 135)).alloc (.cells #[.string (strOfNums t1.1), .bool t1.2] 159)).heap[k]? = some (.cells cells 3 (0, 0))) rfl (by first | (go_simp; done) | (go_simp; rfl)) ?aP ?aK ?aF ?aO ?aB ?aS ?aL ?_; (case aP => exact k135_mkM _ _ _ t (tok rfl HR1.out) (tok rfl HR2.out)); (case aK => exact (fun k hk => ⟨trivial, (by obtain ⟨cells, hc⟩ := hk; exact Kd.R_ne HO.out hc (by decide))⟩)); (case aF => exact (fun _ _ => trivial)); (case aO => exact HO.out); (case aB => exact HB.out); (case aS => exact HB.out.size); (case aL => have h1 := HCL.out; have h2 := HQ1.out.2.2; have h3 := HN.out; omega); intro v6 w6 ho hb hg_ hat; (obtain ⟨A6, c6, e6⟩ := Kd.R_slice ho); generalize List.length _ = nn at e6; subst e6; replace H1 := Aside0.mk (blk_grown H1.out hg_ (Kd.R_ne HO.out H1.out (by decide))); replace H2 := Aside0.mk (blk_grown H2.out hg_ (Kd.R_ne HO.out H2.out (by decide))); replace H5 := Aside0.mk (blk_grown H5.out hg_ (Kd.R_ne HO.out H5.out (by decide))); replace HP := Aside0.mk (row_tgrown HP.out HO.out (by decide) hg_); replace HB := Aside0.mk hb; replace HO := Aside0.mk ho; clear ho hb hg_ hat ; have h0 := (blk_cell H5.out 0).trans rfl; have h1 := (blk_cell H5.out 1).trans rfl; have hf0 := blk_frozen H5.out 0; have hf1 := blk_frozen H5.out 1; have hl := blk_lt H5.out; ))
            go_roundg k1
            case measure => have := HQ1.out.1; omega
            case rel =>
              have h1 := HJ.out
              have h2 := HQ1.out
              have h3 := HCL.out
              replace H1 := Aside0.mk (blk_far (p := ⟨ge, 1, none⟩) H1.out (show ga ≠ ge by have := HLT.out; omega) (.slice A6 nn c6)); replace H2 := Aside0.mk (blk_far (p := ⟨ge, 1, none⟩) H2.out (show gr ≠ ge by have := HLT.out; omega) (.slice A6 nn c6)); replace HO := Aside0.mk (Kd.R_set HO.out H5.out (by decide) 1 (.slice A6 nn c6)); replace HP := Aside0.mk (Kd.R_set HP.out H5.out (by decide) 1 (.slice A6 nn c6)); replace HB := Aside0.mk (below_set (j := 1) (v := .slice A6 nn c6) HB.out (show w.heap.size ≤ ge by have := HLT.out; omega)); replace H5 := Aside0.mk (blk_put H5.out 1 (.slice A6 nn c6) rfl); 
              exact ⟨i + 1, ds ++ [t], t1, .slice A6 nn c6, by first | rfl | (rw [Tk.wr_in ((i : Int) + 1) (by have := HN.out; omega)]; rfl), ⟨by omega⟩, ⟨h2.2.1⟩, ⟨by rw [List.length_append, List.length_singleton]; omega⟩, HERO, HO, HP, HB, H1, H2, H5⟩
          · have hz : X' = ds ∧ s4 = sq := by
              have hq := HQ.out
              rcases Nat.eq_zero_or_pos gk with h0 | h0
              · rw [h0, ridxs] at hq
                injection hq with hq1 hq2
                exact ⟨hq1.symm, hq2.symm⟩
              · rw [ridxs_bad gk ds sq (by
                  cases hb : sq.2
                  · exact absurd ⟨(by have := HJ.out; omega), hb⟩ c5
                  · rfl)] at hq
                injection hq with hq1 hq2
                exact ⟨hq1.symm, hq2.symm⟩
            obtain ⟨rfl, rfl⟩ := hz
            have c9 : (decide ((i : Int) < n2) = true ∧ s4.2 = true) ∨ decide ((i : Int) < n2) = false := by
              by_cases h : (i : Int) < n2
              · exact .inl ⟨decide_eq_true h, by cases hb : s4.2; exact absurd ⟨h, hb⟩ c5; rfl⟩
              · exact .inr (decide_eq_false h)
            clear c5 HQ
            obtain ⟨rfl, _⟩ := Kd.R_reads' HO.out
            have a0 := (blk_cell H1.out 0).trans rfl; have a1 := (blk_cell H1.out 1).trans rfl; have af0 := blk_frozen H1.out 0; have af1 := blk_frozen H1.out 1; have al := blk_lt H1.out; have h0 := (blk_cell H5.out 0).trans rfl; have h1 := (blk_cell H5.out 1).trans rfl; have hf0 := blk_frozen H5.out 0; have hf1 := blk_frozen H5.out 1; have hl := blk_lt H5.out; 
            have z0 := (blk_cell H2.out 0).trans rfl; have z1 := (blk_cell H2.out 1).trans rfl; have zf0 := blk_frozen H2.out 0; have zf1 := blk_frozen H2.out 1; have zl := blk_lt H2.out; 
            rcases c9 with ⟨c1, c6⟩ | c1
            all_goals
              go_upto_region 17 with fail
              (try clear c6)
              clear c1
              obtain ⟨l4, b4⟩ := s4
              simp only at H1 HR a0 a1
              obtain ⟨zs, hzs⟩ : ∃ z, z = strOfNums l4 := ⟨_, rfl⟩
              rw [← hzs] at H1 a0
              have hsz : zs.size = l4.length := by rw [hzs, Byt.str_size]
              clear hzs
              cases b4
              · by_cases hl : l4 = []
                · have hl1 : decide ((0 : Int) < (zs.size : Int)) = false := decide_eq_false (by rw [hsz, hl]; decide)
                  have hl2 : decide (0 < zs.size) = false := decide_eq_false (by rw [hsz, hl]; decide)
                  by_cases hM : MayP T' X'
                  · have hRt : R = true := HR.out.2 ⟨rfl, hl, hM⟩
                    have HMM := Aside0.mk hM
                    subst hRt
                    clear hM HR hsz hl
                    go_wp2_with ((go_at_call 30; (with_reducible refine (may_t _ (Kd.R_reads' HP.out).2.2 (Kd.R_reads' HO.out).2.2 HWW.out HMM.out).mono ?_); rintro en wa ⟨rfl, hb_⟩; (try clear a0 af0 a1 af1); (try clear al); (try clear h0 hf0 h1 hf1); (try clear hl); (try clear z0 zf0 z1 zf1); (try clear zl); replace HB := Aside0.mk (below_then HB.out HB.out.size hb_); replace H1 := Aside0.mk (blk_below H1.out hb_); replace H2 := Aside0.mk (blk_below H2.out hb_); replace H5 := Aside0.mk (blk_below H5.out hb_); replace HO := Aside0.mk (Kd.R_below HO.out hb_); replace HP := Aside0.mk (Kd.R_below HP.out hb_); clear hb_; have a0 := (blk_cell H1.out 0).trans rfl; have a1 := (blk_cell H1.out 1).trans rfl; have af0 := blk_frozen H1.out 0; have af1 := blk_frozen H1.out 1; have al := blk_lt H1.out; have h0 := (blk_cell H5.out 0).trans rfl; have h1 := (blk_cell H5.out 1).trans rfl; have hf0 := blk_frozen H5.out 0; have hf1 := blk_frozen H5.out 1; have hl := blk_lt H5.out; have z0 := (blk_cell H2.out 0).trans rfl; have z1 := (blk_cell H2.out 1).trans rfl; have zf0 := blk_frozen H2.out 0; have zf1 := blk_frozen H2.out 1; have zl := blk_lt H2.out; ))
                    (try clear z0 zf0 z1 zf1); (try clear zl); (try clear a0 af0 a1 af1); (try clear al); (try clear h0 hf0 h1 hf1); (try clear hl); replace H1 := Aside0.mk (blk_far (p := ⟨gr, 0, none⟩) H1.out (show ga ≠ gr by have := HLT.out; omega) (.slice Av T'.length cv)); replace H5 := Aside0.mk (blk_far (p := ⟨gr, 0, none⟩) H5.out (show ge ≠ gr by have := HLT.out; omega) (.slice Av T'.length cv)); replace HO := Aside0.mk (Kd.R_set HO.out H2.out (by decide) 0 (.slice Av T'.length cv)); replace HP := Aside0.mk (Kd.R_set HP.out H2.out (by decide) 0 (.slice Av T'.length cv)); replace HB := Aside0.mk (below_set (j := 0) (v := .slice Av T'.length cv) HB.out (show w.heap.size ≤ gr by have := HLT.out; omega)); replace H2 := Aside0.mk (blk_put H2.out 0 (.slice Av T'.length cv) rfl); replace H1 := Aside0.mk (blk_far (p := ⟨gr, 1, none⟩) H1.out (show ga ≠ gr by have := HLT.out; omega) (.slice Av2 X'.length cv2)); replace H5 := Aside0.mk (blk_far (p := ⟨gr, 1, none⟩) H5.out (show ge ≠ gr by have := HLT.out; omega) (.slice Av2 X'.length cv2)); replace HO := Aside0.mk (Kd.R_set HO.out H2.out (by decide) 1 (.slice Av2 X'.length cv2)); replace HP := Aside0.mk (Kd.R_set HP.out H2.out (by decide) 1 (.slice Av2 X'.length cv2)); replace HB := Aside0.mk (below_set (j := 1) (v := .slice Av2 X'.length cv2) HB.out (show w.heap.size ≤ gr by have := HLT.out; omega)); replace H2 := Aside0.mk (blk_put H2.out 1 (.slice Av2 X'.length cv2) rfl); exact bodyPost_ret (results_cell1 rfl _ _ gr 80 #[.slice Av T'.length cv, .slice Av2 X'.length cv2] (0, 0) _ rfl H2.out Try.underlying80 rfl (by kernel_rfl)) rfl ⟨_, _, rfl, HP.out, HO.out, HB.out⟩
                  · have hRf : R = false := by
                      cases hb : R
                      · rfl
                      · exact absurd (HR.out.1 hb).2.2 hM
                    have HMM := Aside0.mk hM
                    subst hRf
                    clear hM HR hsz hl
                    go_wp2_with ((go_at_call 30; (with_reducible refine (may_f _ (Kd.R_reads' HP.out).2.2 (Kd.R_reads' HO.out).2.2 HWW.out HMM.out).mono ?_); rintro en wa ⟨rfl, hb_⟩; (try clear a0 af0 a1 af1); (try clear al); (try clear h0 hf0 h1 hf1); (try clear hl); (try clear z0 zf0 z1 zf1); (try clear zl); replace HB := Aside0.mk (below_then HB.out HB.out.size hb_); replace H1 := Aside0.mk (blk_below H1.out hb_); replace H2 := Aside0.mk (blk_below H2.out hb_); replace H5 := Aside0.mk (blk_below H5.out hb_); replace HO := Aside0.mk (Kd.R_below HO.out hb_); replace HP := Aside0.mk (Kd.R_below HP.out hb_); clear hb_; have a0 := (blk_cell H1.out 0).trans rfl; have a1 := (blk_cell H1.out 1).trans rfl; have af0 := blk_frozen H1.out 0; have af1 := blk_frozen H1.out 1; have al := blk_lt H1.out; have h0 := (blk_cell H5.out 0).trans rfl; have h1 := (blk_cell H5.out 1).trans rfl; have hf0 := blk_frozen H5.out 0; have hf1 := blk_frozen H5.out 1; have hl := blk_lt H5.out; have z0 := (blk_cell H2.out 0).trans rfl; have z1 := (blk_cell H2.out 1).trans rfl; have zf0 := blk_frozen H2.out 0; have zf1 := blk_frozen H2.out 1; have zl := blk_lt H2.out; ))
                    (try clear z0 zf0 z1 zf1); (try clear zl); (try clear a0 af0 a1 af1); (try clear al); (try clear h0 hf0 h1 hf1); (try clear hl); replace H1 := Aside0.mk (blk_far (p := ⟨gr, 0, none⟩) H1.out (show ga ≠ gr by have := HLT.out; omega) (.slice none 0 0)); replace H5 := Aside0.mk (blk_far (p := ⟨gr, 0, none⟩) H5.out (show ge ≠ gr by have := HLT.out; omega) (.slice none 0 0)); replace HO := Aside0.mk (Kd.R_set HO.out H2.out (by decide) 0 (.slice none 0 0)); replace HP := Aside0.mk (Kd.R_set HP.out H2.out (by decide) 0 (.slice none 0 0)); replace HB := Aside0.mk (below_set (j := 0) (v := .slice none 0 0) HB.out (show w.heap.size ≤ gr by have := HLT.out; omega)); replace H2 := Aside0.mk (blk_put H2.out 0 (.slice none 0 0) rfl); replace H1 := Aside0.mk (blk_far (p := ⟨gr, 1, none⟩) H1.out (show ga ≠ gr by have := HLT.out; omega) (.slice none 0 0)); replace H5 := Aside0.mk (blk_far (p := ⟨gr, 1, none⟩) H5.out (show ge ≠ gr by have := HLT.out; omega) (.slice none 0 0)); replace HO := Aside0.mk (Kd.R_set HO.out H2.out (by decide) 1 (.slice none 0 0)); replace HP := Aside0.mk (Kd.R_set HP.out H2.out (by decide) 1 (.slice none 0 0)); replace HB := Aside0.mk (below_set (j := 1) (v := .slice none 0 0) HB.out (show w.heap.size ≤ gr by have := HLT.out; omega)); replace H2 := Aside0.mk (blk_put H2.out 1 (.slice none 0 0) rfl); exact bodyPost_ret (results_cell1 rfl _ _ gr 80 #[.slice none 0 0, .slice none 0 0] (0, 0) _ rfl H2.out Try.underlying80 rfl (by kernel_rfl)) rfl ⟨_, _, rfl, Kd.R_nil _ _ _ _ _, Kd.R_nil _ _ _ _ _, HB.out⟩
                · have hp : 0 < l4.length := List.length_pos_iff.mpr hl
                  have hl1 : decide ((0 : Int) < (zs.size : Int)) = true := decide_eq_true (by rw [hsz]; omega)
                  have hl2 : decide (0 < zs.size) = true := decide_eq_true (by rw [hsz]; exact hp)
                  have hRf : R = false := by
                    cases hb : R
                    · rfl
                    · exact absurd (HR.out.1 hb).2.1 hl
                  subst hRf
                  clear HR hsz hl hp
                  go_wp2
                  (try clear z0 zf0 z1 zf1); (try clear zl); (try clear a0 af0 a1 af1); (try clear al); (try clear h0 hf0 h1 hf1); (try clear hl); replace H1 := Aside0.mk (blk_far (p := ⟨gr, 0, none⟩) H1.out (show ga ≠ gr by have := HLT.out; omega) (.slice none 0 0)); replace H5 := Aside0.mk (blk_far (p := ⟨gr, 0, none⟩) H5.out (show ge ≠ gr by have := HLT.out; omega) (.slice none 0 0)); replace HO := Aside0.mk (Kd.R_set HO.out H2.out (by decide) 0 (.slice none 0 0)); replace HP := Aside0.mk (Kd.R_set HP.out H2.out (by decide) 0 (.slice none 0 0)); replace HB := Aside0.mk (below_set (j := 0) (v := .slice none 0 0) HB.out (show w.heap.size ≤ gr by have := HLT.out; omega)); replace H2 := Aside0.mk (blk_put H2.out 0 (.slice none 0 0) rfl); replace H1 := Aside0.mk (blk_far (p := ⟨gr, 1, none⟩) H1.out (show ga ≠ gr by have := HLT.out; omega) (.slice none 0 0)); replace H5 := Aside0.mk (blk_far (p := ⟨gr, 1, none⟩) H5.out (show ge ≠ gr by have := HLT.out; omega) (.slice none 0 0)); replace HO := Aside0.mk (Kd.R_set HO.out H2.out (by decide) 1 (.slice none 0 0)); replace HP := Aside0.mk (Kd.R_set HP.out H2.out (by decide) 1 (.slice none 0 0)); replace HB := Aside0.mk (below_set (j := 1) (v := .slice none 0 0) HB.out (show w.heap.size ≤ gr by have := HLT.out; omega)); replace H2 := Aside0.mk (blk_put H2.out 1 (.slice none 0 0) rfl); exact bodyPost_ret (results_cell1 rfl _ _ gr 80 #[.slice none 0 0, .slice none 0 0] (0, 0) _ rfl H2.out Try.underlying80 rfl (by kernel_rfl)) rfl ⟨_, _, rfl, Kd.R_nil _ _ _ _ _, Kd.R_nil _ _ _ _ _, HB.out⟩
              · have hRf : R = false := by
                  cases hb : R
                  · rfl
                  · exact nomatch (HR.out.1 hb).1
                subst hRf
                clear HR hsz
                go_wp2
                (try clear z0 zf0 z1 zf1); (try clear zl); (try clear a0 af0 a1 af1); (try clear al); (try clear h0 hf0 h1 hf1); (try clear hl); replace H1 := Aside0.mk (blk_far (p := ⟨gr, 0, none⟩) H1.out (show ga ≠ gr by have := HLT.out; omega) (.slice none 0 0)); replace H5 := Aside0.mk (blk_far (p := ⟨gr, 0, none⟩) H5.out (show ge ≠ gr by have := HLT.out; omega) (.slice none 0 0)); replace HO := Aside0.mk (Kd.R_set HO.out H2.out (by decide) 0 (.slice none 0 0)); replace HP := Aside0.mk (Kd.R_set HP.out H2.out (by decide) 0 (.slice none 0 0)); replace HB := Aside0.mk (below_set (j := 0) (v := .slice none 0 0) HB.out (show w.heap.size ≤ gr by have := HLT.out; omega)); replace H2 := Aside0.mk (blk_put H2.out 0 (.slice none 0 0) rfl); replace H1 := Aside0.mk (blk_far (p := ⟨gr, 1, none⟩) H1.out (show ga ≠ gr by have := HLT.out; omega) (.slice none 0 0)); replace H5 := Aside0.mk (blk_far (p := ⟨gr, 1, none⟩) H5.out (show ge ≠ gr by have := HLT.out; omega) (.slice none 0 0)); replace HO := Aside0.mk (Kd.R_set HO.out H2.out (by decide) 1 (.slice none 0 0)); replace HP := Aside0.mk (Kd.R_set HP.out H2.out (by decide) 1 (.slice none 0 0)); replace HB := Aside0.mk (below_set (j := 1) (v := .slice none 0 0) HB.out (show w.heap.size ≤ gr by have := HLT.out; omega)); replace H2 := Aside0.mk (blk_put H2.out 1 (.slice none 0 0) rfl); exact bodyPost_ret (results_cell1 rfl _ _ gr 80 #[.slice none 0 0, .slice none 0 0] (0, 0) _ rfl H2.out Try.underlying80 rfl (by kernel_rfl)) rfl ⟨_, _, rfl, Kd.R_nil _ _ _ _ _, Kd.R_nil _ _ _ _ _, HB.out⟩
end Go.Proofs.Ytpfegfkniilobaa.Rr
