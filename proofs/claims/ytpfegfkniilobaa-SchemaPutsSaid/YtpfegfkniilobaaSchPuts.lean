/- The law SchemaPuts in plain Lean, and over what its walk asks. Conditions: what the types hold. -/
import Derived.Test.YtpfegfkniilobaaPureSchG
import Derived.Test.YtpfegfkniilobaaGrt
import Derived.Test.YtpfegfkniilobaaXSchemaz7
import Derived.Test.YtpfegfkniilobaaOpen
import Derived.SizedLaws
import Derived.Deep.Slices
namespace Go.Proofs.Ytpfegfkniilobaa.PureS
open Go.RowKit Go.Proofs.YtpfegfkniilobaaW.PrintWords Go.Proofs.Ytpfegfkniilobaa.XSchema Go.Proofs.Ytpfegfkniilobaa.Byt
set_option linter.unusedVariables false
set_option linter.unusedSimpArgs false
theorem eGreat (T : List S84) (X : List S135) (hT : T.length ≤ 140737488355328) (hX : X.length ≤ 140737488355328) : ∃ r, Ev (fun k => rowlockref12_Great.f k T X) r := by
  obtain ⟨k, r, h, _⟩ := great_f T X hT hX
  exact ⟨r, Ev.of (fun k => rowlockref12_Great.mono T X k) h⟩
theorem same_bool {r q : Bool} {P : Prop} (h : r = true ↔ P) (k : q = true ↔ P) : r = q := by
  cases r <;> cases q <;> simp_all
section
variable (T : List S84) (X : List S135)
theorem ePut (hok : bookOk T X = true) {m : Bool} (hm : Ev (fun k => schema_May.f k T X) m) : Ev (fun k => schema_Put.f k T X) (if m = true then (wr T X, 0) else ([], 1)) := by
  refine Ev.congr (fun k => by rw [schema_Put.f, if_pos hok]) (Ev.bind (f := fun _ t => if t = true then some (wr T X, 0) else some ([], 1)) hm ?_)
  cases m
  · exact Ev.now _
  · exact Ev.now _
theorem eGetPut (hM : MayP T X) (hm : Ev (fun k => schema_May.f k T X) true) : Ev (fun k => schema_Get.f k (wr T X)) (T, X, 0) :=
  Ev.congr (fun k => by rw [schema_Get.f, if_pos (bytesOk_wr T X hM), readAll_wr T X hM]) (Ev.bind (f := fun _ m => some (if m = true then (T, X, (0 : Int)) else ([], [], 2))) hm (Ev.now _))
theorem puts_j1 (hb : bookL T X) {m : Bool} (hs : Ev (fun k => schema_May.f k T X) m) (hr : Ev (fun k => rowlockref12_May.f k T X) m) (hp : m = true → MayP T X) : Ev (fun k => rowlocklaw12_SchemaPuts.j1 k (if m = true then (wr T X, (0 : Int)) else ([], 1)).1 (if m = true then (wr T X, (0 : Int)) else ([], 1)).2 false T X) true := by
  cases m
  · refine Ev.step (f := fun k => (rowlockref12_May.f k T X).bind fun t165 => if t165 = true then ((schema_Get.f k []).bind fun bt167 => ((rowlocklaw12_fixed.f).bind fun t175 => (if t175 = true then (if (1 : Int) = 0 then ((rowlockref12_Put.f k T X).bind fun t176 => (if (strOfNums []).toList = t176.toList then (if bt167.2.2 = 0 then ((schema_Same.f k bt167.1 bt167.2.1 T X).bind fun t177 => (some t177)) else (some false)) else (some false))) else (some false)) else (some false)))) else some true) (fun k => by
      rw [if_neg (by decide), rowlocklaw12_SchemaPuts.j1, if_neg (by decide)]
      rfl) ?_
    exact Ev.bind (f := fun k t165 => if t165 = true then ((schema_Get.f k []).bind fun bt167 => ((rowlocklaw12_fixed.f).bind fun t175 => (if t175 = true then (if (1 : Int) = 0 then ((rowlockref12_Put.f k T X).bind fun t176 => (if (strOfNums []).toList = t176.toList then (if bt167.2.2 = 0 then ((schema_Same.f k bt167.1 bt167.2.1 T X).bind fun t177 => (some t177)) else (some false)) else (some false))) else (some false)) else (some false)))) else some true) hr (Ev.congr (fun k => if_neg (by decide)) (Ev.now _))
  · have hM := hp rfl
    obtain ⟨r2, h2, e2⟩ := eSame T T X X hb
    obtain rfl : r2 = true := e2.2 ⟨rfl, rfl⟩
    refine Ev.step (f := fun k => (rowlockref12_May.f k T X).bind fun t165 => if t165 = true then ((schema_Get.f k (wr T X)).bind fun bt167 => (rowlockref12_Put.f k T X).bind fun t176 => (if (strOfNums (wr T X)).toList = t176.toList then (if bt167.2.2 = 0 then ((schema_Same.f k bt167.1 bt167.2.1 T X).bind fun t177 => (some t177)) else (some false)) else (some false))) else some false) (fun k => by
      rw [if_pos rfl, rowlocklaw12_SchemaPuts.j1, if_neg (by decide)]
      congr 1) ?_
    refine Ev.bind (f := fun k t165 => if t165 = true then ((schema_Get.f k (wr T X)).bind fun bt167 => (rowlockref12_Put.f k T X).bind fun t176 => (if (strOfNums (wr T X)).toList = t176.toList then (if bt167.2.2 = 0 then ((schema_Same.f k bt167.1 bt167.2.1 T X).bind fun t177 => (some t177)) else (some false)) else (some false))) else some false) hr (Ev.congr (fun k => if_pos rfl) ?_)
    refine Ev.bind (f := fun k bt167 => (rowlockref12_Put.f k T X).bind fun t176 => (if (strOfNums (wr T X)).toList = t176.toList then (if bt167.2.2 = 0 then ((schema_Same.f k bt167.1 bt167.2.1 T X).bind fun t177 => (some t177)) else (some false)) else (some false))) (eGetPut T X hM hs) ?_
    refine Ev.bind (f := fun k t176 => (if (strOfNums (wr T X)).toList = t176.toList then (if (0 : Int) = 0 then ((schema_Same.f k T X T X).bind fun t177 => (some t177)) else (some false)) else (some false))) (rPut T X hM) ?_
    refine Ev.congr (fun k => by rw [if_pos rfl, if_pos rfl]) ?_
    exact Ev.bind (f := fun _ t => some t) h2 (Ev.now _)
theorem SchemaPuts (a1 : ByteArray) (hT : T.length ≤ 140737488355328) (hX : X.length ≤ 140737488355328) (hb : bookL T X) (hok : bookOk T X = true) (ha : a1.size ≤ 9223372036854775807) : ∃ k, rowlocklaw12_SchemaPuts.f k T X a1 = some true := by
  refine Ev.rounds ?_
  obtain ⟨hW, hsz⟩ := bookOk_W hok
  obtain ⟨g1, h1⟩ := eGreat T X hT hX
  obtain ⟨m1, h2, e2⟩ := sMay T X hW hsz
  obtain ⟨m2, h3, e3⟩ := rMay T X hW
  obtain ⟨n1, h4, e4⟩ := sName a1 ha
  obtain ⟨n2, h5, e5⟩ := rName a1
  obtain rfl := same_bool e2 e3
  obtain rfl := same_bool e4 e5
  have hjt : Ev (fun k => rowlocklaw12_SchemaPuts.j0 k a1 true T X) true := Ev.step (f := fun _ => some true) (fun k => by rw [rowlocklaw12_SchemaPuts.j0, if_pos rfl]; rfl) (Ev.now _)
  have hjf : Ev (fun k => rowlocklaw12_SchemaPuts.j0 k a1 false T X) true := by
    refine Ev.step (f := fun k => (schema_Put.f k T X).bind fun bt157 => ((schema_Name.f k a1).bind fun t161 => ((rowlockref12_Name.f k a1).bind fun t162 => (if (t161 != t162) = true then (rowlocklaw12_SchemaPuts.j1 k bt157.1 bt157.2 true T X) else ((schema_May.f k T X).bind fun t163 => ((rowlockref12_May.f k T X).bind fun t164 => (rowlocklaw12_SchemaPuts.j1 k bt157.1 bt157.2 (t163 != t164) T X))))))) (fun k => by rw [rowlocklaw12_SchemaPuts.j0, if_neg (by decide)]) ?_
    refine Ev.bind (f := fun k bt157 => ((schema_Name.f k a1).bind fun t161 => ((rowlockref12_Name.f k a1).bind fun t162 => (if (t161 != t162) = true then (rowlocklaw12_SchemaPuts.j1 k bt157.1 bt157.2 true T X) else ((schema_May.f k T X).bind fun t163 => ((rowlockref12_May.f k T X).bind fun t164 => (rowlocklaw12_SchemaPuts.j1 k bt157.1 bt157.2 (t163 != t164) T X))))))) (ePut T X hok h2) ?_
    refine Ev.bind (f := fun k t161 => ((rowlockref12_Name.f k a1).bind fun t162 => (if (t161 != t162) = true then (rowlocklaw12_SchemaPuts.j1 k (if m1 = true then (wr T X, (0 : Int)) else ([], 1)).1 (if m1 = true then (wr T X, (0 : Int)) else ([], 1)).2 true T X) else ((schema_May.f k T X).bind fun t163 => ((rowlockref12_May.f k T X).bind fun t164 => (rowlocklaw12_SchemaPuts.j1 k (if m1 = true then (wr T X, (0 : Int)) else ([], 1)).1 (if m1 = true then (wr T X, (0 : Int)) else ([], 1)).2 (t163 != t164) T X)))))) h4 ?_
    refine Ev.bind (f := fun k t162 => (if (n1 != t162) = true then (rowlocklaw12_SchemaPuts.j1 k (if m1 = true then (wr T X, (0 : Int)) else ([], 1)).1 (if m1 = true then (wr T X, (0 : Int)) else ([], 1)).2 true T X) else ((schema_May.f k T X).bind fun t163 => ((rowlockref12_May.f k T X).bind fun t164 => (rowlocklaw12_SchemaPuts.j1 k (if m1 = true then (wr T X, (0 : Int)) else ([], 1)).1 (if m1 = true then (wr T X, (0 : Int)) else ([], 1)).2 (t163 != t164) T X))))) h5 ?_
    refine Ev.congr (fun k => if_neg (by simp)) ?_
    refine Ev.bind (f := fun k t163 => ((rowlockref12_May.f k T X).bind fun t164 => (rowlocklaw12_SchemaPuts.j1 k (if m1 = true then (wr T X, (0 : Int)) else ([], 1)).1 (if m1 = true then (wr T X, (0 : Int)) else ([], 1)).2 (t163 != t164) T X))) h2 ?_
    refine Ev.bind (f := fun k t164 => (rowlocklaw12_SchemaPuts.j1 k (if m1 = true then (wr T X, (0 : Int)) else ([], 1)).1 (if m1 = true then (wr T X, (0 : Int)) else ([], 1)).2 (m1 != t164) T X)) h3 ?_
    refine Ev.congr (fun k => by rw [show (m1 != m1) = false by simp]) (puts_j1 T X hb h2 h3 e2.1)
  refine Ev.congr (fun k => by rw [rowlocklaw12_SchemaPuts.f]) (Ev.bind (f := fun k t155 => (if t155 = true then (rowlocklaw12_SchemaPuts.j0 k a1 true T X) else (rowlocklaw12_SchemaPuts.j0 k a1 (decide ((a1.size : Int) > 3000)) T X))) h1 ?_)
  cases g1
  · refine Ev.congr (fun k => if_neg (by decide)) ?_
    by_cases hz : (a1.size : Int) > 3000
    · rw [decide_eq_true hz]; exact hjt
    · rw [decide_eq_false hz]; exact hjf
  · exact Ev.congr (fun k => if_pos rfl) hjt
end
end Go.Proofs.Ytpfegfkniilobaa.PureS
/-! ### struct parameters of two slices: their lengths are bounded by what the arguments weigh -/
namespace Go.Proofs.Ytpfegfkniilobaa.Sch
open Go.RowKit Go.Proofs.YtpfegfkniilobaaW Go.Proofs.YtpfegfkniilobaaW.PrintWords
open Go.Proofs.Ytpfegfkniilobaa.XSchema Go.Proofs.Ytpfegfkniilobaa.PureS
section
variable {H : Type} {enc : TypeId × Value → H} {w : World} {base : Nat} {spare : Nat → Bool} {held : Bool}
/-- A slice's datum that weighs no more than is in reach: so many elements it has at most. -/
theorem slice_sized {t e : TypeId} {fuel : Nat} {A : Option Addr} {n c : Nat} {x : DataW H × List MemPlace} (ht : Try.prog.underlying t = some (.slice e)) (h : DataW.trod enc Try.prog w base spare held fuel t [.slice A n c] = some x) (hb : 1 ≤ Try.prog.bytesOf e)
    (hz : ∀ k ∈ x.1.weights Try.prog t, k ≤ reachBytes) : n ≤ reachBytes := by
  rcases Go.Deep.open_slice ht h with ⟨he, _⟩ | ⟨a, len, cap, m, n', D, Pl, he, _, _, _, _, rfl, _⟩
  · injection he with he _
    injection he with _ he _
    rw [he]
    exact Nat.zero_le _
  · injection he with he _
    injection he with _ he _
    subst he
    have := hz _ (by simp only [DataW.weights, ht]; exact List.mem_cons_self)
    rw [List.length_map, List.length_range] at this
    exact Nat.le_trans (Nat.le_trans (Nat.le_add_right n _) (Nat.le_mul_of_pos_right _ hb)) this
/-- The weights of a struct parameter's two fields. -/
theorem agg_sized {t j : Nat} {f0 f1 : Field} {ts : List TypeId} {ds : List (DataW H)} {d0 d1 : DataW H} (hs : Try.prog.underlying t = some (.struct #[f0, f1])) (hsz : (DataW.weightsEach Try.prog ts ds).all (· ≤ reachBytes) = true) (ht : ts[j]? = some t) (hd : ds[j]? = some (.agg [d0, d1])) :
    (∀ k ∈ d0.weights Try.prog f0.type, k ≤ reachBytes) ∧ ∀ k ∈ d1.weights Try.prog f1.type, k ≤ reachBytes := by
  have hall := List.all_eq_true.1 hsz
  have hm : ∀ k, (k ∈ d0.weights Try.prog f0.type ∨ k ∈ d1.weights Try.prog f1.type) → k ≤ reachBytes := fun k hk => by
    have := hall k (DataW.weights_mem_each ht hd k (by
      simp only [DataW.weights, hs]
      rcases hk with hk | hk
      · simp [DataW.weightsEach, hk]
      · simp [DataW.weightsEach, hk]))
    simpa using this
  exact ⟨fun k hk => hm k (.inl hk), fun k hk => hm k (.inr hk)⟩
end
theorem u8_wf {x : Int} (h : (Lit.int .u8 x).wf = true) : 0 ≤ x ∧ x ≤ 255 := by
  simp [Lit.wf, IntKind.min, IntKind.max, IntKind.signed, IntKind.bits] at h
  omega
theorem u32_wf {x : Int} (h : (Lit.int .u32 x).wf = true) : 0 ≤ x ∧ x < 4294967296 := by
  simp [Lit.wf, IntKind.min, IntKind.max, IntKind.signed, IntKind.bits] at h
  omega
/-- What is told of a table, and of an index, that came in. -/
def gT (t : S84) : Prop := t.f0.size ≤ maxLen ∧ t.f1.length ≤ maxLen ∧ (Lit.int .u32 t.f2).wf = true ∧ ∀ c ∈ t.f1, c.f0.size ≤ maxLen ∧ (Lit.int .u8 c.f1).wf = true
def gX (x : S135) : Prop := x.f0.size ≤ maxLen ∧ x.f2.length ≤ maxLen ∧ x.f6.length ≤ maxLen ∧ (Lit.int .u32 x.f3).wf = true
theorem book_ok {T : List S84} {X : List S135} (hT : ∀ t ∈ T, gT t) (hX : ∀ x ∈ X, gX x) : bookOk T X = true :=
  bookOk_mk (fun t ht => ⟨u32_wf (hT t ht).2.2.1, ⟨(hT t ht).1, (hT t ht).2.1⟩, fun c hc => ⟨u8_wf ((hT t ht).2.2.2 c hc).2, ((hT t ht).2.2.2 c hc).1⟩⟩) (fun x hx => ⟨u32_wf (hX x hx).2.2.2, (hX x hx).1, (hX x hx).2.2.1⟩)
theorem book_L {T : List S84} {X : List S135} (h1 : T.length ≤ 140737488351232) (h2 : X.length ≤ 140737488351232) (hT : ∀ t ∈ T, gT t) (hX : ∀ x ∈ X, gX x) : bookL T X := by
  refine ⟨by omega, by omega, fun i hi => ?_, fun i hi => ?_⟩
  · have h := hT _ (List.getElem_mem hi)
    rw [rd_T84, getD_at T z84 i hi]
    exact h.2.1
  · have h := hX _ (List.getElem_mem hi)
    rw [rd_T135, getD_at X z135 i hi]
    exact ⟨h.2.1, h.2.2.1⟩
theorem Puts_ok (A : Option Addr) (c : Nat) (T : List S84) (A2 : Option Addr) (c2 : Nat) (X : List S135) (a1 : ByteArray) (w : World) (hC : Kd.C k84 w A T.length T) (hc : T.length ≤ c) (hX : Kd.C k135 w A2 X.length X) (hc2 : X.length ≤ c2)
    (hT : T.length ≤ reachBytes) (hXl : X.length ≤ reachBytes) (gt : ∀ t ∈ T, gT t) (gx : ∀ x ∈ X, gX x) (ha : a1.size ≤ maxLen) :
    Calls Try.prog 8 #[.agg #[.slice A T.length c, .slice A2 X.length c2], .string a1] w fun e w' => e = .returned (.bool true) ∧ Below w.heap.size w w' := by
  have h1 : reachBytes = 140737488351232 := rfl
  obtain ⟨k, h⟩ := PureS.SchemaPuts T X a1 (by omega) (by omega) (book_L (by omega) (by omega) gt gx) (book_ok gt gx) ha
  exact rowlocklaw12_SchemaPuts.calls k A c T A2 c2 X a1 true w hC hc hX hc2 h
end Go.Proofs.Ytpfegfkniilobaa.Sch
