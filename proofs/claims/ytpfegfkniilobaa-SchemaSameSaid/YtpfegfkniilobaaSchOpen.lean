/- Struct parameters of two slices: their lengths are bounded by what the arguments weigh; what their types hold; the law SchemaSame's walk over what it asks. -/
import Derived.Test.YtpfegfkniilobaaPureSchE
import Derived.Test.YtpfegfkniilobaaOpen
import Derived.SizedLaws
import Derived.Deep.Slices
namespace Go.Proofs.Ytpfegfkniilobaa.Sch
open Go.RowKit Go.Proofs.YtpfegfkniilobaaW Go.Proofs.YtpfegfkniilobaaW.PrintWords
open Go.Proofs.Ytpfegfkniilobaa.XSchema Go.Proofs.Ytpfegfkniilobaa.PureS
section
variable {H : Type} {enc : TypeId × Value → H} {w : World} {base : Nat} {spare : Nat → Bool} {held : Bool}
/-- A slice's datum that weighs no more than is in reach: so many elements it has at most. -/
theorem slice_sized {t e : TypeId} {fuel : Nat} {A : Option Addr} {n c : Nat} {x : DataW H × List MemPlace} (ht : Try.prog.underlying t = some (.slice e)) (h : DataW.trod enc Try.prog w base spare held fuel t [.slice A n c] = some x) (hb : 1 ≤ Try.prog.bytesOf e)
    (hz : ∀ k ∈ x.1.weights Try.prog t, k ≤ reachBytes) : n ≤ reachBytes := by
  rcases Go.Deep.open_slice ht h with ⟨he, _⟩ | ⟨a, len, cap, m, n', D, Pl, he, _, _, _, _, rfl, _⟩
  · injection he with he _
    injection he with _ he _
    rw [he]
    exact Nat.zero_le _
  · injection he with he _
    injection he with _ he _
    subst he
    have := hz _ (by simp only [DataW.weights, ht]; exact List.mem_cons_self)
    rw [List.length_map, List.length_range] at this
    exact Nat.le_trans (Nat.le_trans (Nat.le_add_right n _) (Nat.le_mul_of_pos_right _ hb)) this
/-- The weights of a struct parameter's two fields. -/
theorem agg_sized {t j : Nat} {f0 f1 : Field} {ts : List TypeId} {ds : List (DataW H)} {d0 d1 : DataW H} (hs : Try.prog.underlying t = some (.struct #[f0, f1])) (hsz : (DataW.weightsEach Try.prog ts ds).all (· ≤ reachBytes) = true) (ht : ts[j]? = some t) (hd : ds[j]? = some (.agg [d0, d1])) :
    (∀ k ∈ d0.weights Try.prog f0.type, k ≤ reachBytes) ∧ ∀ k ∈ d1.weights Try.prog f1.type, k ≤ reachBytes := by
  have hall := List.all_eq_true.1 hsz
  have hm : ∀ k, (k ∈ d0.weights Try.prog f0.type ∨ k ∈ d1.weights Try.prog f1.type) → k ≤ reachBytes := fun k hk => by
    have := hall k (DataW.weights_mem_each ht hd k (by
      simp only [DataW.weights, hs]
      rcases hk with hk | hk
      · simp [DataW.weightsEach, hk]
      · simp [DataW.weightsEach, hk]))
    simpa using this
  exact ⟨fun k hk => hm k (.inl hk), fun k hk => hm k (.inr hk)⟩
end
theorem u8_wf {x : Int} (h : (Lit.int .u8 x).wf = true) : 0 ≤ x ∧ x ≤ 255 := by
  simp [Lit.wf, IntKind.min, IntKind.max, IntKind.signed, IntKind.bits] at h
  omega
theorem u32_wf {x : Int} (h : (Lit.int .u32 x).wf = true) : 0 ≤ x ∧ x < 4294967296 := by
  simp [Lit.wf, IntKind.min, IntKind.max, IntKind.signed, IntKind.bits] at h
  omega
/-- What is told of a table, and of an index, that came in. -/
def gT (t : S84) : Prop := t.f1.length ≤ maxLen ∧ (Lit.int .u32 t.f2).wf = true ∧ ∀ c ∈ t.f1, (Lit.int .u8 c.f1).wf = true
def gX (x : S135) : Prop := x.f2.length ≤ maxLen ∧ x.f6.length ≤ maxLen ∧ (Lit.int .u32 x.f3).wf = true
theorem book_W {T : List S84} {X : List S135} (hT : ∀ t ∈ T, gT t) (hX : ∀ x ∈ X, gX x) : bookW T X := by
  refine ⟨fun i hi => ?_, fun i hi => ?_⟩
  · have h := hT _ (List.getElem_mem hi)
    rw [rd_T84, getD_at T z84 i hi]
    refine ⟨(u32_wf h.2.1).1, (u32_wf h.2.1).2, fun j hj => ?_⟩
    rw [rd_T87, getD_at _ z87 j hj]
    exact u8_wf (h.2.2 _ (List.getElem_mem hj))
  · have h := hX _ (List.getElem_mem hi)
    rw [rd_T135, getD_at X z135 i hi]
    exact u32_wf h.2.2
theorem book_L {T : List S84} {X : List S135} (h1 : T.length ≤ 140737488351232) (h2 : X.length ≤ 140737488351232) (hT : ∀ t ∈ T, gT t) (hX : ∀ x ∈ X, gX x) : bookL T X := by
  refine ⟨by omega, by omega, fun i hi => ?_, fun i hi => ?_⟩
  · have h := hT _ (List.getElem_mem hi)
    rw [rd_T84, getD_at T z84 i hi]
    exact h.1
  · have h := hX _ (List.getElem_mem hi)
    rw [rd_T135, getD_at X z135 i hi]
    exact ⟨h.1, h.2.1⟩
theorem Same_ok (A : Option Addr) (c : Nat) (T : List S84) (A2 : Option Addr) (c2 : Nat) (X : List S135) (B : Option Addr) (d : Nat) (T' : List S84) (B2 : Option Addr) (d2 : Nat) (X' : List S135) (w : World) (hC : Kd.C k84 w A T.length T) (hc : T.length ≤ c) (hX : Kd.C k135 w A2 X.length X) (hc2 : X.length ≤ c2) (hC' : Kd.C k84 w B T'.length T') (hc' : T'.length ≤ d) (hX' : Kd.C k135 w B2 X'.length X') (hc2' : X'.length ≤ d2)
    (hT : T.length ≤ reachBytes) (hXl : X.length ≤ reachBytes) (hT' : T'.length ≤ reachBytes) (hXl' : X'.length ≤ reachBytes) (gt : ∀ t ∈ T, gT t) (gx : ∀ x ∈ X, gX x) (gt' : ∀ t ∈ T', gT t) (gx' : ∀ x ∈ X', gX x) :
    Calls Try.prog 7 #[.agg #[.slice A T.length c, .slice A2 X.length c2], .agg #[.slice B T'.length d, .slice B2 X'.length d2]] w fun e w' => e = .returned (.bool true) ∧ Below w.heap.size w w' := by
  have h1 : reachBytes = 140737488351232 := rfl
  obtain ⟨k, h⟩ := PureS.SchemaSame T T' X X' (by omega) (by omega) (by omega) (by omega) (book_L (by omega) (by omega) gt gx) (book_W gt gx) (book_W gt' gx')
  exact rowlocklaw12_SchemaSame.calls k A c T A2 c2 X B d T' B2 d2 X' true w hC hc hX hc2 hC' hc' hX' hc2' h
end Go.Proofs.Ytpfegfkniilobaa.Sch
