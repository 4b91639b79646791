/- 'clear' of a row of bytes of the call's own: the row's block alone turns. -/
import Derived.Test.YtolgcohmmghehaaProg
import Derived.Test.YtolgcohmmghehaaWWords
import Derived.Test.YtolgcohmmghehaaWMore
import Derived.Lib.SliceRun
import Derived.Laws.IdiomCopy
namespace Go.Proofs.Ytolgcohmmghehaa.Clr
open Go.RowKit Go.Proofs.YtolgcohmmghehaaW.PrintWords Go.Proofs.YtolgcohmmghehaaW.PrintLast Go.Proofs.YtolgcohmmghehaaW.PrintMore
theorem clear_own {P : Program} {W : World} {base t : Nat} {ok : Nat → Prop} {A : Option Addr} {n c : Nat} {xs : List Int} (ht : P.underlying t = some (.slice 5)) (hv : ∀ w, (zeroValue 5).run P w = .ok (.int .u8 0) w) (h : Kd.R (Kd.int .u8) 5 W base ok (.slice A n c) xs) (ty : TypeId) :
    ∃ w1, (Builtin.clear_ #[t] ty #[.slice A n c]).run P W = .ok (.tuple #[]) w1 ∧ W.grownBy w1 (Value.slice A n c).ownBlock := by
  have hn := (Kd.R_reads' h).1
  have hC := (Kd.R_reads' h).2.2
  by_cases hx : 0 < xs.length
  · obtain ⟨g, cap, hv1, hb, hg, cells, hcells⟩ := Kd.R_form h hx
    obtain ⟨rfl, rfl, rfl⟩ : A = some ⟨g, 0, none⟩ ∧ n = xs.length ∧ c = cap := by
      injection hv1 with h1 h2 h3
      exact ⟨h1, h2, h3⟩
    refine ⟨_, Go.Lib.run_clear_slice W t 5 ty (.int .u8 0) ht hv rfl rfl g 0 xs.length c hx ?_ ?_, ?_⟩
    · intro j hj
      obtain ⟨ad, he, hx⟩ := Kd.at_int hC (j : Int) (by omega) (by omega)
      injection he with he
      subst he
      have e : (Addr.add ⟨g, 0, none⟩ ((j : Nat) : Int).toNat) = ⟨g, 0 + j, none⟩ := by
        simp only [Int.toNat_natCast, Addr.add]
        split <;> simp_all
      rw [e] at hx
      rw [hx]
      rfl
    · intro j _
      exact blk_frozen hcells _
    · have hs := setCells_same g (List.replicate xs.length (.int .u8 0)) 0 W
      exact ⟨hs.1, hs.2.1, hs.2.2.1, Nat.le_of_eq hs.2.2.2.symm, fun k _ hk => setCells_far _ _ k (fun e => hk (by rw [e]; rfl))⟩
  · have h0 : n = 0 := by omega
    subst h0
    refine ⟨W, ?_, ⟨rfl, rfl, rfl, Nat.le_refl _, fun _ _ _ => rfl⟩⟩
    cases A <;> simp [Builtin.clear_, run_underlying ht]
end Go.Proofs.Ytolgcohmmghehaa.Clr
