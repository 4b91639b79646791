/- copy(b[off..], ys) into a row of one's own. -/
import Derived.Test.YtihmkdjambdfjaaProg
import Derived.Test.YtihmkdjambdfjaaWMore
import Derived.Test.YtihmkdjambdfjaaWKept
import Derived.WalkKit
import Derived.KernelRfl
import Derived.Laws.MakeOwn
import Derived.Laws.CopyOwn
import Derived.Lib.SliceRun
namespace Go.Proofs.Ytihmkdjambdfjaa.Cpy
open Go.RowKit Go.Proofs.YtihmkdjambdfjaaW.PrintWords Go.Proofs.YtihmkdjambdfjaaW.PrintLast Go.Proofs.YtihmkdjambdfjaaW.PrintMore
set_option linter.unusedVariables false
set_option linter.unusedSimpArgs false
theorem setRow_grown (w : World) (g : Nat) (cs : Array Value) : w.grownBy (w.setRow g cs) (some g) := ⟨rfl, rfl, rfl, by simp [World.setRow], fun k _ hne => setRow_other w g k cs (fun e => hne (by rw [e]))⟩
/-- copy(b[off:..], ys) into a row of one's own. -/
theorem copy_cut {P : Program} {W : World} {ops : Array Oper} {rest : List Oper} {o : Oper} {a : Act} {Q : Exit → Act → World → Prop} (hgd : o.guard = none) (d s : Operand) (dT sT : TypeId)
    (ho : o.op = .call { callee := .builtin .copy, args := #[d, s], argTypes := #[dT, sT] }) (e : TypeId) (hu : P.underlying dT = some (.slice e)) (hsz : (P.info? e).map (·.size) = some 1)
    (g off cap : Nat) (xs ys : List Int) (base : Nat) (ok : Nat → Prop) (HO : Kd.R (Kd.int .u8) e W base ok (.slice (some ⟨g, 0, none⟩) xs.length cap) xs)
    (dp sp : Option Addr) (dLen dCap sCap : Nat) (hd : a.eval d = .slice dp dLen dCap) (hs : a.eval s = .slice sp ys.length sCap)
    (hdp : 0 < ys.length → dp = some ⟨g, off, none⟩) (hle : ys.length ≤ dLen) (hfit : off + ys.length ≤ xs.length) (HR : Kd.C (Kd.int .u8) W sp ys.length ys)
    (h : ∀ w1, Kd.R (Kd.int .u8) e w1 base ok (.slice (some ⟨g, 0, none⟩) xs.length cap) (splice xs off ys) → W.grownBy w1 (some g) → wpList P ops Q rest (a.put o.dst (.int .i64 (ys.length : Int))) w1) :
    wpList P ops Q (o :: rest) a W := by
  by_cases h0 : ys.length = 0
  · obtain rfl := List.eq_nil_of_length_eq_zero h0
    refine wpList_copy_nothing hgd d s dT sT ho e hu hsz dp sp dLen dCap 0 sCap hd hs (by simp) ?_
    exact h W (by simpa [splice] using HO) (World.grownBy.refl W _)
  · have hp : 0 < ys.length := by omega
    obtain rfl := hdp hp
    obtain ⟨ad, rfl, hc⟩ := (Kd.reads_of_C (enc := Value.int .u8) (d := (0 : Int)) (h1 := fun _ => rfl) HR).2.2 hp
    have hown := Kd.own_of_R HO
    rcases hown.2 with ⟨hv, hx0⟩ | ⟨g', cap', cur, hv, hb, hh, hnc, hcm, hcs, htake⟩
    · cases hv
    injection hv with hv1 hv2 hv3
    injection hv1 with hv1
    injection hv1 with hv1
    subst hv1
    subst hv3
    rw [Nat.mul_one] at hcs htake
    have hcl : cur.toList.length = cap := by simpa using hcs
    have hlen : (encs (Value.int .u8) ys).length = ys.length := encs_length _
    have hsrc : ∀ j v, (encs (Value.int .u8) ys)[j]? = some v → W.cell? (ad.add j) = some v := by
      intro j u hu
      have hj : j < ys.length := by
        rcases Nat.lt_or_ge j ys.length with h | h
        · exact h
        · rw [List.getElem?_eq_none (by rw [encs_length]; exact h)] at hu
          cases hu
      rw [encs_get (d := 0) _ j hj] at hu
      rw [hc j hj]
      exact hu
    refine wpList_copy_own hgd d s dT sT ho e hu hsz g off dLen dCap ad ys.length sCap hd hs cur e hh (encs (Value.int .u8) ys) (by rw [hlen]; exact (Nat.min_eq_left hle).symm) hsrc (by rw [hlen]; omega) (by intro v hv; simp only [encs, List.mem_map] at hv; obtain ⟨q, _, rfl⟩ := hv; rfl) ?_
    rw [hlen]
    refine h _ ?_ (setRow_grown _ _ _)
    have hln : (splice xs off ys).length = xs.length := length_splice _ _ _ hfit
    have ho2 : (W.setRow g (cur.toList.take off ++ (encs (Value.int .u8) ys ++ cur.toList.drop (off + ys.length))).toArray).ownsRow base e 1 (.slice (some ⟨g, 0, none⟩) (splice xs off ys).length cap) (splice xs off ys).length (encs (Value.int .u8) (splice xs off ys)) := by
      refine ⟨by rw [encs_length, Nat.mul_one], .inr ⟨g, cap, _, rfl, hb, setRow_heap W g cur _ e (0, 0) hh, by rw [hln]; exact hnc, hcm, ?_, ?_⟩⟩
      · rw [Nat.mul_one]
        simp only [List.size_toArray, List.length_append, List.length_take, List.length_drop, hlen]
        omega
      · rw [Nat.mul_one, hln]
        have ht : xs.map (Value.int .u8) = cur.toList.take xs.length := htake.symm
        simp only [encs, splice, List.map_append, List.map_take, List.map_drop, ht, List.take_take, List.drop_take]
        rw [Nat.min_eq_left (by omega), List.take_append, List.take_append, List.take_of_length_le (by simp; omega), List.take_of_length_le (l := ys.map _) (by simp; omega)]
        congr 2
        congr 1
        simp
        omega
    rw [← hln]
    exact Kd.R_of_own (h1 := fun _ => rfl) ho2 HO.1
end Go.Proofs.Ytihmkdjambdfjaa.Cpy
