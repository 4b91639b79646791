/- A row of records, no two of which lie in one block: each record by itself. No conditions. -/
import Derived.Test.YtolgcohmmghehaaSlotsB
namespace Go.Proofs.Ytolgcohmmghehaa.Slb
open Go.RowKit Go.Proofs.YtolgcohmmghehaaW.PrintWords Go.Proofs.YtolgcohmmghehaaW.PrintLast Go.Proofs.YtolgcohmmghehaaW.PrintMore Go.Proofs.Ytolgcohmmghehaa.Byt Go.Proofs.Ytolgcohmmghehaa.Dsk
set_option linter.unusedVariables false
set_option linter.unusedSimpArgs false
/-- Record i, as it lies in W: its slice's value, its row; f tells the blocks apart. -/
def El (W : World) (base g : Nat) (f : Nat → Nat) (xs : List (List Int)) (i : Nat) (A : Option Addr) (c : Nat) : Prop :=
  W.cell? ⟨g, i, none⟩ = some (.slice A (rd_L xs i).length c) ∧ Kd.R (Kd.int .u8) 5 W base (fun k => (k ≠ g ∧ f k = i) ∧ base ≤ k ∧ k < W.heap.size) (.slice A (rd_L xs i).length c) (rd_L xs i)
theorem S_el {W : World} {base : Nat} {ok : Nat → Prop} {v : Value} {xs : List (List Int)} (h : Kd.S (Kd.slice 5 (Kd.int .u8)) 26 W base ok v xs) (hp : 0 < xs.length) : ∃ (f : Nat → Nat) (g cap : Nat), v = .slice (some ⟨g, 0, none⟩) xs.length cap ∧ base ≤ g ∧ g < W.heap.size ∧ ∀ i : Nat, i < xs.length → ∃ A c, El W base g f xs i A c := by
  obtain ⟨f, hR⟩ := h
  have hzl : xs.zipIdx.length = xs.length := List.length_zipIdx
  obtain ⟨g, cap, hv, hb, hg, _⟩ := Kd.R_form hR (by omega)
  subst hv
  refine ⟨f, g, cap, by rw [hzl], hb, hg, fun i hi => ?_⟩
  obtain ⟨c, hcl, hM, hcell⟩ := Kd.R_getA hR (([] : List Int), 0) (i : Int) (by omega) (by omega)
  have hz : (xs.zipIdx.getD ((i : Int).toNat) (([] : List Int), 0)) = (rd_L xs i, i) := by
    rw [Int.toNat_natCast, List.getD_eq_getElem?_getD, List.getElem?_zipIdx, List.getElem?_eq_getElem hi]
    simp [rd_L, hi]
  rw [hz] at hM
  obtain ⟨v', rfl, hRv⟩ := hM
  obtain ⟨A, c', rfl⟩ := Kd.R_slice hRv
  refine ⟨A, c', ?_, Kd.R_mono (Kd.R_bound hRv) (fun k hk => ?_)⟩
  · have := hcell 0 _ rfl
    rw [Int.toNat_natCast, show i * (Kd.tag f (Kd.slice 5 (Kd.int .u8))).sz + 0 = i from by show i * 1 + 0 = i; omega, addk, Nat.zero_add] at this
    exact this
  · obtain ⟨h1, h2, h3, _⟩ := hk
    exact ⟨⟨fun e => h1.1.2 (by rw [e]; rfl), h1.2⟩, h2, h3⟩
/-- The records from i on are as they were: what turned since is new, or belongs to records before i. -/
def Since (W W' : World) (base g : Nat) (f : Nat → Nat) (i : Nat) : Prop := W.heap.size ≤ W'.heap.size ∧ ∀ k, k < W.heap.size → ¬ (k ≠ g ∧ f k < i ∧ base ≤ k) → W'.heap[k]? = W.heap[k]?
theorem El.on {W W' : World} {base g : Nat} {f : Nat → Nat} {xs : List (List Int)} {i j : Nat} {A : Option Addr} {c : Nat} (h : El W base g f xs j A c) (hs : Since W W' base g f i) (hij : i ≤ j) (hg : g < W.heap.size) : W'.cell? ⟨g, j, none⟩ = some (.slice A (rd_L xs j).length c) ∧ Kd.R (Kd.int .u8) 5 W' base (fun k => (k ≠ g ∧ f k = j) ∧ base ≤ k ∧ k < W.heap.size) (.slice A (rd_L xs j).length c) (rd_L xs j) :=
  ⟨(World.cell?_of_block (w := W) (hs.2 g hg (fun hk => hk.1 rfl))).trans h.1, Kd.R_step h.2 (fun k hk hlt => hs.2 k hlt (fun h2 => by have := hk.1.2; omega))⟩
theorem Since.below {W W' W2 : World} {base g : Nat} {f : Nat → Nat} {i : Nat} (h : Since W W' base g f i) (hb : Below W'.heap.size W' W2) : Since W W2 base g f i :=
  ⟨Nat.le_trans h.1 hb.size, fun k hk hn => (hb.block k (Nat.lt_of_lt_of_le hk h.1)).trans (h.2 k hk hn)⟩
theorem Since.step {W W' W2 : World} {base g : Nat} {f : Nat → Nat} {i b : Nat} (h : Since W W' base g f i) (hg : W'.grownBy W2 (some b)) (hb : W.heap.size ≤ b ∨ (b ≠ g ∧ f b = i ∧ base ≤ b)) : Since W W2 base g f (i + 1) :=
  ⟨Nat.le_trans h.1 hg.size, fun k hk hn => (hg.block k (Nat.lt_of_lt_of_le hk h.1) (fun e => by
    injection e with e
    subst e
    rcases hb with hb | hb
    · omega
    · exact hn ⟨hb.1, by omega, hb.2.2⟩)).trans (h.2 k hk (fun h2 => hn ⟨h2.1, by omega, h2.2.2⟩))⟩
theorem Since.next {W W' : World} {base g : Nat} {f : Nat → Nat} {i : Nat} (h : Since W W' base g f i) : Since W W' base g f (i + 1) :=
  ⟨h.1, fun k hk hn => h.2 k hk (fun h2 => hn ⟨h2.1, by omega, h2.2.2⟩)⟩
end Go.Proofs.Ytolgcohmmghehaa.Slb
