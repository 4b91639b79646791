/- Law 09, HeapRaw: copy of zeros into a row of one's own, Scan and Fetch of any pages beside the reference's. Conditions: bytes. -/
import Derived.Test.YtpfegfkniilobaaHpX
import Derived.Test.YtpfegfkniilobaaHpQm
import Derived.Laws.CopyRow
import Derived.Test.YtpfegfkniilobaaHpL
import Derived.Deep.RegionLaw
import Derived.Deep.QuietTactic
import Derived.BigQuiet
import Derived.Test.YtpfegfkniilobaaPureHb
namespace Go.Proofs.Ytpfegfkniilobaa.Hp
open Go.RowKit Go.Proofs.YtpfegfkniilobaaW.PrintWords Go.Proofs.YtpfegfkniilobaaW.PrintLast Go.Proofs.YtpfegfkniilobaaW.PrintMore Go.Proofs.Ytpfegfkniilobaa.Byt Go.Proofs.Ytpfegfkniilobaa.Dsk Go.Proofs.Ytpfegfkniilobaa.XHeap
open Go.Proofs.Ytpfegfkniilobaa.PureSl (room Ok txt)
set_option linter.unusedVariables false
set_option linter.unusedSimpArgs false
set_option maxRecDepth 100000
theorem k66_open {w : World} {x : S66} {cs : List Value} (h : k66.K w x cs) : ∃ A c, cs = [.int .u32 x.f0.f0, .int .u16 x.f0.f1, .slice A x.f1.length c] ∧ x.f1.length ≤ c ∧ (Kd.int .u8).C w A x.f1.length x.f1 := by
  obtain ⟨_, _, rfl, s0, A, c, rfl, l0, g0⟩ := h
  obtain rfl := k50_open s0
  exact ⟨A, c, rfl, l0, g0⟩
def rd66 (xs : List S66) (i : Int) : S66 := xs.getD i.toNat ⟨z50, []⟩
theorem at66 {w : World} {A : Option Addr} {n : Nat} {xs : List S66} (h : Kd.C k66 w A n xs) (i : Int) (h0 : 0 ≤ i) (h1 : i < n) : ∃ ad A0 c0, A = some ad ∧ w.cell? (ad.add (i.toNat * 3)) = some (.int .u32 (rd66 xs i).f0.f0) ∧ w.cell? ⟨(ad.add (i.toNat * 3)).block, (ad.add (i.toNat * 3)).off + 1, none⟩ = some (.int .u16 (rd66 xs i).f0.f1) ∧ w.cell? ⟨(ad.add (i.toNat * 3)).block, (ad.add (i.toNat * 3)).off + 2, none⟩ = some (.slice A0 (rd66 xs i).f1.length c0) ∧ (rd66 xs i).f1.length ≤ c0 ∧ (Kd.int .u8).C w A0 (rd66 xs i).f1.length (rd66 xs i).f1 := by
  obtain ⟨ad, c, e, _, hK, hc0⟩ := Kd.C_get h (⟨z50, []⟩ : S66) i h0 h1
  have hc : ∀ j u, c[j]? = some u → w.cell? (ad.add (i.toNat * 3 + j)) = some u := hc0
  obtain ⟨A0, c0, rfl, l0, g0⟩ := k66_open hK
  exact ⟨ad, A0, c0, e, hc 0 _ rfl, by rw [← add_field _ _ 1 (by omega)]; exact hc 1 _ rfl, by rw [← add_field _ _ 2 (by omega)]; exact hc 2 _ rfl, l0, g0⟩
section
variable {w : World} {okP D : Nat → Prop} {g gd K : Nat} {d : List Int} {t : List Bool}
/-- What is known behind Scan. -/
structure Sc (w W : World) (okP D okI : Nat → Prop) (g gd K : Nat) (d : List Int) (t : List Bool) (v : Value) (its : List S66) : Prop where
  px : Px W okP g gd d t K
  dk : Dk W D gd d t
  row : Kd.R k66 66 W w.heap.size okI v its
  apP : ∀ k, okP k → ¬ okI k ∧ ¬ D k ∧ k < W.heap.size
  apI : ∀ k, okI k → ¬ D k ∧ k < W.heap.size ∧ w.heap.size ≤ k
  kp : Pool.Kp w W (fun k => ¬ D k)
/-- What Scan and the reference's answer. -/
def scanO (e : Int) (o : List S66) : List S66 := if e = 0 then o else []
theorem scan_ok2 {p : Int} {k e kk : Int} {o its : List S66} (hx : Px w okP g gd d t K) (hd : Dk w D gd d t) (hap : ∀ k, okP k → ¬ D k ∧ k < w.heap.size) (hD : ∀ k, D k → k < w.heap.size) (hy : By d) (hp : 0 ≤ p ∧ p < 4294967296) (hw : Way d t t.length p 1 [] k e o) (hK : K + t.length ≤ 800000) (hkk : kk = if e = 0 then k else 0) (hits : its = scanO e o) :
    Calls Try.prog 21 #[.pointer (some ⟨g, 0, none⟩), .int .u32 p] w fun en w' => ∃ okP' okI' v K', en = .returned (.tuple #[v, .int .i64 kk, .int .i64 e]) ∧ Sc w w' okP' D okI' g gd K' d t v its ∧ K' ≤ K + t.length := by
  subst hkk hits
  refine (scan_ok hx hd hap hD hy hp hw hK).mono ?_
  rintro en w' ⟨okP', okI', v, K', rfl, hk, hkb⟩
  have hs := World.size_alloc w B59
  refine ⟨okP', okI', _, K', rfl, ⟨hk.px, hk.dk, ?_, fun k hk2 => ⟨(hk.apP k hk2).1, (hk.apP k hk2).2.1, (hk.apP k hk2).2.2.2⟩, fun k hk2 => ⟨(hk.apI k hk2).1, (hk.apI k hk2).2.2.1, by have := (hk.apI k hk2).2.2.2; omega⟩, kp_then (Pool.Kp.of_below (below_alloc (Below.refl w.heap.size w) B59) _) hk.kp (fun i hi => .inl hi)⟩, hkb⟩
  unfold scanO
  split
  · exact Kd.R_lower hk.row (by omega)
  · exact Kd.R_nil _ _ _ _ _
theorem Sc.below {W W2 : World} {okI : Nat → Prop} {v : Value} {its : List S66} (h : Sc w W okP D okI g gd K d t v its) (hb : Below W.heap.size W W2) : Sc w W2 okP D okI g gd K d t v its :=
  ⟨h.px.below hb, h.dk.below hb, Kd.R_below h.row hb, fun k hk => ⟨(h.apP k hk).1, (h.apP k hk).2.1, Nat.lt_of_lt_of_le (h.apP k hk).2.2 hb.size⟩, fun k hk => ⟨(h.apI k hk).1, Nat.lt_of_lt_of_le (h.apI k hk).2.1 hb.size, (h.apI k hk).2.2⟩, h.kp.below hb⟩
/-- Fetch of a record that stands there. -/
theorem fetch_at (hy : By d) {p sl nx : Int} {rs : List (List Int)} (hc : Cls d t p 0 nx rs) (h0 : 0 ≤ p) (ht : t.length ≤ 4096) (hs : 0 ≤ sl ∧ sl < (rs.length : Int) ∧ sl < 65536) (hx : Px w okP g gd d t K) (hd : Dk w D gd d t) (hK : K ≤ 900000) :
    Calls Try.prog 23 #[.pointer (some ⟨g, 0, none⟩), .agg #[.int .u32 p, .int .u16 sl]] w fun e w' => ∃ v, e = .returned (.tuple #[v, .int .i64 0]) ∧ Kd.R (Kd.int .u8) 5 w' w.heap.size (fun _ => True) v (Slb.rd_L rs sl) ∧ Pool.Kp w w' okP ∧ Px w' (fun k => okP k ∨ w.heap.size ≤ k) g gd d t (K + 1) := by
  cases hc with
  | good nx rs hin h hb =>
    have hg := h.get_at 0 sl hs.1
    rw [if_pos hs.2.1] at hg
    exact fetch_get hx hd hy hK p sl ⟨h0, by omega⟩ ⟨hs.1, hs.2.2⟩ (by rw [head_good_cls (nx := nx) (rs := rs) hin h hb hy]) (PureSl.pg nx rs) (by rw [head_good_cls (nx := nx) (rs := rs) hin h hb hy]) _ _ 0 hg
end
end Go.Proofs.Ytpfegfkniilobaa.Hp
namespace Go.Proofs.Ytpfegfkniilobaa.Hp
open Go.RowKit Go.Proofs.YtpfegfkniilobaaW.PrintWords Go.Proofs.YtpfegfkniilobaaW.PrintLast Go.Proofs.YtpfegfkniilobaaW.PrintMore Go.Proofs.Ytpfegfkniilobaa.Byt Go.Proofs.Ytpfegfkniilobaa.Dsk Go.Proofs.Ytpfegfkniilobaa.XHeap
open Go.Proofs.Ytpfegfkniilobaa.PureSl (room Ok txt)
set_option linter.unusedVariables false
set_option linter.unusedSimpArgs false
set_option maxRecDepth 100000
/-- HeapRaw's own row of bytes, and the place in a box. -/
structure Mk (w W : World) (gx g cap N : Nat) (ap asl : Int) (xs : List Int) : Prop where
  row : Kd.R (Kd.int .u8) 5 W w.heap.size (fun _ => True) (.slice (some ⟨g, 0, none⟩) N cap) xs
  box : W.heap[gx]? = some (.cells #[.int .u32 ap, .int .u16 asl] 50 (0, 0))
  hb : Below w.heap.size w W
section
variable {w W W2 : World} {gx g cap N : Nat} {ap asl : Int} {xs ys : List Int}
theorem Mk.below (h : Mk w W gx g cap N ap asl xs) (hb : Below W.heap.size W W2) : Mk w W2 gx g cap N ap asl xs := ⟨Kd.R_below h.row hb, blk_below h.box hb, below_then h.hb h.hb.size hb⟩
end
/-- What lives on behind the disk: two boxes, the reference's rows. -/
structure Al (w W : World) (B gx g14 : Nat) (ap asl : Int) (v0 v1 : Value) (P : List ByteArray) (t : List Bool) : Prop where
  box : W.heap[gx]? = some (.cells #[.int .u32 ap, .int .u16 asl] 50 (0, 0))
  b14 : W.heap[g14]? = some (.cells #[v0, v1] 32 (0, 0))
  r0 : Kd.R Kd.string 9 W w.heap.size (fun k => k < B) v0 P
  r1 : Kd.R Kd.bool 4 W w.heap.size (fun k => k < B) v1 t
  lt : gx < B ∧ g14 < B
  hb : Below w.heap.size w W
  big : w.heap.size ≤ B ∧ B ≤ W.heap.size
section
variable {w W W2 : World} {B gx g14 : Nat} {ap asl : Int} {v0 v1 : Value} {P : List ByteArray} {t : List Bool}
theorem Al.below (h : Al w W B gx g14 ap asl v0 v1 P t) (hb : Below W.heap.size W W2) : Al w W2 B gx g14 ap asl v0 v1 P t :=
  ⟨blk_below h.box hb, blk_below h.b14 hb, Kd.R_below h.r0 hb, Kd.R_below h.r1 hb, h.lt, below_then h.hb h.hb.size hb, h.big.1, Nat.le_trans h.big.2 hb.size⟩
end
end Go.Proofs.Ytpfegfkniilobaa.Hp
namespace Go.Proofs.Ytpfegfkniilobaa.Hp
open Go.RowKit Go.Proofs.YtpfegfkniilobaaW.PrintWords Go.Proofs.YtpfegfkniilobaaW.PrintLast Go.Proofs.YtpfegfkniilobaaW.PrintMore Go.Proofs.Ytpfegfkniilobaa.Byt Go.Proofs.Ytpfegfkniilobaa.Dsk Go.Proofs.Ytpfegfkniilobaa.XHeap
open Go.Proofs.Ytpfegfkniilobaa.PureSl (room Ok txt)
set_option linter.unusedVariables false
set_option linter.unusedSimpArgs false
set_option maxRecDepth 100000
theorem ba_eq (a : ByteArray) : (a == a) = true := by
  show a.beq a = true
  cases a
  simp [ByteArray.beq]
theorem ba_ne (a : ByteArray) : (a != a) = false := by rw [bne, ba_eq]; rfl
end Go.Proofs.Ytpfegfkniilobaa.Hp
namespace Go.Proofs.Ytpfegfkniilobaa.Hp
open Go.RowKit Go.Proofs.YtpfegfkniilobaaW.PrintWords Go.Proofs.YtpfegfkniilobaaW.PrintLast Go.Proofs.YtpfegfkniilobaaW.PrintMore Go.Proofs.Ytpfegfkniilobaa.Byt Go.Proofs.Ytpfegfkniilobaa.Dsk Go.Proofs.Ytpfegfkniilobaa.XHeap
open Go.Proofs.Ytpfegfkniilobaa.PureSl (room Ok txt)
set_option linter.unusedVariables false
set_option linter.unusedSimpArgs false
set_option maxRecDepth 100000
theorem inf3 : (Try.prog.info? 3).map (fun i => (i.zero, i.size, i.bytes)) = some (some (.int .i64 0), 1, 8) := by kernel_rfl
/-- The rows of places that Fill gave. -/
structure Ab (w W : World) (B : Nat) (v : Value) (O : List S50) : Prop where
  row : Kd.R k50 50 W w.heap.size (fun k => k < B) v O
  hb : Below w.heap.size w W
  big : w.heap.size ≤ B ∧ B ≤ W.heap.size
section
variable {w W W2 : World} {B : Nat} {v : Value} {O : List S50}
theorem Ab.below (h : Ab w W B v O) (hb : Below W.heap.size W W2) : Ab w W2 B v O := ⟨Kd.R_below h.row hb, below_then h.hb h.hb.size hb, h.big.1, Nat.le_trans h.big.2 hb.size⟩
theorem Ab.kept {S : Nat → Prop} (h : Ab w W B v O) (hk : Pool.Kp W W2 S) (hS : ∀ k, S k → B ≤ k) : Ab w W2 B v O :=
  ⟨Kd.R_kept h.row hk.kept (fun k hi hs => by have h1 : k < B := hi; have := hS _ hs; omega), h.hb.trans (hk.to_below w.heap.size (fun k hk2 => Nat.le_trans h.big.1 (hS k hk2)) h.hb.size), h.big.1, Nat.le_trans h.big.2 hk.size⟩
end
theorem Sc.fetch {w W W2 : World} {okP D okI : Nat → Prop} {g gd K : Nat} {d : List Int} {t : List Bool} {v : Value} {its : List S66} (h : Sc w W okP D okI g gd K d t v its) (hp : Px W2 (fun k => okP k ∨ W.heap.size ≤ k) g gd d t (K + 1)) (hk : Pool.Kp W W2 okP) (hD : ∀ k, D k → k < W.heap.size) :
    Sc w W2 (fun k => (okP k ∨ W.heap.size ≤ k) ∧ k < W2.heap.size) D okI g gd (K + 1) d t v its := by
  refine ⟨hp.bound, h.dk.kept hk.kept (fun k hd hs => (h.apP k hs).2.1 hd), Kd.R_kept h.row hk.kept (fun k hi hs => (h.apP k hs).1 hi), fun k hk2 => ?_, fun k hi => ⟨(h.apI k hi).1, Nat.lt_of_lt_of_le (h.apI k hi).2.1 hk.size, (h.apI k hi).2.2⟩, kp_then h.kp hk (fun i hi => .inl (h.apP i hi).2.1)⟩
  rcases hk2.1 with h1 | h1
  · exact ⟨(h.apP k h1).1, (h.apP k h1).2.1, hk2.2⟩
  · exact ⟨fun hi => by have := (h.apI k hi).2.1; omega, fun hd => by have := hD k hd; omega, hk2.2⟩
theorem back_big1 (a2 : Int) (A0 A1 : Option Addr) (c0 c1 : Nat) (l other : List (List Int)) (w : World) (h0 : RecOk w A0 c0 l) (hs1 : ∀ w', Kd.C (Kd.slice 5 (Kd.int .u8)) w' A0 l.length l → Calls Try.prog 10 #[.slice A0 l.length c0] w' fun e w2 => e = .returned (.bool false) ∧ Below w'.heap.size w' w2) :
    Calls Try.prog 5 #[.slice A0 l.length c0, .slice A1 other.length c1, .int .u8 a2] w fun e w' => e = .returned (.bool true) ∧ Below w.heap.size w w' := by
  have HC := Aside0.mk h0.1
  have HS1 := Aside0.mk hs1
  clear h0 hs1
  go_enter Try.func5, Try.ntmps5
  go_wp2_with (first | (go_at_call 10; (with_reducible refine (HS1.out _ HC.out).mono ?_); rintro en w1 ⟨rfl, hb_⟩; have HB1 := Aside0.mk hb_; clear hb_) | (go_at_call 11; (with_reducible refine (fixed_ok _).mono ?_); rintro en w9 ⟨rfl, hb_⟩; have HB9 := Aside0.mk (below_then HB1.out HB1.out.size hb_); clear hb_))
  go_ret
  exact ⟨rfl, HB9.out⟩
theorem back_big2 (a2 : Int) (A0 A1 : Option Addr) (c0 c1 : Nat) (l other : List (List Int)) (w : World) (h0 : RecOk w A0 c0 l) (h1 : RecOk w A1 c1 other) (hs1 : ∀ w', Kd.C (Kd.slice 5 (Kd.int .u8)) w' A0 l.length l → Calls Try.prog 10 #[.slice A0 l.length c0] w' fun e w2 => e = .returned (.bool true) ∧ Below w'.heap.size w' w2) (hs2 : ∀ w', Kd.C (Kd.slice 5 (Kd.int .u8)) w' A1 other.length other → Calls Try.prog 10 #[.slice A1 other.length c1] w' fun e w2 => e = .returned (.bool false) ∧ Below w'.heap.size w' w2) :
    Calls Try.prog 5 #[.slice A0 l.length c0, .slice A1 other.length c1, .int .u8 a2] w fun e w' => e = .returned (.bool true) ∧ Below w.heap.size w w' := by
  have HC := Aside0.mk (And.intro h0.1 h1.1)
  have HS1 := Aside0.mk hs1
  have HS2 := Aside0.mk hs2
  clear h0 h1 hs1 hs2
  go_enter Try.func5, Try.ntmps5
  go_wp2_with (first | (go_at_call 10; (with_reducible refine (HS1.out _ HC.out.1).mono ?_); rintro en w1 ⟨rfl, hb_⟩; have HB1 := Aside0.mk hb_; clear hb_) | (go_at_call 10; (with_reducible refine (HS2.out _ (Kd.C_below HC.out.2 HB1.out)).mono ?_); rintro en w2 ⟨rfl, hb_⟩; have HB2 := Aside0.mk (below_then HB1.out HB1.out.size hb_); clear hb_) | (go_at_call 11; (with_reducible refine (fixed_ok _).mono ?_); rintro en w9 ⟨rfl, hb_⟩; have HB9 := Aside0.mk (below_then HB2.out HB2.out.size hb_); clear hb_))
  go_ret
  exact ⟨rfl, HB9.out⟩
theorem k66_openM {w : World} {base : Nat} {ok : Nat → Prop} {x : S66} {cs : List Value} (h : k66.M w base ok x cs) : ∃ A c, cs = [.int .u32 x.f0.f0, .int .u16 x.f0.f1, .slice A x.f1.length c] ∧ Kd.R (Kd.int .u8) 5 w base ok (.slice A x.f1.length c) x.f1 := by
  obtain ⟨c1, c2, rfl, ⟨_, _, rfl, rfl, rfl⟩, ⟨v, rfl, hv⟩⟩ := h
  obtain ⟨A, c, rfl⟩ := Kd.R_slice hv
  exact ⟨A, c, rfl, hv⟩
theorem at66R {w : World} {base n cap : Nat} {ok : Nat → Prop} {A : Option Addr} {xs : List S66} (h : Kd.R k66 66 w base ok (.slice A n cap) xs) (i : Int) (h0 : 0 ≤ i) (h1 : i < n) : ∃ ad A0 c0, A = some ad ∧ w.cell? (ad.add (i.toNat * 3)) = some (.int .u32 (rd66 xs i).f0.f0) ∧ w.cell? ⟨(ad.add (i.toNat * 3)).block, (ad.add (i.toNat * 3)).off + 1, none⟩ = some (.int .u16 (rd66 xs i).f0.f1) ∧ w.cell? ⟨(ad.add (i.toNat * 3)).block, (ad.add (i.toNat * 3)).off + 2, none⟩ = some (.slice A0 (rd66 xs i).f1.length c0) ∧ Kd.R (Kd.int .u8) 5 w base ok (.slice A0 (rd66 xs i).f1.length c0) (rd66 xs i).f1 := by
  obtain ⟨ad, _, _, rfl, _⟩ := at66 (n := n) (by have h2 := Kd.R_reads' h; rw [← h2.1] at h2; exact h2.2.2) i h0 h1
  obtain ⟨c, hcl, hM, hc0⟩ := Kd.R_get h (⟨z50, []⟩ : S66) i h0 h1
  have hc : ∀ j u, c[j]? = some u → w.cell? (ad.add (i.toNat * 3 + j)) = some u := hc0
  obtain ⟨A0, c0, rfl, hr⟩ := k66_openM hM
  exact ⟨ad, A0, c0, rfl, hc 0 _ rfl, by rw [← add_field _ _ 1 (by omega)]; exact hc 1 _ rfl, by rw [← add_field _ _ 2 (by omega)]; exact hc 2 _ rfl, Kd.R_mono hr (fun k hk => hk.1)⟩
theorem szs_take (l : List (List Int)) (i : Int) (h0 : 0 ≤ i) (h1 : i < (l.length : Int)) : szs (l.take (i + 1).toNat) = szs (l.take i.toNat) ++ [((Slb.rd_L l i).length : Int)] := by
  have h : i.toNat < l.length := by omega
  rw [show (i + 1).toNat = i.toNat + 1 by omega, List.take_succ_eq_append_getElem h, szs, szs, List.map_append]
  congr 1
  simp [Slb.rd_L, h]
/-- What Fill gave, with the ifs told. -/
theorem fill_let {w : World} {D okr : Nat → Prop} {gd : Nat} {d : List Int} {t : List Bool} (hD : ∀ k, D k → k < w.heap.size) (h : Dk w D gd d t) (hy : By d) (A : Option Addr) (c : Nat) (l : List (List Int)) (hF : Kd.F (Kd.slice 5 (Kd.int .u8)) w okr A l.length l) (hokr : ∀ k, okr k → ¬ D k ∧ k < w.heap.size) (hl : l.length ≤ 100000) (hby : ∀ r ∈ l, By r) {E F : Int} {S : St} {O O2 : List S50} (hR : fillF d t l = (E, S, O)) (hF1 : F = if E = 0 then S.first else 0) (hO2 : O2 = if E = 0 then O else []) :
    Calls Try.prog 14 #[.pointer (some ⟨gd, 0, none⟩), .slice A l.length c] w fun e W' => ∃ v, e = .returned (.tuple #[.int .u32 F, v, .int .i64 E]) ∧ Dk W' D gd S.d S.t ∧ Kp w W' D ∧ Kd.R k50 50 W' w.heap.size (fun _ => True) v O2 := by
  have h1 := fill_ok hD h hy A c l hF hokr hl hby
  rw [hR] at h1
  subst hF1 hO2
  exact h1
end Go.Proofs.Ytpfegfkniilobaa.Hp
