/- heap.Fetch, walked over any pool. Conditions: the pool's blocks are known (Px), the disk's, too. -/
import Derived.Test.YtpfegfkniilobaaHpP
import Derived.Test.YtpfegfkniilobaaXHeapx12
import Derived.Test.YtpfegfkniilobaaPureSlotsC
import Derived.Test.YtpfegfkniilobaaXHeapx10
import Derived.Test.YtpfegfkniilobaaXHeapx11
import Derived.Test.YtpfegfkniilobaaSlotsB
namespace Go.Proofs.Ytpfegfkniilobaa.Hp
open Go.RowKit Go.Proofs.YtpfegfkniilobaaW.PrintWords Go.Proofs.YtpfegfkniilobaaW.PrintLast Go.Proofs.YtpfegfkniilobaaW.PrintMore Go.Proofs.Ytpfegfkniilobaa.Byt Go.Proofs.Ytpfegfkniilobaa.Dsk Go.Proofs.Ytpfegfkniilobaa.XHeap
set_option linter.unusedVariables false
set_option linter.unusedSimpArgs false
set_option maxRecDepth 100000
section
variable {w w' : World} {ok ok' okd : Nat → Prop} {g gd : Nat} {d : List Int} {t : List Bool} {K : Nat}
theorem kp_then {w W W2 : World} {S S2 : Nat → Prop} (h : Pool.Kp w W S) (k : Pool.Kp W W2 S2) (hs : ∀ i, S2 i → S i ∨ w.heap.size ≤ i) : Pool.Kp w W2 S :=
  ⟨Nat.le_trans h.size k.size, fun i hi hn => (k.same i (Nat.lt_of_lt_of_le hi h.size) (fun h2 => (hs i h2).elim hn (fun h3 => by omega))).trans (h.same i hi hn), k.os.trans h.os, k.tape.trans h.tape, k.output.trans h.output⟩
abbrev B50 (p sl : Int) : Obj := .cells #[.int .u32 p, .int .u16 sl] 50
set_option maxHeartbeats 8000000 in
theorem fetch_get (h : Px w ok g gd d t K) (hd : Dk w okd gd d t) (hy : By d) (hK : K ≤ 900000) (p sl : Int) (hp : 0 ≤ p ∧ p < 4294967296) (hsl : 0 ≤ sl ∧ sl < 65536) (he : (headX d t p 1).2.2 = 0) (xs : List Int) (hxs : (headX d t p 1).2.1 = xs) (k : Nat) (r1 : List Int) (r2 : Int) (hg : slots_Get.f k xs sl = some (r1, r2)) :
    Calls Try.prog 23 #[.pointer (some ⟨g, 0, none⟩), .agg #[.int .u32 p, .int .u16 sl]] w fun e w' => ∃ v, e = .returned (.tuple #[v, .int .i64 r2]) ∧ Kd.R (Kd.int .u8) 5 w' w.heap.size (fun _ => True) v r1 ∧ Pool.Kp w w' ok ∧ Px w' (fun k => ok k ∨ w.heap.size ≤ k) g gd d t (K + 1) := by
  have HX := Aside0.mk (blk_new w (B50 p sl))
  have hh := head_px (h.bound.below (below_alloc (Below.refl _ _) (B50 p sl))) (hd.alloc (B50 p sl)) hK p 1 hp hy
  have hK0 := (Pool.Kp.of_below (below_alloc (Below.refl w.heap.size w) (B50 p sl)) ok)
  rw [he, hxs] at hh
  generalize headX d t p 1 = H at hh
  have HH := Aside0.mk hh
  have HK0 := Aside0.mk hK0
  have HG := Aside0.mk hg
  have hx0 := (blk_cell HX.out 0).trans rfl
  have ws : wrap64 sl = sl := wr_in _ (by omega)
  have HS := Aside0.mk (World.size_alloc w (B50 p sl))
  clear h hd hy hp hsl he hxs hg hh hK0
  go_enter Try.func23, Try.ntmps23
  go_wp2_with (first
    | (go_at_call 53; (with_reducible refine HH.out.mono ?_); rintro en w4 ⟨A4, c4, rfl, ho, hp4, hk4⟩; have HX4 := Aside0.mk ((hk4.same w.heap.size (by rw [HS.out]; exact Nat.lt_succ_self _) (fun hk => Nat.lt_irrefl _ hk.2)).trans HX.out); have HK4 := Aside0.mk (kp_then HK0.out hk4 (fun k hk => .inl hk.1)); have HO4 := Aside0.mk ho; have HP4 := Aside0.mk (hp4.mono (ok' := fun k => ok k ∨ w.heap.size ≤ k) (fun k hk => hk.1.elim (fun h => .inl h.1) (fun h => .inr (by rw [HS.out] at h; omega)))); clear ho hp4 hk4 hx0; have hx1 := (blk_cell HX4.out 1).trans rfl; have hxl := blk_lt HX4.out)
    | (go_at_call 54; (with_reducible refine (slots_Get.calls k A4 c4 xs sl r1 r2 _ (Kd.C_alloc (Kd.R_reads' HO4.out).2.2 _) (Kd.R_reads' HO4.out).2.1 HG.out).mono ?_); rintro en w5 ⟨v, rfl, ho, hb⟩; have HO5 := Aside0.mk ho; have HK5 := Aside0.mk ((HK4.out.below (below_alloc (Below.refl _ _) _)).below hb); have HP5 := Aside0.mk ((HP4.out.below (below_alloc (Below.refl _ _) _)).below hb); have HZ5 := Aside0.mk (show w.heap.size ≤ _ from Nat.le_trans HK4.out.size (below_alloc (Below.refl w4.heap.size w4) (.cells #[.int .u8 H.1.1, .int .u16 H.1.2.1, .int .u32 H.1.2.2] 130)).size); clear ho hb hx1))
  go_ret2
  exact ⟨_, rfl, Kd.R_lower HO5.out HZ5.out, HK5.out, HP5.out⟩
end
end Go.Proofs.Ytpfegfkniilobaa.Hp
namespace Go.Proofs.Ytpfegfkniilobaa.PureSl
open Go.RowKit Go.Proofs.YtpfegfkniilobaaW.PrintWords Go.Proofs.YtpfegfkniilobaaW.PrintLast Go.Proofs.YtpfegfkniilobaaW.PrintMore Go.Proofs.Ytpfegfkniilobaa.XHeap Go.Proofs.Ytpfegfkniilobaa.Byt Go.Proofs.Ytpfegfkniilobaa.Slb
set_option linter.unusedVariables false
set_option linter.unusedSimpArgs false
theorem all_not {b : List Int} (h : ∀ k, ∃ x y, slots_read.f (k + 1000) b = some (x, y, false)) (k : Nat) : slots_All.f (k + 1000) b = some ([], 2) := by
  obtain ⟨x, y, e⟩ := h k
  rw [slots_All.f, e]
  rfl
/-- A record by its number, of a heap page. -/
theorem Ok.get_at {nx : Int} {rs : List (List Int)} (h : Ok nx rs) (k : Nat) (s : Int) (h0 : 0 ≤ s) : slots_Get.f (k + 200) (pg nx rs) s = some (if s < (rs.length : Int) then (rd_L1 rs s, 0) else ([], 9)) := by
  rw [slots_Get.f, h.read' k, Option.bind_some]
  dsimp only
  rw [if_pos rfl, if_neg (show ¬ s < 0 by omega)]
  by_cases hs : s < (rs.length : Int)
  · rw [if_neg (by omega), if_pos h0, if_pos hs, if_pos hs]
  · rw [if_pos (by omega), if_neg hs]
end Go.Proofs.Ytpfegfkniilobaa.PureSl
namespace Go.Proofs.Ytpfegfkniilobaa.Hp
open Go.RowKit Go.Proofs.YtpfegfkniilobaaW.PrintWords Go.Proofs.YtpfegfkniilobaaW.PrintLast Go.Proofs.YtpfegfkniilobaaW.PrintMore Go.Proofs.Ytpfegfkniilobaa.Byt Go.Proofs.Ytpfegfkniilobaa.Dsk Go.Proofs.Ytpfegfkniilobaa.XHeap
set_option linter.unusedVariables false
set_option linter.unusedSimpArgs false
set_option maxRecDepth 100000
structure S66 where
  f0 : S50
  f1 : List Int
def k66 : Kd S66 := Kd.iso (Kd.pair k50 (Kd.slice 5 (Kd.int .u8))) (fun x : S66 => (x.f0, x.f1))
theorem k66_mkM (w : World) (base : Nat) (ok : Nat → Prop) (x : S66) (A : Option Addr) (c : Nat) (h : Kd.R (Kd.int .u8) 5 w base ok (.slice A x.f1.length c) x.f1) : k66.M w base ok x [.int .u32 x.f0.f0, .int .u16 x.f0.f1, .slice A x.f1.length c] :=
  ⟨[.int .u32 x.f0.f0, .int .u16 x.f0.f1], [.slice A x.f1.length c], rfl, k50_mkM w base ok x.f0, ⟨_, rfl, h⟩⟩
theorem info66 : (Try.prog.info? 66).map (fun i => (i.zero, i.size, i.bytes)) = some (some (.agg #[(.int .u32 0), (.int .u16 0), (.slice none 0 0)]), 3, 32) := by kernel_rfl
set_option maxHeartbeats 8000000 in
/-- Scan's closure: an item is gathered. -/
theorem clos_ok {w : World} {base go n c : Nat} {A A1 : Option Addr} {c1 : Nat} {items : List S66} {ok okp : Nat → Prop} (hbx : w.heap[go]? = some (.cells #[.slice A n c] 59 (0, 0))) (hrow : Kd.R k66 66 w base ok (.slice A n c) items) (x : S66) (hrec : Kd.R (Kd.int .u8) 5 w base okp (.slice A1 x.f1.length c1) x.f1) (hokp : ∀ k, okp k → ok k ∧ some k ≠ (Value.slice A n c).ownBlock) (hfresh : ∀ k, w.heap.size ≤ k → ok k) (hbase : base ≤ w.heap.size) (hl : items.length ≤ 1000000) :
    Calls Try.prog 51 #[.agg #[.int .u32 x.f0.f0, .int .u16 x.f0.f1], .slice A1 x.f1.length c1, .pointer (some ⟨go, 0, none⟩)] w fun e w' => ∃ A' n' c', e = .returned (.bool true) ∧ w'.heap[go]? = some (.cells #[.slice A' n' c'] 59 (0, 0)) ∧ Kd.R k66 66 w' base ok (.slice A' n' c') (items ++ [x]) ∧ Pool.Kp w w' (fun k => k = go ∨ some k = (Value.slice A n c).ownBlock) ∧ ((Value.slice A' n' c').ownBlock = (Value.slice A n c).ownBlock ∨ ∃ b, (Value.slice A' n' c').ownBlock = some b ∧ w.heap.size ≤ b) := by
  obtain ⟨⟨p, sl⟩, r⟩ := x
  dsimp only at hrec ⊢
  have hgo := blk_lt hbx
  have HX := Aside0.mk (blk_alloc hbx (.cells #[.int .u32 p, .int .u16 sl] 50))
  have HT := Aside0.mk (blk_new w (.cells #[.int .u32 p, .int .u16 sl] 50))
  have HR := Aside0.mk (Kd.R_alloc hrow (.cells #[.int .u32 p, .int .u16 sl] 50))
  have HC := Aside0.mk (Kd.R_alloc hrec (.cells #[.int .u32 p, .int .u16 sl] 50))
  have HP := Aside0.mk (And.intro hokp (And.intro hfresh (And.intro hbase hl)))
  have HS := Aside0.mk (World.size_alloc w (.cells #[.int .u32 p, .int .u16 sl] 50))
  have hx0 := (blk_cell HX.out 0).trans rfl
  have ht0 := (blk_cell HT.out 0).trans rfl
  have ht1 := (blk_cell HT.out 1).trans rfl
  clear hbx hrow hrec hokp hfresh hbase hl
  go_enter Try.func51, Try.ntmps51
  go_wp2_with ((with_reducible refine gate_builtin (b := .append) (xs := #[.tmp 6, .tmp 10]) rfl ?_); at_builtin; refine Kd.R_append k66 (w0 := w.alloc (.cells #[.int .u32 p, .int .u16 sl] 50)) base rfl (.tmp 6) (.tmp 10) 59 66 (.agg #[(.int .u32 0), (.int .u16 0), (.slice none 0 0)]) 32 rfl Try.underlying59 info66 rfl (by decide) (by omega) (.slice A n c) items ⟨⟨p, sl⟩, r⟩ [.int .u32 p, .int .u16 sl, .slice A1 r.length c1] ok okp rfl (by first | (go_simp; done) | (go_simp; rfl)) (k66_mkM _ _ _ ⟨⟨p, sl⟩, r⟩ A1 c1 HC.out) HP.out.1 (fun k hk => HP.out.2.1 k (by rw [HS.out] at hk; omega)) HR.out (Below.refl _ _) (by rw [HS.out]; have := HP.out.2.2.1; omega) (by have := HP.out.2.2.2; omega) ?_; intro v6 w6 ho hb hg_ hat; (obtain ⟨Ax, cx, ex⟩ := Kd.R_slice ho); generalize List.length _ = nx_ at ex; subst ex; clear hx0 ht0 ht1; have HX6 := Aside0.mk (blk_grown HX.out hg_ (Kd.R_ne HR.out HX.out (by decide))); have HR6 := Aside0.mk ho; have HG6 := Aside0.mk hg_; have HA6 := Aside0.mk hat; clear ho hb hg_ hat; have hy0 := (blk_cell HX6.out 0).trans rfl; have hyf := blk_frozen HX6.out 0; have hyl := blk_lt HX6.out)
  go_ret
  refine ⟨Ax, nx_, cx, rfl, blk_put (cs' := #[.slice Ax nx_ cx]) HX6.out 0 _ rfl, Kd.R_set HR6.out HX6.out (by decide) 0 _, ?_, ?_⟩
  · have k0 := Pool.Kp.of_below (below_alloc (Below.refl w.heap.size w) (.cells #[.int .u32 p, .int .u16 sl] 50)) (fun k => k = go ∨ some k = (Value.slice A n c).ownBlock)
    exact (Pool.Kp.of_grown HG6.out k0 (fun k hk => .inl (.inr hk.symm))).setCell (.inl (.inl rfl)) _
  · rcases HA6.out with h | ⟨b, h1, h2⟩
    · exact .inl h
    · exact .inr ⟨b, h1, by rw [HS.out] at h2; omega⟩
end Go.Proofs.Ytpfegfkniilobaa.Hp
namespace Go.Proofs.Ytpfegfkniilobaa.Slb
open Go.RowKit Go.Proofs.YtpfegfkniilobaaW.PrintWords Go.Proofs.YtpfegfkniilobaaW.PrintLast Go.Proofs.YtpfegfkniilobaaW.PrintMore Go.Proofs.Ytpfegfkniilobaa.Byt Go.Proofs.Ytpfegfkniilobaa.Dsk
set_option linter.unusedVariables false
set_option linter.unusedSimpArgs false
/-- Record i, as it lies in W: its slice's value, its row; f tells the blocks apart. -/
def El (W : World) (base g : Nat) (f : Nat → Nat) (xs : List (List Int)) (i : Nat) (A : Option Addr) (c : Nat) : Prop :=
  W.cell? ⟨g, i, none⟩ = some (.slice A (rd_L xs i).length c) ∧ Kd.R (Kd.int .u8) 5 W base (fun k => (k ≠ g ∧ f k = i) ∧ base ≤ k ∧ k < W.heap.size) (.slice A (rd_L xs i).length c) (rd_L xs i)
theorem S_el {W : World} {base : Nat} {ok : Nat → Prop} {v : Value} {xs : List (List Int)} (h : Kd.S (Kd.slice 5 (Kd.int .u8)) 52 W base ok v xs) (hp : 0 < xs.length) : ∃ (f : Nat → Nat) (g cap : Nat), v = .slice (some ⟨g, 0, none⟩) xs.length cap ∧ base ≤ g ∧ g < W.heap.size ∧ ∀ i : Nat, i < xs.length → ∃ A c, El W base g f xs i A c := by
  obtain ⟨f, hR⟩ := h
  have hzl : xs.zipIdx.length = xs.length := List.length_zipIdx
  obtain ⟨g, cap, hv, hb, hg, _⟩ := Kd.R_form hR (by omega)
  subst hv
  refine ⟨f, g, cap, by rw [hzl], hb, hg, fun i hi => ?_⟩
  obtain ⟨c, hcl, hM, hcell⟩ := Kd.R_getA hR (([] : List Int), 0) (i : Int) (by omega) (by omega)
  have hz : (xs.zipIdx.getD ((i : Int).toNat) (([] : List Int), 0)) = (rd_L xs i, i) := by
    rw [Int.toNat_natCast, List.getD_eq_getElem?_getD, List.getElem?_zipIdx, List.getElem?_eq_getElem hi]
    simp [rd_L, hi]
  rw [hz] at hM
  obtain ⟨v', rfl, hRv⟩ := hM
  obtain ⟨A, c', rfl⟩ := Kd.R_slice hRv
  refine ⟨A, c', ?_, Kd.R_mono (Kd.R_bound hRv) (fun k hk => ?_)⟩
  · have := hcell 0 _ rfl
    rw [Int.toNat_natCast, show i * (Kd.tag f (Kd.slice 5 (Kd.int .u8))).sz + 0 = i from by show i * 1 + 0 = i; omega, addk, Nat.zero_add] at this
    exact this
  · obtain ⟨h1, h2, h3, _⟩ := hk
    exact ⟨⟨fun e => h1.1.2 (by rw [e]; rfl), h1.2⟩, h2, h3⟩
end Go.Proofs.Ytpfegfkniilobaa.Slb
namespace Go.Proofs.Ytpfegfkniilobaa.Hp
open Go.RowKit Go.Proofs.YtpfegfkniilobaaW.PrintWords Go.Proofs.YtpfegfkniilobaaW.PrintLast Go.Proofs.YtpfegfkniilobaaW.PrintMore Go.Proofs.Ytpfegfkniilobaa.Byt Go.Proofs.Ytpfegfkniilobaa.Dsk Go.Proofs.Ytpfegfkniilobaa.XHeap
open Go.Proofs.Ytpfegfkniilobaa.PureSl (room Ok txt)
set_option linter.unusedVariables false
set_option linter.unusedSimpArgs false
/-- A page's class: no error, the next page, its records; or an error. -/
inductive Cls (d : List Int) (t : List Bool) (p : Int) : Int → Int → List (List Int) → Prop
  | good (nx : Int) (rs : List (List Int)) (hin : p < (t.length : Int)) (h : Ok nx rs) (hb : pg d p.toNat = hp nx rs) : Cls d t p 0 nx rs
  | bad (hin : p < (t.length : Int)) (h1 : ∀ k, ∃ x y, slots_read.f (k + 1000) (pg d p.toNat) = some (x, y, false)) (h2 : ∀ k, ∃ x y, rowlockref08_Read.f (k + 2000) (strOfNums (pg d p.toNat)) = some (x, y, false)) : Cls d t p 2 0 []
  | out (h : (t.length : Int) ≤ p) : Cls d t p 8 0 []
theorem head_good_cls {d : List Int} {t : List Bool} {p nx : Int} {rs : List (List Int)} (hin : p < (t.length : Int)) (h : Ok nx rs) (hb : pg d p.toNat = hp nx rs) (hy : By d) : headX d t p 1 = ((1, (rs.length : Int), nx), hp nx rs, 0) := by
  have h1 := PureSl.get_f 0 (pg d p.toNat) ((hy.drop _).take _)
  have h2 := h.get 0
  rw [hb] at h1
  rw [h2] at h1
  have h3 := Option.some.inj h1
  unfold headX
  rw [if_pos hin, hb, ← h3]
  dsimp only
  rw [if_pos ⟨rfl, rfl⟩]
/-- The items of a page. -/
def itemsOf (p : Int) : List (List Int) → Nat → List S66
  | [], _ => []
  | r :: rs, i => ⟨⟨p, (i : Int) % 65536⟩, r⟩ :: itemsOf p rs (i + 1)
/-- A way through pages: m pages at most are still to come, n is the page's number in the row. -/
inductive Way (d : List Int) (t : List Bool) : Nat → Int → Nat → List S66 → Int → Int → List S66 → Prop
  | over (p : Int) (n : Nat) (its : List S66) : Way d t 0 p n its 0 2 its
  | err {m : Nat} {p : Int} {n : Nat} {its : List S66} {e nx : Int} {rs : List (List Int)} (h : Cls d t p e nx rs) (he : e ≠ 0) : Way d t (m + 1) p n its 0 e its
  | last {m : Nat} {p : Int} {n : Nat} {its : List S66} {rs : List (List Int)} (h : Cls d t p 0 0 rs) : Way d t (m + 1) p n its n 0 (its ++ itemsOf p rs 0)
  | more {m : Nat} {p : Int} {n : Nat} {its : List S66} {nx k e : Int} {rs : List (List Int)} {o : List S66} (h : Cls d t p 0 nx rs) (hn : nx ≠ 0) (hw : Way d t m nx (n + 1) (its ++ itemsOf p rs 0) k e o) : Way d t (m + 1) p n its k e o
end Go.Proofs.Ytpfegfkniilobaa.Hp
namespace Go.Proofs.Ytpfegfkniilobaa.Hp
open Go.RowKit Go.Proofs.YtpfegfkniilobaaW.PrintWords Go.Proofs.YtpfegfkniilobaaW.PrintLast Go.Proofs.YtpfegfkniilobaaW.PrintMore Go.Proofs.Ytpfegfkniilobaa.Byt Go.Proofs.Ytpfegfkniilobaa.Dsk Go.Proofs.Ytpfegfkniilobaa.XHeap
open Go.Proofs.Ytpfegfkniilobaa.PureSl (room Ok txt)
set_option linter.unusedVariables false
set_option linter.unusedSimpArgs false
theorem items_len (p : Int) : ∀ (rs : List (List Int)) (i : Nat), (itemsOf p rs i).length = rs.length
  | [], _ => rfl
  | r :: rs, i => by rw [itemsOf, List.length_cons, List.length_cons, items_len p rs]
end Go.Proofs.Ytpfegfkniilobaa.Hp
namespace Go.Proofs.Ytpfegfkniilobaa.Hp
open Go.RowKit Go.Proofs.YtpfegfkniilobaaW.PrintWords Go.Proofs.Ytpfegfkniilobaa.Byt Go.Proofs.Ytpfegfkniilobaa.Dsk
set_option linter.unusedVariables false
/-- Whole pages of an image. -/
def cut (l : List Int) : List Int := l.take (l.length / 512 * 512)
end Go.Proofs.Ytpfegfkniilobaa.Hp
namespace Go.Proofs.Ytpfegfkniilobaa.Hp
open Go.RowKit Go.Proofs.YtpfegfkniilobaaW.PrintWords Go.Proofs.YtpfegfkniilobaaW.PrintLast Go.Proofs.YtpfegfkniilobaaW.PrintMore Go.Proofs.Ytpfegfkniilobaa.Byt Go.Proofs.Ytpfegfkniilobaa.Dsk Go.Proofs.Ytpfegfkniilobaa.XHeap
open Go.Proofs.Ytpfegfkniilobaa.PureSl (room Ok txt)
set_option linter.unusedVariables false
set_option linter.unusedSimpArgs false
set_option maxRecDepth 100000
theorem pages_px {w : World} {ok okd : Nat → Prop} {g gd : Nat} {d : List Int} {t : List Bool} {K : Nat} (h : Px w ok g gd d t K) (hd : Dk w okd gd d t) : Calls Try.prog 89 #[.pointer (some ⟨g, 0, none⟩)] w fun e w' => e = .returned (.int .i64 t.length) ∧ w' = w := by
  obtain ⟨s, o, r, hh, h1, h2, ⟨gm, n, D, vo, h3⟩, h4⟩ := h
  exact Pool.pages_ok h3 hd
/-- A page that is none: the head is refused, or the records are. -/
theorem head_bad_cls {d : List Int} {t : List Bool} {p : Int} (hin : p < (t.length : Int)) : (headX d t p 1 = ((0, 0, 0), [], 2)) ∨ ∃ c nx, headX d t p 1 = ((1, c, nx), pg d p.toNat, 0) := by
  unfold headX
  rw [if_pos hin]
  by_cases h : (PureSl.getR (pg d p.toNat)).2.2.2 = true ∧ (PureSl.getR (pg d p.toNat)).1 = 1
  · rw [if_pos h, h.2]
    exact .inr ⟨_, _, rfl⟩
  · rw [if_neg h]
    exact .inl rfl
theorem head_out_cls {d : List Int} {t : List Bool} {p : Int} (h : (t.length : Int) ≤ p) : headX d t p 1 = ((0, 0, 0), [], 8) := by
  unfold headX
  rw [if_neg (by omega)]
end Go.Proofs.Ytpfegfkniilobaa.Hp
