/- disk's methods at no disk; the document's Copied; an act as a function; two pairs at once. -/
import Derived.Test.YtaibcfghokhghaaDp2
import Derived.Deep.RegionHeld3
import Derived.Deep.QuietTactic
import Derived.BigQuiet
set_option linter.unusedVariables false
set_option linter.unusedSimpArgs false
namespace Go.Proofs.Ytaibcfghokhghaa.Dk
open Go.RowKit Go.Proofs.Ytaibcfghokhghaa.Lk Go.Proofs.YtaibcfghokhghaaW.PrintWords Go.Proofs.YtaibcfghokhghaaW.PrintLast Go.Proofs.YtaibcfghokhghaaW.PrintMore Go.Proofs.Ytaibcfghokhghaa.PA
attribute [local go_sem] max2_int min2_int max_two min_two max_three min_three max_four min_four

set_option maxHeartbeats 1000000 in
set_option maxRecDepth 100000 in
theorem nil_fail (w : World) : Calls Try.prog 13 #[.pointer none, .int .i64 0, .int .i64 0] w fun e w' => e = .returned (.tuple #[]) ∧ w' = w := by
  go_enter Try.func13, Try.ntmps13
  go_wp2
  go_end0
  exact ⟨rfl, rfl⟩
set_option maxHeartbeats 1000000 in
set_option maxRecDepth 100000 in
theorem nil_restart (w : World) : Calls Try.prog 12 #[.pointer none] w fun e w' => e = .returned (.tuple #[]) ∧ w' = w := by
  go_enter Try.func12, Try.ntmps12
  go_wp2
  go_end0
  exact ⟨rfl, rfl⟩
set_option maxHeartbeats 1000000 in
set_option maxRecDepth 100000 in
theorem nil_get (w : World) (n : ByteArray) : Calls Try.prog 16 #[.pointer none, .string n] w fun e w' => e = .returned (.tuple #[.string ⟨#[]⟩, .bool false]) ∧ w' = w := by
  go_enter Try.func16, Try.ntmps16
  go_wp2
  go_ret2
  exact ⟨rfl, rfl⟩
set_option maxHeartbeats 1000000 in
set_option maxRecDepth 100000 in
theorem nil_down (w : World) : Calls Try.prog 17 #[.pointer none] w fun e w' => e = .returned (.bool false) ∧ w' = w := by
  go_enter Try.func17, Try.ntmps17
  go_wp2
  go_ret
  exact ⟨rfl, rfl⟩
set_option maxHeartbeats 1000000 in
set_option maxRecDepth 100000 in
theorem nil_names (w : World) : Calls Try.prog 15 #[.pointer none] w fun e w' => e = .returned (.slice none 0 0) ∧ w' = w := by
  go_enter Try.func15, Try.ntmps15
  go_wp2
  go_ret
  exact ⟨rfl, rfl⟩
set_option maxHeartbeats 1000000 in
set_option maxRecDepth 100000 in
theorem nil_copy (w : World) : Calls Try.prog 10 #[.pointer none] w fun e w' => e = .returned (.pointer none) ∧ w' = w := by
  go_enter Try.func10, Try.ntmps10
  go_wp2
  go_ret
  exact ⟨rfl, rfl⟩
set_option maxHeartbeats 1000000 in
set_option maxRecDepth 100000 in
theorem nil_put (w : World) (n d : ByteArray) : Calls Try.prog 14 #[.pointer none, .string n, .string d] w fun e w' => e = .returned (.int .i64 1) ∧ w' = w := by
  go_enter Try.func14, Try.ntmps14
  go_wp2
  go_ret
  exact ⟨rfl, rfl⟩
set_option maxHeartbeats 1000000 in
set_option maxRecDepth 100000 in
theorem nil_drop (w : World) (n : ByteArray) : Calls Try.prog 18 #[.pointer none, .string n] w fun e w' => e = .returned (.int .i64 1) ∧ w' = w := by
  go_enter Try.func18, Try.ntmps18
  go_wp2
  go_ret
  exact ⟨rfl, rfl⟩
theorem u28 : Try.prog.underlying 28 = some (.slice 51) := by kernel_rfl
theorem info51 : (Try.prog.info? 51).map (fun i => (i.zero, i.size, i.bytes)) = some (some (.agg #[.string ⟨#[]⟩, .string ⟨#[]⟩]), 2, 32) := by kernel_rfl
theorem rw_empty (w : World) : Rw (w.alloc (.cells #[] 51)).drew 51 2 (.slice (some ⟨w.heap.size, 0, none⟩) 0 0) 0 [] :=
  ⟨rfl, .inr ⟨w.heap.size, 0, 0, #[], rfl, heap_alloc_new w (.cells #[] 51), Nat.le_refl _, by simp only [maxLen]; omega, Nat.le_refl _, rfl⟩⟩
theorem app_copied (w : World) (A : Option Addr) (c n : Nat) (l : List File) (hn : l.length = n) (h : Rw w 51 2 (.slice A n c) n (fcells l)) (hl : n ≤ 100000) :
    ∃ A9 c9 w6, (Builtin.append_ #[28, 28] 28 #[.slice (some ⟨w.heap.size, 0, none⟩) 0 0, .slice A n c]).run Try.prog (w.alloc (.cells #[] 51)).drew = .ok (.slice A9 n c9) w6 ∧ Rw w6 51 2 (.slice A9 n c9) n (fcells l) ∧ Below w.heap.size w w6 ∧ (∀ g, (Value.slice A9 n c9).ownBlock = some g → w.heap.size ≤ g) := by
  have hb0 : Below w.heap.size w (w.alloc (.cells #[] 51)).drew := ((Below.refl _ _).alloc (Nat.le_refl _) _).drew
  obtain ⟨i0, hi0, hz0, hs0, hb1⟩ := info_parts info51
  by_cases h0 : n = 0
  · subst h0
    have hnil : fcells l = [] := by rw [List.eq_nil_of_length_eq_zero hn]; rfl
    refine ⟨some ⟨w.heap.size, 0, none⟩, 0, (w.alloc (.cells #[] 51)).drew, ?_, by rw [hnil]; exact rw_empty w, hb0, fun g hg => by simp [Value.ownBlock] at hg; omega⟩
    cases A with
    | none => simp [Builtin.append_, run_underlying u28, sizeOf, typeInfo, hi0, Builtin.lenOf, Builtin.firstCells, storeCells]
    | some ad => simp [Builtin.append_, run_underlying u28, sizeOf, typeInfo, hi0, Builtin.lenOf, Builtin.firstCells, storeCells, loadCells, loadCellsFrom]
  · obtain ⟨g, off, cap, hA, _, hc⟩ := h.form2 (by omega)
    simp only [Value.slice.injEq, true_and] at hA
    obtain ⟨rfl, rfl⟩ := hA
    have hh := (h.alloc (.cells #[] 51))
    obtain ⟨cap', w6, hr, hR, hB⟩ := run_append_full (P := Try.prog) (w := (w.alloc (.cells #[] 51)).drew) 28 28 51 i0 _ 2 32 u28 hi0 hz0 hs0 hb1 rfl (rw_empty w) ⟨g, off, none⟩ n c (fcells l) (by rw [fcells_length, hn]) (fun j u hj => by
        have := hh.cell hj
        rw [add_]
        exact this) (by omega) (by omega) (by simp only [maxLen]; omega) (by omega)
    rw [Nat.zero_add] at hr hR
    refine ⟨_, cap', w6, hr, hR, hb0.trans (hB.mono (by simp)), fun g hg => ?_⟩
    have : (w.alloc (.cells #[] 51)).drew.heap.size = g := by simpa [Value.ownBlock] using hg
    have h1 : (w.alloc (.cells #[] 51)).drew.heap.size = w.heap.size + 1 := by simp
    omega
set_option maxHeartbeats 2000000 in
set_option maxRecDepth 100000 in
theorem copied_calls (w : World) (b : Nat) (mv : Value) (M : Dsk) (h : IsRef w b mv M) (hl : M.l.length ≤ 100000) :
    Calls Try.prog 11 #[.pointer (some ⟨b, 0, none⟩)] w fun e w' => ∃ nb mv', e = .returned (.pointer (some ⟨nb, 0, none⟩)) ∧ IsRef w' nb mv' M ∧ Below w.heap.size w w' ∧ w.heap.size ≤ nb ∧ (∀ g, mv'.ownBlock = some g → w.heap.size ≤ g) := by
  obtain ⟨c0, c1, c2, c3, cf⟩ := h.facts
  obtain ⟨A, c, hmv, hnc, _⟩ := h.row.form
  rw [hmv] at c0
  have hrow := h.row
  rw [hmv] at hrow
  obtain ⟨A9, c9, w6, hr, hR, hB, hF⟩ := app_copied w A c M.l.length M.l rfl hrow hl
  have HAPP := Aside0.mk hr
  have HR := Aside0.mk hR
  have HB := Aside0.mk hB
  have HF := Aside0.mk hF
  have HM := Aside0.mk (h.below hB)
  obtain ⟨q0, q1, q2, q3, _⟩ := HM.out.facts
  rw [hmv] at q0
  have HQ5 : w6.cell? ⟨b, 0, none⟩ = some (.slice A M.l.length c) ∧ w6.cell? ⟨b, 1, none⟩ = some (.int .i64 M.fuse) ∧ w6.cell? ⟨b, 2, none⟩ = some (.int .i64 M.part) ∧ w6.cell? ⟨b, 3, none⟩ = some (.bool M.down) := ⟨q0, q1, q2, q3⟩
  clear cf h hmv hrow hr hR hB hF q0 q1 q2 q3 hnc
  go_enter Try.func11, Try.ntmps11
  go_wp2
  go_region_held3 (fun w' => w'.cell? ⟨b, 0, none⟩ = some (.slice A M.l.length c) ∧ w'.cell? ⟨b, 1, none⟩ = some (.int .i64 M.fuse) ∧ w'.cell? ⟨b, 2, none⟩ = some (.int .i64 M.part) ∧ w'.cell? ⟨b, 3, none⟩ = some (.bool M.down)) (first | go_keep | exact HQ5)
    (refine step_append_run _ (by rfl) _ _ 28 28 (by rfl) _ _ (by rfl) (by rfl) HAPP.out ?_)
  go_wp2
  go_ret
  refine ⟨w6.heap.size, .slice A9 M.l.length c9, rfl, ⟨heap_alloc_new w6 _, HR.out.alloc _, fun e => ?_⟩, HB.out.alloc HB.out.size _, HB.out.size, HF.out⟩
  have := HR.out.lt _ e
  omega

/-! ### an act as a function; two pairs -/
section
open Classical
open Go.Proofs.Ytaibcfghokhghaa.Dp
/-- What an act comes to. -/
noncomputable def stepD (D : Dsk) (a : S33) : Dsk := if h : ∃ D', Ev (fun k => actF k D D a) (D', D') ∧ (∀ i, i ≤ 1000 → Inv D i → Inv D' (i + 1)) then h.choose else D
end
structure Fine (a : S33) : Prop where
  f0 : 0 ≤ a.f0 ∧ a.f0 ≤ 255
  data : a.f2.size ≤ 100
  f3 : -9223372036854775808 ≤ a.f3 ∧ a.f3 ≤ 9223372036854775807
theorem ev_one {α : Type} {f : Nat → Option α} {a b : α} (h1 : Ev f a) (h2 : Ev f b) : a = b := by
  obtain ⟨k1, h1⟩ := h1
  obtain ⟨k2, h2⟩ := h2
  have e1 := h1 (max k1 k2) (by omega)
  have e2 := h2 (max k1 k2) (by omega)
  rw [e1] at e2
  exact Option.some.inj e2
theorem step_spec {D : Dsk} {i : Nat} (h : Dp.Inv D i) (hi : i ≤ 1000) (a : S33) (ha : Fine a) : Ev (fun k => actF k D D a) (stepD D a, stepD D a) ∧ Dp.Inv (stepD D a) (i + 1) := by
  have hx : ∃ D', Ev (fun k => actF k D D a) (D', D') ∧ (∀ i, i ≤ 1000 → Dp.Inv D i → Dp.Inv D' (i + 1)) := by
    obtain ⟨D', e, _⟩ := Dp.act_ev h hi a ha.f0 ha.data ha.f3
    refine ⟨D', e, fun j hj hI => ?_⟩
    obtain ⟨D2, e2, hI2⟩ := Dp.act_ev hI hj a ha.f0 ha.data ha.f3
    have := (Prod.mk.inj (ev_one e e2)).1
    rw [this]
    exact hI2
  unfold stepD
  rw [dif_pos hx]
  exact ⟨hx.choose_spec.1, hx.choose_spec.2 i hi h⟩
theorem act_good {w : World} {bd bm : Nat} {lv mv : Value} {D : Dsk} {i : Nat} (hd : IsDisk w bd lv D) (hm : IsRef w bm mv D) (h : Dp.Inv D i) (hi : i ≤ 1000) (a : S33) (ha : Fine a) :
    Calls Try.prog 8 #[.pointer (some ⟨bd, 0, none⟩), .pointer (some ⟨bm, 0, none⟩), .agg #[.int .u8 a.f0, .string a.f1, .string a.f2, .int .i64 a.f3, .int .i64 a.f4]] w fun e w' => e = .returned (.bool true) ∧ ∃ lv' mv', TK w bd lv bm mv w' lv' mv' (stepD D a) (stepD D a) := by
  obtain ⟨k, hk⟩ := Ev.rounds (step_spec h hi a ha).1
  exact act_calls k w bd lv bm mv D D _ _ a hd hm hk
noncomputable def runD (l : List S33) (D : Dsk) : Dsk := l.foldl stepD D
theorem run_take (l : List S33) (D : Dsk) (i : Nat) (h : i < l.length) : runD (l.take (i + 1)) D = stepD (runD (l.take i) D) (rd_T33 l (i : Int)) := by
  rw [Dp.rd33 l i h, List.take_succ_eq_append_getElem h]
  unfold runD
  rw [List.foldl_append]
  rfl
/-- The blocks of a disk and of the document's. -/
def SS (bd : Nat) (lv : Value) (bm : Nat) (mv : Value) (g : Nat) : Prop := g = bd ∨ lv.ownBlock = some g ∨ g = bm ∨ mv.ownBlock = some g
theorem PL.live {w W : World} {bd bm : Nat} {lv mv : Value} {D M : Dsk} (h : PL w W bd lv bm mv D M) : ∀ g, SS bd lv bm mv g → g < W.heap.size := by
  intro g x
  rcases x with e | e | e | e
  · rw [e]; exact h.d.lt
  · exact h.d.row.lt g e
  · rw [e]; exact h.m.lt
  · exact h.m.row.lt g e
/-- Two pairs, apart. -/
structure P2 (w W : World) (bd : Nat) (lv : Value) (bm : Nat) (mv : Value) (D M : Dsk) (bc : Nat) (cv : Value) (bn : Nat) (nv : Value) (C N : Dsk) : Prop where
  p : PL w W bd lv bm mv D M
  q : PL w W bc cv bn nv C N
  far : ∀ g, SS bd lv bm mv g → ¬ SS bc cv bn nv g
section
variable {w W w5 : World} {bd bm bc bn : Nat} {lv mv cv nv lv5 mv5 : Value} {D M D5 M5 C N : Dsk}
theorem P2.swap (h : P2 w W bd lv bm mv D M bc cv bn nv C N) : P2 w W bc cv bn nv C N bd lv bm mv D M := ⟨h.q, h.p, fun g a b => h.far g b a⟩
theorem P2.tk (h : P2 w W bd lv bm mv D M bc cv bn nv C N) (t : TK W bd lv bm mv w5 lv5 mv5 D5 M5) : P2 w w5 bd lv5 bm mv5 D5 M5 bc cv bn nv C N := by
  have hs := h.p.bel.size
  have hkp : Kp W w5 (SS bd lv bm mv) := t.kp
  refine ⟨h.p.tk t, ⟨h.q.d.kp hkp (fun x => h.far _ x (.inl rfl)) (fun g hg x => h.far _ x (.inr (.inl hg))), h.q.m.kp hkp (fun x => h.far _ x (.inr (.inr (.inl rfl)))) (fun g hg x => h.far _ x (.inr (.inr (.inr hg)))), (h.p.tk t).bel, h.q.lo, h.q.fd, h.q.fm⟩, fun g x y => ?_⟩
  have hlt := h.q.live g y
  rcases x with e | e | e | e
  · exact h.far g (.inl e) y
  · exact (t.fd g e).elim (fun z => h.far g (.inr (.inl z)) y) (fun z => by omega)
  · exact h.far g (.inr (.inr (.inl e))) y
  · exact (t.fm g e).elim (fun z => h.far g (.inr (.inr (.inr z))) y) (fun z => by omega)
theorem P2.below (h : P2 w W bd lv bm mv D M bc cv bn nv C N) (hb : Below W.heap.size W w5) : P2 w w5 bd lv bm mv D M bc cv bn nv C N := ⟨h.p.below hb, h.q.below hb, h.far⟩
/-- A pair that was made behind another one. -/
theorem P2.make {W1 W2 : World} (h : PL w W bd lv bm mv D M) (hc : IsDisk W1 bc cv C) (b1 : Below W.heap.size W W1) (l1 : W.heap.size ≤ bc) (f1 : ∀ g, cv.ownBlock = some g → W.heap.size ≤ g)
    (hn : IsRef W2 bn nv N) (b2 : Below W1.heap.size W1 W2) (l2 : W1.heap.size ≤ bn) (f2 : ∀ g, nv.ownBlock = some g → W1.heap.size ≤ g) : P2 w W2 bd lv bm mv D M bc cv bn nv C N := by
  have s1 := b1.size
  have s2 := b2.size
  have s0 := h.bel.size
  have hp := (h.below b1).below b2
  refine ⟨hp, ⟨hc.below b2, hn, hp.bel, ⟨by omega, by omega⟩, fun g e => by have := f1 g e; omega, fun g e => by have := f2 g e; omega⟩, fun g x y => ?_⟩
  have := h.live g x
  rcases y with e | e | e | e
  · omega
  · have := f1 g e; omega
  · omega
  · have := f2 g e; omega
end
/-- Two disks, apart. -/
structure Q2 (w W : World) (bc : Nat) (cv : Value) (C : Dsk) (bh : Nat) (hv : Value) (H : Dsk) : Prop where
  c : OD w bc W cv C
  h : OD w bh W hv H
  far : ∀ g, (g = bc ∨ cv.ownBlock = some g) → ¬ (g = bh ∨ hv.ownBlock = some g)
section
variable {w W w5 : World} {bc bh : Nat} {cv hv cv5 : Value} {C C5 H : Dsk}
theorem OD.live (h : OD w bc W cv C) : ∀ g, (g = bc ∨ cv.ownBlock = some g) → g < W.heap.size := fun g x => x.elim (fun e => e ▸ h.d.lt) (fun e => h.d.row.lt g e)
theorem Q2.step (h : Q2 w W bc cv C bh hv H) (d5 : IsDisk w5 bc cv5 C5) (hk : Kp W w5 (fun g => g = bc ∨ cv.ownBlock = some g)) (hf : ∀ g, cv5.ownBlock = some g → cv.ownBlock = some g ∨ W.heap.size ≤ g) : Q2 w w5 bc cv5 C5 bh hv H := by
  refine ⟨h.c.step d5 hk hf, ⟨h.h.d.kp hk (fun x => h.far _ x (.inl rfl)) (fun g hg x => h.far _ x (.inr hg)), (h.c.step d5 hk hf).bel, h.h.lo, h.h.own⟩, fun g x y => ?_⟩
  have hlt := h.h.live g y
  rcases x with e | e
  · exact h.far g (.inl e) y
  · exact (hf g e).elim (fun z => h.far g (.inr z) y) (fun z => by omega)
theorem Q2.below (h : Q2 w W bc cv C bh hv H) (hb : Below W.heap.size W w5) : Q2 w w5 bc cv C bh hv H := ⟨h.c.below hb, h.h.below hb, h.far⟩
theorem Q2.make {W1 : World} (h : OD w bc W cv C) (hh : IsDisk W1 bh hv H) (b1 : Below W.heap.size W W1) (l1 : W.heap.size ≤ bh) (f1 : ∀ g, hv.ownBlock = some g → W.heap.size ≤ g) : Q2 w W1 bc cv C bh hv H := by
  have s0 := h.bel.size
  refine ⟨h.below b1, ⟨hh, (h.below b1).bel, by omega, fun g e => by have := f1 g e; omega⟩, fun g x y => ?_⟩
  have := h.live g x
  rcases y with e | e
  · omega
  · have := f1 g e; omega
end
end Go.Proofs.Ytaibcfghokhghaa.Dk
