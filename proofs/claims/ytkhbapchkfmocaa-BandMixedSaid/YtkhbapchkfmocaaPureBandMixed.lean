/- BandMixed: however two streams' lines (texts of up to 1500 bytes, up to 200 turns: the statement's own guards) are mixed, both are got; with one of channel 3 among them all is refused. No condition of ours. -/
import Derived.Test.YtkhbapchkfmocaaBa
import Derived.Test.YtkhbapchkfmocaaPAx5
set_option linter.unusedVariables false
set_option linter.unusedSimpArgs false
namespace Go.Proofs.Ytkhbapchkfmocaa.Pure
open Go.RowKit Go.Proofs.YtkhbapchkfmocaaW.PrintWords Go.Proofs.YtkhbapchkfmocaaW.PrintLast Go.Proofs.YtkhbapchkfmocaaW.PrintMore Go.Proofs.Ytkhbapchkfmocaa.PA Go.Proofs.Ytkhbapchkfmocaa.Base Go.Proofs.Ytkhbapchkfmocaa.Ba

theorem strm_append (c : Int) (a b : List S34) : strm c (a ++ b) = strm c a ++ strm c b := by
  induction a with
  | nil => rfl
  | cons x a ih => simp [strm, ih]
theorem strm_lines (ch : Nat) (n : Nat) (h1 : 1 ≤ ch) (h3 : ch ≤ 3) (c : Int) (ps : List (List UInt8)) (hp : ∀ p ∈ ps, 1 ≤ p.length ∧ p.length ≤ 999) : strm c (ps.map (line ch)) = if (ch : Int) = c then ps.flatten else [] := by
  induction ps with
  | nil => simp [strm]
  | cons p ps ih =>
    have hb := (line_ok ch p h1 h3 (hp p (by simp)).1 (hp p (by simp)).2).2
    rw [List.map_cons, strm, ih (fun q hq => hp q (by simp [hq])), hb]
    have hd : (line ch p).f1.data.toList.drop 1 = p := rfl
    rw [hd]
    by_cases h : (ch : Int) = c
    · rw [if_pos h, if_pos h, if_pos h]; simp
    · rw [if_neg h, if_neg h, if_neg h]; rfl
/-- One stream's lines. -/
def Of (ch : Nat) (x : List S34) : Prop := (∀ p ∈ x, okL p ∧ bt p.f1 0 = (ch : Int))
theorem of_lines (ch n : Nat) (l : List UInt8) (h : may (ch : Int) (n : Int)) : Of ch (lines ch n l) := by
  unfold may at h
  intro p hp
  obtain ⟨q, hq, rfl⟩ := List.mem_map.1 hp
  obtain ⟨h1, h2⟩ := chunk_mem n (by omega) l.length l (Nat.le_refl _) q hq
  exact line_ok ch q (by omega) (by omega) h1 (by omega)
theorem strm_of (ch n : Nat) (l : List UInt8) (h : may (ch : Int) (n : Int)) : strm (ch : Int) (lines ch n l) = l := by
  unfold may at h
  rw [lines, strm_lines ch n (by omega) (by omega) _ _ (fun p hp => ?_), if_pos rfl, chunk_flat n (by omega) l.length l (Nat.le_refl _)]
  obtain ⟨h1, h2⟩ := chunk_mem n (by omega) l.length l (Nat.le_refl _) p hp
  exact ⟨h1, by omega⟩
theorem strm_other (ch : Nat) (c : Int) (x : List S34) (hx : Of ch x) (hc : (ch : Int) ≠ c) : strm c x = [] := by
  induction x with
  | nil => rfl
  | cons p x ih =>
    rw [strm, (hx p (by simp)).2, if_neg hc, ih (fun q hq => hx q (by simp [hq]))]; rfl
def Inv (x y all : List S34) (i j : Nat) : Prop := (∀ p ∈ all, okL p) ∧ strm 1 all = strm 1 (x.take i) ∧ strm 2 all = strm 2 (y.take j) ∧ strm 3 all = [] ∧ all.length = i + j
theorem Inv.x {x y all : List S34} {i j : Nat} (h : Inv x y all i j) (hx : Of 1 x) (hi : i < x.length) : Inv x y (all ++ [x[i]]) (i + 1) j := by
  obtain ⟨h1, h2, h3, h4, h5⟩ := h
  have hp := hx x[i] (List.getElem_mem hi)
  refine ⟨fun p hp2 => ?_, ?_, ?_, ?_, by simp; omega⟩
  · rcases List.mem_append.1 hp2 with hp2 | hp2
    · exact h1 p hp2
    · simp at hp2; rw [hp2]; exact hp.1
  · rw [strm_append, h2, List.take_succ_eq_append_getElem hi, strm_append]
  · rw [strm_append, h3]; simp [strm, hp.2]
  · rw [strm_append, h4]; simp [strm, hp.2]
theorem Inv.y {x y all : List S34} {i j : Nat} (h : Inv x y all i j) (hy : Of 2 y) (hj : j < y.length) : Inv x y (all ++ [y[j]]) i (j + 1) := by
  obtain ⟨h1, h2, h3, h4, h5⟩ := h
  have hp := hy y[j] (List.getElem_mem hj)
  refine ⟨fun p hp2 => ?_, ?_, ?_, ?_, by simp; omega⟩
  · rcases List.mem_append.1 hp2 with hp2 | hp2
    · exact h1 p hp2
    · simp at hp2; rw [hp2]; exact hp.1
  · rw [strm_append, h2]; simp [strm, hp.2]
  · rw [strm_append, h3, List.take_succ_eq_append_getElem hj, strm_append]
  · rw [strm_append, h4]; simp [strm, hp.2]

section
variable (n : Nat) (turns : List Bool) (A B : List UInt8) (x y : List S34) (hx : Of 1 x) (hy : Of 2 y) (hxl : x.length ≤ 1500) (hyl : y.length ≤ 1500) (hA : strm 1 x = A) (hB : strm 2 y = B) (hn : may 3 (n : Int)) (z0 : ByteArray) (z1 : ByteArray) (z2 : Int) (z3 : List Bool) (hz0 : z0 = mkB A) (hz1 : z1 = mkB B)
include hx hy hxl hyl hA hB hn hz0 hz1
theorem mix_l0 (d : Nat) : ∀ (i j : Nat) (all : List S34), (x.length - i) + (y.length - j) = d → i ≤ x.length → j ≤ y.length → Inv x y all i j →
    Ev (fun k => knapsacklaw08_BandMixed.l0 k (n : Int) turns x y all (i : Int) (j : Int) ((i + j : Nat) : Int) z0 z1 z2 z3) true := by
  induction d with
  | zero =>
    intro i j all hd hi hj hI
    have e1 : i = x.length := by omega
    have e2 : j = y.length := by omega
    refine Ev.step (fun k => by rw [knapsacklaw08_BandMixed.l0]) ?_
    refine Base.Ev.ite_neg (by omega) ?_
    refine Ev.step (fun k => by rw [knapsacklaw08_BandMixed.j3]) ?_
    refine Base.Ev.ite_neg (by simp; omega) ?_
    obtain ⟨h1, h2, h3, h4, h5⟩ := hI
    rw [e1, List.take_of_length_le (Nat.le_refl _), hA] at h2
    rw [e2, List.take_of_length_le (Nat.le_refl _), hB] at h3
    have g1 := get_ev all (by omega)
    have gs : getS [] [] [] all = (mkB A, mkB B, 0) := by
      unfold getS
      rw [if_pos h1, if_pos (by simp [h4]), h2, h3]; rfl
    rw [gs] at g1
    refine Ev.bind g1 ?_
    have hp := put_yes 3 n [110, 111] (by decide) hn
    have hl3 := lines_length 3 n (by unfold may at hn; omega) [110, 111]
    refine Ev.bind hp ?_
    refine Base.Ev.ite_pos (by simp at hl3 ⊢; omega) ?_
    have g2 := get_ev (all ++ lines 3 n [110, 111]) (by simp at hl3 ⊢; omega)
    have gs2 : getS [] [] [] (all ++ lines 3 n [110, 111]) = (mkB [], mkB [], 13) := by
      unfold getS
      rw [if_pos, if_neg]
      · rw [strm_append, h4]
        have := strm_of 3 n [110, 111] hn
        rw [show ((3 : Nat) : Int) = 3 from rfl] at this
        rw [this]; simp
      · intro p hp
        rcases List.mem_append.1 hp with hp | hp
        · exact h1 p hp
        · exact (of_lines 3 n [110, 111] hn p hp).1
    rw [gs2] at g2
    refine Ev.bind g2 ?_
    refine Ev.bind knows_ev ?_
    refine Base.Ev.ite_pos rfl ?_
    refine Base.Ev.ite_pos (by rw [hz0]) ?_
    refine Base.Ev.ite_pos (by rw [hz1]) ?_
    refine Base.Ev.ite_pos rfl ?_
    exact Ev.now _
  | succ d ih =>
    intro i j all hd hi hj hI
    have hlen := hI.2.2.2.2
    -- the two ways on
    have goX : i < x.length → Ev (fun k => if 0 ≤ (i : Int) then (if (i : Int) < (x.length : Int) then (if all.length < 5864062014805 then (knapsacklaw08_BandMixed.l0 k (n : Int) turns x y (all ++ [(⟨(rd_T34 x (i : Int)).f0, (rd_T34 x (i : Int)).f1⟩ : S34)]) (wrap64 ((i : Int) + 1)) (j : Int) (wrap64 (((i + j : Nat) : Int) + 1)) z0 z1 z2 z3) else none) else none) else none) true := by
      intro h
      refine Base.Ev.ite_pos (by omega) ?_
      refine Base.Ev.ite_pos (by omega) ?_
      refine Base.Ev.ite_pos (by omega) ?_
      rw [rd34 x i h, w64 (by omega) (by omega), w64 (by omega) (by omega), show (i : Int) + 1 = ((i + 1 : Nat) : Int) by omega, show ((i + j : Nat) : Int) + 1 = ((i + 1 + j : Nat) : Int) by omega]
      exact ih (i + 1) j _ (by omega) (by omega) hj (hI.x hx h)
    have goY : j < y.length → Ev (fun k => if 0 ≤ (j : Int) then (if (j : Int) < (y.length : Int) then (if all.length < 5864062014805 then (knapsacklaw08_BandMixed.l0 k (n : Int) turns x y (all ++ [(⟨(rd_T34 y (j : Int)).f0, (rd_T34 y (j : Int)).f1⟩ : S34)]) (i : Int) (wrap64 ((j : Int) + 1)) (wrap64 (((i + j : Nat) : Int) + 1)) z0 z1 z2 z3) else none) else none) else none) true := by
      intro h
      refine Base.Ev.ite_pos (by omega) ?_
      refine Base.Ev.ite_pos (by omega) ?_
      refine Base.Ev.ite_pos (by omega) ?_
      rw [rd34 y j h, w64 (by omega) (by omega), w64 (by omega) (by omega), show (j : Int) + 1 = ((j + 1 : Nat) : Int) by omega, show ((i + j : Nat) : Int) + 1 = ((i + (j + 1) : Nat) : Int) by omega]
      exact ih i (j + 1) _ (by omega) hi (by omega) (hI.y hy h)
    have j5f : ∀ f : Bool, (f = true → i < x.length) → (f = false → j < y.length) → Ev (fun k => knapsacklaw08_BandMixed.j5 k (n : Int) turns x y all (i : Int) (j : Int) ((i + j : Nat) : Int) f false z0 z1 z2 z3) true := by
      intro f h1 h2
      refine Ev.step (fun k => by rw [knapsacklaw08_BandMixed.j5]) ?_
      refine Base.Ev.ite_neg (by simp) ?_
      cases f with
      | true => exact Base.Ev.ite_pos rfl (goX (h1 rfl))
      | false => exact Base.Ev.ite_neg (by simp) (goY (h2 rfl))
    have j3t : Ev (fun k => knapsacklaw08_BandMixed.j3 k (n : Int) turns x y all (i : Int) (j : Int) ((i + j : Nat) : Int) true z0 z1 z2 z3) true := by
      refine Ev.step (fun k => by rw [knapsacklaw08_BandMixed.j3]) ?_
      refine Base.Ev.ite_pos rfl ?_
      by_cases hjy : j ≥ y.length
      · refine Base.Ev.ite_pos (by omega) ?_
        refine Ev.step (fun k => by rw [knapsacklaw08_BandMixed.j4]) ?_
        refine Base.Ev.ite_pos rfl ?_
        rw [show decide ((j : Int) < (y.length : Int)) = false by simp; omega]
        exact j5f true (fun _ => by omega) (fun h => by simp at h)
      · refine Base.Ev.ite_neg (by omega) ?_
        by_cases hix : i < x.length
        · refine Base.Ev.ite_pos (by omega) ?_
          refine Ev.step (fun k => by rw [knapsacklaw08_BandMixed.j4]) ?_
          by_cases hk : i + j < turns.length
          · refine Base.Ev.ite_pos (by simp; omega) ?_
            rw [show decide ((j : Int) < (y.length : Int)) = true by simp; omega, show decide (((i + j : Nat) : Int) < (turns.length : Int)) = true by simp; omega]
            refine Ev.step (fun k => by rw [knapsacklaw08_BandMixed.j5]) ?_
            refine Base.Ev.ite_pos rfl ?_
            refine Base.Ev.ite_pos (by omega) ?_
            refine Base.Ev.ite_pos (by omega) ?_
            by_cases hb : rdOf false turns ((i + j : Nat) : Int) = true
            · exact Base.Ev.ite_pos hb (goX hix)
            · exact Base.Ev.ite_neg hb (goY (by omega))
          · refine Base.Ev.ite_neg (by simp; omega) ?_
            rw [show decide (((i + j : Nat) : Int) < (turns.length : Int)) = false by simp; omega]
            exact j5f false (fun h => by simp at h) (fun _ => by omega)
        · refine Base.Ev.ite_neg (by omega) ?_
          refine Ev.step (fun k => by rw [knapsacklaw08_BandMixed.j4]) ?_
          refine Base.Ev.ite_neg (by simp) ?_
          exact j5f false (fun h => by simp at h) (fun _ => by omega)
    refine Ev.step (fun k => by rw [knapsacklaw08_BandMixed.l0]) ?_
    by_cases hix : i < x.length
    · exact Base.Ev.ite_pos (by omega) j3t
    · refine Base.Ev.ite_neg (by omega) ?_
      rw [show decide ((j : Int) < (y.length : Int)) = true by simp; omega]
      exact j3t
end
theorem BandMixed (a0_0 a0_1 : ByteArray) (a0_2 : Int) (l0_3 : List Bool) {g0 g1 g2 g3 : Prop} (_ : g0) (_ : g1) (_ : g2) (_ : g3) (ht : l0_3.length ≤ 9223372036854775807) : ∃ k, knapsacklaw08_BandMixed.f k a0_0 a0_1 a0_2 l0_3 = some true := by
  obtain ⟨A, rfl⟩ := exB a0_0
  obtain ⟨B, rfl⟩ := exB a0_1
  apply Ev.rounds
  have out : Ev (fun k => knapsacklaw08_BandMixed.j0 k true (mkB A) (mkB B) a0_2 l0_3) true := by
    refine Ev.step (fun k => by rw [knapsacklaw08_BandMixed.j0]) ?_
    refine Base.Ev.ite_pos rfl ?_
    exact Ev.bind knows_ev (Ev.now _)
  unfold knapsacklaw08_BandMixed.f
  by_cases hA : A.length > 1500
  · exact Base.Ev.ite_pos (by rw [mkB_size]; omega) out
  refine Base.Ev.ite_neg (by rw [mkB_size]; omega) ?_
  by_cases hB : B.length > 1500
  · exact Base.Ev.ite_pos (by rw [mkB_size]; omega) out
  refine Base.Ev.ite_neg (by rw [mkB_size]; omega) ?_
  by_cases hT : l0_3.length > 200
  · rw [show decide ((l0_3.length : Int) > 200) = true by simp; omega]; exact out
  rw [show decide ((l0_3.length : Int) > 200) = false by simp; omega]
  refine Ev.step (fun k => by rw [knapsacklaw08_BandMixed.j0]) ?_
  refine Base.Ev.ite_neg (by simp) ?_
  by_cases h : 1 ≤ a0_2 ∧ a0_2 ≤ 999
  · obtain ⟨n, rfl⟩ := Int.eq_ofNat_of_zero_le (show 0 ≤ a0_2 by omega)
    have h1 : may ((1 : Nat) : Int) (n : Int) := by unfold may; omega
    have h2 : may ((2 : Nat) : Int) (n : Int) := by unfold may; omega
    have h3 : may 3 (n : Int) := by unfold may; omega
    have l1 := lines_length 1 n (by omega) A
    have l2 := lines_length 2 n (by omega) B
    refine Ev.bind (put_yes 1 n A (by omega) h1) ?_
    refine Ev.bind (put_yes 2 n B (by omega) h2) ?_
    refine Base.Ev.ite_pos rfl ?_
    refine Ev.step (fun k => by rw [knapsacklaw08_BandMixed.j1]) ?_
    refine Base.Ev.ite_neg (by simp) ?_
    exact mix_l0 n l0_3 A B (lines 1 n A) (lines 2 n B) (of_lines 1 n A h1) (of_lines 2 n B h2) (by omega) (by omega) (strm_of 1 n A h1) (strm_of 2 n B h2) h3 (mkB A) (mkB B) _ _ rfl rfl _ 0 0 [] rfl (by omega) (by omega) ⟨by simp, by simp [strm], by simp [strm], rfl, rfl⟩
  · have n1 : ¬ may 1 a0_2 := by unfold may; omega
    have n2 : ¬ may 2 a0_2 := by unfold may; omega
    refine Ev.bind (put_no 1 a0_2 _ n1) ?_
    refine Ev.bind (put_no 2 a0_2 _ n2) ?_
    refine Base.Ev.ite_neg (by simp) ?_
    refine Ev.step (fun k => by rw [knapsacklaw08_BandMixed.j1]) ?_
    refine Base.Ev.ite_pos rfl ?_
    refine Ev.bind knows_ev ?_
    refine Base.Ev.ite_pos rfl ?_
    refine Base.Ev.ite_pos rfl ?_
    by_cases hs : a0_2 < 1
    · exact Base.Ev.ite_pos hs (Ev.now _)
    · refine Base.Ev.ite_neg hs (Base.Ev.eq ?_ (Ev.now _))
      simp; omega
end Go.Proofs.Ytkhbapchkfmocaa.Pure
