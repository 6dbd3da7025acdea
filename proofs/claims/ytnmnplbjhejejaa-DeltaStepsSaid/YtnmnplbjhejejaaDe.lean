/- What delta's Apply and Size, and the reference's Apply, come to: plain lists. -/
import Derived.Test.YtnmnplbjhejejaaVk
import Derived.Test.YtnmnplbjhejejaaPAx9
import Derived.Test.YtnmnplbjhejejaaPAx10
set_option linter.unusedVariables false
set_option linter.unusedSimpArgs false
namespace Go.Proofs.Ytnmnplbjhejejaa.De
open Go.RowKit Go.Proofs.YtnmnplbjhejejaaW.PrintWords Go.Proofs.YtnmnplbjhejejaaW.PrintLast Go.Proofs.YtnmnplbjhejejaaW.PrintMore Go.Proofs.Ytnmnplbjhejejaa.PA Go.Proofs.Ytnmnplbjhejejaa.Base Go.Proofs.Ytnmnplbjhejejaa.Vi

/-- A step: the bytes that it adds, and what stands behind it. -/
def stp (base rest : List UInt8) : Option (List UInt8 × List UInt8) :=
  match dec 0 rest with
  | none => none
  | some x =>
    if x.1 / 2 = 0 then none
    else if x.1 % 2 = 0 then (if x.1 / 2 ≤ x.2.length then some (x.2.take (x.1 / 2), x.2.drop (x.1 / 2)) else none)
    else match dec 0 x.2 with
      | none => none
      | some y => if y.1 ≤ base.length ∧ x.1 / 2 ≤ base.length - y.1 then some ((base.drop y.1).take (x.1 / 2), y.2) else none
theorem stp_facts {base rest a b : List UInt8} (h : stp base rest = some (a, b)) : b.length < rest.length ∧ 1 ≤ a.length ∧ (a.length ≤ base.length ∨ a.length ≤ rest.length) := by
  unfold stp at h
  cases hx : dec 0 rest with
  | none => rw [hx] at h; simp at h
  | some x =>
    obtain ⟨n, r⟩ := x
    have hr := (dec_length hx).1
    rw [hx] at h
    simp only at h
    split at h
    · simp at h
    · rename_i h0
      split at h
      · split at h
        · simp only [Option.some.injEq, Prod.mk.injEq] at h
          obtain ⟨rfl, rfl⟩ := h
          simp only [List.length_take, List.length_drop]
          omega
        · simp at h
      · cases hy : dec 0 r with
        | none => rw [hy] at h; simp at h
        | some y =>
          obtain ⟨p, r2⟩ := y
          have hr2 := (dec_length hy).1
          rw [hy] at h
          simp only at h
          split at h
          · simp only [Option.some.injEq, Prod.mk.injEq] at h
            obtain ⟨rfl, rfl⟩ := h
            simp only [List.length_take, List.length_drop]
            omega
          · simp at h
/-- All steps. -/
def run (base : List UInt8) (size : Nat) : Nat → List UInt8 → List UInt8 → Option (List UInt8)
  | d, out, [] => if out.length = size then some out else none
  | 0, _, _ => none
  | d + 1, out, c :: l => match stp base (c :: l) with
    | none => none
    | some x => if x.1.length ≤ size - out.length then run base size d (out ++ x.1) x.2 else none
def heads2 (d : List UInt8) : Option (Nat × Nat × List UInt8) :=
  match dec 0 d with
  | none => none
  | some x => match dec 0 x.2 with
    | none => none
    | some y => some (x.1, y.1, y.2)
def appl (base d : List UInt8) (most : Int) : List UInt8 × Nat :=
  if most < 0 then ([], 1) else
  match heads2 d with
  | none => ([], 2)
  | some x => if x.1 = base.length then (if (x.2.1 : Int) > most then ([], 3) else
      match run base x.2.1 x.2.2.length [] x.2.2 with
      | none => ([], 2)
      | some s => (s, 0)) else ([], 6)
def applied (x : List UInt8 × Nat) : ByteArray × Int := (mkB x.1, (x.2 : Int))

theorem drop_at {dd r : List UInt8} {i : Nat} (h : (dd.drop i).drop ((dd.drop i).length - r.length) = r) (h2 : r.length ≤ (dd.drop i).length) : dd.drop (dd.length - r.length) = r := by
  rw [List.drop_drop] at h
  have hl : (dd.drop i).length = dd.length - i := by simp
  by_cases hi : i ≤ dd.length
  · exact (congrArg (fun q => dd.drop q) (show dd.length - r.length = i + ((dd.drop i).length - r.length) by omega)).trans h
  · have : r.length = 0 := by omega
    have hr := List.length_eq_zero_iff.1 this
    subst hr
    simp
theorem drop_at2 {dd r r2 : List UInt8} (h1 : dd.drop (dd.length - r.length) = r) (h : r.drop (r.length - r2.length) = r2) (hl : r2.length ≤ r.length) : dd.drop (dd.length - r2.length) = r2 := by
  have : dd.drop (dd.length - r.length) = r := h1
  refine drop_at (i := dd.length - r.length) ?_ ?_
  · rw [this]; exact h
  · rw [this]; exact hl

/-! ### the program's -/
def stepped : Option (List UInt8 × List UInt8) → ByteArray × ByteArray
  | none => (mkB [], mkB [])
  | some x => (mkB x.1, mkB x.2)
theorem step_ev (base rest : List UInt8) (hb : base.length ≤ 1000000) (hr : rest.length ≤ 1000000) : Ev (fun k => delta_step.f k (mkB base) (mkB rest)) (stepped (stp base rest)) := by
  unfold delta_step.f stp
  have hg := get_ev rest (by omega)
  have jt : ∀ (a b c : Int) (r : ByteArray), Ev (fun k => delta_step.j0 k (mkB base) a r b true) (stepped none) := by
    intro a b c r
    refine Ev.step (fun k => by rw [delta_step.j0]) ?_
    exact Base.Ev.ite_pos rfl (Ev.now _)
  cases hx : dec 0 rest with
  | none =>
    rw [hx] at hg
    refine Ev.bind hg ?_
    exact Base.Ev.ite_neg (by simp [got]) (jt _ _ 0 _)
  | some x =>
    obtain ⟨n, r⟩ := x
    have hn := dec_lt0 hx
    have hrl := (dec_length hx).1
    rw [hx] at hg
    refine Ev.bind (a := ((n : Int), mkB r, (0 : Int))) hg ?_
    dsimp only
    refine Base.Ev.ite_pos rfl ?_
    rw [show (2 : Int) = ((2 : Nat) : Int) from rfl, tdiv_nat, wu64 (by omega) (by omega)]
    by_cases h0 : n / 2 = 0
    · rw [if_pos h0, show (((n / 2 : Nat) : Int) == 0) = true by simp; omega]
      exact jt _ _ 0 _
    · rw [if_neg h0, show (((n / 2 : Nat) : Int) == 0) = false by simp; omega]
      refine Ev.step (fun k => by rw [delta_step.j0]) ?_
      refine Base.Ev.ite_neg (by simp) ?_
      have em : Int.tmod (n : Int) 2 = ((n % 2 : Nat) : Int) := tmod_nat n 2
      by_cases hm : n % 2 = 0
      · refine Base.Ev.ite_pos (by rw [em]; omega) ?_
        rw [if_pos hm]
        by_cases hle : n / 2 ≤ r.length
        · refine Base.Ev.ite_neg (by rw [mkB_size, wu64 (by omega) (by omega)]; omega) ?_
          refine Base.Ev.ite_pos (by omega) ?_
          refine Base.Ev.ite_pos (by rw [mkB_size]; omega) ?_
          rw [if_pos hle, Int.toNat_natCast, mkB_take, mkB_drop]; exact Ev.now _
        · refine Base.Ev.ite_pos (by rw [mkB_size, wu64 (by omega) (by omega)]; omega) ?_
          rw [if_neg hle]; exact Ev.now _
      · refine Base.Ev.ite_neg (by rw [em]; omega) ?_
        rw [if_neg hm]
        have hg2 := get_ev r (by omega)
        cases hy : dec 0 r with
        | none =>
          rw [hy] at hg2
          refine Ev.bind hg2 ?_
          exact Base.Ev.ite_neg (by simp [got]) (Ev.now _)
        | some y =>
          obtain ⟨p, r2⟩ := y
          have hp := dec_lt0 hy
          rw [hy] at hg2
          refine Ev.bind (a := ((p : Int), mkB r2, (0 : Int))) hg2 ?_
          dsimp only
          refine Base.Ev.ite_pos rfl ?_
          rw [mkB_size, wu64 (x := (base.length : Int)) (by omega) (by omega)]
          by_cases hp2 : p ≤ base.length
          · refine Base.Ev.ite_neg (by omega) ?_
            rw [wu64 (x := (base.length : Int) - (p : Int)) (by omega) (by omega)]
            by_cases hle : n / 2 ≤ base.length - p
            · refine Base.Ev.ite_neg (by omega) ?_
              rw [wu64 (x := (p : Int) + ((n / 2 : Nat) : Int)) (by omega) (by omega), show (p : Int) + ((n / 2 : Nat) : Int) = ((p + n / 2 : Nat) : Int) by omega]
              refine Base.Ev.ite_pos (by omega) ?_
              refine Base.Ev.ite_pos (by omega) ?_
              refine Base.Ev.ite_pos (by omega) ?_
              rw [if_pos ⟨hp2, hle⟩, Int.toNat_natCast, Int.toNat_natCast, mkB_extract, Nat.add_sub_cancel_left]; exact Ev.now _
            · refine Base.Ev.ite_pos (by omega) ?_
              rw [if_neg (by omega)]; exact Ev.now _
          · refine Base.Ev.ite_pos (by omega) ?_
            rw [if_neg (by omega)]; exact Ev.now _
def ranP (r : Option (List UInt8)) : ByteArray × Int := match r with | none => (mkB [], 2) | some s => (mkB s, 0)
theorem bytes_mkB (l : List UInt8) : bytesOf (mkB l) = l.map fun b => (b.toNat : Int) := rfl
theorem str_nums (l : List UInt8) : strOfNums (l.map fun b => (b.toNat : Int)) = mkB l := by
  rw [strOfNums_mkB, List.map_map]
  congr 1
  conv => rhs; rw [← List.map_id l]
  apply List.map_congr_left
  intro b _
  simp
theorem apply_l0 (base : List UInt8) (hb : base.length ≤ 1000000) (D : Nat) (hD : D ≤ 1000000) (size : Nat) (hs : size < 9223372036854775808) (d : Nat) : ∀ (out rest : List UInt8), rest.length ≤ d → rest.length ≤ D → out.length ≤ 1000000 * (D - rest.length) → out.length ≤ size →
    Ev (fun k => delta_Apply.l0 k (mkB base) (size : Int) (mkB rest) (out.map fun b => (b.toNat : Int))) (ranP (run base size d out rest)) := by
  have fin : ∀ (d : Nat) (out : List UInt8), out.length ≤ 1000000000000 → Ev (fun k => delta_Apply.l0 k (mkB base) (size : Int) (mkB []) (out.map fun b => (b.toNat : Int))) (ranP (run base size d out [])) := by
    intro d out ho
    refine Ev.step (fun k => by rw [delta_Apply.l0]) ?_
    refine Base.Ev.ite_pos (mkB_toList _) ?_
    have e : run base size d out [] = if out.length = size then some out else none := by cases d <;> rfl
    rw [e, List.length_map, str_nums, wu64 (by omega) (by omega)]
    by_cases h : out.length = size
    · refine Base.Ev.ite_pos (by omega) ?_
      rw [if_pos h]; exact Ev.now _
    · refine Base.Ev.ite_neg (by omega) ?_
      rw [if_neg h]; exact Ev.now _
  induction d with
  | zero =>
    intro out rest h1 h2 h3 h4
    rw [List.length_eq_zero_iff.1 (by omega : rest.length = 0)]
    exact fin 0 out (by omega)
  | succ d ih =>
    intro out rest h1 h2 h3 h4
    cases rest with
    | nil => exact fin _ out (by omega)
    | cons c l =>
      refine Ev.step (fun k => by rw [delta_Apply.l0]) ?_
      refine Base.Ev.ite_neg (by rw [mkB_toList]; simp) ?_
      have hst := step_ev base (c :: l) hb (by omega)
      rw [run]
      cases hx : stp base (c :: l) with
      | none =>
        rw [hx] at hst
        exact Ev.bind (a := (mkB [], mkB [])) hst (Base.Ev.ite_pos (mkB_toList _) (Ev.now _))
      | some x =>
        obtain ⟨a, b⟩ := x
        obtain ⟨g1, g2, g3⟩ := stp_facts hx
        rw [hx] at hst
        refine Ev.bind (a := (mkB a, mkB b)) hst ?_
        dsimp only
        refine Base.Ev.ite_neg (by rw [mkB_toList]; intro h; rw [h] at g2; simp at g2) ?_
        rw [mkB_size, List.length_map, wu64 (x := (a.length : Int)) (by omega) (by omega), wu64 (x := (out.length : Int)) (by omega) (by omega), wu64 (by omega) (by omega)]
        by_cases hle : a.length ≤ size - out.length
        · refine Base.Ev.ite_neg (by omega) ?_
          refine Base.Ev.ite_pos (by omega) ?_
          rw [if_pos hle, bytes_mkB, ← List.map_append]
          exact ih (out ++ a) b (by omega) (by omega) (by simp; omega) (by simp; omega)
        · refine Base.Ev.ite_pos (by omega) ?_
          rw [if_neg hle]; exact Ev.now _
def headed : Option (Nat × Nat × List UInt8) → (Int × Int × ByteArray × Int) → Prop
  | none, r => r.2.2.2 = 2
  | some x, r => r = ((x.1 : Int), (x.2.1 : Int), mkB x.2.2, (0 : Int))
theorem head_ev (d : List UInt8) (hd : d.length ≤ 1000000) : ∃ r, Ev (fun k => delta_head.f k (mkB d)) r ∧ headed (heads2 d) r := by
  unfold delta_head.f heads2
  have hg := get_ev d (by omega)
  cases hx : dec 0 d with
  | none =>
    rw [hx] at hg
    exact ⟨_, Ev.bind hg (Base.Ev.ite_neg (by simp [got]) (Ev.now _)), rfl⟩
  | some x =>
    obtain ⟨n, r⟩ := x
    have hrl := (dec_length hx).1
    rw [hx] at hg
    have hg2 := get_ev r (by omega)
    dsimp only
    cases hy : dec 0 r with
    | none =>
      rw [hy] at hg2
      exact ⟨_, Ev.bind hg (Base.Ev.ite_pos rfl (Ev.bind hg2 (Base.Ev.ite_neg (by simp [got]) (Ev.now _)))), rfl⟩
    | some y =>
      rw [hy] at hg2
      exact ⟨_, Ev.bind hg (Base.Ev.ite_pos rfl (Ev.bind hg2 (Base.Ev.ite_pos rfl (Ev.now _)))), rfl⟩
theorem heads2_facts {d : List UInt8} {x : Nat × Nat × List UInt8} (h : heads2 d = some x) : x.1 < 18446744073709551616 ∧ x.2.1 < 18446744073709551616 ∧ x.2.2.length < d.length := by
  unfold heads2 at h
  cases hx : dec 0 d with
  | none => rw [hx] at h; simp at h
  | some a =>
    rw [hx] at h
    simp only at h
    cases hy : dec 0 a.2 with
    | none => rw [hy] at h; simp at h
    | some b =>
      rw [hy] at h
      simp only [Option.some.injEq] at h
      subst h
      exact ⟨dec_lt0 (v := a.1) (r := a.2) hx, dec_lt0 (v := b.1) (r := b.2) hy, by have := (dec_length (v := a.1) (r := a.2) hx).1; have := (dec_length (v := b.1) (r := b.2) hy).1; simp only; omega⟩
theorem apply_ev (base d : List UInt8) (most : Int) (hb : base.length ≤ 1000000) (hd : d.length ≤ 1000000) (hm : most ≤ 9223372036854775807) : Ev (fun k => delta_Apply.f k (mkB base) (mkB d) most) (applied (appl base d most)) := by
  unfold delta_Apply.f appl
  by_cases h0 : most < 0
  · refine Base.Ev.ite_pos h0 ?_
    rw [if_pos h0]; exact Ev.now _
  refine Base.Ev.ite_neg h0 ?_
  rw [if_neg h0]
  obtain ⟨r, hr, hh⟩ := head_ev d hd
  refine Ev.bind hr ?_
  cases hx : heads2 d with
  | none =>
    rw [hx] at hh
    exact Base.Ev.ite_neg (by rw [show r.2.2.2 = 2 from hh]; decide) (Ev.now _)
  | some x =>
    obtain ⟨f1, f2, f3⟩ := heads2_facts hx
    rw [hx] at hh
    obtain rfl : r = _ := hh
    dsimp only
    refine Base.Ev.ite_pos rfl ?_
    rw [mkB_size, wu64 (x := (base.length : Int)) (by omega) (by omega), wu64 (x := most) (by omega) (by omega)]
    by_cases h1 : x.1 = base.length
    · refine Base.Ev.ite_pos (by omega) ?_
      rw [if_pos h1]
      by_cases h2 : (x.2.1 : Int) > most
      · refine Base.Ev.ite_pos h2 ?_
        rw [if_pos h2]; exact Ev.now _
      · refine Base.Ev.ite_neg h2 ?_
        rw [if_neg h2]
        have := apply_l0 base hb x.2.2.length (by omega) x.2.1 (by omega) x.2.2.length [] x.2.2 (Nat.le_refl _) (Nat.le_refl _) (by simp) (by simp)
        refine Base.Ev.eq ?_ this
        cases run base x.2.1 x.2.2.length [] x.2.2 <;> rfl
    · refine Base.Ev.ite_neg (by omega) ?_
      rw [if_neg h1]; exact Ev.now _
def sized (d : List UInt8) : Int × Int :=
  match heads2 d with
  | none => (0, 2)
  | some x => if x.2.1 > 2147483647 then (0, 2) else ((x.2.1 : Int), 0)
theorem size_ev (d : List UInt8) (hd : d.length ≤ 1000000) : Ev (fun k => delta_Size.f k (mkB d)) (sized d) := by
  unfold delta_Size.f sized
  obtain ⟨r, hr, hh⟩ := head_ev d hd
  refine Ev.bind hr ?_
  cases hx : heads2 d with
  | none =>
    rw [hx] at hh
    exact Base.Ev.ite_neg (by rw [show r.2.2.2 = 2 from hh]; decide) (Ev.now _)
  | some x =>
    rw [hx] at hh
    obtain rfl : r = _ := hh
    dsimp only
    refine Base.Ev.ite_pos rfl ?_
    by_cases h1 : x.2.1 > 2147483647
    · refine Base.Ev.ite_pos (by omega) ?_
      rw [if_pos h1]; exact Ev.now _
    · refine Base.Ev.ite_neg (by omega) ?_
      rw [if_neg h1, w64 (by omega) (by omega)]; exact Ev.now _

/-! ### the reference's -/
theorem rapply_l0 (base : List UInt8) (hb : base.length ≤ 1000000) (dd : List UInt8) (hD : dd.length ≤ 1000000) (size : Nat) (hs : size < 9223372036854775808) (d : Nat) : ∀ (out : List UInt8) (at_ : Nat), at_ ≤ dd.length → (dd.drop at_).length ≤ d → out.length ≤ 1000000 * at_ → out.length ≤ size →
    Ev (fun k => knapsackref06_Apply.l0 k (mkB base) (mkB dd) (size : Int) (mkB out) (at_ : Int)) (ranP (run base size d out (dd.drop at_))) := by
  have fin : ∀ (d : Nat) (out : List UInt8) (at_ : Nat), at_ = dd.length → out.length ≤ 1000000000000 → Ev (fun k => knapsackref06_Apply.l0 k (mkB base) (mkB dd) (size : Int) (mkB out) (at_ : Int)) (ranP (run base size d out (dd.drop at_))) := by
    intro d out at_ ha ho
    refine Ev.step (fun k => by rw [knapsackref06_Apply.l0]) ?_
    refine Base.Ev.ite_neg (by rw [mkB_size]; omega) ?_
    rw [List.drop_of_length_le (by omega)]
    have e : run base size d out [] = if out.length = size then some out else none := by cases d <;> rfl
    rw [e, mkB_size, wu64 (by omega) (by omega)]
    by_cases h : out.length = size
    · refine Base.Ev.ite_pos (by omega) ?_
      rw [if_pos h]; exact Ev.now _
    · refine Base.Ev.ite_neg (by omega) ?_
      rw [if_neg h]; exact Ev.now _
  induction d with
  | zero =>
    intro out at_ h1 h2 h3 h4
    simp at h2
    exact fin 0 out at_ (by omega) (by omega)
  | succ d ih =>
    intro out at_ h1 h2 h3 h4
    by_cases hend : at_ = dd.length
    · exact fin _ out at_ hend (by omega)
    have hlt : at_ < dd.length := by omega
    have hdl : (dd.drop at_).length = dd.length - at_ := by simp
    have hcons : dd.drop at_ = dd[at_] :: dd.drop (at_ + 1) := List.drop_eq_getElem_cons hlt
    refine Ev.step (fun k => by rw [knapsackref06_Apply.l0]) ?_
    refine Base.Ev.ite_pos (by rw [mkB_size]; omega) ?_
    refine Base.Ev.ite_pos (by omega) ?_
    refine Base.Ev.ite_pos (by rw [mkB_size]; omega) ?_
    rw [Int.toNat_natCast, mkB_drop]
    have hrun : run base size (d + 1) out (dd.drop at_) = match stp base (dd.drop at_) with | none => none | some x => if x.1.length ≤ size - out.length then run base size d (out ++ x.1) x.2 else none := by rw [hcons]; rfl
    rw [hrun]
    unfold stp
    have hg := rget_ev (dd.drop at_) (by omega)
    have j1t : ∀ (a b : Int), Ev (fun k => knapsackref06_Apply.j1 k (mkB base) (mkB dd) (size : Int) (mkB out) (at_ : Int) a b true) (ranP none) := by
      intro a b
      refine Ev.step (fun k => by rw [knapsackref06_Apply.j1]) ?_
      exact Base.Ev.ite_pos rfl (Ev.now _)
    cases hx : dec 0 (dd.drop at_) with
    | none =>
      rw [hx] at hg
      refine Ev.bind hg ?_
      exact Base.Ev.ite_pos rfl (j1t _ _)
    | some x =>
      obtain ⟨n, r⟩ := x
      have hn := dec_lt0 hx
      obtain ⟨hrl, hrd⟩ := dec_length hx
      rw [hx] at hg
      refine Ev.bind (a := ((n : Int), (((dd.drop at_).length - r.length : Nat) : Int))) hg ?_
      dsimp only
      refine Base.Ev.ite_neg (by omega) ?_
      have eat : wrap64 ((at_ : Int) + (((dd.drop at_).length - r.length : Nat) : Int)) = ((dd.length - r.length : Nat) : Int) := by rw [w64 (by omega) (by omega)]; omega
      have edr : dd.drop (dd.length - r.length) = r := drop_at hrd (by omega)
      by_cases h0 : n / 2 = 0
      · rw [if_pos h0, show decide ((n : Int) < 2) = true by simp; omega]
        exact j1t _ _
      rw [if_neg h0, show decide ((n : Int) < 2) = false by simp; omega]
      refine Ev.step (fun k => by rw [knapsackref06_Apply.j1]) ?_
      refine Base.Ev.ite_neg (by simp) ?_
      have em : Int.tmod (n : Int) 2 = ((n % 2 : Nat) : Int) := tmod_nat n 2
      have ed : IntKind.u64.wrap (Int.tdiv (n : Int) 2) = ((n / 2 : Nat) : Int) := by rw [show (2 : Int) = ((2 : Nat) : Int) from rfl, tdiv_nat, wu64 (by omega) (by omega)]
      rw [eat, ed]
      -- the last steps, of whatever piece
      have last : ∀ (from_ : List UInt8) (p at2 : Nat), at2 ≤ dd.length → at_ < at2 → from_.length ≤ 1000000 → (n % 2 = 0 → p = 0 ∧ from_ = r ∧ at2 = dd.length - r.length) →
          Ev (fun k => knapsackref06_Apply.j2 k (mkB base) (mkB dd) (size : Int) (mkB out) (at2 : Int) (n : Int) ((n / 2 : Nat) : Int) (mkB from_) (p : Int))
            (ranP (match (if p ≤ from_.length ∧ n / 2 ≤ from_.length - p then some ((from_.drop p).take (n / 2), if n % 2 = 0 then dd.drop (at2 + n / 2) else dd.drop at2) else none) with | none => none | some x => if x.1.length ≤ size - out.length then run base size d (out ++ x.1) x.2 else none)) := by
        intro from_ p at2 ha2 ha3 hf hz
        have j3t : Ev (fun k => knapsackref06_Apply.j3 k (mkB base) (mkB dd) (size : Int) (mkB out) (at2 : Int) (n : Int) ((n / 2 : Nat) : Int) (mkB from_) (p : Int) true) (ranP none) := by
          refine Ev.step (fun k => by rw [knapsackref06_Apply.j3]) ?_
          exact Base.Ev.ite_pos rfl (Ev.now _)
        refine Ev.step (fun k => by rw [knapsackref06_Apply.j2]) ?_
        rw [mkB_size, wu64 (x := (from_.length : Int)) (by omega) (by omega)]
        by_cases hp : p ≤ from_.length
        · refine Base.Ev.ite_neg (by omega) ?_
          rw [wu64 (x := (from_.length : Int) - (p : Int)) (by omega) (by omega)]
          by_cases hle : n / 2 ≤ from_.length - p
          · refine Base.Ev.ite_neg (by omega) ?_
            rw [if_pos ⟨hp, hle⟩, mkB_size, wu64 (x := (out.length : Int)) (by omega) (by omega), wu64 (x := (size : Int) - (out.length : Int)) (by omega) (by omega)]
            have hlen : ((from_.drop p).take (n / 2)).length = n / 2 := by simp; omega
            simp only [hlen]
            by_cases hsz : n / 2 ≤ size - out.length
            · rw [if_pos hsz, show decide (((n / 2 : Nat) : Int) > (size : Int) - (out.length : Int)) = false by simp; omega]
              refine Ev.step (fun k => by rw [knapsackref06_Apply.j3]) ?_
              refine Base.Ev.ite_neg (by simp) ?_
              have e1 : IntKind.u64.wrap ((p : Int) + ((n / 2 : Nat) : Int)) = ((p + n / 2 : Nat) : Int) := by rw [wu64 (by omega) (by omega)]; omega
              rw [e1]
              have e2 : (mkB from_).extract ((p : Int)).toNat (((p + n / 2 : Nat) : Int)).toNat = mkB ((from_.drop p).take (n / 2)) := by
                rw [Int.toNat_natCast, Int.toNat_natCast, mkB_extract, Nat.add_sub_cancel_left]
              refine Base.Ev.ite_pos (by omega) ?_
              refine Base.Ev.ite_pos (by omega) ?_
              refine Base.Ev.ite_pos (by rw [mkB_size]; omega) ?_
              refine Base.Ev.ite_pos (by rw [e2, mkB_size, mkB_size, hlen]; omega) ?_
              rw [e2, mkB_append]
              by_cases hm : n % 2 = 0
              · obtain ⟨z1, z2, z3⟩ := hz hm
                subst z1 z2
                refine Base.Ev.ite_pos (by rw [em]; omega) ?_
                rw [if_pos hm, w64 (x := ((n / 2 : Nat) : Int)) (by omega) (by omega), w64 (by omega) (by omega), show (at2 : Int) + ((n / 2 : Nat) : Int) = ((at2 + n / 2 : Nat) : Int) by omega]
                exact ih _ (at2 + n / 2) (by omega) (by simp; omega) (by simp; omega) (by simp; omega)
              · refine Base.Ev.ite_neg (by rw [em]; omega) ?_
                rw [if_neg hm]
                exact ih _ at2 (by omega) (by simp; omega) (by simp; omega) (by simp; omega)
            · rw [if_neg hsz, show decide (((n / 2 : Nat) : Int) > (size : Int) - (out.length : Int)) = true by simp; omega]
              exact j3t
          · refine Base.Ev.ite_pos (by omega) ?_
            rw [if_neg (by omega)]; exact j3t
        · refine Base.Ev.ite_pos (by omega) ?_
          rw [if_neg (by omega)]; exact j3t
      by_cases hm : n % 2 = 0
      · refine Base.Ev.ite_pos (by rw [em]; omega) ?_
        refine Base.Ev.ite_pos (by omega) ?_
        refine Base.Ev.ite_pos (by rw [mkB_size]; omega) ?_
        rw [if_pos hm, Int.toNat_natCast, mkB_drop, edr]
        have := last r 0 (dd.length - r.length) (by omega) (by omega) (by omega) (fun _ => ⟨rfl, rfl, rfl⟩)
        refine Base.Ev.eq ?_ this
        have e3 : dd.drop (dd.length - r.length + n / 2) = r.drop (n / 2) := by rw [← List.drop_drop, edr]
        simp only [hm, if_true, e3, List.drop_zero, Nat.zero_le, true_and, Nat.sub_zero]
      · refine Base.Ev.ite_neg (by rw [em]; omega) ?_
        refine Base.Ev.ite_pos (by omega) ?_
        refine Base.Ev.ite_pos (by rw [mkB_size]; omega) ?_
        rw [if_neg hm, Int.toNat_natCast, mkB_drop, edr]
        have hg2 := rget_ev r (by omega)
        cases hy : dec 0 r with
        | none =>
          rw [hy] at hg2
          refine Ev.bind hg2 ?_
          exact Base.Ev.ite_pos rfl (Ev.now _)
        | some y =>
          obtain ⟨p, r2⟩ := y
          obtain ⟨hr2, hrd2⟩ := dec_length hy
          rw [hy] at hg2
          refine Ev.bind (a := ((p : Int), ((r.length - r2.length : Nat) : Int))) hg2 ?_
          dsimp only
          refine Base.Ev.ite_neg (by omega) ?_
          have e4 : wrap64 (((dd.length - r.length : Nat) : Int) + ((r.length - r2.length : Nat) : Int)) = ((dd.length - r2.length : Nat) : Int) := by rw [w64 (by omega) (by omega)]; omega
          rw [e4]
          have e5 : dd.drop (dd.length - r2.length) = r2 := drop_at2 edr hrd2 (by omega)
          have := last base p (dd.length - r2.length) (by omega) (by omega) hb (fun h => absurd h hm)
          refine Base.Ev.eq ?_ this
          simp only [hm, if_false, e5]
theorem rapply_ev (base d : List UInt8) (most : Int) (hb : base.length ≤ 1000000) (hd : d.length ≤ 1000000) (hm : most ≤ 9223372036854775807) : Ev (fun k => knapsackref06_Apply.f k (mkB base) (mkB d) most) (applied (appl base d most)) := by
  unfold knapsackref06_Apply.f appl heads2
  by_cases h0 : most < 0
  · refine Base.Ev.ite_pos h0 ?_
    rw [if_pos h0]; exact Ev.now _
  refine Base.Ev.ite_neg h0 ?_
  rw [if_neg h0]
  have hg := rget_ev d (by omega)
  cases hx : dec 0 d with
  | none =>
    rw [hx] at hg
    refine Ev.bind hg ?_
    exact Base.Ev.ite_pos rfl (Ev.now _)
  | some x =>
    obtain ⟨n, r⟩ := x
    have hn := dec_lt0 hx
    obtain ⟨hrl, hrd⟩ := dec_length hx
    rw [hx] at hg
    refine Ev.bind (a := ((n : Int), ((d.length - r.length : Nat) : Int))) hg ?_
    dsimp only
    refine Base.Ev.ite_neg (by omega) ?_
    refine Base.Ev.ite_pos (by omega) ?_
    refine Base.Ev.ite_pos (by rw [mkB_size]; omega) ?_
    rw [Int.toNat_natCast, mkB_drop, hrd]
    have hg2 := rget_ev r (by omega)
    cases hy : dec 0 r with
    | none =>
      rw [hy] at hg2
      refine Ev.bind hg2 ?_
      exact Base.Ev.ite_pos rfl (Ev.now _)
    | some y =>
      obtain ⟨s, r2⟩ := y
      have hs := dec_lt0 hy
      obtain ⟨hr2, hrd2⟩ := dec_length hy
      rw [hy] at hg2
      refine Ev.bind (a := ((s : Int), ((r.length - r2.length : Nat) : Int))) hg2 ?_
      dsimp only
      refine Base.Ev.ite_neg (by omega) ?_
      rw [mkB_size, wu64 (x := (base.length : Int)) (by omega) (by omega), wu64 (x := most) (by omega) (by omega)]
      by_cases h1 : n = base.length
      · refine Base.Ev.ite_pos (by omega) ?_
        rw [if_pos h1]
        by_cases h2 : (s : Int) > most
        · refine Base.Ev.ite_pos h2 ?_
          rw [if_pos h2]; exact Ev.now _
        · refine Base.Ev.ite_neg h2 ?_
          have e4 : wrap64 (((d.length - r.length : Nat) : Int) + ((r.length - r2.length : Nat) : Int)) = ((d.length - r2.length : Nat) : Int) := by rw [w64 (by omega) (by omega)]; omega
          have e5 : d.drop (d.length - r2.length) = r2 := drop_at2 hrd hrd2 (by omega)
          rw [if_neg h2, e4]
          have := rapply_l0 base hb d hd s (by omega) r2.length [] (d.length - r2.length) (by omega) (by rw [e5]; exact Nat.le_refl _) (by simp) (by simp)
          rw [e5] at this
          refine Base.Ev.eq ?_ this
          cases run base s r2.length [] r2 <;> rfl
      · refine Base.Ev.ite_neg (by omega) ?_
        rw [if_neg h1]; exact Ev.now _
theorem knows_ev : Ev (fun k => knapsacklaw06_knows.f k) true := by
  unfold knapsacklaw06_knows.f
  refine Ev.bind (apply_ev [97, 98, 99, 100, 101, 102] [6, 5, 7, 1, 4, 120, 121] 9 (by decide) (by decide) (by decide)) ?_
  refine Ev.bind (apply_ev [97, 98, 99] [6, 5, 7, 1, 4, 120, 121] 9 (by decide) (by decide) (by decide)) ?_
  refine Ev.bind (apply_ev [97, 98, 99, 100, 101, 102] [6, 5, 7, 1, 4, 120, 121] 4 (by decide) (by decide) (by decide)) ?_
  refine Ev.bind (size_ev [6, 5, 7, 1, 4, 120, 121] (by decide)) ?_
  rw [show appl [97, 98, 99, 100, 101, 102] [6, 5, 7, 1, 4, 120, 121] 9 = ([98, 99, 100, 120, 121], 0) by decide, show appl [97, 98, 99] [6, 5, 7, 1, 4, 120, 121] 9 = ([], 6) by decide, show appl [97, 98, 99, 100, 101, 102] [6, 5, 7, 1, 4, 120, 121] 4 = ([], 3) by decide, show sized [6, 5, 7, 1, 4, 120, 121] = (5, 0) by decide]
  refine Base.Ev.ite_pos (mkB_toList _) ?_
  refine Base.Ev.ite_pos rfl ?_
  refine Base.Ev.ite_pos rfl ?_
  refine Base.Ev.ite_pos rfl ?_
  refine Base.Ev.ite_pos rfl ?_
  exact Ev.now _
end Go.Proofs.Ytnmnplbjhejejaa.De
