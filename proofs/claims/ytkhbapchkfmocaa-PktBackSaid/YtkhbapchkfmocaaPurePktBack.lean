/- PktBack: for every list of up to 30 lines with loads of up to 1100 bytes, and every text of up to 2500 bytes (the statement's own guards), what was put is got, and what is got was put so. No condition of ours. -/
import Derived.Test.YtkhbapchkfmocaaPk
import Derived.Test.YtkhbapchkfmocaaPurePktGets
import Derived.Test.YtkhbapchkfmocaaPAx11
set_option linter.unusedVariables false
namespace Go.Proofs.Ytkhbapchkfmocaa.Pure
open Go.RowKit Go.Proofs.YtkhbapchkfmocaaW.PrintWords Go.Proofs.YtkhbapchkfmocaaW.PrintLast Go.Proofs.YtkhbapchkfmocaaW.PrintMore Go.Proofs.Ytkhbapchkfmocaa.PA Go.Proofs.Ytkhbapchkfmocaa.Base Go.Proofs.Ytkhbapchkfmocaa.Ba Go.Proofs.Ytkhbapchkfmocaa.Pk

theorem getP_byt (x : S34) (hx : fineP x) (r : List UInt8) : ∃ y, getP (byt x ++ r) = some y ∧ (⟨(y.1 : Int), mkB y.2.1⟩ : S34) = x ∧ y.2.2 = r := by
  obtain ⟨f0, f1⟩ := x
  obtain ⟨m, rfl⟩ := exB f1
  unfold fineP at hx
  simp only [mkB_size] at hx
  unfold getP byt
  simp only [mkB_size, mkB_data]
  rcases hx with ⟨h0, hs⟩ | ⟨h12, hs⟩
  · subst h0
    rw [if_pos rfl, List.append_assoc, num_fig _ (by omega)]
    simp only
    rw [if_neg (by omega), if_neg (by omega), if_pos (by simp [fig_length]; omega)]
    refine ⟨_, rfl, ?_, ?_⟩
    · have : ((fig (4 + m.length) ++ (m ++ r)).take (4 + m.length)).drop 4 = m := by
        rw [← List.append_assoc, List.take_append_of_le_length (by simp [fig_length]), List.take_of_length_le (by simp [fig_length]), List.drop_append_of_le_length (by simp [fig_length])]
        simp [fig]
      simp [this]
    · show (fig (4 + m.length) ++ (m ++ r)).drop (4 + m.length) = r
      have h : (fig (4 + m.length) ++ m).length = 4 + m.length := by simp [fig_length]
      rw [← List.append_assoc]
      generalize fig (4 + m.length) ++ m = z at h ⊢
      rw [← h]; simp
  · have hm : m = [] := List.length_eq_zero_iff.1 hs
    subst hm
    rcases h12 with h | h
    · subst h
      rw [if_neg (by decide), num_fig _ (by decide)]
      simp only
      rw [if_pos (by decide)]
      exact ⟨_, rfl, rfl, by simp [fig]⟩
    · subst h
      rw [if_neg (by decide), num_fig _ (by decide)]
      simp only
      rw [if_neg (by decide), if_pos (by decide)]
      exact ⟨_, rfl, rfl, by simp [fig]⟩
theorem byt_ne (x : S34) : 4 ≤ (byt x).length := by
  unfold byt; split <;> simp [fig_length]
theorem allF_puts (l : List S34) : ∀ (s : List UInt8) (d : Nat), puts l = some s → s.length ≤ d → allF d s = some l := by
  induction l with
  | nil =>
    intro s d h hd
    simp [puts] at h
    subst h
    cases d <;> simp [allF]
  | cons x l ih =>
    intro s d h hd
    rw [puts] at h
    split at h
    · rename_i hx
      cases hp : puts l with
      | none => rw [hp] at h; simp at h
      | some q =>
        rw [hp] at h
        simp only [Option.map_some, Option.some.injEq] at h
        subst h
        have hb := byt_ne x
        rw [List.length_append] at hd
        cases d with
        | zero => omega
        | succ d =>
          obtain ⟨y, hy, h1, h2⟩ := getP_byt x hx q
          rw [allF, if_neg (by intro h; have h3 := congrArg List.length h; rw [List.length_append] at h3; simp only [List.length_nil] at h3; omega), hy]
          simp only
          rw [h2, ih q d hp (by omega)]
          simp only [Option.map_some, h1]
    · simp at h
theorem getP_put {l : List UInt8} {y : Nat × List UInt8 × List UInt8} (h : getP l = some y) : fineP ⟨(y.1 : Int), mkB y.2.1⟩ ∧ l = byt ⟨(y.1 : Int), mkB y.2.1⟩ ++ y.2.2 := by
  unfold getP at h
  cases hn : num l with
  | none => rw [hn] at h; simp at h
  | some n =>
    obtain ⟨h1, h2, h3⟩ := num_some hn
    rw [hn] at h
    simp only at h
    split at h
    · rename_i e
      subst e
      simp only [Option.some.injEq] at h; subst h
      refine ⟨.inr ⟨.inl rfl, rfl⟩, ?_⟩
      have : byt ⟨((1 : Nat) : Int), mkB []⟩ = fig 0 := rfl
      simp only [this, ← h3, List.take_append_drop]
    · split at h
      · rename_i e
        subst e
        simp only [Option.some.injEq] at h; subst h
        refine ⟨.inr ⟨.inr rfl, rfl⟩, ?_⟩
        have : byt ⟨((2 : Nat) : Int), mkB []⟩ = fig 1 := rfl
        simp only [this, ← h3, List.take_append_drop]
      · split at h
        · rename_i e
          simp only [Option.some.injEq] at h; subst h
          have hl : ((l.take n).drop 4).length = n - 4 := by simp; omega
          refine ⟨.inl ⟨rfl, by simp only [mkB_size, hl]; omega⟩, ?_⟩
          have : byt ⟨((0 : Nat) : Int), mkB ((l.take n).drop 4)⟩ = fig n ++ (l.take n).drop 4 := by
            unfold byt
            simp only [mkB_size, mkB_data, hl]
            rw [if_pos (by rfl), show 4 + (n - 4) = n by omega]
          simp only [this]
          rw [← h3]
          have e2 : l.take 4 = (l.take n).take 4 := by rw [List.take_take]; congr 1; omega
          rw [e2, List.take_append_drop, List.take_append_drop]
        · simp at h
theorem puts_allF (d : Nat) : ∀ (s : List UInt8) (m : List S34), allF d s = some m → puts m = some s := by
  induction d with
  | zero =>
    intro s m h
    rw [allF] at h
    split at h
    · rename_i e; simp at h; subst h e; rfl
    · simp at h
  | succ d ih =>
    intro s m h
    rw [allF] at h
    split at h
    · rename_i e; simp at h; subst h e; rfl
    · cases hx : getP s with
      | none => rw [hx] at h; simp at h
      | some x =>
        obtain ⟨h1, h2⟩ := getP_put hx
        rw [hx] at h
        simp only at h
        cases hr : allF d x.2.2 with
        | none => rw [hr] at h; simp at h
        | some q =>
          rw [hr] at h
          simp only [Option.map_some, Option.some.injEq] at h
          subst h
          rw [puts, if_pos h1, ih _ _ hr, Option.map_some, ← h2]
theorem puts_length (l : List S34) : ∀ s, puts l = some s → s.length ≤ 1004 * l.length := by
  induction l with
  | nil => intro s h; simp [puts] at h; subst h; simp
  | cons x l ih =>
    intro s h
    rw [puts] at h
    split at h
    · rename_i hx
      cases hp : puts l with
      | none => rw [hp] at h; simp at h
      | some q =>
        rw [hp] at h
        simp only [Option.map_some, Option.some.injEq] at h
        subst h
        have := ih q hp
        have := byt_length x hx
        simp; omega
    · simp at h
theorem PktBack (l : List S34) (s : ByteArray) {G : Prop} (_ : G) (hl : l.length ≤ 9223372036854775807) (_ : s.size ≤ 140737488351232) : ∃ k, knapsacklaw07_PktBack.f k l s = some true := by
  obtain ⟨s, rfl⟩ := exB s
  apply Ev.rounds
  have out : Ev (fun k => knapsacklaw07_PktBack.j0 k l (mkB s) true) true := by
    refine Ev.step (fun k => by rw [knapsacklaw07_PktBack.j0]) ?_
    refine Base.Ev.ite_pos rfl ?_
    exact Ev.bind Pk.knows_ev (Ev.now _)
  unfold knapsacklaw07_PktBack.f
  refine Ev.bind (few_ev l hl) ?_
  cases hf : (fewB 30 l && decide (l.length ≤ 30)) with
  | false => exact Base.Ev.ite_neg (by simp) out
  | true =>
    have h30 : l.length ≤ 30 := by simp at hf; exact hf.2
    refine Base.Ev.ite_pos rfl ?_
    by_cases hs : s.length > 2500
    · rw [mkB_size, show decide ((s.length : Int) > 2500) = true by simp; omega]; exact out
    rw [mkB_size, show decide ((s.length : Int) > 2500) = false by simp; omega]
    -- what both ways end with
    have fin : ∀ (a : List S34 × Int) (b : ByteArray × Int), Ev (fun k => pkt_All.f k (mkB s)) a → Ev (fun k => pkt_Put.f k a.1) b → (a.2 = 0 → b.2 = 0 ∧ b.1 = mkB s) →
        Ev (fun k => (pkt_All.f k (mkB s)).bind fun bt328 => ((pkt_Put.f k bt328.1).bind fun bt332 => ((knapsacklaw07_knows.f k).bind fun t334 => (if t334 = true then (if bt328.2 = 0 then (if bt332.2 = 0 then (some (bt332.1.toList == (mkB s).toList)) else (some false)) else (some true)) else (some false))))) true := by
      intro a b ha hb hab
      refine Ev.bind ha ?_
      refine Ev.bind hb ?_
      refine Ev.bind Pk.knows_ev ?_
      refine Base.Ev.ite_pos rfl ?_
      by_cases h0 : a.2 = 0
      · obtain ⟨h1, h2⟩ := hab h0
        refine Base.Ev.ite_pos h0 ?_
        refine Base.Ev.ite_pos h1 ?_
        refine Base.Ev.eq ?_ (Ev.now _)
        rw [h2]; simp
      · exact Base.Ev.ite_neg h0 (Ev.now _)
    have tail : Ev (fun k => (pkt_All.f k (mkB s)).bind fun bt328 => ((pkt_Put.f k bt328.1).bind fun bt332 => ((knapsacklaw07_knows.f k).bind fun t334 => (if t334 = true then (if bt328.2 = 0 then (if bt332.2 = 0 then (some (bt332.1.toList == (mkB s).toList)) else (some false)) else (some true)) else (some false))))) true := by
      have ha := all_ev s (by omega)
      cases hm : allF s.length s with
      | none =>
        rw [hm] at ha
        exact fin _ _ ha (pput_ev [] (by decide)) (fun h => by simp [allsP] at h)
      | some m =>
        have hlen := allF_length _ _ _ hm
        rw [hm] at ha
        refine fin _ _ ha (pput_ev m (by omega)) (fun _ => ?_)
        rw [puts_allF _ _ _ hm]; exact ⟨rfl, rfl⟩
    have j1 : Ev (fun k => knapsacklaw07_PktBack.j1 k (mkB s) false) true := by
      refine Ev.step (fun k => by rw [knapsacklaw07_PktBack.j1]) ?_
      exact Base.Ev.ite_neg (by simp) tail
    refine Ev.step (fun k => by rw [knapsacklaw07_PktBack.j0]) ?_
    refine Base.Ev.ite_neg (by simp) ?_
    refine Ev.bind (pput_ev l (by omega)) ?_
    cases hp : puts l with
    | none => exact Base.Ev.ite_neg (by simp [putsP]) tail
    | some t =>
      have hlen := puts_length l t hp
      refine Base.Ev.ite_pos rfl ?_
      have ha := all_ev t (by omega)
      rw [allF_puts l t t.length hp (Nat.le_refl _)] at ha
      refine Ev.bind ha ?_
      refine Ev.bind (as_ev l (by omega)) ?_
      refine Ev.bind (as_ev l (by omega)) ?_
      refine Ev.bind (same_ev _ (by simp; omega)) ?_
      refine Base.Ev.ite_pos rfl ?_
      exact j1
end Go.Proofs.Ytkhbapchkfmocaa.Pure
