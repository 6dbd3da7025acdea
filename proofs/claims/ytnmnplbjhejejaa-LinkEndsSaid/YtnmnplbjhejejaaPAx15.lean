-- Written by a turned copy of the printer (wip/patchprint.py of this repo), with contracts of this session beside; Lean checks it.
import Derived.Test.YtnmnplbjhejejaaPAx0
import Derived.Test.YtnmnplbjhejejaaPAx1
import Derived.Test.YtnmnplbjhejejaaPAx5
import Derived.Test.YtnmnplbjhejejaaPAx6
namespace Go.Proofs.Ytnmnplbjhejejaa.PA
open Go.RowKit Go.Proofs.YtnmnplbjhejejaaW.PrintWords Go.Proofs.YtnmnplbjhejejaaW.PrintLast Go.Proofs.YtnmnplbjhejejaaW.PrintMore
attribute [local go_sem] max2_int min2_int max_two min_two max_three min_three max_four min_four   -- for this text's walks alone
set_option linter.unusedVariables false
set_option linter.unusedSimpArgs false

/-! ### knapsacklaw24_few: function 33 -/
mutual
def knapsacklaw24_few.l0 : Nat → List (S66) → Int → Option (Bool)
  | 0, _, _ => none
  | k + 1, x0, x3 => if x3 < (x0.length : Int) then (knapsacklaw24_few.j1 k x0 x3 (decide (x3 < 80))) else (knapsacklaw24_few.j1 k x0 x3 false)
def knapsacklaw24_few.j1 : Nat → List (S66) → Int → Bool → Option (Bool)
  | 0, _, _, _ => none
  | k + 1, x0, x3, x11 => if x11 = true then (if 0 ≤ x3 then (if x3 < (x0.length : Int) then (if (((rd_T66 x0 x3).f2).size : Int) > 700 then (some false) else (knapsacklaw24_few.l0 k x0 (wrap64 (x3 + 1)))) else (none)) else (none)) else (some (decide ((x0.length : Int) ≤ 80)))
end
def knapsacklaw24_few.f (k : Nat) (l0 : List (S66)) : Option (Bool) := knapsacklaw24_few.l0 k l0 0
theorem knapsacklaw24_few.mono_l : ∀ k, (∀ y0 y1, LeO (knapsacklaw24_few.l0 k y0 y1) (knapsacklaw24_few.l0 (k + 1) y0 y1)) ∧ (∀ y0 y1 y2, LeO (knapsacklaw24_few.j1 k y0 y1 y2) (knapsacklaw24_few.j1 (k + 1) y0 y1 y2))
  | 0 => ⟨fun _ _ r h => by simp [knapsacklaw24_few.l0] at h, fun _ _ _ r h => by simp [knapsacklaw24_few.j1] at h⟩
  | k + 1 => by
    obtain ⟨ih0, ih1⟩ := knapsacklaw24_few.mono_l k
    refine ⟨?_, ?_⟩
    · intro y0 y1
      unfold knapsacklaw24_few.l0
      repeat' first
      | (with_reducible exact ih0 _ _)
      | (with_reducible exact ih1 _ _ _)
      | (with_reducible exact LeO.refl _)
      | (with_reducible exact LeO.none _)
      | (with_reducible refine LeO.ite ?_ ?_)
      | (with_reducible refine LeO.bind ?_ (fun _ => ?_))
      | exact ih0 _ _
      | exact ih1 _ _ _
      | exact LeO.none _
      | refine LeO.ite ?_ ?_
      | refine LeO.bind ?_ (fun _ => ?_)
    · intro y0 y1 y2
      unfold knapsacklaw24_few.j1
      repeat' first
      | (with_reducible exact ih0 _ _)
      | (with_reducible exact ih1 _ _ _)
      | (with_reducible exact LeO.refl _)
      | (with_reducible exact LeO.none _)
      | (with_reducible refine LeO.ite ?_ ?_)
      | (with_reducible refine LeO.bind ?_ (fun _ => ?_))
      | exact ih0 _ _
      | exact ih1 _ _ _
      | exact LeO.none _
      | refine LeO.ite ?_ ?_
      | refine LeO.bind ?_ (fun _ => ?_)
theorem knapsacklaw24_few.mono : ∀ a0 k, LeO (knapsacklaw24_few.f k a0) (knapsacklaw24_few.f (k + 1) a0) := by
  intro a0 k
  obtain ⟨ih0, ih1⟩ := knapsacklaw24_few.mono_l k
  unfold knapsacklaw24_few.f
  repeat' first
      | (with_reducible exact ih0 _ _)
      | (with_reducible exact ih1 _ _ _)
      | (with_reducible exact LeO.refl _)
      | (with_reducible exact LeO.none _)
      | (with_reducible refine LeO.ite ?_ ?_)
      | (with_reducible refine LeO.bind ?_ (fun _ => ?_))
      | exact ih0 _ _
      | exact ih1 _ _ _
      | exact LeO.none _
      | refine LeO.ite ?_ ?_
      | refine LeO.bind ?_ (fun _ => ?_)
set_option maxHeartbeats 8000000 in
set_option maxRecDepth 100000 in
theorem knapsacklaw24_few.calls (k : Nat) (A0 : Option Addr) (c0 : Nat) (l0 : List (S66)) (r : Bool) (w : World) (hr0 : Kd.C k66 w A0 l0.length l0) (hc0 : l0.length ≤ c0) (h : knapsacklaw24_few.f k l0 = some r) :
    Calls Try.prog 33 #[.slice A0 l0.length c0] w fun e w' => e = .returned (.bool r) ∧ Drawn0 w w' := by
  have HR0 := Aside0.mk hr0
  have HC0 := Aside0.mk hc0
  clear hr0 hc0
  have H : (knapsacklaw24_few.l0 k l0 0) = some r := h
  clear h
  have H' := Aside0.mk H
  clear H
  go_enter Try.func33, Try.ntmps33
  go_wp2
  go_loopg [3] k (fun kq v3 w' => ∃ (x3_1 : Int), v3 = .int .i64 x3_1 ∧ Aside0 (knapsacklaw24_few.l0 kq l0 x3_1 = some r) ∧ Aside0 (kq ≤ k) ∧ Drawn0 w w')
  case atStart => exact ⟨(0), (by first | rfl | (simp; done) | (simp; omega) | (simp [*]; done)), H', ⟨Nat.le_refl _⟩, by repeat (first | exact Drawn0.refl _ | apply Drawn0.step)⟩
  case round =>
    clear H'
    obtain ⟨x3_1, rfl, HA, HK1, ⟨m1, rfl⟩⟩ := hrel
    cases gk with
    | zero => exact absurd HA.out (by simp [knapsacklaw24_few.l0])
    | succ k1 =>
      have H := HA.out
      clear HA
      simp only [knapsacklaw24_few.l0] at H
      have HC2 := Aside0.mk H
      clear H
      go_upto_region 2 with (fail)
      go_cut [11] (fun v11 wc => ∃ (kq : Nat) (x11_1 : Bool), v11 = .bool x11_1 ∧ Aside0 (knapsacklaw24_few.j1 kq l0 x3_1 x11_1 = some r) ∧ Aside0 (kq ≤ k1) ∧ Drawn0 w wc)
      case first =>
        have H := HC2.out
        clear HC2
        by_cases c3 : x3_1 < (l0.length : Int)
        · rw [if_pos c3] at H
          have c3b0 : decide (x3_1 < (l0.length : Int)) = true := decide_eq_true c3
          clear c3
          (first | rw [c3b0] | (simp only [i64_w, i32_w]; rw [c3b0]) | skip)
          have H' := Aside0.mk H
          clear H
          go_wp2
          go_meet
          case rel => exact ⟨_, (decide (x3_1 < 80)), (by first | rfl | (simp; done) | (simp; omega) | (simp [*]; done)), H', ⟨by have := HK1.out; first | omega | exact Nat.le_refl _⟩, by repeat (first | exact Drawn0.refl _ | apply Drawn0.step)⟩
        · rw [if_neg c3] at H
          have c3b0 : decide (x3_1 < (l0.length : Int)) = false := decide_eq_false c3
          clear c3
          (first | rw [c3b0] | (simp only [i64_w, i32_w]; rw [c3b0]) | skip)
          have H' := Aside0.mk H
          clear H
          go_wp2
          go_meet
          case rel => exact ⟨_, (false), (by first | rfl | (simp; done) | (simp; omega) | (simp [*]; done)), H', ⟨by have := HK1.out; first | omega | exact Nat.le_refl _⟩, by repeat (first | exact Drawn0.refl _ | apply Drawn0.step)⟩
      case rest =>
        clear HC2
        try clear p2
        try clear c3
        try clear c3b0
        obtain ⟨kq, x11_1, rfl, HA, HJ1, ⟨mc1, rfl⟩⟩ := hcut
        cases kq with
        | zero => exact absurd HA.out (by simp [knapsacklaw24_few.j1])
        | succ kj1 =>
          have H := HA.out
          clear HA
          simp only [knapsacklaw24_few.j1] at H
          by_cases c4 : x11_1 = true
          · subst c4
            have H1 : (if 0 ≤ x3_1 then (if x3_1 < (l0.length : Int) then (if (((rd_T66 l0 x3_1).f2).size : Int) > 700 then (some false) else (knapsacklaw24_few.l0 kj1 l0 (wrap64 (x3_1 + 1)))) else (none)) else (none)) = some r := by rw [if_pos rfl] at H; exact H
            clear H
            have H := H1
            clear H1
            by_cases c5 : 0 ≤ x3_1
            · rw [if_pos c5] at H
              have c5b0 : decide (0 ≤ x3_1) = true := decide_eq_true c5
              clear c5
              by_cases c6 : x3_1 < (l0.length : Int)
              · rw [if_pos c6] at H
                have c6b0 : decide (x3_1 < (l0.length : Int)) = true := decide_eq_true c6
                clear c6
                by_cases c7 : (((rd_T66 l0 x3_1).f2).size : Int) > 700
                · rw [if_pos c7] at H
                  have c7b0 : decide (700 < (((rd_T66 l0 x3_1).f2).size : Int)) = true := decide_eq_true c7
                  have c7b1 : decide (700 < ((rd_T66 l0 x3_1).f2).size) = true := decide_eq_true (by omega)
                  clear c7
                  obtain rfl := Option.some.inj H
                  have p304 : 0 ≤ (x3_1 : Int) := of_decide_eq_true (by first | (with_reducible assumption) | assumption)
                  have q304 : x3_1 < (l0.length : Int) := of_decide_eq_true (by first | (with_reducible assumption) | assumption)
                  obtain ⟨ad304, e304, hx304_0, hx304_1, hx304_2, hx304_3, hx304_4, hx304_5⟩ := at_T66 HR0.out x3_1 p304 q304
                  cases e304
                  replace p304 := eq_true p304
                  replace q304 := eq_true q304
                  go_wp2
                  go_ret
                  exact ⟨by first | rfl | (simp; done) | (simp; omega) | (simp [*]; done), by repeat (first | exact Drawn0.refl _ | apply Drawn0.step)⟩
                · rw [if_neg c7] at H
                  have c7b0 : decide (700 < (((rd_T66 l0 x3_1).f2).size : Int)) = false := decide_eq_false c7
                  have c7b1 : decide (700 < ((rd_T66 l0 x3_1).f2).size) = false := decide_eq_false (by omega)
                  clear c7
                  have H' := Aside0.mk H
                  clear H
                  have p304 : 0 ≤ (x3_1 : Int) := of_decide_eq_true (by first | (with_reducible assumption) | assumption)
                  have q304 : x3_1 < (l0.length : Int) := of_decide_eq_true (by first | (with_reducible assumption) | assumption)
                  obtain ⟨ad304, e304, hx304_0, hx304_1, hx304_2, hx304_3, hx304_4, hx304_5⟩ := at_T66 HR0.out x3_1 p304 q304
                  cases e304
                  replace p304 := eq_true p304
                  replace q304 := eq_true q304
                  go_wp2
                  go_roundg kj1
                  case measure => have := HK1.out; have := HJ1.out; omega
                  case rel => exact ⟨(wrap64 (x3_1 + 1)), (by first | rfl | (simp; done) | (simp; omega) | (simp [*]; done)), H', ⟨by have := HK1.out; have := HJ1.out; omega⟩, by repeat (first | exact Drawn0.refl _ | apply Drawn0.step)⟩
              · rw [if_neg c6] at H
                exact absurd H (by simp)
            · rw [if_neg c5] at H
              exact absurd H (by simp)
          · replace c4 := Bool.eq_false_iff.mpr c4
            subst c4
            have H1 : (some (decide ((l0.length : Int) ≤ 80))) = some r := by rw [if_neg (show ¬ (false = true) by decide)] at H; exact H
            clear H
            have H := H1
            clear H1
            obtain rfl := Option.some.inj H
            go_wp2
            go_ret
            exact ⟨by first | rfl | (simp; done) | (simp; omega) | (simp [*]; done), by repeat (first | exact Drawn0.refl _ | apply Drawn0.step)⟩

/-- A state of type 85 at block g of W; what its slices lead to came in by w0. -/
def IsS85 (w0 W : World) (g : Nat) (f0 : Int) (f1 : List (S90)) (f2 : Int) (f3 : Int) (f4 : ByteArray) : Prop := ∃ A1 c1, W.heap[g]? = some (.cells #[.int .u64 f0, .slice A1 f1.length c1, .int .u64 f2, .int .u64 f3, .string f4] 85 (0, 0)) ∧ w0.heap.size ≤ g ∧ Kd.C k90 w0 A1 f1.length f1
theorem IsS85.grown {w0 W : World} {g : Nat} {f0 : Int} {f1 : List (S90)} {f2 : Int} {f3 : Int} {f4 : ByteArray} {W1 : World} {row : Option Nat} (h : IsS85 w0 W g f0 f1 f2 f3 f4) (hw : W.grownBy W1 row) (hne : some g ≠ row) : IsS85 w0 W1 g f0 f1 f2 f3 f4 := by
  obtain ⟨A1, c1, hb, hg, hr1⟩ := h
  exact ⟨A1, c1, blk_grown hb hw hne, hg, hr1⟩
theorem IsS85.own_neN {w0 W : World} {g : Nat} {f0 : Int} {f1 : List (S90)} {f2 : Int} {f3 : Int} {f4 : ByteArray} {α : Type} {d : Kd α} {e : Nat} {base : Nat} {ok : Nat → Prop} {v : Value} {xs : List α} (h : IsS85 w0 W g f0 f1 f2 f3 f4) (ho : Kd.N d e W base ok v xs) (ht : e ≠ 85) : some g ≠ v.ownBlock := by
  obtain ⟨A1, c1, hb, hg, hr1⟩ := h
  exact Kd.N_ne ho hb ht
theorem IsS85.fresh {w0 W : World} {g : Nat} {f0 : Int} {f1 : List (S90)} {f2 : Int} {f3 : Int} {f4 : ByteArray} (h : IsS85 w0 W g f0 f1 f2 f3 f4) : ∀ k, W.heap.size ≤ k → k ≠ g := by
  obtain ⟨A1, c1, hb, hg, hr1⟩ := h
  exact Kd.freshB hb
theorem IsS85.kept {w0 W : World} {g : Nat} {f0 : Int} {f1 : List (S90)} {f2 : Int} {f3 : Int} {f4 : ByteArray} {W1 : World} {S : Nat → Prop} (h : IsS85 w0 W g f0 f1 f2 f3 f4) (hk : Kept W W1 S) (hne : ¬ S g) : IsS85 w0 W1 g f0 f1 f2 f3 f4 := by
  obtain ⟨A1, c1, hb, hg, hr1⟩ := h
  exact ⟨A1, c1, blk_kept hb hk hne, hg, hr1⟩
theorem IsS85.below {w0 W : World} {g : Nat} {f0 : Int} {f1 : List (S90)} {f2 : Int} {f3 : Int} {f4 : ByteArray} {W1 : World} (h : IsS85 w0 W g f0 f1 f2 f3 f4) (hw : Below W.heap.size W W1) : IsS85 w0 W1 g f0 f1 f2 f3 f4 := h.grown (grown_of_below hw none) (by simp)
theorem IsS85.alloc {w0 W : World} {g : Nat} {f0 : Int} {f1 : List (S90)} {f2 : Int} {f3 : Int} {f4 : ByteArray} (h : IsS85 w0 W g f0 f1 f2 f3 f4) (o : Obj) : IsS85 w0 (W.alloc o) g f0 f1 f2 f3 f4 := h.below (below_alloc (Below.refl _ _) o)
theorem IsS85.drewN {w0 W : World} {g : Nat} {f0 : Int} {f1 : List (S90)} {f2 : Int} {f3 : Int} {f4 : ByteArray} (h : IsS85 w0 W g f0 f1 f2 f3 f4) (m : Nat) : IsS85 w0 (W.drewN m) g f0 f1 f2 f3 f4 := h
theorem IsS85.drew {w0 W : World} {g : Nat} {f0 : Int} {f1 : List (S90)} {f2 : Int} {f3 : Int} {f4 : ByteArray} (h : IsS85 w0 W g f0 f1 f2 f3 f4) : IsS85 w0 W.drew g f0 f1 f2 f3 f4 := h
theorem IsS85.at_ {w0 W : World} {g : Nat} {f0 : Int} {f1 : List (S90)} {f2 : Int} {f3 : Int} {f4 : ByteArray} {w' : World} {m : Nat} (hq : W.drewN m = w') (h : IsS85 w0 W g f0 f1 f2 f3 f4) : IsS85 w0 w' g f0 f1 f2 f3 f4 := by subst hq; exact IsS85.drewN h m
theorem IsS85.apart {w0 W : World} {g : Nat} {f0 : Int} {f1 : List (S90)} {f2 : Int} {f3 : Int} {f4 : ByteArray} {α : Type} {d : Kd α} {e : Nat} {base : Nat} {ok : Nat → Prop} {v : Value} {xs : List α} (h : IsS85 w0 W g f0 f1 f2 f3 f4) (ho : d.R e W base ok v xs) (ht : ∀ q, q ∈ e :: d.E → q ≠ 85) : d.R e W base (fun k => ok k ∧ k ≠ g) v xs := by
  obtain ⟨A1, c1, hb, hg, hr1⟩ := h
  exact Kd.R_types ho hb ht
theorem IsS85.own_ne {w0 W : World} {g : Nat} {f0 : Int} {f1 : List (S90)} {f2 : Int} {f3 : Int} {f4 : ByteArray} {α : Type} {d : Kd α} {e : Nat} {base : Nat} {ok : Nat → Prop} {v : Value} {xs : List α} (h : IsS85 w0 W g f0 f1 f2 f3 f4) (ho : d.R e W base ok v xs) (ht : e ≠ 85) : some g ≠ v.ownBlock := by
  obtain ⟨A1, c1, hb, hg, hr1⟩ := h
  exact Kd.R_ne ho hb ht
theorem IsS85.apartQ {w0 W : World} {g : Nat} {f0 : Int} {f1 : List (S90)} {f2 : Int} {f3 : Int} {f4 : ByteArray} {α : Type} {d : Kd α} {e : Nat} {base : Nat} {ok : Nat → Prop} {v : Value} {xs : List α} (h : IsS85 w0 W g f0 f1 f2 f3 f4) (ho : d.Q e W base ok v xs) (ht : ∀ q, q ∈ e :: d.E → q ≠ 85) : d.Q e W base (fun k => ok k ∧ k ≠ g) v xs := by
  obtain ⟨A1, c1, hb, hg, hr1⟩ := h
  exact Kd.Q_types ho hb ht
theorem IsS85.own_neQ {w0 W : World} {g : Nat} {f0 : Int} {f1 : List (S90)} {f2 : Int} {f3 : Int} {f4 : ByteArray} {α : Type} {d : Kd α} {e : Nat} {base : Nat} {ok : Nat → Prop} {v : Value} {xs : List α} (h : IsS85 w0 W g f0 f1 f2 f3 f4) (ho : d.Q e W base ok v xs) (ht : e ≠ 85) : some g ≠ v.ownBlock := by
  obtain ⟨A1, c1, hb, hg, hr1⟩ := h
  exact Kd.Q_ne ho hb ht
theorem IsS85.apartS {w0 W : World} {g : Nat} {f0 : Int} {f1 : List (S90)} {f2 : Int} {f3 : Int} {f4 : ByteArray} {α : Type} {d : Kd α} {e : Nat} {base : Nat} {ok : Nat → Prop} {v : Value} {xs : List α} (h : IsS85 w0 W g f0 f1 f2 f3 f4) (ho : d.S e W base ok v xs) (ht : ∀ q, q ∈ e :: d.E → q ≠ 85) : d.S e W base (fun k => ok k ∧ k ≠ g) v xs := by
  obtain ⟨A1, c1, hb, hg, hr1⟩ := h
  exact Kd.S_types ho hb ht
theorem IsS85.own_neS {w0 W : World} {g : Nat} {f0 : Int} {f1 : List (S90)} {f2 : Int} {f3 : Int} {f4 : ByteArray} {α : Type} {d : Kd α} {e : Nat} {base : Nat} {ok : Nat → Prop} {v : Value} {xs : List α} (h : IsS85 w0 W g f0 f1 f2 f3 f4) (ho : d.S e W base ok v xs) (ht : e ≠ 85) : some g ≠ v.ownBlock := by
  obtain ⟨A1, c1, hb, hg, hr1⟩ := h
  exact Kd.S_ne ho hb ht
theorem IsS85.lt {w0 W : World} {g : Nat} {f0 : Int} {f1 : List (S90)} {f2 : Int} {f3 : Int} {f4 : ByteArray} (h : IsS85 w0 W g f0 f1 f2 f3 f4) : g < W.heap.size := by
  obtain ⟨A1, c1, hb, hg, hr1⟩ := h
  exact blk_lt hb
theorem IsS85.ge {w0 W : World} {g : Nat} {f0 : Int} {f1 : List (S90)} {f2 : Int} {f3 : Int} {f4 : ByteArray} (h : IsS85 w0 W g f0 f1 f2 f3 f4) : w0.heap.size ≤ g := by
  obtain ⟨A1, c1, hb, hg, hr1⟩ := h
  exact hg
theorem IsS85.ne_blk {w0 W : World} {g : Nat} {f0 : Int} {f1 : List (S90)} {f2 : Int} {f3 : Int} {f4 : ByteArray} {a : Nat} {cs : Array Value} {t : TypeId} {fr : Nat × Nat} (h : IsS85 w0 W g f0 f1 f2 f3 f4) (hb2 : W.heap[a]? = some (.cells cs t fr)) (ht : t ≠ 85) : g ≠ a := by
  obtain ⟨A1, c1, hb, hg, hr1⟩ := h
  rintro rfl
  rw [hb] at hb2
  injection hb2 with hb2
  injection hb2 with _ ht2
  exact ht ht2.symm
theorem IsS85.far {w0 W : World} {g : Nat} {f0 : Int} {f1 : List (S90)} {f2 : Int} {f3 : Int} {f4 : ByteArray} {p : Addr} (h : IsS85 w0 W g f0 f1 f2 f3 f4) (hne : g ≠ p.block) (u : Value) : IsS85 w0 (W.setCell p u) g f0 f1 f2 f3 f4 := by
  obtain ⟨A1, c1, hb, hg, hr1⟩ := h
  exact ⟨A1, c1, blk_far hb hne u, hg, hr1⟩
theorem cellS85_0 {W : World} {g : Nat} {A1 : Option Addr} {c1 : Nat} {f0 : Int} {f1 : List (S90)} {f2 : Int} {f3 : Int} {f4 : ByteArray} (h : W.heap[g]? = some (.cells #[.int .u64 f0, .slice A1 f1.length c1, .int .u64 f2, .int .u64 f3, .string f4] 85 (0, 0))) : W.cell? ⟨g, 0, none⟩ = some (.int .u64 f0) := (blk_cell h 0).trans rfl
theorem IsS85.set_0 {w0 W : World} {g : Nat} {f0 : Int} {f1 : List (S90)} {f2 : Int} {f3 : Int} {f4 : ByteArray} (h : IsS85 w0 W g f0 f1 f2 f3 f4) (x : Int) : IsS85 w0 (W.setCell ⟨g, 0, none⟩ (.int .u64 x)) g x f1 f2 f3 f4 := by
  obtain ⟨A1, c1, hb, hg, hr1⟩ := h
  exact ⟨A1, c1, by simpa using blk_set hb 0 (.int .u64 x), hg, hr1⟩
theorem cellS85_1 {W : World} {g : Nat} {A1 : Option Addr} {c1 : Nat} {f0 : Int} {f1 : List (S90)} {f2 : Int} {f3 : Int} {f4 : ByteArray} (h : W.heap[g]? = some (.cells #[.int .u64 f0, .slice A1 f1.length c1, .int .u64 f2, .int .u64 f3, .string f4] 85 (0, 0))) : W.cell? ⟨g, 1, none⟩ = some (.slice A1 f1.length c1) := (blk_cell h 1).trans rfl
theorem cellS85_2 {W : World} {g : Nat} {A1 : Option Addr} {c1 : Nat} {f0 : Int} {f1 : List (S90)} {f2 : Int} {f3 : Int} {f4 : ByteArray} (h : W.heap[g]? = some (.cells #[.int .u64 f0, .slice A1 f1.length c1, .int .u64 f2, .int .u64 f3, .string f4] 85 (0, 0))) : W.cell? ⟨g, 2, none⟩ = some (.int .u64 f2) := (blk_cell h 2).trans rfl
theorem IsS85.set_2 {w0 W : World} {g : Nat} {f0 : Int} {f1 : List (S90)} {f2 : Int} {f3 : Int} {f4 : ByteArray} (h : IsS85 w0 W g f0 f1 f2 f3 f4) (x : Int) : IsS85 w0 (W.setCell ⟨g, 2, none⟩ (.int .u64 x)) g f0 f1 x f3 f4 := by
  obtain ⟨A1, c1, hb, hg, hr1⟩ := h
  exact ⟨A1, c1, by simpa using blk_set hb 2 (.int .u64 x), hg, hr1⟩
theorem cellS85_3 {W : World} {g : Nat} {A1 : Option Addr} {c1 : Nat} {f0 : Int} {f1 : List (S90)} {f2 : Int} {f3 : Int} {f4 : ByteArray} (h : W.heap[g]? = some (.cells #[.int .u64 f0, .slice A1 f1.length c1, .int .u64 f2, .int .u64 f3, .string f4] 85 (0, 0))) : W.cell? ⟨g, 3, none⟩ = some (.int .u64 f3) := (blk_cell h 3).trans rfl
theorem IsS85.set_3 {w0 W : World} {g : Nat} {f0 : Int} {f1 : List (S90)} {f2 : Int} {f3 : Int} {f4 : ByteArray} (h : IsS85 w0 W g f0 f1 f2 f3 f4) (x : Int) : IsS85 w0 (W.setCell ⟨g, 3, none⟩ (.int .u64 x)) g f0 f1 f2 x f4 := by
  obtain ⟨A1, c1, hb, hg, hr1⟩ := h
  exact ⟨A1, c1, by simpa using blk_set hb 3 (.int .u64 x), hg, hr1⟩
theorem cellS85_4 {W : World} {g : Nat} {A1 : Option Addr} {c1 : Nat} {f0 : Int} {f1 : List (S90)} {f2 : Int} {f3 : Int} {f4 : ByteArray} (h : W.heap[g]? = some (.cells #[.int .u64 f0, .slice A1 f1.length c1, .int .u64 f2, .int .u64 f3, .string f4] 85 (0, 0))) : W.cell? ⟨g, 4, none⟩ = some (.string f4) := (blk_cell h 4).trans rfl
theorem IsS85.set_4 {w0 W : World} {g : Nat} {f0 : Int} {f1 : List (S90)} {f2 : Int} {f3 : Int} {f4 : ByteArray} (h : IsS85 w0 W g f0 f1 f2 f3 f4) (x : ByteArray) : IsS85 w0 (W.setCell ⟨g, 4, none⟩ (.string x)) g f0 f1 f2 f3 x := by
  obtain ⟨A1, c1, hb, hg, hr1⟩ := h
  exact ⟨A1, c1, by simpa using blk_set hb 4 (.string x), hg, hr1⟩
theorem IsS85.new (w0 W : World) (A1 : Option Addr) (c1 : Nat) (f0 : Int) (f1 : List (S90)) (f2 : Int) (f3 : Int) (f4 : ByteArray) (hB : Below w0.heap.size w0 W) (hr1 : Kd.C k90 w0 A1 f1.length f1) : IsS85 w0 (W.alloc (.cells #[.int .u64 f0, .slice A1 f1.length c1, .int .u64 f2, .int .u64 f3, .string f4] 85)) W.heap.size f0 f1 f2 f3 f4 := ⟨A1, c1, by simpa using heap_alloc_new W _, hB.size, hr1⟩

/-! ### link_New: function 34 -/
def link_New.f (a0 : Int) : Option (Int × (List (S90)) × Int × Int × ByteArray) := some (IntKind.u64.wrap (a0), ([] : List (S90)), 1, 0, (⟨#[]⟩ : ByteArray))
set_option maxHeartbeats 8000000 in
set_option maxRecDepth 100000 in
theorem link_New.calls (a0 : Int) (r1 : Int) (r2 : List (S90)) (r3 : Int) (r4 : Int) (r5 : ByteArray) (w0 w : World) (hB : Below w0.heap.size w0 w) (h : link_New.f a0 = some (r1, r2, r3, r4, r5)) :
    Calls Try.prog 34 #[.int .u32 a0] w fun e w' => ∃ g_ : Nat, e = .returned (.pointer (some ⟨g_, 0, none⟩)) ∧ IsS85 w0 w' g_ r1 r2 r3 r4 r5 ∧ Below w0.heap.size w0 w' ∧ Below w.heap.size w w' := by
  have hu85 := Try.underlying85
  have HBW := Aside0.mk (Below.refl w.heap.size w)
  have HW0 := Aside0.mk hB.size
  have HB := Aside0.mk hB
  clear hB
  have H : (some (IntKind.u64.wrap (a0), ([] : List (S90)), 1, 0, (⟨#[]⟩ : ByteArray))) = some (r1, r2, r3, r4, r5) := h
  clear h
  simp only [Option.some.injEq, Prod.mk.injEq] at H
  obtain ⟨rfl, rfl, rfl, rfl, rfl⟩ := H
  go_enter Try.func34, Try.ntmps34
  go_wp2_with (first | ((with_reducible refine gate_dst (N := 6) rfl ?_); refine box_event ?hg (N := 6) ?hd (cs := #[.int .u64 (IntKind.u64.wrap (a0)), .slice none 0 0, .int .u64 1, .int .u64 0, .string (⟨#[]⟩ : ByteArray)]) (t := 85) ?hr ?_; (case hd => rfl); (case hg => rfl); (case hr => first | (go_simp; done) | (go_simp; rfl)); intro gb305 hg w2 hbox hb; have n0_ := Aside0.mk (below_step HBW.out hb); have n1_ := Aside0.mk (below_step (by repeat (first | (with_reducible first | exact HB.out | apply below_alloc | apply pw_below_drewN | apply below_drew1) | exact HB.out)) hb); have n2_ := Aside0.mk (hbox); have n3_ := Aside0.mk ((by rw [hg]; exact (below_size (by repeat (first | (with_reducible first | exact HBW.out | apply below_alloc | apply pw_below_drewN | apply below_drew1) | exact HBW.out))) : w.heap.size ≤ gb305)); have n4_ := Aside0.mk ((Nat.le_trans HW0.out (by rw [hg]; exact (below_size (by repeat (first | (with_reducible first | exact HBW.out | apply below_alloc | apply pw_below_drewN | apply below_drew1) | exact HBW.out))) : w.heap.size ≤ gb305) : w0.heap.size ≤ gb305)); clear HBW; clear HB; have HBW := n0_; have HB := n1_; have BK305 := n2_; have GW305 := n3_; have GE305 := n4_; clear n0_ n1_ n2_ n3_ n4_; clear hb hbox hg))
  go_ret
  exact ⟨_, rfl, (show IsS85 w0 _ gb305 (IntKind.u64.wrap (a0)) ([] : List (S90)) 1 0 (⟨#[]⟩ : ByteArray) from ⟨none, 0, by (with_reducible repeat (first | refine blk_drewN ?_ _ | refine blk_drew ?_ | refine blk_alloc ?_ _)); exact BK305.out, GE305.out, (Kd.C_nil _ _)⟩), by repeat (first | (with_reducible first | exact HB.out | apply below_alloc | apply pw_below_drewN | apply below_drew1 | refine below_set ?_ GE305.out) | exact HB.out), by repeat (first | (with_reducible first | exact HBW.out | apply below_alloc | apply pw_below_drewN | apply below_drew1 | refine below_set ?_ GW305.out) | exact HBW.out)⟩

/-! ### link_read: function 48 -/
def link_read.j0 : Nat → ByteArray → Int → Int → Bool → Option (Int × Int × ByteArray × Bool × Int × Bool)
  | 0, _, _, _, _ => none
  | k + 1, x4, x6, x8, x50 => if x50 = true then (some (0, 0, (⟨#[]⟩ : ByteArray), false, 0, false)) else (if 0 < (x4.size : Int) then (if 1 ≤ (x4.size : Int) then ((varint_Take.f k (x4.extract 1 x4.size)).bind fun bt315 => ((varint_Get.f k bt315.2.1).bind fun bt318 => (if bt315.2.2 = 0 then (if bt318.2.2 = 0 then (if bt318.2.1.toList = ([] : List UInt8) then (some (x6, x8, bt315.1, ((bt x4 0) == 1), bt318.1, true)) else (some (0, 0, (⟨#[]⟩ : ByteArray), false, 0, false))) else (some (0, 0, (⟨#[]⟩ : ByteArray), false, 0, false))) else (some (0, 0, (⟨#[]⟩ : ByteArray), false, 0, false))))) else (none)) else (none))
def link_read.f (k : Nat) (a0 : ByteArray) : Option (Int × Int × ByteArray × Bool × Int × Bool) := (crc_Open.f k a0).bind fun bt307 => ((varint_Get.f k bt307.1).bind fun bt309 => ((varint_Get.f k bt309.2.1).bind fun bt312 => (if bt307.2 = 0 then (if bt309.2.2 = 0 then (if bt312.2.2 = 0 then (if bt312.2.1.toList = ([] : List UInt8) then (link_read.j0 k bt312.2.1 bt309.1 bt312.1 true) else (if 0 < (bt312.2.1.size : Int) then (link_read.j0 k bt312.2.1 bt309.1 bt312.1 (decide ((bt bt312.2.1 0) > 1))) else (none))) else (link_read.j0 k bt312.2.1 bt309.1 bt312.1 true)) else (link_read.j0 k bt312.2.1 bt309.1 bt312.1 true)) else (link_read.j0 k bt312.2.1 bt309.1 bt312.1 true))))
theorem link_read.mono_l : ∀ k, (∀ y0 y1 y2 y3, LeO (link_read.j0 k y0 y1 y2 y3) (link_read.j0 (k + 1) y0 y1 y2 y3))
  | 0 => fun _ _ _ _ r h => by simp [link_read.j0] at h
  | k + 1 => by
    have ih0 := link_read.mono_l k
    · intro y0 y1 y2 y3
      unfold link_read.j0
      repeat' first
      | (with_reducible exact ih0 _ _ _ _)
      | (with_reducible exact crc_Open.mono _ _)
      | (with_reducible exact varint_Get.mono _ _)
      | (with_reducible exact varint_Take.mono _ _)
      | (with_reducible exact LeO.refl _)
      | (with_reducible exact LeO.none _)
      | (with_reducible refine LeO.ite ?_ ?_)
      | (with_reducible refine LeO.bind ?_ (fun _ => ?_))
      | exact ih0 _ _ _ _
      | exact crc_Open.mono _ _
      | exact varint_Get.mono _ _
      | exact varint_Take.mono _ _
      | exact LeO.none _
      | refine LeO.ite ?_ ?_
      | refine LeO.bind ?_ (fun _ => ?_)
theorem link_read.mono : ∀ a0 k, LeO (link_read.f k a0) (link_read.f (k + 1) a0) := by
  intro a0 k
  have ih0 := link_read.mono_l k
  unfold link_read.f
  repeat' first
      | (with_reducible exact ih0 _ _ _ _)
      | (with_reducible exact crc_Open.mono _ _)
      | (with_reducible exact varint_Get.mono _ _)
      | (with_reducible exact varint_Take.mono _ _)
      | (with_reducible exact LeO.refl _)
      | (with_reducible exact LeO.none _)
      | (with_reducible refine LeO.ite ?_ ?_)
      | (with_reducible refine LeO.bind ?_ (fun _ => ?_))
      | exact ih0 _ _ _ _
      | exact crc_Open.mono _ _
      | exact varint_Get.mono _ _
      | exact varint_Take.mono _ _
      | exact LeO.none _
      | refine LeO.ite ?_ ?_
      | refine LeO.bind ?_ (fun _ => ?_)
set_option maxHeartbeats 8000000 in
set_option maxRecDepth 100000 in
theorem link_read.calls (k : Nat) (a0 : ByteArray) (r1 : Int) (r2 : Int) (r3 : ByteArray) (r4 : Bool) (r5 : Int) (r6 : Bool) (w : World) (h : link_read.f k a0 = some (r1, r2, r3, r4, r5, r6)) :
    Calls Try.prog 48 #[.string a0] w fun e w' => e = .returned (.tuple #[.agg #[.int .u64 r1, .int .u64 r2, .string r3, .bool r4, .int .u64 r5], .bool r6]) ∧ Below w.heap.size w w' := by
  have hu92 := Try.underlying92
  have hu90 := Try.underlying90
  have HB := Aside0.mk (Below.refl w.heap.size w)
  have H : ((crc_Open.f k a0).bind fun bt307 => ((varint_Get.f k bt307.1).bind fun bt309 => ((varint_Get.f k bt309.2.1).bind fun bt312 => (if bt307.2 = 0 then (if bt309.2.2 = 0 then (if bt312.2.2 = 0 then (if bt312.2.1.toList = ([] : List UInt8) then (link_read.j0 k bt312.2.1 bt309.1 bt312.1 true) else (if 0 < (bt312.2.1.size : Int) then (link_read.j0 k bt312.2.1 bt309.1 bt312.1 (decide ((bt bt312.2.1 0) > 1))) else (none))) else (link_read.j0 k bt312.2.1 bt309.1 bt312.1 true)) else (link_read.j0 k bt312.2.1 bt309.1 bt312.1 true)) else (link_read.j0 k bt312.2.1 bt309.1 bt312.1 true))))) = some (r1, r2, r3, r4, r5, r6) := h
  clear h
  replace H := Option.bind_eq_some_iff.mp H
  obtain ⟨⟨t307, t308⟩, A20, H⟩ := H
  replace H : ((varint_Get.f k t307).bind fun bt309 => ((varint_Get.f k bt309.2.1).bind fun bt312 => (if t308 = 0 then (if bt309.2.2 = 0 then (if bt312.2.2 = 0 then (if bt312.2.1.toList = ([] : List UInt8) then (link_read.j0 k bt312.2.1 bt309.1 bt312.1 true) else (if 0 < (bt312.2.1.size : Int) then (link_read.j0 k bt312.2.1 bt309.1 bt312.1 (decide ((bt bt312.2.1 0) > 1))) else (none))) else (link_read.j0 k bt312.2.1 bt309.1 bt312.1 true)) else (link_read.j0 k bt312.2.1 bt309.1 bt312.1 true)) else (link_read.j0 k bt312.2.1 bt309.1 bt312.1 true)))) = some (r1, r2, r3, r4, r5, r6) := H
  have A2 := Aside0.mk A20
  clear A20
  replace H := Option.bind_eq_some_iff.mp H
  obtain ⟨⟨t309, t310, t311⟩, A30, H⟩ := H
  replace H : ((varint_Get.f k t310).bind fun bt312 => (if t308 = 0 then (if t311 = 0 then (if bt312.2.2 = 0 then (if bt312.2.1.toList = ([] : List UInt8) then (link_read.j0 k bt312.2.1 t309 bt312.1 true) else (if 0 < (bt312.2.1.size : Int) then (link_read.j0 k bt312.2.1 t309 bt312.1 (decide ((bt bt312.2.1 0) > 1))) else (none))) else (link_read.j0 k bt312.2.1 t309 bt312.1 true)) else (link_read.j0 k bt312.2.1 t309 bt312.1 true)) else (link_read.j0 k bt312.2.1 t309 bt312.1 true))) = some (r1, r2, r3, r4, r5, r6) := H
  have A3 := Aside0.mk A30
  clear A30
  replace H := Option.bind_eq_some_iff.mp H
  obtain ⟨⟨t312, t313, t314⟩, A40, H⟩ := H
  replace H : (if t308 = 0 then (if t311 = 0 then (if t314 = 0 then (if t313.toList = ([] : List UInt8) then (link_read.j0 k t313 t309 t312 true) else (if 0 < (t313.size : Int) then (link_read.j0 k t313 t309 t312 (decide ((bt t313 0) > 1))) else (none))) else (link_read.j0 k t313 t309 t312 true)) else (link_read.j0 k t313 t309 t312 true)) else (link_read.j0 k t313 t309 t312 true)) = some (r1, r2, r3, r4, r5, r6) := H
  have A4 := Aside0.mk A40
  clear A40
  have HC5 := Aside0.mk H
  clear H
  go_enter Try.func48, Try.ntmps48
  go_upto_region 4 with (first | ((with_reducible refine gate_dst (N := 2) rfl ?_); refine box_event ?hg (N := 2) ?hd (cs := #[.int .u64 0, .int .u64 0, .string (⟨#[]⟩ : ByteArray), .bool false, .int .u64 0]) (t := 92) ?hr ?_; (case hd => rfl); (case hg => rfl); (case hr => first | (go_simp; done) | (go_simp; rfl)); intro gb306 hg w6 hbox hb; have n0_ := Aside0.mk (below_step (by repeat (first | (with_reducible first | exact HB.out | apply below_alloc | apply pw_below_drewN | apply below_drew1) | exact HB.out)) hb); have n1_ := Aside0.mk (hbox); have n2_ := Aside0.mk ((by rw [hg]; exact (below_size (by repeat (first | (with_reducible first | exact HB.out | apply below_alloc | apply pw_below_drewN | apply below_drew1) | exact HB.out))) : w.heap.size ≤ gb306)); have n3_ := Aside0.mk ((by rw [hg]; exact (below_size (by repeat (first | (with_reducible first | exact HB.out | apply below_alloc | apply pw_below_drewN | apply below_drew1) | exact HB.out))) : w.heap.size ≤ gb306)); clear HB; have HB := n0_; have BK306 := n1_; have GW306 := n2_; have GE306 := n3_; clear n0_ n1_ n2_ n3_; clear hb hbox hg) | ((with_reducible refine gate_callee (f := 13) rfl ?_); refine goesL_ (some 17) rfl rfl Try.func13 (by kernel_rfl) rfl #[.string a0] rfl (by (try simp only [List.map_toArray, List.map_cons, List.map_nil]); first | done | rfl | (simp only [List.length_drop, List.length_take]; rfl)) ?_; (with_reducible refine (crc_Open.calls k a0 t307 t308 _ A2.out).mono ?_); rintro e w7 ⟨rfl, hb⟩; refine ⟨_, rfl, ?_⟩; have n0_ := Aside0.mk (blk_below (g := gb306) (o := .cells #[.int .u64 0, .int .u64 0, .string (⟨#[]⟩ : ByteArray), .bool false, .int .u64 0] 92 (0, 0)) (by (with_reducible repeat (first | refine blk_drewN ?_ _ | refine blk_drew ?_ | refine blk_alloc ?_ _)); exact BK306.out) hb); have n1_ := Aside0.mk (below_step (by repeat (first | (with_reducible first | exact HB.out | apply below_alloc | apply pw_below_drewN | apply below_drew1 | refine below_set ?_ GE306.out) | exact HB.out)) hb); clear BK306; clear HB; have BK306 := n0_; have HB := n1_; clear n0_ n1_; (try clear hb); (try clear hb2); (try clear hk); (try clear hi)) | ((with_reducible refine gate_callee (f := 23) rfl ?_); refine goesL_ (some 22) rfl rfl Try.func23 (by kernel_rfl) rfl #[.string t307] rfl (by (try simp only [List.map_toArray, List.map_cons, List.map_nil]); first | done | rfl | (simp only [List.length_drop, List.length_take]; rfl)) ?_; (with_reducible refine (varint_Get.calls k t307 t309 t310 t311 _ A3.out).mono ?_); rintro e w8 ⟨rfl, hb⟩; refine ⟨_, rfl, ?_⟩; have n0_ := Aside0.mk (blk_below (g := gb306) (o := .cells #[.int .u64 0, .int .u64 0, .string (⟨#[]⟩ : ByteArray), .bool false, .int .u64 0] 92 (0, 0)) (by (with_reducible repeat (first | refine blk_drewN ?_ _ | refine blk_drew ?_ | refine blk_alloc ?_ _)); exact BK306.out) hb); have n1_ := Aside0.mk (below_step (by repeat (first | (with_reducible first | exact HB.out | apply below_alloc | apply pw_below_drewN | apply below_drew1 | refine below_set ?_ GE306.out) | exact HB.out)) hb); clear BK306; clear HB; have BK306 := n0_; have HB := n1_; clear n0_ n1_; (try clear hb); (try clear hb2); (try clear hk); (try clear hi)) | ((with_reducible refine gate_callee (f := 23) rfl ?_); refine goesL_ (some 28) rfl rfl Try.func23 (by kernel_rfl) rfl #[.string t310] rfl (by (try simp only [List.map_toArray, List.map_cons, List.map_nil]); first | done | rfl | (simp only [List.length_drop, List.length_take]; rfl)) ?_; (with_reducible refine (varint_Get.calls k t310 t312 t313 t314 _ A4.out).mono ?_); rintro e w9 ⟨rfl, hb⟩; refine ⟨_, rfl, ?_⟩; have n0_ := Aside0.mk (blk_below (g := gb306) (o := .cells #[.int .u64 0, .int .u64 0, .string (⟨#[]⟩ : ByteArray), .bool false, .int .u64 0] 92 (0, 0)) (by (with_reducible repeat (first | refine blk_drewN ?_ _ | refine blk_drew ?_ | refine blk_alloc ?_ _)); exact BK306.out) hb); have n1_ := Aside0.mk (below_step (by repeat (first | (with_reducible first | exact HB.out | apply below_alloc | apply pw_below_drewN | apply below_drew1 | refine below_set ?_ GE306.out) | exact HB.out)) hb); clear BK306; clear HB; have BK306 := n0_; have HB := n1_; clear n0_ n1_; (try clear hb); (try clear hb2); (try clear hk); (try clear hi)))
  (try simp only [Act.put, List.setIfInBounds_toArray, List.set_cons_zero, List.set_cons_succ])
  go_cut [50] (fun v50 wc => ∃ (kq : Nat) (x50_4 : Bool), v50 = .bool x50_4 ∧ Aside0 (link_read.j0 kq t313 t309 t312 x50_4 = some (r1, r2, r3, r4, r5, r6)) ∧ Aside0 (kq ≤ k) ∧ Aside0 (wc.heap[gb306]? = some (.cells #[.int .u64 0, .int .u64 0, .string (⟨#[]⟩ : ByteArray), .bool false, .int .u64 0] 92 (0, 0))) ∧ Aside0 (Below w.heap.size w wc))
  case first =>
    have H := HC5.out
    clear HC5
    by_cases c10 : t308 = 0
    · rw [if_pos c10] at H
      have c10b0 : (t308 == 0) = true := beq_iff_eq.mpr c10
      have c10b1 : (t308 != 0) = false := bne_eq_false_iff_eq.mpr c10
      clear c10
      (first | rw [c10b0] | (simp only [i64_w, i32_w]; rw [c10b0]) | skip)
      by_cases c11 : t311 = 0
      · rw [if_pos c11] at H
        have c11b0 : (t311 == 0) = true := beq_iff_eq.mpr c11
        have c11b1 : (t311 != 0) = false := bne_eq_false_iff_eq.mpr c11
        clear c11
        by_cases c12 : t314 = 0
        · rw [if_pos c12] at H
          have c12b0 : (t314 == 0) = true := beq_iff_eq.mpr c12
          have c12b1 : (t314 != 0) = false := bne_eq_false_iff_eq.mpr c12
          clear c12
          by_cases c13 : t313.toList = ([] : List UInt8)
          · rw [if_pos c13] at H
            have c13b0 : (t313.toList == ([] : List UInt8)) = true := beq_iff_eq.mpr c13
            have c13b1 : (t313.toList != ([] : List UInt8)) = false := bne_eq_false_iff_eq.mpr c13
            clear c13
            have H' := Aside0.mk H
            clear H
            go_wp2
            go_meet
            case rel => exact ⟨_, (true), (by first | rfl | (simp; done) | (simp; omega) | (simp [*]; done)), H', ⟨by first | omega | exact Nat.le_refl _⟩, ⟨by (with_reducible repeat (first | refine blk_drewN ?_ _ | refine blk_drew ?_ | refine blk_alloc ?_ _)); exact BK306.out⟩, ⟨by repeat (first | (with_reducible first | exact HB.out | apply below_alloc | apply pw_below_drewN | apply below_drew1 | refine below_set ?_ GE306.out) | exact HB.out)⟩⟩
          · rw [if_neg c13] at H
            have c13b0 : (t313.toList == ([] : List UInt8)) = false := beq_eq_false_iff_ne.mpr c13
            have c13b1 : (t313.toList != ([] : List UInt8)) = true := bne_iff_ne.mpr c13
            by_cases c14 : 0 < (t313.size : Int)
            · rw [if_pos c14] at H
              have c14b0 : decide (0 < (t313.size : Int)) = true := decide_eq_true c14
              have c14b1 : decide (0 < t313.size) = true := decide_eq_true (by omega)
              clear c14
              have H' := Aside0.mk H
              clear H
              have p15 : 0 ≤ (0 : Int) := (by omega)
              have q15 : 0 < t313.size := (by have : (0 : Int) < (t313.size : Int) := of_decide_eq_true (by first | (with_reducible assumption) | assumption); omega)
              have hx15 : ∀ h : 0 < t313.size, ((t313[0]'h).toNat : Int) = bt t313 0 := bt_at t313 0
              clear p15
              have qi15 : (0 < (t313.size : Int)) = True := eq_true (of_decide_eq_true (by first | (with_reducible assumption) | assumption))
              replace q15 := eq_true q15
              go_wp2
              go_meet
              case rel => exact ⟨_, (decide ((bt t313 0) > 1)), (by first | rfl | (simp; done) | (simp; omega) | (simp [*]; done)), H', ⟨by first | omega | exact Nat.le_refl _⟩, ⟨by (with_reducible repeat (first | refine blk_drewN ?_ _ | refine blk_drew ?_ | refine blk_alloc ?_ _)); exact BK306.out⟩, ⟨by repeat (first | (with_reducible first | exact HB.out | apply below_alloc | apply pw_below_drewN | apply below_drew1 | refine below_set ?_ GE306.out) | exact HB.out)⟩⟩
            · rw [if_neg c14] at H
              exact absurd H (by simp)
        · rw [if_neg c12] at H
          have c12b0 : (t314 == 0) = false := beq_eq_false_iff_ne.mpr c12
          have c12b1 : (t314 != 0) = true := bne_iff_ne.mpr c12
          have H' := Aside0.mk H
          clear H
          go_wp2
          go_meet
          case rel => exact ⟨_, (true), (by first | rfl | (simp; done) | (simp; omega) | (simp [*]; done)), H', ⟨by first | omega | exact Nat.le_refl _⟩, ⟨by (with_reducible repeat (first | refine blk_drewN ?_ _ | refine blk_drew ?_ | refine blk_alloc ?_ _)); exact BK306.out⟩, ⟨by repeat (first | (with_reducible first | exact HB.out | apply below_alloc | apply pw_below_drewN | apply below_drew1 | refine below_set ?_ GE306.out) | exact HB.out)⟩⟩
      · rw [if_neg c11] at H
        have c11b0 : (t311 == 0) = false := beq_eq_false_iff_ne.mpr c11
        have c11b1 : (t311 != 0) = true := bne_iff_ne.mpr c11
        have H' := Aside0.mk H
        clear H
        go_wp2
        go_meet
        case rel => exact ⟨_, (true), (by first | rfl | (simp; done) | (simp; omega) | (simp [*]; done)), H', ⟨by first | omega | exact Nat.le_refl _⟩, ⟨by (with_reducible repeat (first | refine blk_drewN ?_ _ | refine blk_drew ?_ | refine blk_alloc ?_ _)); exact BK306.out⟩, ⟨by repeat (first | (with_reducible first | exact HB.out | apply below_alloc | apply pw_below_drewN | apply below_drew1 | refine below_set ?_ GE306.out) | exact HB.out)⟩⟩
    · rw [if_neg c10] at H
      have c10b0 : (t308 == 0) = false := beq_eq_false_iff_ne.mpr c10
      have c10b1 : (t308 != 0) = true := bne_iff_ne.mpr c10
      (first | rw [c10b0] | (simp only [i64_w, i32_w]; rw [c10b0]) | skip)
      have H' := Aside0.mk H
      clear H
      go_wp2
      go_meet
      case rel => exact ⟨_, (true), (by first | rfl | (simp; done) | (simp; omega) | (simp [*]; done)), H', ⟨by first | omega | exact Nat.le_refl _⟩, ⟨by (with_reducible repeat (first | refine blk_drewN ?_ _ | refine blk_drew ?_ | refine blk_alloc ?_ _)); exact BK306.out⟩, ⟨by repeat (first | (with_reducible first | exact HB.out | apply below_alloc | apply pw_below_drewN | apply below_drew1 | refine below_set ?_ GE306.out) | exact HB.out)⟩⟩
  case rest =>
    clear HC5
    try clear c1
    try clear p1
    try clear q1
    try clear hx1
    try clear qi1
    try clear c2
    try clear p2
    try clear c4
    try clear c10
    try clear c10b0
    try clear c10b1
    try clear c11
    try clear c11b0
    try clear c11b1
    try clear c12
    try clear c12b0
    try clear c12b1
    try clear c13
    try clear c13b0
    try clear c13b1
    try clear c14
    try clear c14b0
    try clear c14b1
    try clear p15
    try clear q15
    try clear hx15
    try clear qi15
    try clear p15
    try clear q15
    obtain ⟨kq, x50_4, rfl, HA, HJ4, BK306, HB⟩ := hcut
    cases kq with
    | zero => exact absurd HA.out (by simp [link_read.j0])
    | succ kj4 =>
      have H := HA.out
      clear HA
      simp only [link_read.j0] at H
      by_cases c16 : x50_4 = true
      · subst c16
        have H1 : (some (0, 0, (⟨#[]⟩ : ByteArray), false, 0, false)) = some (r1, r2, r3, r4, r5, r6) := by rw [if_pos rfl] at H; exact H
        clear H
        have H := H1
        clear H1
        simp only [Option.some.injEq, Prod.mk.injEq] at H
        obtain ⟨rfl, rfl, rfl, rfl, rfl, rfl⟩ := H
        have hcz17_0 : wc.cell? ⟨gb306, 0, none⟩ = some (.int .u64 0) := (blk_cell BK306.out 0).trans rfl
        have hcz17_1 : wc.cell? ⟨gb306, 1, none⟩ = some (.int .u64 0) := (blk_cell BK306.out 1).trans rfl
        have hcz17_2 : wc.cell? ⟨gb306, 2, none⟩ = some (.string (⟨#[]⟩ : ByteArray)) := (blk_cell BK306.out 2).trans rfl
        have hcz17_3 : wc.cell? ⟨gb306, 3, none⟩ = some (.bool false) := (blk_cell BK306.out 3).trans rfl
        have hcz17_4 : wc.cell? ⟨gb306, 4, none⟩ = some (.int .u64 0) := (blk_cell BK306.out 4).trans rfl
        have hfz17_0 := blk_frozen BK306.out 0
        have hfz17_1 := blk_frozen BK306.out 1
        have hfz17_2 := blk_frozen BK306.out 2
        have hfz17_3 := blk_frozen BK306.out 3
        have hfz17_4 := blk_frozen BK306.out 4
        go_wp2
        refine bodyPost_ret (results_ct rfl _ _ gb306 92 #[.int .u64 0, .int .u64 0, .string (⟨#[]⟩ : ByteArray), .bool false, .int .u64 0] (0, 0) _ rfl (by (with_reducible repeat (first | refine blk_drewN ?_ _ | refine blk_drew ?_ | refine blk_alloc ?_ _)); refine blk_put (cs := #[.int .u64 0, .int .u64 0, .string (⟨#[]⟩ : ByteArray), .bool false, .int .u64 0]) ?_ 4 _ rfl; (with_reducible repeat (first | refine blk_drewN ?_ _ | refine blk_drew ?_ | refine blk_alloc ?_ _)); refine blk_put (cs := #[.int .u64 0, .int .u64 0, .string (⟨#[]⟩ : ByteArray), .bool false, .int .u64 0]) ?_ 3 _ rfl; (with_reducible repeat (first | refine blk_drewN ?_ _ | refine blk_drew ?_ | refine blk_alloc ?_ _)); refine blk_put (cs := #[.int .u64 0, .int .u64 0, .string (⟨#[]⟩ : ByteArray), .bool false, .int .u64 0]) ?_ 2 _ rfl; (with_reducible repeat (first | refine blk_drewN ?_ _ | refine blk_drew ?_ | refine blk_alloc ?_ _)); refine blk_put (cs := #[.int .u64 0, .int .u64 0, .string (⟨#[]⟩ : ByteArray), .bool false, .int .u64 0]) ?_ 1 _ rfl; (with_reducible repeat (first | refine blk_drewN ?_ _ | refine blk_drew ?_ | refine blk_alloc ?_ _)); refine blk_put (cs := #[.int .u64 0, .int .u64 0, .string (⟨#[]⟩ : ByteArray), .bool false, .int .u64 0]) ?_ 0 _ rfl; (with_reducible repeat (first | refine blk_drewN ?_ _ | refine blk_drew ?_ | refine blk_alloc ?_ _)); exact BK306.out) Try.underlying92 rfl (by kernel_rfl)) rfl ?_
        exact ⟨by first | rfl | (simp [errW_none, errW_some] <;> rfl) | (simp [*, errW_none, errW_some] <;> rfl), by repeat (first | (with_reducible first | exact HB.out | apply below_alloc | apply pw_below_drewN | apply below_drew1 | refine below_set ?_ GE306.out) | exact HB.out)⟩
      · replace c16 := Bool.eq_false_iff.mpr c16
        subst c16
        have H1 : (if 0 < (t313.size : Int) then (if 1 ≤ (t313.size : Int) then ((varint_Take.f kj4 (t313.extract 1 t313.size)).bind fun bt315 => ((varint_Get.f kj4 bt315.2.1).bind fun bt318 => (if bt315.2.2 = 0 then (if bt318.2.2 = 0 then (if bt318.2.1.toList = ([] : List UInt8) then (some (t309, t312, bt315.1, ((bt t313 0) == 1), bt318.1, true)) else (some (0, 0, (⟨#[]⟩ : ByteArray), false, 0, false))) else (some (0, 0, (⟨#[]⟩ : ByteArray), false, 0, false))) else (some (0, 0, (⟨#[]⟩ : ByteArray), false, 0, false))))) else (none)) else (none)) = some (r1, r2, r3, r4, r5, r6) := by rw [if_neg (show ¬ (false = true) by decide)] at H; exact H
        clear H
        have H := H1
        clear H1
        by_cases c18 : 0 < (t313.size : Int)
        · rw [if_pos c18] at H
          have c18b0 : decide (0 < (t313.size : Int)) = true := decide_eq_true c18
          have c18b1 : decide (0 < t313.size) = true := decide_eq_true (by omega)
          clear c18
          by_cases c20 : 1 ≤ (t313.size : Int)
          · rw [if_pos c20] at H
            have c20b0 := eq_true c20
            have c20b1 : decide (1 ≤ (t313.size : Int)) = true := decide_eq_true c20
            clear c20
            replace H := Option.bind_eq_some_iff.mp H
            obtain ⟨⟨t315, t316, t317⟩, A210, H⟩ := H
            replace H : ((varint_Get.f kj4 t316).bind fun bt318 => (if t317 = 0 then (if bt318.2.2 = 0 then (if bt318.2.1.toList = ([] : List UInt8) then (some (t309, t312, t315, ((bt t313 0) == 1), bt318.1, true)) else (some (0, 0, (⟨#[]⟩ : ByteArray), false, 0, false))) else (some (0, 0, (⟨#[]⟩ : ByteArray), false, 0, false))) else (some (0, 0, (⟨#[]⟩ : ByteArray), false, 0, false)))) = some (r1, r2, r3, r4, r5, r6) := H
            have A21 := Aside0.mk A210
            clear A210
            replace H := Option.bind_eq_some_iff.mp H
            obtain ⟨⟨t318, t319, t320⟩, A220, H⟩ := H
            replace H : (if t317 = 0 then (if t320 = 0 then (if t319.toList = ([] : List UInt8) then (some (t309, t312, t315, ((bt t313 0) == 1), t318, true)) else (some (0, 0, (⟨#[]⟩ : ByteArray), false, 0, false))) else (some (0, 0, (⟨#[]⟩ : ByteArray), false, 0, false))) else (some (0, 0, (⟨#[]⟩ : ByteArray), false, 0, false))) = some (r1, r2, r3, r4, r5, r6) := H
            have A22 := Aside0.mk A220
            clear A220
            by_cases c23 : t317 = 0
            · rw [if_pos c23] at H
              have c23b0 : (t317 == 0) = true := beq_iff_eq.mpr c23
              have c23b1 : (t317 != 0) = false := bne_eq_false_iff_eq.mpr c23
              clear c23
              by_cases c24 : t320 = 0
              · rw [if_pos c24] at H
                have c24b0 : (t320 == 0) = true := beq_iff_eq.mpr c24
                have c24b1 : (t320 != 0) = false := bne_eq_false_iff_eq.mpr c24
                clear c24
                by_cases c25 : t319.toList = ([] : List UInt8)
                · rw [if_pos c25] at H
                  have c25b0 : (t319.toList == ([] : List UInt8)) = true := beq_iff_eq.mpr c25
                  have c25b1 : (t319.toList != ([] : List UInt8)) = false := bne_eq_false_iff_eq.mpr c25
                  clear c25
                  simp only [Option.some.injEq, Prod.mk.injEq] at H
                  obtain ⟨rfl, rfl, rfl, rfl, rfl, rfl⟩ := H
                  have p19 : 0 ≤ (0 : Int) := (by omega)
                  have q19 : 0 < t313.size := (by have : (0 : Int) < (t313.size : Int) := of_decide_eq_true (by first | (with_reducible assumption) | assumption); omega)
                  have hx19 : ∀ h : 0 < t313.size, ((t313[0]'h).toNat : Int) = bt t313 0 := bt_at t313 0
                  clear p19
                  have qi19 : (0 < (t313.size : Int)) = True := eq_true (of_decide_eq_true (by first | (with_reducible assumption) | assumption))
                  replace q19 := eq_true q19
                  go_wp2_with (first | ((with_reducible refine gate_callee (f := 25) rfl ?_); refine goesL_ (some 58) rfl rfl Try.func25 (by kernel_rfl) rfl #[.string (t313.extract 1 t313.size)] rfl (by (try simp only [List.map_toArray, List.map_cons, List.map_nil]); first | done | rfl | (simp only [List.length_drop, List.length_take]; rfl)) ?_; (with_reducible refine (varint_Take.calls kj4 (t313.extract 1 t313.size) t315 t316 t317 _ A21.out).mono ?_); rintro e w26 ⟨rfl, hb⟩; refine ⟨_, rfl, ?_⟩; have n0_ := Aside0.mk (blk_below (g := gb306) (o := .cells #[.int .u64 0, .int .u64 0, .string (⟨#[]⟩ : ByteArray), .bool false, .int .u64 0] 92 (0, 0)) (by (with_reducible repeat (first | refine blk_drewN ?_ _ | refine blk_drew ?_ | refine blk_alloc ?_ _)); exact BK306.out) hb); have n1_ := Aside0.mk (below_step (by repeat (first | (with_reducible first | exact HB.out | apply below_alloc | apply pw_below_drewN | apply below_drew1 | refine below_set ?_ GE306.out) | exact HB.out)) hb); clear BK306; clear HB; have BK306 := n0_; have HB := n1_; clear n0_ n1_; (try clear hb); (try clear hb2); (try clear hk); (try clear hi)) | ((with_reducible refine gate_callee (f := 23) rfl ?_); refine goesL_ (some 64) rfl rfl Try.func23 (by kernel_rfl) rfl #[.string t316] rfl (by (try simp only [List.map_toArray, List.map_cons, List.map_nil]); first | done | rfl | (simp only [List.length_drop, List.length_take]; rfl)) ?_; (with_reducible refine (varint_Get.calls kj4 t316 t318 t319 t320 _ A22.out).mono ?_); rintro e w27 ⟨rfl, hb⟩; refine ⟨_, rfl, ?_⟩; have n0_ := Aside0.mk (blk_below (g := gb306) (o := .cells #[.int .u64 0, .int .u64 0, .string (⟨#[]⟩ : ByteArray), .bool false, .int .u64 0] 92 (0, 0)) (by (with_reducible repeat (first | refine blk_drewN ?_ _ | refine blk_drew ?_ | refine blk_alloc ?_ _)); exact BK306.out) hb); have n1_ := Aside0.mk (below_step (by repeat (first | (with_reducible first | exact HB.out | apply below_alloc | apply pw_below_drewN | apply below_drew1 | refine below_set ?_ GE306.out) | exact HB.out)) hb); clear BK306; clear HB; have BK306 := n0_; have HB := n1_; clear n0_ n1_; (try clear hb); (try clear hb2); (try clear hk); (try clear hi); have hcz28_0 : w27.cell? ⟨gb306, 0, none⟩ = some (.int .u64 0) := (blk_cell BK306.out 0).trans rfl; have hcz28_1 : w27.cell? ⟨gb306, 1, none⟩ = some (.int .u64 0) := (blk_cell BK306.out 1).trans rfl; have hcz28_2 : w27.cell? ⟨gb306, 2, none⟩ = some (.string (⟨#[]⟩ : ByteArray)) := (blk_cell BK306.out 2).trans rfl; have hcz28_3 : w27.cell? ⟨gb306, 3, none⟩ = some (.bool false) := (blk_cell BK306.out 3).trans rfl; have hcz28_4 : w27.cell? ⟨gb306, 4, none⟩ = some (.int .u64 0) := (blk_cell BK306.out 4).trans rfl; have hfz28_0 := blk_frozen BK306.out 0; have hfz28_1 := blk_frozen BK306.out 1; have hfz28_2 := blk_frozen BK306.out 2; have hfz28_3 := blk_frozen BK306.out 3; have hfz28_4 := blk_frozen BK306.out 4))
                  refine bodyPost_ret (results_ct rfl _ _ gb306 92 #[.int .u64 t309, .int .u64 t312, .string t315, .bool ((bt t313 0) == 1), .int .u64 t318] (0, 0) _ rfl (by (with_reducible repeat (first | refine blk_drewN ?_ _ | refine blk_drew ?_ | refine blk_alloc ?_ _)); refine blk_put (cs := #[.int .u64 t309, .int .u64 t312, .string t315, .bool ((bt t313 0) == 1), .int .u64 0]) ?_ 4 _ rfl; (with_reducible repeat (first | refine blk_drewN ?_ _ | refine blk_drew ?_ | refine blk_alloc ?_ _)); refine blk_put (cs := #[.int .u64 t309, .int .u64 t312, .string t315, .bool false, .int .u64 0]) ?_ 3 _ rfl; (with_reducible repeat (first | refine blk_drewN ?_ _ | refine blk_drew ?_ | refine blk_alloc ?_ _)); refine blk_put (cs := #[.int .u64 t309, .int .u64 t312, .string (⟨#[]⟩ : ByteArray), .bool false, .int .u64 0]) ?_ 2 _ rfl; (with_reducible repeat (first | refine blk_drewN ?_ _ | refine blk_drew ?_ | refine blk_alloc ?_ _)); refine blk_put (cs := #[.int .u64 t309, .int .u64 0, .string (⟨#[]⟩ : ByteArray), .bool false, .int .u64 0]) ?_ 1 _ rfl; (with_reducible repeat (first | refine blk_drewN ?_ _ | refine blk_drew ?_ | refine blk_alloc ?_ _)); refine blk_put (cs := #[.int .u64 0, .int .u64 0, .string (⟨#[]⟩ : ByteArray), .bool false, .int .u64 0]) ?_ 0 _ rfl; (with_reducible repeat (first | refine blk_drewN ?_ _ | refine blk_drew ?_ | refine blk_alloc ?_ _)); exact BK306.out) Try.underlying92 rfl (by kernel_rfl)) rfl ?_
                  exact ⟨by first | rfl | (simp [errW_none, errW_some] <;> rfl) | (simp [*, errW_none, errW_some] <;> rfl), by repeat (first | (with_reducible first | exact HB.out | apply below_alloc | apply pw_below_drewN | apply below_drew1 | refine below_set ?_ GE306.out) | exact HB.out)⟩
                · rw [if_neg c25] at H
                  have c25b0 : (t319.toList == ([] : List UInt8)) = false := beq_eq_false_iff_ne.mpr c25
                  have c25b1 : (t319.toList != ([] : List UInt8)) = true := bne_iff_ne.mpr c25
                  simp only [Option.some.injEq, Prod.mk.injEq] at H
                  obtain ⟨rfl, rfl, rfl, rfl, rfl, rfl⟩ := H
                  have p19 : 0 ≤ (0 : Int) := (by omega)
                  have q19 : 0 < t313.size := (by have : (0 : Int) < (t313.size : Int) := of_decide_eq_true (by first | (with_reducible assumption) | assumption); omega)
                  have hx19 : ∀ h : 0 < t313.size, ((t313[0]'h).toNat : Int) = bt t313 0 := bt_at t313 0
                  clear p19
                  have qi19 : (0 < (t313.size : Int)) = True := eq_true (of_decide_eq_true (by first | (with_reducible assumption) | assumption))
                  replace q19 := eq_true q19
                  go_wp2_with (first | ((with_reducible refine gate_callee (f := 25) rfl ?_); refine goesL_ (some 58) rfl rfl Try.func25 (by kernel_rfl) rfl #[.string (t313.extract 1 t313.size)] rfl (by (try simp only [List.map_toArray, List.map_cons, List.map_nil]); first | done | rfl | (simp only [List.length_drop, List.length_take]; rfl)) ?_; (with_reducible refine (varint_Take.calls kj4 (t313.extract 1 t313.size) t315 t316 t317 _ A21.out).mono ?_); rintro e w29 ⟨rfl, hb⟩; refine ⟨_, rfl, ?_⟩; have n0_ := Aside0.mk (blk_below (g := gb306) (o := .cells #[.int .u64 0, .int .u64 0, .string (⟨#[]⟩ : ByteArray), .bool false, .int .u64 0] 92 (0, 0)) (by (with_reducible repeat (first | refine blk_drewN ?_ _ | refine blk_drew ?_ | refine blk_alloc ?_ _)); exact BK306.out) hb); have n1_ := Aside0.mk (below_step (by repeat (first | (with_reducible first | exact HB.out | apply below_alloc | apply pw_below_drewN | apply below_drew1 | refine below_set ?_ GE306.out) | exact HB.out)) hb); clear BK306; clear HB; have BK306 := n0_; have HB := n1_; clear n0_ n1_; (try clear hb); (try clear hb2); (try clear hk); (try clear hi)) | ((with_reducible refine gate_callee (f := 23) rfl ?_); refine goesL_ (some 64) rfl rfl Try.func23 (by kernel_rfl) rfl #[.string t316] rfl (by (try simp only [List.map_toArray, List.map_cons, List.map_nil]); first | done | rfl | (simp only [List.length_drop, List.length_take]; rfl)) ?_; (with_reducible refine (varint_Get.calls kj4 t316 t318 t319 t320 _ A22.out).mono ?_); rintro e w30 ⟨rfl, hb⟩; refine ⟨_, rfl, ?_⟩; have n0_ := Aside0.mk (blk_below (g := gb306) (o := .cells #[.int .u64 0, .int .u64 0, .string (⟨#[]⟩ : ByteArray), .bool false, .int .u64 0] 92 (0, 0)) (by (with_reducible repeat (first | refine blk_drewN ?_ _ | refine blk_drew ?_ | refine blk_alloc ?_ _)); exact BK306.out) hb); have n1_ := Aside0.mk (below_step (by repeat (first | (with_reducible first | exact HB.out | apply below_alloc | apply pw_below_drewN | apply below_drew1 | refine below_set ?_ GE306.out) | exact HB.out)) hb); clear BK306; clear HB; have BK306 := n0_; have HB := n1_; clear n0_ n1_; (try clear hb); (try clear hb2); (try clear hk); (try clear hi); have hcz31_0 : w30.cell? ⟨gb306, 0, none⟩ = some (.int .u64 0) := (blk_cell BK306.out 0).trans rfl; have hcz31_1 : w30.cell? ⟨gb306, 1, none⟩ = some (.int .u64 0) := (blk_cell BK306.out 1).trans rfl; have hcz31_2 : w30.cell? ⟨gb306, 2, none⟩ = some (.string (⟨#[]⟩ : ByteArray)) := (blk_cell BK306.out 2).trans rfl; have hcz31_3 : w30.cell? ⟨gb306, 3, none⟩ = some (.bool false) := (blk_cell BK306.out 3).trans rfl; have hcz31_4 : w30.cell? ⟨gb306, 4, none⟩ = some (.int .u64 0) := (blk_cell BK306.out 4).trans rfl; have hfz31_0 := blk_frozen BK306.out 0; have hfz31_1 := blk_frozen BK306.out 1; have hfz31_2 := blk_frozen BK306.out 2; have hfz31_3 := blk_frozen BK306.out 3; have hfz31_4 := blk_frozen BK306.out 4))
                  refine bodyPost_ret (results_ct rfl _ _ gb306 92 #[.int .u64 0, .int .u64 0, .string (⟨#[]⟩ : ByteArray), .bool false, .int .u64 0] (0, 0) _ rfl (by (with_reducible repeat (first | refine blk_drewN ?_ _ | refine blk_drew ?_ | refine blk_alloc ?_ _)); refine blk_put (cs := #[.int .u64 0, .int .u64 0, .string (⟨#[]⟩ : ByteArray), .bool false, .int .u64 0]) ?_ 4 _ rfl; (with_reducible repeat (first | refine blk_drewN ?_ _ | refine blk_drew ?_ | refine blk_alloc ?_ _)); refine blk_put (cs := #[.int .u64 0, .int .u64 0, .string (⟨#[]⟩ : ByteArray), .bool false, .int .u64 0]) ?_ 3 _ rfl; (with_reducible repeat (first | refine blk_drewN ?_ _ | refine blk_drew ?_ | refine blk_alloc ?_ _)); refine blk_put (cs := #[.int .u64 0, .int .u64 0, .string (⟨#[]⟩ : ByteArray), .bool false, .int .u64 0]) ?_ 2 _ rfl; (with_reducible repeat (first | refine blk_drewN ?_ _ | refine blk_drew ?_ | refine blk_alloc ?_ _)); refine blk_put (cs := #[.int .u64 0, .int .u64 0, .string (⟨#[]⟩ : ByteArray), .bool false, .int .u64 0]) ?_ 1 _ rfl; (with_reducible repeat (first | refine blk_drewN ?_ _ | refine blk_drew ?_ | refine blk_alloc ?_ _)); refine blk_put (cs := #[.int .u64 0, .int .u64 0, .string (⟨#[]⟩ : ByteArray), .bool false, .int .u64 0]) ?_ 0 _ rfl; (with_reducible repeat (first | refine blk_drewN ?_ _ | refine blk_drew ?_ | refine blk_alloc ?_ _)); exact BK306.out) Try.underlying92 rfl (by kernel_rfl)) rfl ?_
                  exact ⟨by first | rfl | (simp [errW_none, errW_some] <;> rfl) | (simp [*, errW_none, errW_some] <;> rfl), by repeat (first | (with_reducible first | exact HB.out | apply below_alloc | apply pw_below_drewN | apply below_drew1 | refine below_set ?_ GE306.out) | exact HB.out)⟩
              · rw [if_neg c24] at H
                have c24b0 : (t320 == 0) = false := beq_eq_false_iff_ne.mpr c24
                have c24b1 : (t320 != 0) = true := bne_iff_ne.mpr c24
                simp only [Option.some.injEq, Prod.mk.injEq] at H
                obtain ⟨rfl, rfl, rfl, rfl, rfl, rfl⟩ := H
                have p19 : 0 ≤ (0 : Int) := (by omega)
                have q19 : 0 < t313.size := (by have : (0 : Int) < (t313.size : Int) := of_decide_eq_true (by first | (with_reducible assumption) | assumption); omega)
                have hx19 : ∀ h : 0 < t313.size, ((t313[0]'h).toNat : Int) = bt t313 0 := bt_at t313 0
                clear p19
                have qi19 : (0 < (t313.size : Int)) = True := eq_true (of_decide_eq_true (by first | (with_reducible assumption) | assumption))
                replace q19 := eq_true q19
                go_wp2_with (first | ((with_reducible refine gate_callee (f := 25) rfl ?_); refine goesL_ (some 58) rfl rfl Try.func25 (by kernel_rfl) rfl #[.string (t313.extract 1 t313.size)] rfl (by (try simp only [List.map_toArray, List.map_cons, List.map_nil]); first | done | rfl | (simp only [List.length_drop, List.length_take]; rfl)) ?_; (with_reducible refine (varint_Take.calls kj4 (t313.extract 1 t313.size) t315 t316 t317 _ A21.out).mono ?_); rintro e w32 ⟨rfl, hb⟩; refine ⟨_, rfl, ?_⟩; have n0_ := Aside0.mk (blk_below (g := gb306) (o := .cells #[.int .u64 0, .int .u64 0, .string (⟨#[]⟩ : ByteArray), .bool false, .int .u64 0] 92 (0, 0)) (by (with_reducible repeat (first | refine blk_drewN ?_ _ | refine blk_drew ?_ | refine blk_alloc ?_ _)); exact BK306.out) hb); have n1_ := Aside0.mk (below_step (by repeat (first | (with_reducible first | exact HB.out | apply below_alloc | apply pw_below_drewN | apply below_drew1 | refine below_set ?_ GE306.out) | exact HB.out)) hb); clear BK306; clear HB; have BK306 := n0_; have HB := n1_; clear n0_ n1_; (try clear hb); (try clear hb2); (try clear hk); (try clear hi)) | ((with_reducible refine gate_callee (f := 23) rfl ?_); refine goesL_ (some 64) rfl rfl Try.func23 (by kernel_rfl) rfl #[.string t316] rfl (by (try simp only [List.map_toArray, List.map_cons, List.map_nil]); first | done | rfl | (simp only [List.length_drop, List.length_take]; rfl)) ?_; (with_reducible refine (varint_Get.calls kj4 t316 t318 t319 t320 _ A22.out).mono ?_); rintro e w33 ⟨rfl, hb⟩; refine ⟨_, rfl, ?_⟩; have n0_ := Aside0.mk (blk_below (g := gb306) (o := .cells #[.int .u64 0, .int .u64 0, .string (⟨#[]⟩ : ByteArray), .bool false, .int .u64 0] 92 (0, 0)) (by (with_reducible repeat (first | refine blk_drewN ?_ _ | refine blk_drew ?_ | refine blk_alloc ?_ _)); exact BK306.out) hb); have n1_ := Aside0.mk (below_step (by repeat (first | (with_reducible first | exact HB.out | apply below_alloc | apply pw_below_drewN | apply below_drew1 | refine below_set ?_ GE306.out) | exact HB.out)) hb); clear BK306; clear HB; have BK306 := n0_; have HB := n1_; clear n0_ n1_; (try clear hb); (try clear hb2); (try clear hk); (try clear hi); have hcz34_0 : w33.cell? ⟨gb306, 0, none⟩ = some (.int .u64 0) := (blk_cell BK306.out 0).trans rfl; have hcz34_1 : w33.cell? ⟨gb306, 1, none⟩ = some (.int .u64 0) := (blk_cell BK306.out 1).trans rfl; have hcz34_2 : w33.cell? ⟨gb306, 2, none⟩ = some (.string (⟨#[]⟩ : ByteArray)) := (blk_cell BK306.out 2).trans rfl; have hcz34_3 : w33.cell? ⟨gb306, 3, none⟩ = some (.bool false) := (blk_cell BK306.out 3).trans rfl; have hcz34_4 : w33.cell? ⟨gb306, 4, none⟩ = some (.int .u64 0) := (blk_cell BK306.out 4).trans rfl; have hfz34_0 := blk_frozen BK306.out 0; have hfz34_1 := blk_frozen BK306.out 1; have hfz34_2 := blk_frozen BK306.out 2; have hfz34_3 := blk_frozen BK306.out 3; have hfz34_4 := blk_frozen BK306.out 4))
                refine bodyPost_ret (results_ct rfl _ _ gb306 92 #[.int .u64 0, .int .u64 0, .string (⟨#[]⟩ : ByteArray), .bool false, .int .u64 0] (0, 0) _ rfl (by (with_reducible repeat (first | refine blk_drewN ?_ _ | refine blk_drew ?_ | refine blk_alloc ?_ _)); refine blk_put (cs := #[.int .u64 0, .int .u64 0, .string (⟨#[]⟩ : ByteArray), .bool false, .int .u64 0]) ?_ 4 _ rfl; (with_reducible repeat (first | refine blk_drewN ?_ _ | refine blk_drew ?_ | refine blk_alloc ?_ _)); refine blk_put (cs := #[.int .u64 0, .int .u64 0, .string (⟨#[]⟩ : ByteArray), .bool false, .int .u64 0]) ?_ 3 _ rfl; (with_reducible repeat (first | refine blk_drewN ?_ _ | refine blk_drew ?_ | refine blk_alloc ?_ _)); refine blk_put (cs := #[.int .u64 0, .int .u64 0, .string (⟨#[]⟩ : ByteArray), .bool false, .int .u64 0]) ?_ 2 _ rfl; (with_reducible repeat (first | refine blk_drewN ?_ _ | refine blk_drew ?_ | refine blk_alloc ?_ _)); refine blk_put (cs := #[.int .u64 0, .int .u64 0, .string (⟨#[]⟩ : ByteArray), .bool false, .int .u64 0]) ?_ 1 _ rfl; (with_reducible repeat (first | refine blk_drewN ?_ _ | refine blk_drew ?_ | refine blk_alloc ?_ _)); refine blk_put (cs := #[.int .u64 0, .int .u64 0, .string (⟨#[]⟩ : ByteArray), .bool false, .int .u64 0]) ?_ 0 _ rfl; (with_reducible repeat (first | refine blk_drewN ?_ _ | refine blk_drew ?_ | refine blk_alloc ?_ _)); exact BK306.out) Try.underlying92 rfl (by kernel_rfl)) rfl ?_
                exact ⟨by first | rfl | (simp [errW_none, errW_some] <;> rfl) | (simp [*, errW_none, errW_some] <;> rfl), by repeat (first | (with_reducible first | exact HB.out | apply below_alloc | apply pw_below_drewN | apply below_drew1 | refine below_set ?_ GE306.out) | exact HB.out)⟩
            · rw [if_neg c23] at H
              have c23b0 : (t317 == 0) = false := beq_eq_false_iff_ne.mpr c23
              have c23b1 : (t317 != 0) = true := bne_iff_ne.mpr c23
              simp only [Option.some.injEq, Prod.mk.injEq] at H
              obtain ⟨rfl, rfl, rfl, rfl, rfl, rfl⟩ := H
              have p19 : 0 ≤ (0 : Int) := (by omega)
              have q19 : 0 < t313.size := (by have : (0 : Int) < (t313.size : Int) := of_decide_eq_true (by first | (with_reducible assumption) | assumption); omega)
              have hx19 : ∀ h : 0 < t313.size, ((t313[0]'h).toNat : Int) = bt t313 0 := bt_at t313 0
              clear p19
              have qi19 : (0 < (t313.size : Int)) = True := eq_true (of_decide_eq_true (by first | (with_reducible assumption) | assumption))
              replace q19 := eq_true q19
              go_wp2_with (first | ((with_reducible refine gate_callee (f := 25) rfl ?_); refine goesL_ (some 58) rfl rfl Try.func25 (by kernel_rfl) rfl #[.string (t313.extract 1 t313.size)] rfl (by (try simp only [List.map_toArray, List.map_cons, List.map_nil]); first | done | rfl | (simp only [List.length_drop, List.length_take]; rfl)) ?_; (with_reducible refine (varint_Take.calls kj4 (t313.extract 1 t313.size) t315 t316 t317 _ A21.out).mono ?_); rintro e w35 ⟨rfl, hb⟩; refine ⟨_, rfl, ?_⟩; have n0_ := Aside0.mk (blk_below (g := gb306) (o := .cells #[.int .u64 0, .int .u64 0, .string (⟨#[]⟩ : ByteArray), .bool false, .int .u64 0] 92 (0, 0)) (by (with_reducible repeat (first | refine blk_drewN ?_ _ | refine blk_drew ?_ | refine blk_alloc ?_ _)); exact BK306.out) hb); have n1_ := Aside0.mk (below_step (by repeat (first | (with_reducible first | exact HB.out | apply below_alloc | apply pw_below_drewN | apply below_drew1 | refine below_set ?_ GE306.out) | exact HB.out)) hb); clear BK306; clear HB; have BK306 := n0_; have HB := n1_; clear n0_ n1_; (try clear hb); (try clear hb2); (try clear hk); (try clear hi)) | ((with_reducible refine gate_callee (f := 23) rfl ?_); refine goesL_ (some 64) rfl rfl Try.func23 (by kernel_rfl) rfl #[.string t316] rfl (by (try simp only [List.map_toArray, List.map_cons, List.map_nil]); first | done | rfl | (simp only [List.length_drop, List.length_take]; rfl)) ?_; (with_reducible refine (varint_Get.calls kj4 t316 t318 t319 t320 _ A22.out).mono ?_); rintro e w36 ⟨rfl, hb⟩; refine ⟨_, rfl, ?_⟩; have n0_ := Aside0.mk (blk_below (g := gb306) (o := .cells #[.int .u64 0, .int .u64 0, .string (⟨#[]⟩ : ByteArray), .bool false, .int .u64 0] 92 (0, 0)) (by (with_reducible repeat (first | refine blk_drewN ?_ _ | refine blk_drew ?_ | refine blk_alloc ?_ _)); exact BK306.out) hb); have n1_ := Aside0.mk (below_step (by repeat (first | (with_reducible first | exact HB.out | apply below_alloc | apply pw_below_drewN | apply below_drew1 | refine below_set ?_ GE306.out) | exact HB.out)) hb); clear BK306; clear HB; have BK306 := n0_; have HB := n1_; clear n0_ n1_; (try clear hb); (try clear hb2); (try clear hk); (try clear hi); have hcz37_0 : w36.cell? ⟨gb306, 0, none⟩ = some (.int .u64 0) := (blk_cell BK306.out 0).trans rfl; have hcz37_1 : w36.cell? ⟨gb306, 1, none⟩ = some (.int .u64 0) := (blk_cell BK306.out 1).trans rfl; have hcz37_2 : w36.cell? ⟨gb306, 2, none⟩ = some (.string (⟨#[]⟩ : ByteArray)) := (blk_cell BK306.out 2).trans rfl; have hcz37_3 : w36.cell? ⟨gb306, 3, none⟩ = some (.bool false) := (blk_cell BK306.out 3).trans rfl; have hcz37_4 : w36.cell? ⟨gb306, 4, none⟩ = some (.int .u64 0) := (blk_cell BK306.out 4).trans rfl; have hfz37_0 := blk_frozen BK306.out 0; have hfz37_1 := blk_frozen BK306.out 1; have hfz37_2 := blk_frozen BK306.out 2; have hfz37_3 := blk_frozen BK306.out 3; have hfz37_4 := blk_frozen BK306.out 4))
              refine bodyPost_ret (results_ct rfl _ _ gb306 92 #[.int .u64 0, .int .u64 0, .string (⟨#[]⟩ : ByteArray), .bool false, .int .u64 0] (0, 0) _ rfl (by (with_reducible repeat (first | refine blk_drewN ?_ _ | refine blk_drew ?_ | refine blk_alloc ?_ _)); refine blk_put (cs := #[.int .u64 0, .int .u64 0, .string (⟨#[]⟩ : ByteArray), .bool false, .int .u64 0]) ?_ 4 _ rfl; (with_reducible repeat (first | refine blk_drewN ?_ _ | refine blk_drew ?_ | refine blk_alloc ?_ _)); refine blk_put (cs := #[.int .u64 0, .int .u64 0, .string (⟨#[]⟩ : ByteArray), .bool false, .int .u64 0]) ?_ 3 _ rfl; (with_reducible repeat (first | refine blk_drewN ?_ _ | refine blk_drew ?_ | refine blk_alloc ?_ _)); refine blk_put (cs := #[.int .u64 0, .int .u64 0, .string (⟨#[]⟩ : ByteArray), .bool false, .int .u64 0]) ?_ 2 _ rfl; (with_reducible repeat (first | refine blk_drewN ?_ _ | refine blk_drew ?_ | refine blk_alloc ?_ _)); refine blk_put (cs := #[.int .u64 0, .int .u64 0, .string (⟨#[]⟩ : ByteArray), .bool false, .int .u64 0]) ?_ 1 _ rfl; (with_reducible repeat (first | refine blk_drewN ?_ _ | refine blk_drew ?_ | refine blk_alloc ?_ _)); refine blk_put (cs := #[.int .u64 0, .int .u64 0, .string (⟨#[]⟩ : ByteArray), .bool false, .int .u64 0]) ?_ 0 _ rfl; (with_reducible repeat (first | refine blk_drewN ?_ _ | refine blk_drew ?_ | refine blk_alloc ?_ _)); exact BK306.out) Try.underlying92 rfl (by kernel_rfl)) rfl ?_
              exact ⟨by first | rfl | (simp [errW_none, errW_some] <;> rfl) | (simp [*, errW_none, errW_some] <;> rfl), by repeat (first | (with_reducible first | exact HB.out | apply below_alloc | apply pw_below_drewN | apply below_drew1 | refine below_set ?_ GE306.out) | exact HB.out)⟩
          · rw [if_neg c20] at H
            exact absurd H (by simp)
        · rw [if_neg c18] at H
          exact absurd H (by simp)

-- NOT PRINTED: function 49 (link_End_take)

-- NOT PRINTED: function 39 (link_End_Receive)

end Go.Proofs.Ytnmnplbjhejejaa.PA
