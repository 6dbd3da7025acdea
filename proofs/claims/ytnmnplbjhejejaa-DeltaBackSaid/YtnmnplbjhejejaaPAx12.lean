-- Written by a turned copy of the printer (wip/patchprint.py of this repo), with contracts of this session beside; Lean checks it.
import Derived.Test.YtnmnplbjhejejaaPAx0
import Derived.Test.YtnmnplbjhejejaaPAx5
import Derived.Test.YtnmnplbjhejejaaPAx11
namespace Go.Proofs.Ytnmnplbjhejejaa.PA
open Go.RowKit Go.Proofs.YtnmnplbjhejejaaW.PrintWords Go.Proofs.YtnmnplbjhejejaaW.PrintLast Go.Proofs.YtnmnplbjhejejaaW.PrintMore
attribute [local go_sem] max2_int min2_int max_two min_two max_three min_three max_four min_four   -- for this text's walks alone
set_option linter.unusedVariables false
set_option linter.unusedSimpArgs false

/-! ### delta_steps: function 51, by hand -/
/-- A map from keys to places, the newest first. -/
def dl_look : List (Int × Int) → Int → Option Int
  | [], _ => none
  | x :: l, k => if x.1 = k then some x.2 else dl_look l k
def dl_map : List (Int × Int) → DataW Unit
  | [] => .map []
  | x :: l => (dl_map l).put (.int .u32 x.1) (.lit (.int .i64 x.2))
theorem dl_isMap : ∀ l, Go.Maps.IsMap (dl_map l)
  | [] => Go.Maps.isMap_empty
  | x :: l => (dl_isMap l).put _ _
theorem dl_has : ∀ l k, Go.Maps.has (dl_map l) (.int .u32 k) = (dl_look l k).isSome
  | [], k => rfl
  | x :: l, k => by
    unfold dl_map dl_look
    by_cases h : x.1 = k
    · rw [if_pos h, h, Go.Maps.has_put_same (dl_isMap l) (show WideAt.IsKeyLit (.int .u32 k) from trivial)]; rfl
    · rw [if_neg h, Go.Maps.has_put_other (by intro e; cases e; exact h rfl), dl_has l k]
theorem dl_at : ∀ l k, (dl_map l).atKey (.int .u32 k) (.lit (.int .i64 0)) = .lit (.int .i64 ((dl_look l k).getD 0))
  | [], k => rfl
  | x :: l, k => by
    unfold dl_map dl_look
    by_cases h : x.1 = k
    · rw [if_pos h, h, Go.Maps.atKey_put_same (dl_isMap l) (show WideAt.IsKeyLit (.int .u32 k) from trivial)]; rfl
    · rw [if_neg h, Go.Maps.atKey_put_other (by intro e; cases e; exact h rfl), dl_at l k]
theorem dl_u96 : Try.prog.underlying 96 = some (.map 28 3) := by kernel_rfl
theorem dl_u28 : Try.prog.underlying 28 = some (.int .u32) := by kernel_rfl
theorem dl_u3 : Try.prog.underlying 3 = some (.int .i64) := by kernel_rfl
theorem dl_keyed : Go.Maps.Keyed Try.prog 28 := Go.Maps.int_keyed dl_u28
theorem dl_zero (w : World) : (zeroValue 3).run Try.prog w = .ok (.int .i64 0) w := by kernel_rfl
/-- Block b is such a map. -/
def dl_own (w : World) (b : Nat) (M : List (Int × Int)) : Prop := w.ownsMap Try.prog 28 (plainElem (H := Unit) Try.prog 3) b M.length (dl_map M)
theorem dl_own.drewN {w : World} {b : Nat} {M : List (Int × Int)} (h : dl_own w b M) (n : Nat) : dl_own (w.drewN n) b M := h
theorem dl_own.below {w w' : World} {b : Nat} {M : List (Int × Int)} (h : dl_own w b M) (hb : Below w.heap.size w w') : dl_own w' b M := by
  have hlt : b < w.heap.size := World.ownsMap.lt h
  obtain ⟨es, clock, h1, h2⟩ := h
  exact ⟨es, clock, (hb.block b hlt).trans h1, h2⟩
section
open Go.Maps
variable {w : World} {ops : Array Oper} {rest : List Oper} {o : Oper} {a : Act} {Q : Exit → Act → World → Prop}
theorem dl_lookup (hg : o.guard = none) (m x : Operand) (hop : o.op = Op.lookup 96 m x true) (b : Nat) (M : List (Int × Int)) (hm : a.eval m = .map (some b)) (hown : dl_own w b M) (key : Int) (hx : a.eval x = .int .u32 key)
    (h0 : 0 ≤ key) (h1 : key < 4294967296) (v : Int) (t : Bool) (hv : (dl_look M key).getD 0 = v) (ht : (dl_look M key).isSome = t) (hK : wpList Try.prog ops Q rest (a.put o.dst (.tuple #[.int .i64 v, .bool t])) w) :
    wpList Try.prog ops Q (o :: rest) a w := by
  refine wpList_lookup_own_ok_int w hg m x 96 hop 28 3 .i64 dl_keyed dl_u96 dl_u3 (dl_zero _) b M.length (dl_map M) hm hown _ _ hx (keyOf_int_mk dl_u28 (Go.WalkArith.wf_u32 ⟨h0, by omega⟩)) ?_
  intro c hat _
  rw [dl_at, hv] at hat
  rw [dl_has, ht]
  cases hat
  exact hK
theorem dl_update (hg : o.guard = none) (m x y : Operand) (hop : o.op = Op.mapUpdate 96 m x y) (b : Nat) (M : List (Int × Int)) (hm : a.eval m = .map (some b)) (hown : dl_own w b M) (key v : Int) (hx : a.eval x = .int .u32 key) (hy : a.eval y = .int .i64 v)
    (h0 : 0 ≤ key) (h1 : key < 4294967296) (hv0 : 0 ≤ v) (hv1 : v ≤ 1000000) (hM : M.length ≤ 1000000)
    (hK : ∀ w', dl_own w' b ((key, v) :: M) → w.grownBy w' (some b) → wpList Try.prog ops Q rest (a.put o.dst undef) w') :
    wpList Try.prog ops Q (o :: rest) a w := by
  refine wpList_mapUpdate_own w hg m x y 96 hop 28 3 dl_keyed dl_u96 (plainElem (H := Unit) Try.prog 3) b M.length (dl_map M) hm hown (by unfold maxLen; omega) _ _ _ hx hy (keyOf_int_mk dl_u28 (Go.WalkArith.wf_u32 ⟨h0, by omega⟩)) (.lit (.int .i64 v)) [] (plainElem_int dl_u3 (Go.WalkArith.wf_i64 ⟨by omega, by omega⟩)) ?_
  intro w1 h2 h3
  exact hK w1 h2 h3
end
def delta_steps.l1 : Nat → ByteArray → ByteArray → List (Int × Int) → ByteArray → Int → Int → Option ByteArray
  | 0, _, _, _, _, _, _ => none
  | k + 1, base, text, M, out, fr, i =>
    if wrap64 (i + 4) ≤ (text.size : Int) then
      if 0 ≤ i then
        if i ≤ (text.size : Int) then
          (delta_key.f (text.extract i.toNat text.size)).bind fun key =>
            if 0 ≤ key then
              if key < 4294967296 then
                if (dl_look M key).isSome = true then
                  if 0 ≤ (dl_look M key).getD 0 then
                    if (dl_look M key).getD 0 ≤ (base.size : Int) then
                      (delta_alike.f k (base.extract ((dl_look M key).getD 0).toNat base.size) (text.extract i.toNat text.size)).bind fun n =>
                        if 0 ≤ fr then
                          if fr ≤ i then
                            (delta_plain.f k (text.extract fr.toNat i.toNat)).bind fun p =>
                              (varint_Put.f k (IntKind.u64.wrap (wrap64 (wrap64 (2 * n) + 1)))).bind fun q =>
                                (varint_Put.f k (IntKind.u64.wrap ((dl_look M key).getD 0))).bind fun r =>
                                  if p.size + q.size ≤ 9223372036854775807 then
                                    if p.size + q.size + r.size ≤ 9223372036854775807 then
                                      if out.size + (p.size + q.size + r.size) ≤ 9223372036854775807 then
                                        delta_steps.l1 k base text M (out ++ (p ++ q ++ r)) (wrap64 (i + n)) (wrap64 (i + n))
                                      else none
                                    else none
                                  else none
                          else none
                        else none
                    else none
                  else none
                else delta_steps.l1 k base text M out fr (wrap64 (i + 1))
              else none
            else none
        else none
      else none
    else if 0 ≤ fr then
      if fr ≤ (text.size : Int) then
        (delta_plain.f k (text.extract fr.toNat text.size)).bind fun p => if out.size + p.size ≤ 9223372036854775807 then some (out ++ p) else none
      else none
    else none
def delta_steps.l0 : Nat → ByteArray → ByteArray → List (Int × Int) → Int → Option ByteArray
  | 0, _, _, _, _ => none
  | k + 1, base, text, M, i =>
    if wrap64 (i + 4) ≤ (base.size : Int) then
      if 0 ≤ i then
        if i ≤ (base.size : Int) then
          (delta_key.f (base.extract i.toNat base.size)).bind fun key =>
            if 0 ≤ key then
              if key < 4294967296 then
                if (dl_look M key).isSome = true then delta_steps.l0 k base text M (wrap64 (i + 1))
                else if i ≤ 1000000 then
                  if M.length ≤ 1000000 then delta_steps.l0 k base text ((key, i) :: M) (wrap64 (i + 1)) else none
                else none
              else none
            else none
        else none
      else none
    else delta_steps.l1 k base text M (⟨#[]⟩ : ByteArray) 0 0
def delta_steps.f (k : Nat) (a0 a1 : ByteArray) : Option ByteArray := delta_steps.l0 k a0 a1 [] 0
theorem delta_steps.mono_l1 : ∀ k, (∀ y0 y1 y2 y3 y4 y5, LeO (delta_steps.l1 k y0 y1 y2 y3 y4 y5) (delta_steps.l1 (k + 1) y0 y1 y2 y3 y4 y5))
  | 0 => fun _ _ _ _ _ _ r h => by simp [delta_steps.l1] at h
  | k + 1 => by
    have ih0 := delta_steps.mono_l1 k
    intro y0 y1 y2 y3 y4 y5
    unfold delta_steps.l1
    repeat' first
      | (with_reducible exact ih0 _ _ _ _ _ _)
      | (with_reducible exact delta_alike.mono _ _ _)
      | (with_reducible exact delta_plain.mono _ _)
      | (with_reducible exact varint_Put.mono _ _)
      | (with_reducible exact LeO.refl _)
      | (with_reducible exact LeO.none _)
      | (with_reducible refine LeO.ite ?_ ?_)
      | (with_reducible refine LeO.bind ?_ (fun _ => ?_))
theorem delta_steps.mono_l : ∀ k, (∀ y0 y1 y2 y3, LeO (delta_steps.l0 k y0 y1 y2 y3) (delta_steps.l0 (k + 1) y0 y1 y2 y3))
  | 0 => fun _ _ _ _ r h => by simp [delta_steps.l0] at h
  | k + 1 => by
    have ih0 := delta_steps.mono_l k
    have ih1 := delta_steps.mono_l1 k
    intro y0 y1 y2 y3
    unfold delta_steps.l0
    repeat' first
      | (with_reducible exact ih0 _ _ _ _)
      | (with_reducible exact ih1 _ _ _ _ _ _)
      | (with_reducible exact LeO.refl _)
      | (with_reducible exact LeO.none _)
      | (with_reducible refine LeO.ite ?_ ?_)
      | (with_reducible refine LeO.bind ?_ (fun _ => ?_))
theorem delta_steps.mono : ∀ a0 a1 k, LeO (delta_steps.f k a0 a1) (delta_steps.f (k + 1) a0 a1) := fun a0 a1 k => delta_steps.mono_l k _ _ _ _
set_option maxHeartbeats 8000000 in
set_option maxRecDepth 100000 in
theorem delta_steps.calls (k : Nat) (a0 a1 : ByteArray) (r : ByteArray) (w : World) (h : delta_steps.f k a0 a1 = some r) :
    Calls Try.prog 51 #[.string a0, .string a1] w fun e w' => e = .returned (.string r) ∧ Below w.heap.size w w' := by
  have HB := Aside0.mk (Below.refl w.heap.size w)
  have H' : Aside0 (delta_steps.l0 k a0 a1 [] 0 = some r) := ⟨h⟩
  clear h
  have hmm := @run_makeMap Try.prog
  go_enter Try.func51, Try.ntmps51
  go_wp2
  go_loopg [6] k (fun kq v6 w' => ∃ (i : Int) (M : List (Int × Int)), v6 = .int .i64 i ∧ Aside0 (delta_steps.l0 kq a0 a1 M i = some r) ∧ Aside0 (kq ≤ k) ∧ Aside0 (dl_own w' w.heap.size M) ∧ Aside0 (Below w.heap.size w w'))
  case atStart => exact ⟨0, [], rfl, H', ⟨Nat.le_refl _⟩, ⟨World.ownsMap_made _ _ _ _⟩, ⟨below_alloc HB.out _⟩⟩
  case round =>
    clear H' HB
    obtain ⟨i, M, rfl, HA, HK1, HO, HB⟩ := hrel
    cases gk with
    | zero => exact absurd HA.out (by simp [delta_steps.l0])
    | succ k1 =>
      have H := HA.out
      clear HA
      simp only [delta_steps.l0] at H
      by_cases c1 : wrap64 (i + 4) ≤ (a0.size : Int)
      · rw [if_pos c1] at H
        have c1b0 : decide (wrap64 (i + 4) ≤ (a0.size : Int)) = true := decide_eq_true c1
        clear c1
        by_cases c2 : 0 ≤ i
        · rw [if_pos c2] at H
          have c2b0 := eq_true c2
          have c2b1 : decide (0 ≤ i) = true := decide_eq_true c2
          by_cases c3 : i ≤ (a0.size : Int)
          · rw [if_pos c3] at H
            have c3b0 := eq_true c3
            have c3b1 : decide (i ≤ (a0.size : Int)) = true := decide_eq_true c3
            clear c3
            replace H := Option.bind_eq_some_iff.mp H
            obtain ⟨key, AK0, H⟩ := H
            have AK := Aside0.mk AK0
            clear AK0
            by_cases c4 : 0 ≤ key
            · rw [if_pos c4] at H
              have C4 := Aside0.mk c4
              clear c4
              by_cases c5 : key < 4294967296
              · rw [if_pos c5] at H
                have C5 := Aside0.mk c5
                clear c5
                by_cases c6 : (dl_look M key).isSome = true
                · rw [if_pos c6] at H
                  have C6 := Aside0.mk c6
                  clear c6
                  have H' := Aside0.mk H
                  clear H
                  have C2 := Aside0.mk c2
                  clear c2
                  go_wp2_with (first
                    | ((with_reducible refine gate_callee (f := 53) rfl ?_); refine goesL_ (some 27) rfl rfl Try.func53 (by kernel_rfl) rfl #[.string (a0.extract i.toNat a0.size)] rfl (by (try simp only [List.map_toArray, List.map_cons, List.map_nil]); first | done | rfl | (simp only [List.length_drop, List.length_take]; rfl)) ?_; (with_reducible refine (delta_key.calls (a0.extract i.toNat a0.size) key _ AK.out).mono ?_); rintro e w' ⟨rfl, ⟨nd, rfl⟩⟩; refine ⟨_, rfl, ?_⟩)
                    | (at_lookup; refine dl_lookup rfl _ _ rfl w.heap.size M rfl (dl_own.drewN HO.out _) key rfl C4.out C5.out _ true rfl C6.out ?_))
                  go_roundg k1
                  case measure => have := HK1.out; omega
                  case rel => exact ⟨wrap64 (i + 1), M, rfl, H', ⟨by have := HK1.out; omega⟩, ⟨dl_own.drewN HO.out _⟩, ⟨pw_below_drewN HB.out _⟩⟩
                · rw [if_neg c6] at H
                  have C6 : Aside0 ((dl_look M key).isSome = false) := ⟨by simpa using c6⟩
                  have C6n : Aside0 ((dl_look M key).getD 0 = 0) := ⟨by have := C6.out; cases hd : dl_look M key with | none => rfl | some x => rw [hd] at this; simp at this⟩
                  clear c6
                  by_cases c7 : i ≤ 1000000
                  · rw [if_pos c7] at H
                    have C7 := Aside0.mk c7
                    clear c7
                    by_cases c8 : M.length ≤ 1000000
                    · rw [if_pos c8] at H
                      have C8 := Aside0.mk c8
                      clear c8
                      have H' := Aside0.mk H
                      clear H
                      have C2 := Aside0.mk c2
                      clear c2
                      go_wp2_with (first
                        | ((with_reducible refine gate_callee (f := 53) rfl ?_); refine goesL_ (some 27) rfl rfl Try.func53 (by kernel_rfl) rfl #[.string (a0.extract i.toNat a0.size)] rfl (by (try simp only [List.map_toArray, List.map_cons, List.map_nil]); first | done | rfl | (simp only [List.length_drop, List.length_take]; rfl)) ?_; (with_reducible refine (delta_key.calls (a0.extract i.toNat a0.size) key _ AK.out).mono ?_); rintro e w' ⟨rfl, ⟨nd, rfl⟩⟩; refine ⟨_, rfl, ?_⟩)
                        | (at_lookup; refine dl_lookup rfl _ _ rfl w.heap.size M rfl (dl_own.drewN HO.out _) key rfl C4.out C5.out 0 false C6n.out C6.out ?_)
                        | (at_mapUpdate; refine dl_update rfl _ _ _ rfl w.heap.size M rfl (dl_own.drewN HO.out _) key i rfl rfl C4.out C5.out C2.out C7.out C8.out ?_; intro w1 hown1 hgrow1))
                      go_roundg k1
                      case measure => have := HK1.out; omega
                      case rel => exact ⟨wrap64 (i + 1), (key, i) :: M, rfl, H', ⟨by have := HK1.out; omega⟩, ⟨hown1⟩, ⟨(pw_below_drewN HB.out _).grown hgrow1 (pw_below_drewN HB.out _).size (fun j hj => by cases hj; exact Nat.le_refl _)⟩⟩
                    · rw [if_neg c8] at H
                      exact absurd H (by simp)
                  · rw [if_neg c7] at H
                    exact absurd H (by simp)
              · rw [if_neg c5] at H
                exact absurd H (by simp)
            · rw [if_neg c4] at H
              exact absurd H (by simp)
          · rw [if_neg c3] at H
            exact absurd H (by simp)
        · rw [if_neg c2] at H
          exact absurd H (by simp)
      · rw [if_neg c1] at H
        have c1b0 : decide (wrap64 (i + 4) ≤ (a0.size : Int)) = false := decide_eq_false c1
        clear c1
        have H' := Aside0.mk H
        clear H
        have HKo := HK1
        clear HK1
        go_wp2
        clear c1b0
        go_loopg [10, 11, 12] k1 (fun kq v10 v11 v12 w' => ∃ (out : ByteArray) (fr i : Int), v10 = .string out ∧ v11 = .int .i64 fr ∧ v12 = .int .i64 i ∧ Aside0 (delta_steps.l1 kq a0 a1 M out fr i = some r) ∧ Aside0 (kq ≤ k1) ∧ Aside0 (dl_own w' w.heap.size M) ∧ Aside0 (Below w.heap.size w w'))
        case atStart => exact ⟨_, 0, 0, rfl, rfl, rfl, H', ⟨Nat.le_refl _⟩, HO, HB⟩
        case round =>
          clear H' HB HO HKo
          obtain ⟨out, fr, i, rfl, rfl, rfl, HA, HK1, HO, HB⟩ := hrel
          cases gk with
          | zero => exact absurd HA.out (by simp [delta_steps.l1])
          | succ k2 =>
            have H := HA.out
            clear HA
            simp only [delta_steps.l1] at H
            by_cases c1 : wrap64 (i + 4) ≤ (a1.size : Int)
            · rw [if_pos c1] at H
              have c1b0 : decide (wrap64 (i + 4) ≤ (a1.size : Int)) = true := decide_eq_true c1
              clear c1
              by_cases c2 : 0 ≤ i
              · rw [if_pos c2] at H
                have c2b0 := eq_true c2
                have c2b1 : decide (0 ≤ i) = true := decide_eq_true c2
                clear c2
                by_cases c3 : i ≤ (a1.size : Int)
                · rw [if_pos c3] at H
                  have c3b0 := eq_true c3
                  have c3b1 : decide (i ≤ (a1.size : Int)) = true := decide_eq_true c3
                  clear c3
                  replace H := Option.bind_eq_some_iff.mp H
                  obtain ⟨key, AK0, H⟩ := H
                  have AK := Aside0.mk AK0
                  clear AK0
                  by_cases c4 : 0 ≤ key
                  · rw [if_pos c4] at H
                    have C4 := Aside0.mk c4
                    clear c4
                    by_cases c5 : key < 4294967296
                    · rw [if_pos c5] at H
                      have C5 := Aside0.mk c5
                      clear c5
                      by_cases c6 : (dl_look M key).isSome = true
                      · rw [if_pos c6] at H
                        have C6 := Aside0.mk c6
                        clear c6
                        obtain ⟨at_, hat⟩ : ∃ a, (dl_look M key).getD 0 = a := ⟨_, rfl⟩
                        rw [hat] at H
                        have C6n := Aside0.mk hat
                        clear hat
                        by_cases c7 : 0 ≤ at_
                        · rw [if_pos c7] at H
                          have c7b0 := eq_true c7
                          have c7b1 : decide (0 ≤ at_) = true := decide_eq_true c7
                          clear c7
                          by_cases c8 : at_ ≤ (a0.size : Int)
                          · rw [if_pos c8] at H
                            have c8b0 := eq_true c8
                            have c8b1 : decide (at_ ≤ (a0.size : Int)) = true := decide_eq_true c8
                            clear c8
                            replace H := Option.bind_eq_some_iff.mp H
                            obtain ⟨n, AN0, H⟩ := H
                            have AN := Aside0.mk AN0
                            clear AN0
                            by_cases c9 : 0 ≤ fr
                            · rw [if_pos c9] at H
                              have c9b0 := eq_true c9
                              have c9b1 : decide (0 ≤ fr) = true := decide_eq_true c9
                              clear c9
                              by_cases c10 : fr ≤ i
                              · rw [if_pos c10] at H
                                have c10b0 := eq_true c10
                                have c10b1 : decide (fr ≤ i) = true := decide_eq_true c10
                                clear c10
                                replace H := Option.bind_eq_some_iff.mp H
                                obtain ⟨p, AP0, H⟩ := H
                                have AP := Aside0.mk AP0
                                clear AP0
                                replace H := Option.bind_eq_some_iff.mp H
                                obtain ⟨q, AQ0, H⟩ := H
                                have AQ := Aside0.mk AQ0
                                clear AQ0
                                replace H := Option.bind_eq_some_iff.mp H
                                obtain ⟨t, AT0, H⟩ := H
                                have AT := Aside0.mk AT0
                                clear AT0
                                by_cases c11 : p.size + q.size ≤ 9223372036854775807
                                · rw [if_pos c11] at H
                                  have c11b1 : decide (p.size + q.size ≤ 9223372036854775807) = true := decide_eq_true c11
                                  have c11b2 : (9223372036854775807 < p.size + q.size) = False := eq_false (Nat.not_lt.2 c11)
                                  clear c11
                                  by_cases c12 : p.size + q.size + t.size ≤ 9223372036854775807
                                  · rw [if_pos c12] at H
                                    have c12b1 : decide (p.size + q.size + t.size ≤ 9223372036854775807) = true := decide_eq_true c12
                                    have c12b2 : (9223372036854775807 < p.size + q.size + t.size) = False := eq_false (Nat.not_lt.2 c12)
                                    clear c12
                                    by_cases c13 : out.size + (p.size + q.size + t.size) ≤ 9223372036854775807
                                    · rw [if_pos c13] at H
                                      have c13b1 : decide (out.size + (p.size + q.size + t.size) ≤ 9223372036854775807) = true := decide_eq_true c13
                                      have c13b2 : (9223372036854775807 < out.size + (p.size + q.size + t.size)) = False := eq_false (Nat.not_lt.2 c13)
                                      clear c13
                                      have H' := Aside0.mk H
                                      clear H
                                      go_wp2_with (first
                                        | ((with_reducible refine gate_callee (f := 53) rfl ?_); refine goesL_ (some 49) rfl rfl Try.func53 (by kernel_rfl) rfl #[.string (a1.extract i.toNat a1.size)] rfl (by (try simp only [List.map_toArray, List.map_cons, List.map_nil]); first | done | rfl | (simp only [List.length_drop, List.length_take]; rfl)) ?_; (with_reducible refine (delta_key.calls (a1.extract i.toNat a1.size) key _ AK.out).mono ?_); rintro e w' ⟨rfl, ⟨nd, rfl⟩⟩; refine ⟨_, rfl, ?_⟩)
                                        | (at_lookup; refine dl_lookup rfl _ _ rfl w.heap.size M rfl (dl_own.drewN HO.out _) key rfl C4.out C5.out at_ true C6n.out C6.out ?_))
                                      go_quiet ((go_at_call 54; refine (delta_alike.calls k2 (a0.extract at_.toNat a0.size) (a1.extract i.toNat a1.size) n _ AN.out).mono ?_; rintro e w' ⟨rfl, ⟨md, rfl⟩⟩; exact ⟨rfl, _, by rw [World.drewN_drewN, Nat.add_assoc]⟩))
                                      go_wp2_with (first
                                        | ((with_reducible refine gate_callee (f := 52) rfl ?_); refine goesL_ (some 69) rfl rfl Try.func52 (by kernel_rfl) rfl #[.string (a1.extract fr.toNat i.toNat)] rfl (by (try simp only [List.map_toArray, List.map_cons, List.map_nil]); first | done | rfl | (simp only [List.length_drop, List.length_take]; rfl)) ?_; (with_reducible refine (delta_plain.calls k2 (a1.extract fr.toNat i.toNat) p _ AP.out).mono ?_); rintro e w5 ⟨rfl, hb⟩; refine ⟨_, rfl, ?_⟩; have n0_ := Aside0.mk (below_step (by repeat (first | (with_reducible first | exact HB.out | apply below_alloc | apply pw_below_drewN | apply below_drew1) | exact HB.out)) hb); clear HB; have HB := n0_; clear n0_; have n1_ := Aside0.mk (dl_own.below (by repeat (first | (with_reducible first | exact HO.out | apply dl_own.drewN) | exact HO.out)) hb); clear HO; have HO := n1_; clear n1_; (try clear hb))
                                        | ((with_reducible refine gate_callee (f := 19) rfl ?_); refine goesL_ (some 74) rfl rfl Try.func19 (by kernel_rfl) rfl #[.int .u64 (IntKind.u64.wrap (wrap64 (wrap64 (2 * n) + 1)))] rfl (by (try simp only [List.map_toArray, List.map_cons, List.map_nil]); first | done | rfl | (simp only [List.length_drop, List.length_take]; rfl)) ?_; (with_reducible refine (varint_Put.calls k2 (IntKind.u64.wrap (wrap64 (wrap64 (2 * n) + 1))) q _ AQ.out).mono ?_); rintro e w5 ⟨rfl, hb⟩; refine ⟨_, rfl, ?_⟩; have n0_ := Aside0.mk (below_step (by repeat (first | (with_reducible first | exact HB.out | apply below_alloc | apply pw_below_drewN | apply below_drew1) | exact HB.out)) hb); clear HB; have HB := n0_; clear n0_; have n1_ := Aside0.mk (dl_own.below (by repeat (first | (with_reducible first | exact HO.out | apply dl_own.drewN) | exact HO.out)) hb); clear HO; have HO := n1_; clear n1_; (try clear hb))
                                        | ((with_reducible refine gate_callee (f := 19) rfl ?_); refine goesL_ (some 78) rfl rfl Try.func19 (by kernel_rfl) rfl #[.int .u64 (IntKind.u64.wrap at_)] rfl (by (try simp only [List.map_toArray, List.map_cons, List.map_nil]); first | done | rfl | (simp only [List.length_drop, List.length_take]; rfl)) ?_; (with_reducible refine (varint_Put.calls k2 (IntKind.u64.wrap at_) t _ AT.out).mono ?_); rintro e w5 ⟨rfl, hb⟩; refine ⟨_, rfl, ?_⟩; have n0_ := Aside0.mk (below_step (by repeat (first | (with_reducible first | exact HB.out | apply below_alloc | apply pw_below_drewN | apply below_drew1) | exact HB.out)) hb); clear HB; have HB := n0_; clear n0_; have n1_ := Aside0.mk (dl_own.below (by repeat (first | (with_reducible first | exact HO.out | apply dl_own.drewN) | exact HO.out)) hb); clear HO; have HO := n1_; clear n1_; (try clear hb)))
                                      go_roundg k2
                                      case measure => have := HK1.out; omega
                                      case rel => exact ⟨out ++ (p ++ q ++ t), wrap64 (i + n), wrap64 (i + n), rfl, rfl, rfl, H', ⟨by have := HK1.out; omega⟩, HO, HB⟩
                                    · rw [if_neg c13] at H
                                      exact absurd H (by simp)
                                  · rw [if_neg c12] at H
                                    exact absurd H (by simp)
                                · rw [if_neg c11] at H
                                  exact absurd H (by simp)
                              · rw [if_neg c10] at H
                                exact absurd H (by simp)
                            · rw [if_neg c9] at H
                              exact absurd H (by simp)
                          · rw [if_neg c8] at H
                            exact absurd H (by simp)
                        · rw [if_neg c7] at H
                          exact absurd H (by simp)
                      · rw [if_neg c6] at H
                        have C6 : Aside0 ((dl_look M key).isSome = false) := ⟨by simpa using c6⟩
                        have C6n : Aside0 ((dl_look M key).getD 0 = 0) := ⟨by have := C6.out; cases hd : dl_look M key with | none => rfl | some x => rw [hd] at this; simp at this⟩
                        clear c6
                        have H' := Aside0.mk H
                        clear H
                        go_wp2_with (first
                          | ((with_reducible refine gate_callee (f := 53) rfl ?_); refine goesL_ (some 49) rfl rfl Try.func53 (by kernel_rfl) rfl #[.string (a1.extract i.toNat a1.size)] rfl (by (try simp only [List.map_toArray, List.map_cons, List.map_nil]); first | done | rfl | (simp only [List.length_drop, List.length_take]; rfl)) ?_; (with_reducible refine (delta_key.calls (a1.extract i.toNat a1.size) key _ AK.out).mono ?_); rintro e w' ⟨rfl, ⟨nd, rfl⟩⟩; refine ⟨_, rfl, ?_⟩)
                          | (at_lookup; refine dl_lookup rfl _ _ rfl w.heap.size M rfl (dl_own.drewN HO.out _) key rfl C4.out C5.out 0 false C6n.out C6.out ?_))
                        go_roundg k2
                        case measure => have := HK1.out; omega
                        case rel => exact ⟨out, fr, wrap64 (i + 1), rfl, rfl, rfl, H', ⟨by have := HK1.out; omega⟩, ⟨dl_own.drewN HO.out _⟩, ⟨pw_below_drewN HB.out _⟩⟩
                    · rw [if_neg c5] at H
                      exact absurd H (by simp)
                  · rw [if_neg c4] at H
                    exact absurd H (by simp)
                · rw [if_neg c3] at H
                  exact absurd H (by simp)
              · rw [if_neg c2] at H
                exact absurd H (by simp)
            · rw [if_neg c1] at H
              have c1b0 : decide (wrap64 (i + 4) ≤ (a1.size : Int)) = false := decide_eq_false c1
              clear c1
              by_cases c2 : 0 ≤ fr
              · rw [if_pos c2] at H
                have c2b0 := eq_true c2
                have c2b1 : decide (0 ≤ fr) = true := decide_eq_true c2
                clear c2
                by_cases c3 : fr ≤ (a1.size : Int)
                · rw [if_pos c3] at H
                  have c3b0 := eq_true c3
                  have c3b1 : decide (fr ≤ (a1.size : Int)) = true := decide_eq_true c3
                  clear c3
                  replace H := Option.bind_eq_some_iff.mp H
                  obtain ⟨p, AP0, H⟩ := H
                  have AP := Aside0.mk AP0
                  clear AP0
                  by_cases c4 : out.size + p.size ≤ 9223372036854775807
                  · rw [if_pos c4] at H
                    have c4b1 : decide (out.size + p.size ≤ 9223372036854775807) = true := decide_eq_true c4
                    have c4b2 : (9223372036854775807 < out.size + p.size) = False := eq_false (Nat.not_lt.2 c4)
                    clear c4
                    obtain rfl := Option.some.inj H
                    go_wp2_with (first
                      | ((with_reducible refine gate_callee (f := 52) rfl ?_); refine goesL_ (some 89) rfl rfl Try.func52 (by kernel_rfl) rfl #[.string (a1.extract fr.toNat a1.size)] rfl (by (try simp only [List.map_toArray, List.map_cons, List.map_nil]); first | done | rfl | (simp only [List.length_drop, List.length_take]; rfl)) ?_; (with_reducible refine (delta_plain.calls k2 (a1.extract fr.toNat a1.size) p _ AP.out).mono ?_); rintro e w5 ⟨rfl, hb⟩; refine ⟨_, rfl, ?_⟩; have n0_ := Aside0.mk (below_step (by repeat (first | (with_reducible first | exact HB.out | apply below_alloc | apply pw_below_drewN | apply below_drew1) | exact HB.out)) hb); clear HB; have HB := n0_; clear n0_; have n1_ := Aside0.mk (dl_own.below (by repeat (first | (with_reducible first | exact HO.out | apply dl_own.drewN) | exact HO.out)) hb); clear HO; have HO := n1_; clear n1_; (try clear hb)))
                    go_ret
                    exact ⟨rfl, by repeat (first | (with_reducible first | exact HB.out | apply below_alloc | apply pw_below_drewN | apply below_drew1) | exact HB.out)⟩
                  · rw [if_neg c4] at H
                    exact absurd H (by simp)
                · rw [if_neg c3] at H
                  exact absurd H (by simp)
              · rw [if_neg c2] at H
                exact absurd H (by simp)

/-! ### delta_Make: function 43 -/
def delta_Make.f (k : Nat) (a0 : ByteArray) (a1 : ByteArray) : Option (ByteArray) := (delta_steps.f k a0 a1).bind fun t272 => ((delta_plain.f k a1).bind fun t273 => (if (t273.size : Int) < (t272.size : Int) then ((varint_Put.f k (IntKind.u64.wrap ((a0.size : Int)))).bind fun t274 => ((varint_Put.f k (IntKind.u64.wrap ((a1.size : Int)))).bind fun t275 => (if t274.size + t275.size ≤ 9223372036854775807 then (if (t274 ++ t275).size + t273.size ≤ 9223372036854775807 then (some ((t274 ++ t275) ++ t273)) else (none)) else (none)))) else ((varint_Put.f k (IntKind.u64.wrap ((a0.size : Int)))).bind fun t276 => ((varint_Put.f k (IntKind.u64.wrap ((a1.size : Int)))).bind fun t277 => (if t276.size + t277.size ≤ 9223372036854775807 then (if (t276 ++ t277).size + t272.size ≤ 9223372036854775807 then (some ((t276 ++ t277) ++ t272)) else (none)) else (none))))))
theorem delta_Make.mono : ∀ a0 a1 k, LeO (delta_Make.f k a0 a1) (delta_Make.f (k + 1) a0 a1) := by
  intro a0 a1 k
  unfold delta_Make.f
  repeat' first
      | (with_reducible exact delta_plain.mono _ _)
      | (with_reducible exact delta_steps.mono _ _ _)
      | (with_reducible exact varint_Put.mono _ _)
      | (with_reducible exact LeO.refl _)
      | (with_reducible exact LeO.none _)
      | (with_reducible refine LeO.ite ?_ ?_)
      | (with_reducible refine LeO.bind ?_ (fun _ => ?_))
      | exact delta_plain.mono _ _
      | exact delta_steps.mono _ _ _
      | exact varint_Put.mono _ _
      | exact LeO.none _
      | refine LeO.ite ?_ ?_
      | refine LeO.bind ?_ (fun _ => ?_)
set_option maxHeartbeats 8000000 in
set_option maxRecDepth 100000 in
theorem delta_Make.calls (k : Nat) (a0 : ByteArray) (a1 : ByteArray) (r : ByteArray) (w : World) (h : delta_Make.f k a0 a1 = some r) :
    Calls Try.prog 43 #[.string a0, .string a1] w fun e w' => e = .returned (.string r) ∧ Below w.heap.size w w' := by
  have HB := Aside0.mk (Below.refl w.heap.size w)
  have H : ((delta_steps.f k a0 a1).bind fun t272 => ((delta_plain.f k a1).bind fun t273 => (if (t273.size : Int) < (t272.size : Int) then ((varint_Put.f k (IntKind.u64.wrap ((a0.size : Int)))).bind fun t274 => ((varint_Put.f k (IntKind.u64.wrap ((a1.size : Int)))).bind fun t275 => (if t274.size + t275.size ≤ 9223372036854775807 then (if (t274 ++ t275).size + t273.size ≤ 9223372036854775807 then (some ((t274 ++ t275) ++ t273)) else (none)) else (none)))) else ((varint_Put.f k (IntKind.u64.wrap ((a0.size : Int)))).bind fun t276 => ((varint_Put.f k (IntKind.u64.wrap ((a1.size : Int)))).bind fun t277 => (if t276.size + t277.size ≤ 9223372036854775807 then (if (t276 ++ t277).size + t272.size ≤ 9223372036854775807 then (some ((t276 ++ t277) ++ t272)) else (none)) else (none))))))) = some r := h
  clear h
  replace H := Option.bind_eq_some_iff.mp H
  obtain ⟨t272, A30, H⟩ := H
  replace H : ((delta_plain.f k a1).bind fun t273 => (if (t273.size : Int) < (t272.size : Int) then ((varint_Put.f k (IntKind.u64.wrap ((a0.size : Int)))).bind fun t274 => ((varint_Put.f k (IntKind.u64.wrap ((a1.size : Int)))).bind fun t275 => (if t274.size + t275.size ≤ 9223372036854775807 then (if (t274 ++ t275).size + t273.size ≤ 9223372036854775807 then (some ((t274 ++ t275) ++ t273)) else (none)) else (none)))) else ((varint_Put.f k (IntKind.u64.wrap ((a0.size : Int)))).bind fun t276 => ((varint_Put.f k (IntKind.u64.wrap ((a1.size : Int)))).bind fun t277 => (if t276.size + t277.size ≤ 9223372036854775807 then (if (t276 ++ t277).size + t272.size ≤ 9223372036854775807 then (some ((t276 ++ t277) ++ t272)) else (none)) else (none)))))) = some r := H
  have A3 := Aside0.mk A30
  clear A30
  replace H := Option.bind_eq_some_iff.mp H
  obtain ⟨t273, A40, H⟩ := H
  replace H : (if (t273.size : Int) < (t272.size : Int) then ((varint_Put.f k (IntKind.u64.wrap ((a0.size : Int)))).bind fun t274 => ((varint_Put.f k (IntKind.u64.wrap ((a1.size : Int)))).bind fun t275 => (if t274.size + t275.size ≤ 9223372036854775807 then (if (t274 ++ t275).size + t273.size ≤ 9223372036854775807 then (some ((t274 ++ t275) ++ t273)) else (none)) else (none)))) else ((varint_Put.f k (IntKind.u64.wrap ((a0.size : Int)))).bind fun t276 => ((varint_Put.f k (IntKind.u64.wrap ((a1.size : Int)))).bind fun t277 => (if t276.size + t277.size ≤ 9223372036854775807 then (if (t276 ++ t277).size + t272.size ≤ 9223372036854775807 then (some ((t276 ++ t277) ++ t272)) else (none)) else (none))))) = some r := H
  have A4 := Aside0.mk A40
  clear A40
  by_cases c5 : (t273.size : Int) < (t272.size : Int)
  · rw [if_pos c5] at H
    have c5b0 : decide ((t273.size : Int) < (t272.size : Int)) = true := decide_eq_true c5
    have c5b1 : decide (t273.size < t272.size) = true := decide_eq_true (Int.ofNat_lt.mp c5)
    clear c5
    replace H := Option.bind_eq_some_iff.mp H
    obtain ⟨t274, A60, H⟩ := H
    replace H : ((varint_Put.f k (IntKind.u64.wrap ((a1.size : Int)))).bind fun t275 => (if t274.size + t275.size ≤ 9223372036854775807 then (if (t274 ++ t275).size + t273.size ≤ 9223372036854775807 then (some ((t274 ++ t275) ++ t273)) else (none)) else (none))) = some r := H
    have A6 := Aside0.mk A60
    clear A60
    replace H := Option.bind_eq_some_iff.mp H
    obtain ⟨t275, A70, H⟩ := H
    replace H : (if t274.size + t275.size ≤ 9223372036854775807 then (if (t274 ++ t275).size + t273.size ≤ 9223372036854775807 then (some ((t274 ++ t275) ++ t273)) else (none)) else (none)) = some r := H
    have A7 := Aside0.mk A70
    clear A70
    by_cases c8 : t274.size + t275.size ≤ 9223372036854775807
    · rw [if_pos c8] at H
      have c8b1 : decide (t274.size + t275.size ≤ 9223372036854775807) = true := decide_eq_true c8
      try have c8b2 : (9223372036854775807 < t274.size + t275.size) = False := eq_false (Nat.not_lt.2 c8)
      clear c8
      by_cases c9 : (t274 ++ t275).size + t273.size ≤ 9223372036854775807
      · rw [if_pos c9] at H
        have c9b1 : decide ((t274 ++ t275).size + t273.size ≤ 9223372036854775807) = true := decide_eq_true c9
        try have c9b2 : (9223372036854775807 < (t274 ++ t275).size + t273.size) = False := eq_false (Nat.not_lt.2 c9)
        (try have c9nb2 := c9b2)
        (first | simp only [ByteArray.size_append, ByteArray.size_extract, Nat.sub_zero, Nat.min_self, Int.natCast_add] at c9nb2 | clear c9nb2 | skip)
        clear c9
        obtain rfl := Option.some.inj H
        go_enter Try.func43, Try.ntmps43
        go_wp2_with (first | ((with_reducible refine gate_callee (f := 51) rfl ?_); refine goesL_ (some 9) rfl rfl Try.func51 (by kernel_rfl) rfl #[.string a0, .string a1] rfl (by (try simp only [List.map_toArray, List.map_cons, List.map_nil]); first | done | rfl | (simp only [List.length_drop, List.length_take]; rfl)) ?_; (with_reducible refine (delta_steps.calls k a0 a1 t272 _ A3.out).mono ?_); rintro e w10 ⟨rfl, hb⟩; refine ⟨_, rfl, ?_⟩; have n0_ := Aside0.mk (below_step (by repeat (first | (with_reducible first | exact HB.out | apply below_alloc | apply pw_below_drewN | apply below_drew1) | exact HB.out)) hb); clear HB; have HB := n0_; clear n0_; (try clear hb); (try clear hb2); (try clear hk); (try clear hi)) | ((with_reducible refine gate_callee (f := 52) rfl ?_); refine goesL_ (some 11) rfl rfl Try.func52 (by kernel_rfl) rfl #[.string a1] rfl (by (try simp only [List.map_toArray, List.map_cons, List.map_nil]); first | done | rfl | (simp only [List.length_drop, List.length_take]; rfl)) ?_; (with_reducible refine (delta_plain.calls k a1 t273 _ A4.out).mono ?_); rintro e w11 ⟨rfl, hb⟩; refine ⟨_, rfl, ?_⟩; have n0_ := Aside0.mk (below_step (by repeat (first | (with_reducible first | exact HB.out | apply below_alloc | apply pw_below_drewN | apply below_drew1) | exact HB.out)) hb); clear HB; have HB := n0_; clear n0_; (try clear hb); (try clear hb2); (try clear hk); (try clear hi)) | ((with_reducible refine gate_callee (f := 19) rfl ?_); refine goesL_ (some 21) rfl rfl Try.func19 (by kernel_rfl) rfl #[.int .u64 (IntKind.u64.wrap ((a0.size : Int)))] rfl (by (try simp only [List.map_toArray, List.map_cons, List.map_nil]); first | done | rfl | (simp only [List.length_drop, List.length_take]; rfl)) ?_; (with_reducible refine (varint_Put.calls k (IntKind.u64.wrap ((a0.size : Int))) t274 _ A6.out).mono ?_); rintro e w12 ⟨rfl, hb⟩; refine ⟨_, rfl, ?_⟩; have n0_ := Aside0.mk (below_step (by repeat (first | (with_reducible first | exact HB.out | apply below_alloc | apply pw_below_drewN | apply below_drew1) | exact HB.out)) hb); clear HB; have HB := n0_; clear n0_; (try clear hb); (try clear hb2); (try clear hk); (try clear hi)) | ((with_reducible refine gate_callee (f := 19) rfl ?_); refine goesL_ (some 25) rfl rfl Try.func19 (by kernel_rfl) rfl #[.int .u64 (IntKind.u64.wrap ((a1.size : Int)))] rfl (by (try simp only [List.map_toArray, List.map_cons, List.map_nil]); first | done | rfl | (simp only [List.length_drop, List.length_take]; rfl)) ?_; (with_reducible refine (varint_Put.calls k (IntKind.u64.wrap ((a1.size : Int))) t275 _ A7.out).mono ?_); rintro e w13 ⟨rfl, hb⟩; refine ⟨_, rfl, ?_⟩; have n0_ := Aside0.mk (below_step (by repeat (first | (with_reducible first | exact HB.out | apply below_alloc | apply pw_below_drewN | apply below_drew1) | exact HB.out)) hb); clear HB; have HB := n0_; clear n0_; (try clear hb); (try clear hb2); (try clear hk); (try clear hi)))
        go_ret
        exact ⟨by first | rfl | (simp [errW_none, errW_some] <;> rfl) | (simp [*, errW_none, errW_some] <;> rfl), by repeat (first | (with_reducible first | exact HB.out | apply below_alloc | apply pw_below_drewN | apply below_drew1) | exact HB.out)⟩
      · rw [if_neg c9] at H
        exact absurd H (by simp)
    · rw [if_neg c8] at H
      exact absurd H (by simp)
  · rw [if_neg c5] at H
    have c5b0 : decide ((t273.size : Int) < (t272.size : Int)) = false := decide_eq_false c5
    have c5b1 : decide (t273.size < t272.size) = false := decide_eq_false (fun h => c5 (Int.ofNat_lt.mpr h))
    clear c5
    replace H := Option.bind_eq_some_iff.mp H
    obtain ⟨t276, A140, H⟩ := H
    replace H : ((varint_Put.f k (IntKind.u64.wrap ((a1.size : Int)))).bind fun t277 => (if t276.size + t277.size ≤ 9223372036854775807 then (if (t276 ++ t277).size + t272.size ≤ 9223372036854775807 then (some ((t276 ++ t277) ++ t272)) else (none)) else (none))) = some r := H
    have A14 := Aside0.mk A140
    clear A140
    replace H := Option.bind_eq_some_iff.mp H
    obtain ⟨t277, A150, H⟩ := H
    replace H : (if t276.size + t277.size ≤ 9223372036854775807 then (if (t276 ++ t277).size + t272.size ≤ 9223372036854775807 then (some ((t276 ++ t277) ++ t272)) else (none)) else (none)) = some r := H
    have A15 := Aside0.mk A150
    clear A150
    by_cases c16 : t276.size + t277.size ≤ 9223372036854775807
    · rw [if_pos c16] at H
      have c16b1 : decide (t276.size + t277.size ≤ 9223372036854775807) = true := decide_eq_true c16
      try have c16b2 : (9223372036854775807 < t276.size + t277.size) = False := eq_false (Nat.not_lt.2 c16)
      clear c16
      by_cases c17 : (t276 ++ t277).size + t272.size ≤ 9223372036854775807
      · rw [if_pos c17] at H
        have c17b1 : decide ((t276 ++ t277).size + t272.size ≤ 9223372036854775807) = true := decide_eq_true c17
        try have c17b2 : (9223372036854775807 < (t276 ++ t277).size + t272.size) = False := eq_false (Nat.not_lt.2 c17)
        (try have c17nb2 := c17b2)
        (first | simp only [ByteArray.size_append, ByteArray.size_extract, Nat.sub_zero, Nat.min_self, Int.natCast_add] at c17nb2 | clear c17nb2 | skip)
        clear c17
        obtain rfl := Option.some.inj H
        go_enter Try.func43, Try.ntmps43
        go_wp2_with (first | ((with_reducible refine gate_callee (f := 51) rfl ?_); refine goesL_ (some 9) rfl rfl Try.func51 (by kernel_rfl) rfl #[.string a0, .string a1] rfl (by (try simp only [List.map_toArray, List.map_cons, List.map_nil]); first | done | rfl | (simp only [List.length_drop, List.length_take]; rfl)) ?_; (with_reducible refine (delta_steps.calls k a0 a1 t272 _ A3.out).mono ?_); rintro e w18 ⟨rfl, hb⟩; refine ⟨_, rfl, ?_⟩; have n0_ := Aside0.mk (below_step (by repeat (first | (with_reducible first | exact HB.out | apply below_alloc | apply pw_below_drewN | apply below_drew1) | exact HB.out)) hb); clear HB; have HB := n0_; clear n0_; (try clear hb); (try clear hb2); (try clear hk); (try clear hi)) | ((with_reducible refine gate_callee (f := 52) rfl ?_); refine goesL_ (some 11) rfl rfl Try.func52 (by kernel_rfl) rfl #[.string a1] rfl (by (try simp only [List.map_toArray, List.map_cons, List.map_nil]); first | done | rfl | (simp only [List.length_drop, List.length_take]; rfl)) ?_; (with_reducible refine (delta_plain.calls k a1 t273 _ A4.out).mono ?_); rintro e w19 ⟨rfl, hb⟩; refine ⟨_, rfl, ?_⟩; have n0_ := Aside0.mk (below_step (by repeat (first | (with_reducible first | exact HB.out | apply below_alloc | apply pw_below_drewN | apply below_drew1) | exact HB.out)) hb); clear HB; have HB := n0_; clear n0_; (try clear hb); (try clear hb2); (try clear hk); (try clear hi)) | ((with_reducible refine gate_callee (f := 19) rfl ?_); refine goesL_ (some 21) rfl rfl Try.func19 (by kernel_rfl) rfl #[.int .u64 (IntKind.u64.wrap ((a0.size : Int)))] rfl (by (try simp only [List.map_toArray, List.map_cons, List.map_nil]); first | done | rfl | (simp only [List.length_drop, List.length_take]; rfl)) ?_; (with_reducible refine (varint_Put.calls k (IntKind.u64.wrap ((a0.size : Int))) t276 _ A14.out).mono ?_); rintro e w20 ⟨rfl, hb⟩; refine ⟨_, rfl, ?_⟩; have n0_ := Aside0.mk (below_step (by repeat (first | (with_reducible first | exact HB.out | apply below_alloc | apply pw_below_drewN | apply below_drew1) | exact HB.out)) hb); clear HB; have HB := n0_; clear n0_; (try clear hb); (try clear hb2); (try clear hk); (try clear hi)) | ((with_reducible refine gate_callee (f := 19) rfl ?_); refine goesL_ (some 25) rfl rfl Try.func19 (by kernel_rfl) rfl #[.int .u64 (IntKind.u64.wrap ((a1.size : Int)))] rfl (by (try simp only [List.map_toArray, List.map_cons, List.map_nil]); first | done | rfl | (simp only [List.length_drop, List.length_take]; rfl)) ?_; (with_reducible refine (varint_Put.calls k (IntKind.u64.wrap ((a1.size : Int))) t277 _ A15.out).mono ?_); rintro e w21 ⟨rfl, hb⟩; refine ⟨_, rfl, ?_⟩; have n0_ := Aside0.mk (below_step (by repeat (first | (with_reducible first | exact HB.out | apply below_alloc | apply pw_below_drewN | apply below_drew1) | exact HB.out)) hb); clear HB; have HB := n0_; clear n0_; (try clear hb); (try clear hb2); (try clear hk); (try clear hi)))
        go_ret
        exact ⟨by first | rfl | (simp [errW_none, errW_some] <;> rfl) | (simp [*, errW_none, errW_some] <;> rfl), by repeat (first | (with_reducible first | exact HB.out | apply below_alloc | apply pw_below_drewN | apply below_drew1) | exact HB.out)⟩
      · rw [if_neg c17] at H
        exact absurd H (by simp)
    · rw [if_neg c16] at H
      exact absurd H (by simp)

end Go.Proofs.Ytnmnplbjhejejaa.PA
