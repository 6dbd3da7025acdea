/- DiskApart as the program has it. -/
import Derived.Test.YtaibcfghokhghaaDka
set_option linter.unusedVariables false
set_option linter.unusedSimpArgs false
namespace Go.Proofs.Ytaibcfghokhghaa.Dk
open Go.RowKit Go.Proofs.Ytaibcfghokhghaa.Lk Go.Proofs.YtaibcfghokhghaaW.PrintWords Go.Proofs.YtaibcfghokhghaaW.PrintLast Go.Proofs.YtaibcfghokhghaaW.PrintMore Go.Proofs.Ytaibcfghokhghaa.PA
attribute [local go_sem] max2_int min2_int max_two min_two max_three min_three max_four min_four

theorem new_od {w1 W : World} (hb : Below w1.heap.size w1 W) : Calls Try.prog 6 #[] W fun e w' => ∃ bd, e = .returned (.pointer (some ⟨bd, 0, none⟩)) ∧ OD w1 bd w' (.slice none 0 0) D0 := by
  refine (new_calls W).mono ?_
  rintro e w2 ⟨rfl, rfl⟩
  exact ⟨W.heap.size, rfl, new_disk W, hb.alloc hb.size _, hb.size, fun g hg => by simp [Value.ownBlock] at hg⟩
theorem pl_of {w1 W : World} {bd : Nat} (h : OD w1 bd W (.slice none 0 0) D0) : PL w1 (W.alloc (.cells (dcells (.slice none 0 0) D0) 30)) bd (.slice none 0 0) W.heap.size (.slice none 0 0) D0 D0 := by
  refine ⟨h.d.alloc _, ⟨heap_alloc_new W _, Rw.nil _ _ _, by simp [Value.ownBlock]⟩, h.bel.alloc h.bel.size _, ⟨h.lo, h.bel.size⟩, fun g hg => by simp [Value.ownBlock] at hg, fun g hg => by simp [Value.ownBlock] at hg⟩
theorem few_good (l : List S33) (hl : l.length ≤ 9223372036854775807) : ∃ k b, knapsacklaw21_few.f k l = some b ∧ (b = true → l.length ≤ 60 ∧ ∀ j, (h : j < l.length) → l[j].f2.size ≤ 100) := by
  obtain ⟨b, hb, h⟩ := Dp.few_ev l hl
  obtain ⟨k, hk⟩ := Ev.rounds hb
  exact ⟨k, b, hk, h⟩
theorem few_calls2 {w1 W : World} (hb : Below w1.heap.size w1 W) (k : Nat) (A : Option Addr) (c : Nat) (l : List S33) (r : Bool) (hr : Kd.C k33 w1 A l.length l) (hc : l.length ≤ c) (h : knapsacklaw21_few.f k l = some r) :
    Calls Try.prog 5 #[.slice A l.length c] W fun e w' => e = .returned (.bool r) ∧ Below w1.heap.size w1 w' := by
  refine (knapsacklaw21_few.calls k A c l r W (Kd.C_below hr hb) hc h).mono ?_
  rintro e w' ⟨rfl, ⟨m, rfl⟩⟩
  exact ⟨rfl, pw_below_drewN hb _⟩
abbrev boxw (w : World) (x0 : Int) (x1 x2 : ByteArray) (x3 x4 : Int) : World := w.alloc (.cells (aCells x0 x1 x2 x3 x4) 33)
theorem box_at {w W : World} {x0 x3 x4 : Int} {x1 x2 : ByteArray} (hb : Below (boxw w x0 x1 x2 x3 x4).heap.size (boxw w x0 x1 x2 x3 x4) W) : W.cell? ⟨w.heap.size, 1, none⟩ = some (.string x1) ∧ W.cell? ⟨w.heap.size, 2, none⟩ = some (.string x2) ∧ W.cell? ⟨w.heap.size, 4, none⟩ = some (.int .i64 x4) := by
  have h : W.heap[w.heap.size]? = some (.cells (aCells x0 x1 x2 x3 x4) 33 (0, 0)) := (hb.block _ (by simp)).trans (heap_alloc_new w _)
  refine ⟨?_, ?_, ?_⟩ <;> simp [World.cell?, h]
theorem box_far {w W : World} {x0 x3 x4 : Int} {x1 x2 : ByteArray} (hb : Below (boxw w x0 x1 x2 x3 x4).heap.size (boxw w x0 x1 x2 x3 x4) W) : Below w.heap.size w W :=
  ((Below.refl w.heap.size w).alloc (Nat.le_refl _) _).trans (hb.mono (by simp))

set_option maxHeartbeats 4000000 in
set_option maxRecDepth 100000 in
/-- The arguments are not such as are gone through. -/
theorem apart_no (k0 k1 : Nat) (A0 : Option Addr) (c0 : Nat) (l0 : List S33) (A1 : Option Addr) (c1 : Nat) (l1 : List S33) (x0 : Int) (x1 x2 : ByteArray) (x3 x4 : Int) (ra rb : Bool) (w : World)
    (hr0 : Kd.C k33 w A0 l0.length l0) (hc0 : l0.length ≤ c0) (hr1 : Kd.C k33 w A1 l1.length l1) (hc1 : l1.length ≤ c1) (h0 : knapsacklaw21_few.f k0 l0 = some ra) (h1 : knapsacklaw21_few.f k1 l1 = some rb)
    (h : ra = false ∨ rb = false ∨ 20 < x1.size ∨ 100 < x2.size) :
    Calls Try.prog 4 #[.slice A0 l0.length c0, .slice A1 l1.length c1, .agg #[.int .u8 x0, .string x1, .string x2, .int .i64 x3, .int .i64 x4]] w fun e w' => e = .returned (.bool true) ∧ Below w.heap.size w w' := by
  have hbx : Below w.heap.size w (boxw w x0 x1 x2 x3 x4) := (Below.refl _ _).alloc (Nat.le_refl _) _
  have HR0 := Aside0.mk (Kd.C_below hr0 hbx)
  have HR1 := Aside0.mk (Kd.C_below hr1 hbx)
  have H0 := Aside0.mk h0
  have H1 := Aside0.mk h1
  clear hr0 hr1 h0 h1 hbx
  have hs1 : x1.size ≤ 20 ∨ 20 < x1.size := by omega
  have hs2 : x2.size ≤ 100 ∨ 100 < x2.size := by omega
  have e1 : ∀ (q : x1.size ≤ 20), decide ((20 : Int) < (x1.size : Int)) = false := fun q => decide_eq_false (by omega)
  have e2 : ∀ (q : 20 < x1.size), decide ((20 : Int) < (x1.size : Int)) = true := fun q => decide_eq_true (by omega)
  have e3 : ∀ (q : x2.size ≤ 100), decide ((100 : Int) < (x2.size : Int)) = false := fun q => decide_eq_false (by omega)
  have e4 : ∀ (q : 100 < x2.size), decide ((100 : Int) < (x2.size : Int)) = true := fun q => decide_eq_true (by omega)
  have key : ∀ (q : ra = false ∨ (ra = true ∧ rb = false) ∨ (ra = true ∧ rb = true ∧ 20 < x1.size) ∨ (ra = true ∧ rb = true ∧ x1.size ≤ 20 ∧ 100 < x2.size)), Calls Try.prog 4 #[.slice A0 l0.length c0, .slice A1 l1.length c1, .agg #[.int .u8 x0, .string x1, .string x2, .int .i64 x3, .int .i64 x4]] w fun e w' => e = .returned (.bool true) ∧ Below w.heap.size w w' := by
    intro q
    clear h hs1 hs2
    rcases q with rfl | ⟨rfl, rfl⟩ | ⟨rfl, rfl, q1⟩ | ⟨rfl, rfl, q1, q2⟩
    · clear e1 e2 e3 e4
      go_enter Try.func4, Try.ntmps4
      go_wp2_with (first
        | (go_at_call 5; refine (few_calls2 HBa.out k1 A1 c1 l1 _ HR1.out hc1 H1.out).mono ?_; rintro e wb ⟨rfl, hb2⟩; have HBb := Aside0.mk hb2; clear hb2)
        | (go_at_call 5; refine (few_calls2 (w1 := boxw w x0 x1 x2 x3 x4) (Below.refl _ _) k0 A0 c0 l0 _ HR0.out hc0 H0.out).mono ?_; rintro e wa ⟨rfl, hb1⟩; have HBa := Aside0.mk hb1; clear hb1)
        | (go_at_call 6; refine (new_od HBb.out).mono ?_; rintro e w2 ⟨bd, rfl, hod⟩; have HOD := Aside0.mk hod; clear hod)
        | (go_at_call 7; refine (knows_calls _).mono ?_; rintro e w5 ⟨rfl, hb5⟩))
      go_ret
      exact ⟨rfl, below_step (box_far HOD.out.bel) hb5⟩
    · clear e1 e2 e3 e4
      go_enter Try.func4, Try.ntmps4
      go_wp2_with (first
        | (go_at_call 5; refine (few_calls2 HBa.out k1 A1 c1 l1 _ HR1.out hc1 H1.out).mono ?_; rintro e wb ⟨rfl, hb2⟩; have HBb := Aside0.mk hb2; clear hb2)
        | (go_at_call 5; refine (few_calls2 (w1 := boxw w x0 x1 x2 x3 x4) (Below.refl _ _) k0 A0 c0 l0 _ HR0.out hc0 H0.out).mono ?_; rintro e wa ⟨rfl, hb1⟩; have HBa := Aside0.mk hb1; clear hb1)
        | (go_at_call 6; refine (new_od HBb.out).mono ?_; rintro e w2 ⟨bd, rfl, hod⟩; have HOD := Aside0.mk hod; clear hod)
        | (go_at_call 7; refine (knows_calls _).mono ?_; rintro e w5 ⟨rfl, hb5⟩))
      go_ret
      exact ⟨rfl, below_step (box_far HOD.out.bel) hb5⟩
    · have g1 := e2 q1
      clear e1 e2 e3 e4
      go_enter Try.func4, Try.ntmps4
      go_wp2_with (first
        | (go_at_call 5; refine (few_calls2 HBa.out k1 A1 c1 l1 _ HR1.out hc1 H1.out).mono ?_; rintro e wb ⟨rfl, hb2⟩; have HBb := Aside0.mk hb2; clear hb2)
        | (go_at_call 5; refine (few_calls2 (w1 := boxw w x0 x1 x2 x3 x4) (Below.refl _ _) k0 A0 c0 l0 _ HR0.out hc0 H0.out).mono ?_; rintro e wa ⟨rfl, hb1⟩; have HBa := Aside0.mk hb1; clear hb1)
        | (go_at_call 6; refine (new_od HBb.out).mono ?_; rintro e w2 ⟨bd, rfl, hod⟩; have HOD := Aside0.mk hod; obtain ⟨y1, y2, y3⟩ := box_at hod.bel; clear hod)
        | (go_at_call 7; refine (knows_calls _).mono ?_; rintro e w5 ⟨rfl, hb5⟩))
      go_ret
      exact ⟨rfl, below_step (box_far HOD.out.bel) hb5⟩
    · have g1 := e1 q1
      have g2 := e4 q2
      clear e1 e2 e3 e4
      go_enter Try.func4, Try.ntmps4
      go_wp2_with (first
        | (go_at_call 5; refine (few_calls2 HBa.out k1 A1 c1 l1 _ HR1.out hc1 H1.out).mono ?_; rintro e wb ⟨rfl, hb2⟩; have HBb := Aside0.mk hb2; clear hb2)
        | (go_at_call 5; refine (few_calls2 (w1 := boxw w x0 x1 x2 x3 x4) (Below.refl _ _) k0 A0 c0 l0 _ HR0.out hc0 H0.out).mono ?_; rintro e wa ⟨rfl, hb1⟩; have HBa := Aside0.mk hb1; clear hb1)
        | (go_at_call 6; refine (new_od HBb.out).mono ?_; rintro e w2 ⟨bd, rfl, hod⟩; have HOD := Aside0.mk hod; obtain ⟨y1, y2, y3⟩ := box_at hod.bel; clear hod)
        | (go_at_call 7; refine (knows_calls _).mono ?_; rintro e w5 ⟨rfl, hb5⟩))
      go_ret
      exact ⟨rfl, below_step (box_far HOD.out.bel) hb5⟩
  apply key
  cases ra with
  | false => exact .inl rfl
  | true =>
    cases rb with
    | false => exact .inr (.inl ⟨rfl, rfl⟩)
    | true =>
      rcases hs1 with q | q
      · rcases hs2 with q2 | q2
        · rcases h with h | h | h | h
          · simp at h
          · simp at h
          · omega
          · omega
        · exact .inr (.inr (.inr ⟨rfl, rfl, q, q2⟩))
      · exact .inr (.inr (.inl ⟨rfl, rfl, q⟩))
end Go.Proofs.Ytaibcfghokhghaa.Dk
