/- LinkKeeps as the program has it. -/
import Derived.Test.YtnmnplbjhejejaaLkd
import Derived.Deep.QuietTactic
import Derived.BigQuiet
set_option linter.unusedVariables false
set_option linter.unusedSimpArgs false
namespace Go.Proofs.Ytnmnplbjhejejaa.Lk
open Go.RowKit Go.Proofs.YtnmnplbjhejejaaW.PrintWords Go.Proofs.YtnmnplbjhejejaaW.PrintLast Go.Proofs.YtnmnplbjhejejaaW.PrintMore Go.Proofs.Ytnmnplbjhejejaa.PA
attribute [local go_sem] max2_int min2_int max_two min_two max_three min_three max_four min_four

/-- The net at its start: two ends, and nothing. -/
def net0 : NS := ⟨fun _ => newEn 3, fun _ => [], true⟩
def nv0 (hs : Nat) : NV := ⟨fun k => hs + k.val, fun _ => .slice none 0 0, fun _ => .slice none 0 0⟩
theorem net_start (u : World) : IsNet (((u.alloc (.cells (endCells (.slice none 0 0) (newEn 3)) 85)).alloc (.cells (endCells (.slice none 0 0) (newEn 3)) 85)).alloc (.cells (netCells (nv0 u.heap.size) net0) 63)) (u.heap.size + 2) (nv0 u.heap.size) net0 := by
  have h0 := new_end 3 u
  have h1 := new_end 3 (u.alloc (.cells (endCells (.slice none 0 0) (newEn 3)) 85))
  have hs1 : (u.alloc (.cells (endCells (.slice none 0 0) (newEn 3)) 85)).heap.size = u.heap.size + 1 := by simp
  have hs2 : ((u.alloc (.cells (endCells (.slice none 0 0) (newEn 3)) 85)).alloc (.cells (endCells (.slice none 0 0) (newEn 3)) 85)).heap.size = u.heap.size + 2 := by simp
  rw [hs1] at h1
  refine ⟨?_, ?_, ?_, ?_, ?_, ?_, ?_, ?_, ?_, ?_, ?_, ?_⟩
  · rw [← hs2]; exact heap_alloc_new _ _
  · intro k
    match k with
    | 0 => exact (h0.alloc _).alloc _
    | 1 => exact h1.alloc _
  · intro i; exact Rw.nil _ _ _
  · intro k; show u.heap.size + k.val ≠ _; omega
  · intro k k' h; show u.heap.size + k.val ≠ u.heap.size + k'.val; have : k.val ≠ k'.val := fun e => h (Fin.ext e); omega
  all_goals (intros; simp_all [nv0, Value.ownBlock])
theorem net_startB (w : World) (m : Nat) (W : World) (hW : W = ((((w.drewN m).alloc (.cells (endCells (.slice none 0 0) (newEn 3)) 85)).alloc (.cells (endCells (.slice none 0 0) (newEn 3)) 85)).alloc (.cells (netCells (nv0 w.heap.size) net0) 63))) :
    NetB w.heap.size w W (w.heap.size + 2) (nv0 w.heap.size) net0 := by
  subst hW
  refine ⟨net_start (w.drewN m), ⟨by omega, fun k => by show _ ≤ w.heap.size + k.val; omega, fun k g h => by simp [nv0, Value.ownBlock] at h, fun k g h => by simp [nv0, Value.ownBlock] at h⟩, ?_, Nat.le_refl _⟩
  have h1 : Below w.heap.size w (w.drewN m) := ⟨rfl, rfl, rfl, Nat.le_refl _, fun _ _ => rfl⟩
  exact ((h1.alloc (Nat.le_refl _) _).alloc (by simp) _).alloc (by simp; omega) _
theorem Rw.reads {w : World} {v : Value} {l : List ByteArray} (h : Rw w 9 1 v l.length (scells l)) (hm : l.length ≤ 9223372036854775807) : ∃ A c, v = .slice A l.length c ∧ l.length ≤ c ∧ Kd.C Kd.string w A l.length l := by
  obtain ⟨A, c, rfl, hc, hcell⟩ := h.form
  refine ⟨A, c, rfl, hc, Kd.C_of_reads (h1 := fun _ => rfl) (d := ByteArray.empty) ⟨rfl, hm, fun hpos => ?_⟩⟩
  have hg : ∀ j (hj : j < l.length), (scells l)[j]? = some (.string (l.getD j ByteArray.empty)) := by
    intro j hj
    simp [scells, List.getD_eq_getElem?_getD, hj]
  obtain ⟨a, hA, _⟩ := hcell 0 _ (hg 0 hpos)
  refine ⟨a, hA, fun j hj => ?_⟩
  obtain ⟨a', hA', hc'⟩ := hcell j _ (hg j hj)
  rw [hA] at hA'
  obtain rfl := Option.some.inj hA'
  exact hc'

set_option maxHeartbeats 8000000 in
set_option maxRecDepth 100000 in
theorem prefix_quiet (k : Nat) (A0 : Option Addr) (c0 : Nat) (l0 : List ByteArray) (A1 : Option Addr) (c1 : Nat) (l1 : List ByteArray) (r : Bool) (w : World) (hr0 : Kd.C Kd.string w A0 l0.length l0) (hc0 : l0.length ≤ c0) (hr1 : Kd.C Kd.string w A1 l1.length l1) (hc1 : l1.length ≤ c1) (h : knapsacklaw24_prefix.f k l0 l1 = some r) :
    Calls Try.prog 37 #[.slice A0 l0.length c0, .slice A1 l1.length c1] w fun e w' => e = .returned (.bool r) ∧ ∃ m, w' = w.drewN m := by
  unfold knapsacklaw24_prefix.f at h
  by_cases c3 : l0.length ≤ l1.length
  · rw [if_pos c3] at h
    have hlen : (l1.take l0.length).length = l0.length := by rw [List.length_take]; omega
    have info9_ : (Try.prog.info? 9).map (fun i => (i.zero, i.size, i.bytes)) = some (some (.string ⟨#[]⟩), 1, 16) := by kernel_rfl
    obtain ⟨i08, hi08, _, hsz8, _⟩ := info_parts info9_
    obtain ⟨hcut8, hA8, hC8⟩ := print_take_of (P := Try.prog) Value.string (⟨#[]⟩ : ByteArray) 60 9 .i64 Try.underlying60 hi08 hsz8 A1 c1 l1 (l0.length : Int) (by omega) (by omega) hc1
    have hS := (Kd.C_of_reads (h1 := fun _ => rfl) (hA8 _ (Kd.reads_of_C hr1)))
    have hc := knapsackref16_Same.calls k A0 c0 l0 A1 c1 (l1.take l0.length) r w hr0 hc0 hS (by omega) h
    rw [hlen] at hc
    have HC := Aside0.mk hc
    have c3b0 : decide ((l0.length : Int) ≤ (l1.length : Int)) = true := decide_eq_true (by omega)
    have c3b1 : decide (l0.length ≤ l1.length) = true := decide_eq_true c3
    have c3b2 : ((l1.length : Int) < (l0.length : Int)) = False := eq_false (by omega)
    have c3b3 : (l1.length < l0.length) = False := eq_false (by omega)
    have c3b4 : l0.length ≤ c1 := by omega
    clear hS hc hA8 hC8 hcut8 hi08 hsz8
    go_enter Try.func37, Try.ntmps37
    go_wp2_with (first | (go_at_call 41; (with_reducible refine HC.out.mono ?_); rintro e w' ⟨rfl, ⟨nd, rfl⟩⟩))
    go_ret
    exact ⟨rfl, _, rfl⟩
  · rw [if_neg c3] at h
    obtain rfl := Option.some.inj h
    have c3b0 : decide ((l0.length : Int) ≤ (l1.length : Int)) = false := decide_eq_false (by omega)
    have c3b1 : decide (l0.length ≤ l1.length) = false := decide_eq_false c3
    go_enter Try.func37, Try.ntmps37
    go_wp2
    go_ret
    exact ⟨rfl, 0, rfl⟩
end Go.Proofs.Ytnmnplbjhejejaa.Lk
namespace Go.Proofs.Ytnmnplbjhejejaa.PA
open Go.RowKit Go.Proofs.YtnmnplbjhejejaaW.PrintWords Go.Proofs.YtnmnplbjhejejaaW.PrintLast Go.Proofs.YtnmnplbjhejejaaW.PrintMore Go.Proofs.Ytnmnplbjhejejaa.Lk
attribute [local go_sem] max2_int min2_int max_two min_two max_three min_three max_four min_four
def knapsacklaw24_LinkKeeps.l0 : Nat → List S66 → NS → Int → Option Bool
  | 0, _, _, _ => none
  | k + 1, l, N, i =>
    if i < (l.length : Int) then
      if 0 ≤ i then
        (stepF k N (rd_T66 l i)).bind fun N' =>
          if N'.fine = true ∧ (∀ j, (N'.l j).length ≤ 1000000) then
            (knapsacklaw24_prefix.f k (N'.l 4) (N'.l 3)).bind fun a =>
              (knapsacklaw24_prefix.f k (N'.l 5) (N'.l 2)).bind fun b =>
                if a = true ∧ b = true then knapsacklaw24_LinkKeeps.l0 k l N' (wrap64 (i + 1)) else none
          else none
      else none
    else knowsF k
def knapsacklaw24_LinkKeeps.f (k : Nat) (l : List S66) : Option Bool :=
  (knapsacklaw24_few.f k l).bind fun ok => if ok = true then knapsacklaw24_LinkKeeps.l0 k l net0 0 else knowsF k

set_option maxHeartbeats 1600000 in
set_option maxRecDepth 100000 in
theorem knapsacklaw24_LinkKeeps.calls (k : Nat) (A : Option Addr) (c : Nat) (l : List S66) (r : Bool) (w : World) (hr0 : Kd.C k66 w A l.length l) (hc0 : l.length ≤ c) (h : knapsacklaw24_LinkKeeps.f k l = some r) :
    Calls Try.prog 9 #[.slice A l.length c] w fun e w' => e = .returned (.bool r) ∧ Below w.heap.size w w' := by
  unfold knapsacklaw24_LinkKeeps.f at h
  obtain ⟨ok, hok, h⟩ := Option.bind_eq_some_iff.mp h
  have AF := Aside0.mk hok
  have HR := Aside0.mk hr0
  have HC := Aside0.mk hc0
  have HB0 := Aside0.mk (Below.refl w.heap.size w)
  clear hok hr0 hc0
  cases ok with
  | false =>
    rw [if_neg (by simp)] at h
    have AK := Aside0.mk h
    clear h
    go_enter Try.func9, Try.ntmps9
    go_wp2_with (first
      | (go_at_call 33; refine (knapsacklaw24_few.calls k A c l false _ HR.out HC.out AF.out).mono ?_; rintro e w1 ⟨rfl, ⟨m, rfl⟩⟩)
      | (go_at_call 34; refine (new_calls 3 _ (by decide) (by decide)).mono ?_; rintro e w2 ⟨rfl, rfl⟩)
      | (go_at_call 35; refine (knows_calls k r _ AK.out).mono ?_; rintro e w5 ⟨rfl, hb5⟩))
    go_ret
    exact ⟨rfl, below_step (by repeat (first | (with_reducible first | exact HB0.out | apply below_alloc | apply pw_below_drewN | apply below_drew1) | exact HB0.out)) hb5⟩
  | true =>
    rw [if_pos rfl] at h
    have AL := Aside0.mk h
    clear h
    go_enter Try.func9, Try.ntmps9
    go_wp2_with (first
      | (go_at_call 33; refine (knapsacklaw24_few.calls k A c l true _ HR.out HC.out AF.out).mono ?_; rintro e w1 ⟨rfl, ⟨m, rfl⟩⟩)
      | (go_at_call 34; refine (new_calls 3 _ (by decide) (by decide)).mono ?_; rintro e w2 ⟨rfl, rfl⟩))
    go_loopg [5] k (fun kq v5 w' => ∃ (i : Int) (N : NS) (V : NV), v5 = .int .i64 i ∧ Aside0 (knapsacklaw24_LinkKeeps.l0 kq l N i = some r) ∧ Aside0 (kq ≤ k) ∧ Aside0 (NetB w.heap.size w w' (w.heap.size + 1 + 1) V N))
    case atStart => exact ⟨0, net0, nv0 w.heap.size, rfl, AL, ⟨Nat.le_refl _⟩, ⟨net_startB w m _ rfl⟩⟩
    case round =>
      clear AL
      obtain ⟨i, N, V, rfl, HA, HK1, HN⟩ := hrel
      cases gk with
      | zero => exact absurd HA.out (by simp [knapsacklaw24_LinkKeeps.l0])
      | succ k1 =>
        have H := HA.out
        clear HA
        simp only [knapsacklaw24_LinkKeeps.l0] at H
        by_cases c2 : i < (l.length : Int)
        · rw [if_pos c2] at H
          have c2b0 : decide (i < (l.length : Int)) = true := decide_eq_true c2
          by_cases c3 : 0 ≤ i
          · rw [if_pos c3] at H
            replace H := Option.bind_eq_some_iff.mp H
            obtain ⟨N', hst, H⟩ := H
            by_cases c4 : N'.fine = true ∧ (∀ j, (N'.l j).length ≤ 1000000)
            · rw [if_pos c4] at H
              replace H := Option.bind_eq_some_iff.mp H
              obtain ⟨a1, ha1, H⟩ := H
              replace H := Option.bind_eq_some_iff.mp H
              obtain ⟨a2, ha2, H⟩ := H
              by_cases c5 : a1 = true ∧ a2 = true
              · rw [if_pos c5] at H
                obtain ⟨rfl, rfl⟩ := c5
                obtain ⟨ad, e101, hx0, hx1, hx2, hx3, hx4, hx5⟩ := at_T66 (Kd.C_below HR.out (HN.out.bel.mono (Nat.le_refl _))) i c3 c2
                have AS := Aside0.mk hst
                have AP1 := Aside0.mk ha1
                have AP2 := Aside0.mk ha2
                have AN := Aside0.mk H
                have A4 := Aside0.mk c4
                have c3b0 := eq_true c3
                have c2b1 := eq_true c2
                clear c3 c2 hst ha1 ha2 H c4
                cases e101
                go_wp2_with (first | (go_at_call 36; refine (step_calls HN.out AS.out).mono ?_; rintro e w5 ⟨rfl, V5, hN5⟩; have HN5 := Aside0.mk hN5; clear hN5))
                obtain ⟨c0, c1, c2, c3, c4, c5, c6, c7, c8, cf, hnlt⟩ := HN5.out.net.facts
                obtain ⟨B2, d2, hv2, hd2, hC2⟩ := Rw.reads (HN5.out.net.rows 2) (by have := A4.out.2 2; omega)
                obtain ⟨B3, d3, hv3, hd3, hC3⟩ := Rw.reads (HN5.out.net.rows 3) (by have := A4.out.2 3; omega)
                obtain ⟨B4, d4, hv4, hd4, hC4⟩ := Rw.reads (HN5.out.net.rows 4) (by have := A4.out.2 4; omega)
                obtain ⟨B5, d5, hv5, hd5, hC5⟩ := Rw.reads (HN5.out.net.rows 5) (by have := A4.out.2 5; omega)
                rw [hv2] at c4
                rw [hv3] at c5
                rw [hv4] at c6
                rw [hv5] at c7
                rw [A4.out.1] at c8
                have AC2 := Aside0.mk hC2
                have AC3 := Aside0.mk hC3
                have AC4 := Aside0.mk hC4
                have AC5 := Aside0.mk hC5
                clear hv2 hv3 hv4 hv5 hC2 hC3 hC4 hC5 c0 c1 c2 c3 cf hx0 hx1 hx2 hx3 hx4 hx5
                have HP1 := Aside0.mk (fun m => Calls.quiet_of (prefix_quiet k1 B4 d4 (N'.l 4) B3 d3 (N'.l 3) true (w5.drewN m) (Kd.C_drewN AC4.out m) hd4 (Kd.C_drewN AC3.out m) hd3 AP1.out))
                have HP2 := Aside0.mk (fun m => Calls.quiet_of (prefix_quiet k1 B5 d5 (N'.l 5) B2 d2 (N'.l 2) true (w5.drewN m) (Kd.C_drewN AC5.out m) hd5 (Kd.C_drewN AC2.out m) hd2 AP2.out))
                clear hd2 hd3 hd4 hd5
                go_quiet ((go_at_call 37; first | (with_reducible exact HP1.out _) | (with_reducible exact HP2.out _)))
                go_wp2
                go_roundg k1
                case measure => have := HK1.out; omega
                case rel => exact ⟨wrap64 (i + 1), N', V5, rfl, AN, ⟨by have := HK1.out; omega⟩, ⟨NetB.drewN HN5.out _⟩⟩
              · rw [if_neg c5] at H
                exact absurd H (by simp)
            · rw [if_neg c4] at H
              exact absurd H (by simp)
          · rw [if_neg c3] at H
            exact absurd H (by simp)
        · rw [if_neg c2] at H
          have c2b0 : decide (i < (l.length : Int)) = false := decide_eq_false c2
          have AK := Aside0.mk H
          have HB := Aside0.mk HN.out.bel
          clear H c2
          go_wp2_with (first | (go_at_call 35; refine (knows_calls k1 r _ AK.out).mono ?_; rintro e w5 ⟨rfl, hb5⟩))
          go_ret
          exact ⟨rfl, below_step HB.out hb5⟩
end Go.Proofs.Ytnmnplbjhejejaa.PA
