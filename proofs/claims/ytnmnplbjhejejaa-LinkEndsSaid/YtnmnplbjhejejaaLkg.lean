/- LinkEnds as the program has it. Printed by wip/gen_ends.py. -/
import Derived.Test.YtnmnplbjhejejaaLkf
import Derived.Test.YtnmnplbjhejejaaPAx17
set_option linter.unusedVariables false
set_option linter.unusedSimpArgs false
namespace Go.Proofs.Ytnmnplbjhejejaa.Lk
open Go.RowKit Go.Proofs.YtnmnplbjhejejaaW.PrintWords Go.Proofs.YtnmnplbjhejejaaW.PrintLast Go.Proofs.YtnmnplbjhejejaaW.PrintMore Go.Proofs.Ytnmnplbjhejejaa.PA
def halfF (k : Nat) (N : NS) (K O : Fin 2) (t : Fin 6) : Option NS :=
  (tickF k (N.e K)).bind fun s => (recvF k (N.e O) s).bind fun r =>
    if r.2.2 = true ∧ r.2.1.length ≤ 1 ∧ N.fine = true ∧ (N.l t).length ≤ 1000000 then some { N with e := upd N.e O r.1, l := upd N.l t (N.l t ++ r.2.1), fine := true } else none
theorem halfF_open {k : Nat} {N N' : NS} {K O : Fin 2} {t : Fin 6} (h : halfF k N K O t = some N') :
    ∃ s E' r, tickF k (N.e K) = some s ∧ recvF k (N.e O) s = some (E', r, true) ∧ (r = [] ∨ ∃ m, r = [m]) ∧ N.fine = true ∧ (N.l t).length ≤ 1000000 ∧ N' = { N with e := upd N.e O E', l := upd N.l t (N.l t ++ r), fine := true } := by
  unfold halfF at h
  obtain ⟨s, hs, h⟩ := Option.bind_eq_some_iff.mp h
  obtain ⟨⟨E', r, ok⟩, hr, h⟩ := Option.bind_eq_some_iff.mp h
  by_cases hc : ok = true ∧ r.length ≤ 1 ∧ N.fine = true ∧ (N.l t).length ≤ 1000000
  · rw [if_pos hc] at h
    obtain ⟨rfl, h1, h2, h3⟩ := hc
    refine ⟨s, E', r, hs, hr, ?_, h2, h3, (Option.some.inj h).symm⟩
    match r, h1 with
    | [], _ => exact .inl rfl
    | [m], _ => exact .inr ⟨m, rfl⟩
    | _ :: _ :: _, h => exact absurd h (by simp)
  · rw [if_neg hc] at h
    exact absurd h (by simp)
theorem quiet_more {P : Program} {f : FuncId} {args : Array Value} {w : World} {a n : Nat} {v : Value} (h : Calls P f args (w.drewN (a + n)) fun e w' => e = .returned v ∧ Drawn0 (w.drewN (a + n)) w') :
    Calls P f args (w.drewN (a + n)) fun e w'' => e = .returned v ∧ ∃ m, w'' = w.drewN (a + m) :=
  h.mono fun _ _ ⟨he, hm⟩ => ⟨he, by obtain ⟨m, hm⟩ := hm.out; exact ⟨n + m, by rw [hm, World.drewN_drewN, Nat.add_assoc]⟩⟩
theorem net_ends {B : Nat} {w0 w' : World} {n : Nat} {V : NV} {N : NS} (h : NetB B w0 w' n V N) :
    w'.cell? ⟨n, 0, none⟩ = some (.pointer (some ⟨V.b 0, 0, none⟩)) ∧ w'.cell? ⟨n, 1, none⟩ = some (.pointer (some ⟨V.b 1, 0, none⟩)) := by
  obtain ⟨c0, c1, c2, c3, c4, c5, c6, c7, c8, cf, hnlt⟩ := h.net.facts
  exact ⟨c0, c1⟩
end Go.Proofs.Ytnmnplbjhejejaa.Lk
namespace Go.Proofs.Ytnmnplbjhejejaa.PA
open Go.RowKit Go.Proofs.YtnmnplbjhejejaaW.PrintWords Go.Proofs.YtnmnplbjhejejaaW.PrintLast Go.Proofs.YtnmnplbjhejejaaW.PrintMore Go.Proofs.Ytnmnplbjhejejaa.Lk
attribute [local go_sem] max2_int min2_int max_two min_two max_three min_three max_four min_four
def knapsacklaw24_LinkEnds.r0 : Nat → NS → Int → Int → Option Bool
  | 0, _, _, _ => none
  | k + 1, N, parts, i =>
    if i ≤ parts then
      (halfF k N 0 1 5).bind fun N1 => (halfF k N1 1 0 4).bind fun N2 => knapsacklaw24_LinkEnds.r0 k N2 parts (wrap64 (i + 1))
    else
      if N.fine = true ∧ (∀ j, (N.l j).length ≤ 1000000) then
        (knapsackref16_Same.f k (N.l 4) (N.l 3)).bind fun one => (knapsackref16_Same.f k (N.l 5) (N.l 2)).bind fun two => (knowsF k).bind fun kn =>
          if one = true ∧ two = true ∧ kn = true ∧ (N.e 0).parts.length = 0 ∧ (N.e 1).parts.length = 0 then some true else none
      else none
def knapsacklaw24_LinkEnds.l0 : Nat → List S66 → NS → Int → Int → Option Bool
  | 0, _, _, _, _ => none
  | k + 1, l, N, parts, i =>
    if i < (l.length : Int) then
      if 0 ≤ i then
        (stepF k N (rd_T66 l i)).bind fun N' =>
          if Int.tmod (rd_T66 l i).f0 6 = 0 then
            (knapsackref24_Parts.f k (rd_T66 l i).f2).bind fun ps => knapsacklaw24_LinkEnds.l0 k l N' (wrap64 (parts + (ps.length : Int))) (wrap64 (i + 1))
          else knapsacklaw24_LinkEnds.l0 k l N' parts (wrap64 (i + 1))
      else none
    else knapsacklaw24_LinkEnds.r0 k N parts 0
def knapsacklaw24_LinkEnds.f (k : Nat) (l : List S66) : Option Bool :=
  (knapsacklaw24_few.f k l).bind fun ok => if ok = true then knapsacklaw24_LinkEnds.l0 k l net0 0 0 else knowsF k

set_option maxHeartbeats 4000000 in
set_option maxRecDepth 100000 in
theorem knapsacklaw24_LinkEnds.calls (k : Nat) (A : Option Addr) (c : Nat) (l : List S66) (r : Bool) (w : World) (hr0 : Kd.C k66 w A l.length l) (hc0 : l.length ≤ c) (h : knapsacklaw24_LinkEnds.f k l = some r) :
    Calls Try.prog 10 #[.slice A l.length c] w fun e w' => e = .returned (.bool r) ∧ Below w.heap.size w w' := by
  unfold knapsacklaw24_LinkEnds.f at h
  replace h := Option.bind_eq_some_iff.mp h
  obtain ⟨ok, hok, h⟩ := h
  have AF := Aside0.mk hok
  have HR := Aside0.mk hr0
  have HC := Aside0.mk hc0
  have HB0 := Aside0.mk (Below.refl w.heap.size w)
  clear hok hr0 hc0
  cases ok with
  | false =>
    rw [if_neg (by simp)] at h
    have AK := Aside0.mk h
    clear h
    go_enter Try.func10, Try.ntmps10
    go_wp2_with (first
      | (go_at_call 33; refine (knapsacklaw24_few.calls k A c l false _ HR.out HC.out AF.out).mono ?_; rintro e w1 ⟨rfl, ⟨m, rfl⟩⟩)
      | (go_at_call 34; refine (new_calls 3 _ (by decide) (by decide)).mono ?_; rintro e w2 ⟨rfl, rfl⟩)
      | (go_at_call 35; refine (knows_calls k r _ AK.out).mono ?_; rintro e w5 ⟨rfl, hb5⟩))
    go_ret
    exact ⟨rfl, below_step (by repeat (first | (with_reducible first | exact HB0.out | apply below_alloc | apply pw_below_drewN | apply below_drew1) | exact HB0.out)) hb5⟩
  | true =>
    rw [if_pos rfl] at h
    have AL := Aside0.mk h
    clear h
    go_enter Try.func10, Try.ntmps10
    go_wp2_with (first
      | (go_at_call 33; refine (knapsacklaw24_few.calls k A c l true _ HR.out HC.out AF.out).mono ?_; rintro e w1 ⟨rfl, ⟨m, rfl⟩⟩)
      | (go_at_call 34; refine (new_calls 3 _ (by decide) (by decide)).mono ?_; rintro e w2 ⟨rfl, rfl⟩))
    go_loopg [5, 6] k (fun kq v5 v6 w' => ∃ (i parts : Int) (N : NS) (V : NV), v5 = .int .i64 parts ∧ v6 = .int .i64 i ∧ Aside0 (knapsacklaw24_LinkEnds.l0 kq l N parts i = some r) ∧ Aside0 (kq ≤ k) ∧ Aside0 (NetB w.heap.size w w' (w.heap.size + 1 + 1) V N))
    case atStart => exact ⟨0, 0, net0, nv0 w.heap.size, rfl, rfl, AL, ⟨Nat.le_refl _⟩, ⟨net_startB w m _ rfl⟩⟩
    case round =>
      clear AL
      obtain ⟨i, parts, N, V, rfl, rfl, HA, HK1, HN⟩ := hrel
      cases gk with
      | zero => exact absurd HA.out (by simp [knapsacklaw24_LinkEnds.l0])
      | succ k1 =>
        have H := HA.out
        clear HA
        simp only [knapsacklaw24_LinkEnds.l0] at H
        by_cases c2 : i < (l.length : Int)
        · rw [if_pos c2] at H
          have c2b0 : decide (i < (l.length : Int)) = true := decide_eq_true c2
          by_cases c3 : 0 ≤ i
          · rw [if_pos c3] at H
            replace H := Option.bind_eq_some_iff.mp H
            obtain ⟨N', hst, H⟩ := H
            obtain ⟨ad, e101, hx0, hx1, hx2, hx3, hx4, hx5⟩ := at_T66 (Kd.C_below HR.out HN.out.bel) i c3 c2
            have c2b1 := eq_true c2
            have AS := Aside0.mk hst
            by_cases c4 : Int.tmod (rd_T66 l i).f0 6 = 0
            · rw [if_pos c4] at H
              replace H := Option.bind_eq_some_iff.mp H
              obtain ⟨ps, hps, H⟩ := H
              have AP := Aside0.mk hps
              have AN := Aside0.mk H
              have AR := Aside0.mk c3
              have c3b0 := eq_true c3
              have c4b0 : decide (Int.tmod (rd_T66 l i).f0 6 = 0) = true := decide_eq_true c4
              have c4b1 : (Int.tmod (rd_T66 l i).f0 6 == 0) = true := beq_iff_eq.mpr c4
              have AC2 := Aside0.mk c2
              clear c3 c2 hst hps H c4
              cases e101
              go_wp2_with (first
                | (go_at_call 36; refine (step_calls HN.out AS.out).mono ?_; rintro e w5 ⟨rfl, V5, hN5⟩; have HN5 := Aside0.mk hN5; clear hN5; obtain ⟨ad2, e102, hy0, hy1, hy2, hy3, hy4, hy5⟩ := at_T66 (Kd.C_below HR.out HN5.out.bel) i AR.out AC2.out; cases e102)
                | (go_at_call 38; refine (knapsackref24_Parts.calls k1 (rd_T66 l i).f2 ps _ AP.out).mono ?_; rintro e w6 ⟨v0, rfl, hR6, hb6⟩; obtain ⟨Aq, cq, rfl, hlq, _⟩ := Kd.R_reads hR6; have HN6 := Aside0.mk (NetB.below HN5.out hb6); clear hR6 hb6))
              go_roundg k1
              case measure => have := HK1.out; omega
              case rel => exact ⟨wrap64 (i + 1), wrap64 (parts + (ps.length : Int)), N', V5, rfl, rfl, AN, ⟨by have := HK1.out; omega⟩, HN6⟩
            · rw [if_neg c4] at H
              have AN := Aside0.mk H
              have AR := Aside0.mk c3
              have c3b0 := eq_true c3
              have c4b0 : decide (Int.tmod (rd_T66 l i).f0 6 = 0) = false := decide_eq_false c4
              have c4b1 : (Int.tmod (rd_T66 l i).f0 6 == 0) = false := beq_eq_false_iff_ne.mpr c4
              have AC2 := Aside0.mk c2
              clear c3 c2 hst H c4
              cases e101
              go_wp2_with (first
                | (go_at_call 36; refine (step_calls HN.out AS.out).mono ?_; rintro e w5 ⟨rfl, V5, hN5⟩; have HN5 := Aside0.mk hN5; clear hN5; obtain ⟨ad2, e102, hy0, hy1, hy2, hy3, hy4, hy5⟩ := at_T66 (Kd.C_below HR.out HN5.out.bel) i AR.out AC2.out; cases e102))
              go_roundg k1
              case measure => have := HK1.out; omega
              case rel => exact ⟨wrap64 (i + 1), parts, N', V5, rfl, rfl, AN, ⟨by have := HK1.out; omega⟩, HN5⟩
          · rw [if_neg c3] at H
            exact absurd H (by simp)
        · rw [if_neg c2] at H
          have c2b0 : decide (i < (l.length : Int)) = false := decide_eq_false c2
          have AK := Aside0.mk H
          clear H c2
          go_wp2
          obtain ⟨wo, hwo⟩ : ∃ wo : World, wo = wr := ⟨_, rfl⟩
          rw [← hwo] at HN ⊢
          clear hwo
          go_loopg [7] k1 (fun kq v7 w' => ∃ (i : Int) (N : NS) (V : NV), v7 = .int .i64 i ∧ Aside0 (knapsacklaw24_LinkEnds.r0 kq N parts i = some r) ∧ Aside0 (kq ≤ k) ∧ Aside0 (NetB w.heap.size w w' (w.heap.size + 1 + 1) V N))
          case atStart => exact ⟨0, N, V, rfl, AK, ⟨by have := HK1.out; omega⟩, HN⟩
          case round =>
            clear AK HN HK1 c2b0
            clear N V
            obtain ⟨j, N, V, rfl, HA, HK1, HN⟩ := hrel
            cases gk with
            | zero => exact absurd HA.out (by simp [knapsacklaw24_LinkEnds.r0])
            | succ k2 =>
              have H := HA.out
              clear HA
              simp only [knapsacklaw24_LinkEnds.r0] at H
              by_cases d2 : j ≤ parts
              · rw [if_pos d2] at H
                have d2b0 : decide (j ≤ parts) = true := decide_eq_true d2
                replace H := Option.bind_eq_some_iff.mp H
                obtain ⟨N1, hh0, H⟩ := H
                replace H := Option.bind_eq_some_iff.mp H
                obtain ⟨N2, hh1, H⟩ := H
                have AN := Aside0.mk H
                have A0 := Aside0.mk hh0
                have A1 := Aside0.mk hh1
                clear hh0 hh1 H d2
                have ww0 : wrap64 (1 - 0) = 1 := by simp [wrap64]
                have ww1 : wrap64 (1 - 1) = 0 := by simp [wrap64]
                have wx0 : IntKind.i64.wrap 0 = 0 := by simp [wrap64, IntKind.wrap, IntKind.bits, IntKind.signed]
                have wx1 : IntKind.i64.wrap 1 = 1 := by simp [wrap64, IntKind.wrap, IntKind.bits, IntKind.signed]
                go_wp2
                obtain ⟨wp, hwp⟩ : ∃ wp : World, wp = wr := ⟨_, rfl⟩
                rw [← hwp] at HN ⊢
                clear hwp
                go_loopg [8] 2 (fun kq v8 w' => ∃ (V : NV), (kq = 2 ∧ v8 = .int .i64 0 ∧ Aside0 (NetB w.heap.size w w' (w.heap.size + 1 + 1) V N)) ∨ (kq = 1 ∧ v8 = .int .i64 1 ∧ Aside0 (NetB w.heap.size w w' (w.heap.size + 1 + 1) V N1)) ∨ (kq = 0 ∧ v8 = .int .i64 2 ∧ Aside0 (NetB w.heap.size w w' (w.heap.size + 1 + 1) V N2)))
                case atStart => exact ⟨V, .inl ⟨rfl, rfl, HN⟩⟩
                case round =>
                  clear HN
                  clear V
                  obtain ⟨V, ⟨rfl, rfl, HN⟩ | ⟨rfl, rfl, HN⟩ | ⟨rfl, rfl, HN⟩⟩ := hrel
                  · obtain ⟨s, E', rr, hs, hr, hrr, hf, hlen, hN⟩ := halfF_open A0.out
                    have HS := Aside0.mk hs
                    have HRV := Aside0.mk hr
                    have HF := Aside0.mk hf
                    have HE := Aside0.mk hN
                    clear hs hr hf hN
                    obtain ⟨c0, c1, c2, c3, c4, c5, c6, c7, c8, cf, hnlt⟩ := HN.out.net.facts
                    clear cf c2 c3 c4 c5 c6 c7 c8
                    have k0 := World.new_ne wr ⟨w.heap.size + 1 + 1, 0, none⟩ c0
                    have k1_ := World.new_ne wr ⟨w.heap.size + 1 + 1, 1, none⟩ c1
                    rcases hrr with rfl | ⟨m, rfl⟩
                    · obtain ⟨AT, cT, hvT, _, _⟩ := (HN.out.net.rows 5).form
                      have HVT := Aside0.mk hvT
                      clear hvT
                      go_wp2
                      go_region_held3 (fun w' => w'.cell? ⟨w.heap.size + 1 + 1, 0, none⟩ = some (.pointer (some ⟨V.b 0, 0, none⟩)) ∧ w'.cell? ⟨w.heap.size + 1 + 1, 1, none⟩ = some (.pointer (some ⟨V.b 1, 0, none⟩))) (first | go_keep | exact HQ6 | exact HQ5)
                        (first | (go_at_call 40; refine (tick_calls k2 (V.b 0) (V.p 0) (N.e 0) s _ (by repeat (first | (with_reducible exact HN.out.net.ends 0) | apply IsEnd.drew | apply IsEnd.alloc)) HS.out).mono ?_; rintro e w5 ⟨rfl, hb5⟩; have HN5 := Aside0.mk (NetB.below (B := w.heap.size) (w0 := w) (V := V) (N := N) (n := w.heap.size + 1 + 1) (by repeat (first | (with_reducible exact HN.out) | apply NetB.drew | apply NetB.alloc)) hb5); have HQ5 := net_ends HN5.out; clear hb5) | (go_at_call 39; refine (recv_calls k2 (V.b 1) (V.p 1) (N.e 1) E' s [] true _ (by repeat (first | (with_reducible exact HN5.out.net.ends 1) | apply IsEnd.drew | apply IsEnd.alloc)) HRV.out).mono ?_; rintro e w6 ⟨tv, pv6, rfl, hE6, hK6, hR6, hT6, hT6', hP6⟩; obtain rfl := hT6' rfl; have HN6 := Aside0.mk (NetB.end_ (B := w.heap.size) (w0 := w) (V := V) (N := N) (n := w.heap.size + 1 + 1) (by repeat (first | (with_reducible exact HN5.out) | apply NetB.drew | apply NetB.alloc)) 1 hE6 (hK6.mono (fun _ _ x => .inl x)) (fun g hg => .inl (hP6 g hg))); have HQ6 := net_ends HN6.out; clear hE6 hK6 hR6 hT6 hT6' hP6))
                      clear HQ6 HQ5 c0 c1 hnlt k0 k1_
                      obtain ⟨c0, c1, c2, c3, c4, c5, c6, c7, c8', cf, hnlt⟩ := HN6.out.net.facts
                      have c8 : w6.cell? ⟨w.heap.size + 1 + 1, 8, none⟩ = some (.bool true) := by rw [← HF.out]; exact c8'
                      have ff := cf 7
                      have ff8 := cf 8
                      clear cf c8'
                      have cT6 : w6.cell? ⟨w.heap.size + 1 + 1, 7, none⟩ = some (.slice AT (N.l 5).length cT) := by rw [← HVT.out]; exact c7
                      have HRT := Aside0.mk (show Rw w6 9 1 (.slice AT (N.l 5).length cT) (N.l 5).length (scells (N.l 5)) by rw [← HVT.out]; exact HN6.out.net.rows 5)
                      clear c7
                      go_wp2
                      go_region_law ((refine step_append_zero _ (by rfl) _ _ _ (by rfl) 9 1 Lk.u60 (by kernel_rfl) (.slice AT (N.l 5).length cT) (N.l 5).length (scells (N.l 5)) (by rfl) HRT.out (by rfl) ?_))
                      all_goals
                        go_wp2
                        go_roundg 1
                      all_goals first | (exact ⟨_, .inr (.inl ⟨rfl, rfl, ⟨by rw [HE.out]; exact NetB.put_fine (NetB.append_none' (NetB.drew HN6.out) 5 HVT.out) true⟩⟩)⟩) | omega
                    · go_wp2
                      go_region_held3 (fun w' => w'.cell? ⟨w.heap.size + 1 + 1, 0, none⟩ = some (.pointer (some ⟨V.b 0, 0, none⟩)) ∧ w'.cell? ⟨w.heap.size + 1 + 1, 1, none⟩ = some (.pointer (some ⟨V.b 1, 0, none⟩))) (first | go_keep | exact HQ6 | exact HQ5)
                        (first | (go_at_call 40; refine (tick_calls k2 (V.b 0) (V.p 0) (N.e 0) s _ (by repeat (first | (with_reducible exact HN.out.net.ends 0) | apply IsEnd.drew | apply IsEnd.alloc)) HS.out).mono ?_; rintro e w5 ⟨rfl, hb5⟩; have HN5 := Aside0.mk (NetB.below (B := w.heap.size) (w0 := w) (V := V) (N := N) (n := w.heap.size + 1 + 1) (by repeat (first | (with_reducible exact HN.out) | apply NetB.drew | apply NetB.alloc)) hb5); have HQ5 := net_ends HN5.out; clear hb5) | (go_at_call 39; refine (recv_calls k2 (V.b 1) (V.p 1) (N.e 1) E' s [m] true _ (by repeat (first | (with_reducible exact HN5.out.net.ends 1) | apply IsEnd.drew | apply IsEnd.alloc)) HRV.out).mono ?_; rintro e w6 ⟨tv, pv6, rfl, hE6, hK6, hR6, hT6, hT6', hP6⟩; obtain ⟨g2, off2, cap2, rfl, hcap2, hc2⟩ := hR6.form2 (by simp); have h2 : w6.cell? ⟨g2, off2, none⟩ = some (.string m) := hc2 0 _ rfl; clear hc2; have HN6 := Aside0.mk (NetB.end_ (B := w.heap.size) (w0 := w) (V := V) (N := N) (n := w.heap.size + 1 + 1) (by repeat (first | (with_reducible exact HN5.out) | apply NetB.drew | apply NetB.alloc)) 1 hE6 (hK6.mono (fun _ _ x => .inl x)) (fun g hg => .inl (hP6 g hg))); have HQ6 := net_ends HN6.out; clear hE6 hK6 hR6 hT6 hT6' hP6))
                      clear HQ6 HQ5 c0 c1 hnlt k0 k1_
                      obtain ⟨c0, c1, c2, c3, c4, c5, c6, c7, c8', cf, hnlt⟩ := HN6.out.net.facts
                      have c8 : w6.cell? ⟨w.heap.size + 1 + 1, 8, none⟩ = some (.bool true) := by rw [← HF.out]; exact c8'
                      have ff := cf 7
                      have ff8 := cf 8
                      clear cf c8'
                      have hbig : (N.l 5).length + 1 ≤ maxLen ∧ ((N.l 5).length + 1) * 16 ≤ 140737488355328 := ⟨by simp only [maxLen]; omega, by omega⟩
                      have hone : ∀ u ∈ [Value.string m], u.oneCell' = true := by intro u hu; simp at hu; rcases hu with rfl; rfl
                      go_wp2
                      go_region_law ((refine step_append_rw _ (by rfl) _ _ _ (by rfl) 9 _ 1 16 Lk.u60 Lk.info9_ (by rfl) (V.v 5) (N.l 5).length (scells (N.l 5)) (by rfl) (HN6.out.net.rows 5) ⟨g2, off2, none⟩ 1 cap2 [.string m] (by rfl) (by rfl) (news_one h2) hone (by omega) hbig ?_; intro g3 off3 cap3 w1 hrow hgrow hat; have y1 := (keep_grown_at hgrow c7 ff hnlt (fun e => HN6.out.net.vn 5 e.symm)).1; have yf := (keep_grown_at hgrow c7 ff hnlt (fun e => HN6.out.net.vn 5 e.symm)).2; have y8 := (keep_grown_at hgrow c8 ff8 hnlt (fun e => HN6.out.net.vn 5 e.symm)).1; have yf8 := (keep_grown_at hgrow c8 ff8 hnlt (fun e => HN6.out.net.vn 5 e.symm)).2))
                      all_goals
                        go_wp2
                        go_roundg 1
                      all_goals first | (exact ⟨_, .inr (.inl ⟨rfl, rfl, ⟨by rw [HE.out]; exact NetB.put_fine (NetB.append_at (NetB.drew HN6.out) 5 hrow hgrow hat) true⟩⟩)⟩) | omega
                  · obtain ⟨s, E', rr, hs, hr, hrr, hf, hlen, hN⟩ := halfF_open A1.out
                    have HS := Aside0.mk hs
                    have HRV := Aside0.mk hr
                    have HF := Aside0.mk hf
                    have HE := Aside0.mk hN
                    clear hs hr hf hN
                    obtain ⟨c0, c1, c2, c3, c4, c5, c6, c7, c8, cf, hnlt⟩ := HN.out.net.facts
                    clear cf c2 c3 c4 c5 c6 c7 c8
                    have k0 := World.new_ne wr ⟨w.heap.size + 1 + 1, 0, none⟩ c0
                    have k1_ := World.new_ne wr ⟨w.heap.size + 1 + 1, 1, none⟩ c1
                    rcases hrr with rfl | ⟨m, rfl⟩
                    · obtain ⟨AT, cT, hvT, _, _⟩ := (HN.out.net.rows 4).form
                      have HVT := Aside0.mk hvT
                      clear hvT
                      go_wp2
                      go_region_held3 (fun w' => w'.cell? ⟨w.heap.size + 1 + 1, 0, none⟩ = some (.pointer (some ⟨V.b 0, 0, none⟩)) ∧ w'.cell? ⟨w.heap.size + 1 + 1, 1, none⟩ = some (.pointer (some ⟨V.b 1, 0, none⟩))) (first | go_keep | exact HQ6 | exact HQ5)
                        (first | (go_at_call 40; refine (tick_calls k2 (V.b 1) (V.p 1) (N1.e 1) s _ (by repeat (first | (with_reducible exact HN.out.net.ends 1) | apply IsEnd.drew | apply IsEnd.alloc)) HS.out).mono ?_; rintro e w5 ⟨rfl, hb5⟩; have HN5 := Aside0.mk (NetB.below (B := w.heap.size) (w0 := w) (V := V) (N := N1) (n := w.heap.size + 1 + 1) (by repeat (first | (with_reducible exact HN.out) | apply NetB.drew | apply NetB.alloc)) hb5); have HQ5 := net_ends HN5.out; clear hb5) | (go_at_call 39; refine (recv_calls k2 (V.b 0) (V.p 0) (N1.e 0) E' s [] true _ (by repeat (first | (with_reducible exact HN5.out.net.ends 0) | apply IsEnd.drew | apply IsEnd.alloc)) HRV.out).mono ?_; rintro e w6 ⟨tv, pv6, rfl, hE6, hK6, hR6, hT6, hT6', hP6⟩; obtain rfl := hT6' rfl; have HN6 := Aside0.mk (NetB.end_ (B := w.heap.size) (w0 := w) (V := V) (N := N1) (n := w.heap.size + 1 + 1) (by repeat (first | (with_reducible exact HN5.out) | apply NetB.drew | apply NetB.alloc)) 0 hE6 (hK6.mono (fun _ _ x => .inl x)) (fun g hg => .inl (hP6 g hg))); have HQ6 := net_ends HN6.out; clear hE6 hK6 hR6 hT6 hT6' hP6))
                      clear HQ6 HQ5 c0 c1 hnlt k0 k1_
                      obtain ⟨c0, c1, c2, c3, c4, c5, c6, c7, c8', cf, hnlt⟩ := HN6.out.net.facts
                      have c8 : w6.cell? ⟨w.heap.size + 1 + 1, 8, none⟩ = some (.bool true) := by rw [← HF.out]; exact c8'
                      have ff := cf 6
                      have ff8 := cf 8
                      clear cf c8'
                      have cT6 : w6.cell? ⟨w.heap.size + 1 + 1, 6, none⟩ = some (.slice AT (N1.l 4).length cT) := by rw [← HVT.out]; exact c6
                      have HRT := Aside0.mk (show Rw w6 9 1 (.slice AT (N1.l 4).length cT) (N1.l 4).length (scells (N1.l 4)) by rw [← HVT.out]; exact HN6.out.net.rows 4)
                      clear c6
                      go_wp2
                      go_region_law ((refine step_append_zero _ (by rfl) _ _ _ (by rfl) 9 1 Lk.u60 (by kernel_rfl) (.slice AT (N1.l 4).length cT) (N1.l 4).length (scells (N1.l 4)) (by rfl) HRT.out (by rfl) ?_))
                      all_goals
                        go_wp2
                        go_roundg 0
                      all_goals first | (exact ⟨_, .inr (.inr ⟨rfl, rfl, ⟨by rw [HE.out]; exact NetB.put_fine (NetB.append_none' (NetB.drew HN6.out) 4 HVT.out) true⟩⟩)⟩) | omega
                    · go_wp2
                      go_region_held3 (fun w' => w'.cell? ⟨w.heap.size + 1 + 1, 0, none⟩ = some (.pointer (some ⟨V.b 0, 0, none⟩)) ∧ w'.cell? ⟨w.heap.size + 1 + 1, 1, none⟩ = some (.pointer (some ⟨V.b 1, 0, none⟩))) (first | go_keep | exact HQ6 | exact HQ5)
                        (first | (go_at_call 40; refine (tick_calls k2 (V.b 1) (V.p 1) (N1.e 1) s _ (by repeat (first | (with_reducible exact HN.out.net.ends 1) | apply IsEnd.drew | apply IsEnd.alloc)) HS.out).mono ?_; rintro e w5 ⟨rfl, hb5⟩; have HN5 := Aside0.mk (NetB.below (B := w.heap.size) (w0 := w) (V := V) (N := N1) (n := w.heap.size + 1 + 1) (by repeat (first | (with_reducible exact HN.out) | apply NetB.drew | apply NetB.alloc)) hb5); have HQ5 := net_ends HN5.out; clear hb5) | (go_at_call 39; refine (recv_calls k2 (V.b 0) (V.p 0) (N1.e 0) E' s [m] true _ (by repeat (first | (with_reducible exact HN5.out.net.ends 0) | apply IsEnd.drew | apply IsEnd.alloc)) HRV.out).mono ?_; rintro e w6 ⟨tv, pv6, rfl, hE6, hK6, hR6, hT6, hT6', hP6⟩; obtain ⟨g2, off2, cap2, rfl, hcap2, hc2⟩ := hR6.form2 (by simp); have h2 : w6.cell? ⟨g2, off2, none⟩ = some (.string m) := hc2 0 _ rfl; clear hc2; have HN6 := Aside0.mk (NetB.end_ (B := w.heap.size) (w0 := w) (V := V) (N := N1) (n := w.heap.size + 1 + 1) (by repeat (first | (with_reducible exact HN5.out) | apply NetB.drew | apply NetB.alloc)) 0 hE6 (hK6.mono (fun _ _ x => .inl x)) (fun g hg => .inl (hP6 g hg))); have HQ6 := net_ends HN6.out; clear hE6 hK6 hR6 hT6 hT6' hP6))
                      clear HQ6 HQ5 c0 c1 hnlt k0 k1_
                      obtain ⟨c0, c1, c2, c3, c4, c5, c6, c7, c8', cf, hnlt⟩ := HN6.out.net.facts
                      have c8 : w6.cell? ⟨w.heap.size + 1 + 1, 8, none⟩ = some (.bool true) := by rw [← HF.out]; exact c8'
                      have ff := cf 6
                      have ff8 := cf 8
                      clear cf c8'
                      have hbig : (N1.l 4).length + 1 ≤ maxLen ∧ ((N1.l 4).length + 1) * 16 ≤ 140737488355328 := ⟨by simp only [maxLen]; omega, by omega⟩
                      have hone : ∀ u ∈ [Value.string m], u.oneCell' = true := by intro u hu; simp at hu; rcases hu with rfl; rfl
                      go_wp2
                      go_region_law ((refine step_append_rw _ (by rfl) _ _ _ (by rfl) 9 _ 1 16 Lk.u60 Lk.info9_ (by rfl) (V.v 4) (N1.l 4).length (scells (N1.l 4)) (by rfl) (HN6.out.net.rows 4) ⟨g2, off2, none⟩ 1 cap2 [.string m] (by rfl) (by rfl) (news_one h2) hone (by omega) hbig ?_; intro g3 off3 cap3 w1 hrow hgrow hat; have y1 := (keep_grown_at hgrow c6 ff hnlt (fun e => HN6.out.net.vn 4 e.symm)).1; have yf := (keep_grown_at hgrow c6 ff hnlt (fun e => HN6.out.net.vn 4 e.symm)).2; have y8 := (keep_grown_at hgrow c8 ff8 hnlt (fun e => HN6.out.net.vn 4 e.symm)).1; have yf8 := (keep_grown_at hgrow c8 ff8 hnlt (fun e => HN6.out.net.vn 4 e.symm)).2))
                      all_goals
                        go_wp2
                        go_roundg 0
                      all_goals first | (exact ⟨_, .inr (.inr ⟨rfl, rfl, ⟨by rw [HE.out]; exact NetB.put_fine (NetB.append_at (NetB.drew HN6.out) 4 hrow hgrow hat) true⟩⟩)⟩) | omega
                  · go_wp2
                    go_roundg k2
                    case measure => have := HK1.out; omega
                    case rel => exact ⟨wrap64 (j + 1), N2, V, rfl, AN, ⟨by have := HK1.out; omega⟩, HN⟩
              · rw [if_neg d2] at H
                have d2b0 : decide (j ≤ parts) = false := decide_eq_false d2
                by_cases c4 : N.fine = true ∧ (∀ j, (N.l j).length ≤ 1000000)
                · rw [if_pos c4] at H
                  replace H := Option.bind_eq_some_iff.mp H
                  obtain ⟨one, ho1, H⟩ := H
                  replace H := Option.bind_eq_some_iff.mp H
                  obtain ⟨two, ho2, H⟩ := H
                  replace H := Option.bind_eq_some_iff.mp H
                  obtain ⟨kn, hkn, H⟩ := H
                  by_cases c5 : one = true ∧ two = true ∧ kn = true ∧ (N.e 0).parts.length = 0 ∧ (N.e 1).parts.length = 0
                  · rw [if_pos c5] at H
                    obtain rfl := Option.some.inj H
                    obtain ⟨rfl, rfl, rfl, hi0, hi1⟩ := c5
                    have A4 := Aside0.mk c4
                    have AO1 := Aside0.mk ho1
                    have AO2 := Aside0.mk ho2
                    have AKN := Aside0.mk hkn
                    have AI0 := Aside0.mk hi0
                    have AI1 := Aside0.mk hi1
                    clear c4 ho1 ho2 hkn H d2 hi0 hi1
                    obtain ⟨c0, c1, c2, c3, c4, c5, c6, c7, c8, cf, hnlt⟩ := HN.out.net.facts
                    obtain ⟨B2, d2, hv2, hd2, hC2⟩ := Rw.reads (HN.out.net.rows 2) (by have := A4.out.2 2; omega)
                    obtain ⟨B3, d3, hv3, hd3, hC3⟩ := Rw.reads (HN.out.net.rows 3) (by have := A4.out.2 3; omega)
                    obtain ⟨B4, d4, hv4, hd4, hC4⟩ := Rw.reads (HN.out.net.rows 4) (by have := A4.out.2 4; omega)
                    obtain ⟨B5, d5, hv5, hd5, hC5⟩ := Rw.reads (HN.out.net.rows 5) (by have := A4.out.2 5; omega)
                    rw [hv2] at c4
                    rw [hv3] at c5
                    rw [hv4] at c6
                    rw [hv5] at c7
                    rw [A4.out.1] at c8
                    have HP1 := Aside0.mk (fun m => Calls.quiet_of ((knapsackref16_Same.calls k2 B4 d4 (N.l 4) B3 d3 (N.l 3) true (wr.drewN m) (Kd.C_drewN hC4 m) hd4 (Kd.C_drewN hC3 m) hd3 AO1.out).mono fun _ _ x => ⟨x.1, x.2.out⟩))
                    have HP2 := Aside0.mk (fun a n => quiet_more (knapsackref16_Same.calls k2 B5 d5 (N.l 5) B2 d2 (N.l 2) true (wr.drewN (a + n)) (Kd.C_drewN hC5 (a + n)) hd5 (Kd.C_drewN hC2 (a + n)) hd2 AO2.out))
                    clear hv2 hv3 hv4 hv5 hC2 hC3 hC4 hC5 cf hd2 hd3 hd4 hd5
                    go_wp2
                    go_quiet ((go_at_call 41; (with_reducible exact HP1.out _)))
                    go_wp2
                    go_quiet ((go_at_call 41; (with_reducible exact HP2.out _ _)))
                    clear c0 c1 c2 c3 c4 c5 c6 c7 c8 hnlt
                    go_wp2_with (first
                      | (go_at_call 35; refine (knows_calls k2 true _ AKN.out).mono ?_; rintro e w5 ⟨rfl, hb5⟩; have HN5 := Aside0.mk (NetB.below (NetB.drewN HN.out _) hb5); clear hb5; have HI0 := Aside0.mk (idle_calls (V.b 0) (V.p 0) (N.e 0) _ (HN5.out.net.ends 0)); have HI1 := Aside0.mk (idle_calls (V.b 1) (V.p 1) (N.e 1) _ (HN5.out.net.ends 1)); obtain ⟨c0, c1, c2, c3, c4, c5, c6, c7, c8, cf, hnlt⟩ := HN5.out.net.facts; clear cf; rw [A4.out.1] at c8)
                      | (go_at_call 42; (with_reducible refine HI0.out.mono ?_); rintro e w6 ⟨rfl, rfl⟩; rw [AI0.out])
                      | (go_at_call 42; (with_reducible refine HI1.out.mono ?_); rintro e w6 ⟨rfl, rfl⟩; rw [AI1.out]))
                    go_ret
                    exact ⟨rfl, HN5.out.bel⟩
                  · rw [if_neg c5] at H
                    exact absurd H (by simp)
                · rw [if_neg c4] at H
                  exact absurd H (by simp)
end Go.Proofs.Ytnmnplbjhejejaa.PA
