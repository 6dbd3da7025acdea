/- DiskPlays as the program has it. -/
import Derived.Test.YtaibcfghokhghaaDk8
import Derived.Test.YtaibcfghokhghaaDf1
import Derived.Deep.QuietTactic
import Derived.BigQuiet
set_option linter.unusedVariables false
set_option linter.unusedSimpArgs false
namespace Go.Proofs.Ytaibcfghokhghaa.Dk
open Go.RowKit Go.Proofs.Ytaibcfghokhghaa.Lk Go.Proofs.YtaibcfghokhghaaW.PrintWords Go.Proofs.YtaibcfghokhghaaW.PrintLast Go.Proofs.YtaibcfghokhghaaW.PrintMore Go.Proofs.Ytaibcfghokhghaa.PA
/-- A disk and the document's, both new since a world. -/
structure PL (w W : World) (bd : Nat) (lv : Value) (bm : Nat) (mv : Value) (D M : Dsk) : Prop where
  d : IsDisk W bd lv D
  m : IsRef W bm mv M
  bel : Below w.heap.size w W
  lo : w.heap.size ≤ bd ∧ w.heap.size ≤ bm
  fd : ∀ g, lv.ownBlock = some g → w.heap.size ≤ g
  fm : ∀ g, mv.ownBlock = some g → w.heap.size ≤ g
section
variable {w W w5 : World} {bd bm : Nat} {lv mv lv5 mv5 : Value} {D M D5 M5 : Dsk}
theorem PL.below (h : PL w W bd lv bm mv D M) (hb : Below W.heap.size W w5) : PL w w5 bd lv bm mv D M := ⟨h.d.below hb, h.m.below hb, h.bel.trans (hb.mono h.bel.size), h.lo, h.fd, h.fm⟩
theorem PL.tk (h : PL w W bd lv bm mv D M) (t : TK W bd lv bm mv w5 lv5 mv5 D5 M5) : PL w w5 bd lv5 bm mv5 D5 M5 := by
  have hs := h.bel.size
  refine ⟨t.d, t.m, below_kp h.bel (Nat.le_refl _) t.kp (fun g x => ?_), h.lo, fun g hg => ?_, fun g hg => ?_⟩
  · rcases x with e | e | e | e
    · exact e ▸ h.lo.1
    · exact h.fd g e
    · exact e ▸ h.lo.2
    · exact h.fm g e
  · exact (t.fd g hg).elim (fun e => h.fd g e) (fun e => by omega)
  · exact (t.fm g hg).elim (fun e => h.fm g e) (fun e => by omega)
end
theorem pl_start (w : World) (m : Nat) (W : World) (hW : W = ((w.drewN m).alloc (.cells (dcells (.slice none 0 0) D0) 47)).alloc (.cells (dcells (.slice none 0 0) D0) 30)) : PL w W w.heap.size (.slice none 0 0) (w.heap.size + 1) (.slice none 0 0) D0 D0 := by
  subst hW
  have h1 : Below w.heap.size w (w.drewN m) := ⟨rfl, rfl, rfl, Nat.le_refl _, fun _ _ => rfl⟩
  refine ⟨(new_disk (w.drewN m)).alloc _, ⟨?_, Rw.nil _ _ _, by simp [Value.ownBlock]⟩, (h1.alloc (Nat.le_refl _) _).alloc (by simp) _, ⟨Nat.le_refl _, by omega⟩, fun g hg => by simp [Value.ownBlock] at hg, fun g hg => by simp [Value.ownBlock] at hg⟩
  have := heap_alloc_new ((w.drewN m).alloc (.cells (dcells (.slice none 0 0) D0) 47)) (.cells (dcells (.slice none 0 0) D0) 30)
  rw [show ((w.drewN m).alloc (.cells (dcells (.slice none 0 0) D0) 47)).heap.size = w.heap.size + 1 by simp] at this
  exact this
theorem same_quiet {W : World} {bd bm : Nat} {lv mv : Value} {D M : Dsk} (hd : IsDisk W bd lv D) (hm : IsRef W bm mv M) (hs : SameOk D M) (n : Nat) :
    Calls Try.prog 9 #[.pointer (some ⟨bd, 0, none⟩), .pointer (some ⟨bm, 0, none⟩)] (W.drewN n) fun e w' => e = .returned (.bool true) ∧ Below (W.drewN n).heap.size (W.drewN n) w' := same_calls _ bd lv bm mv D M (hd.drewN n) (hm.drewN n) hs
end Go.Proofs.Ytaibcfghokhghaa.Dk
namespace Go.Proofs.Ytaibcfghokhghaa.PA
open Go.RowKit Go.Proofs.YtaibcfghokhghaaW.PrintWords Go.Proofs.YtaibcfghokhghaaW.PrintLast Go.Proofs.YtaibcfghokhghaaW.PrintMore Go.Proofs.Ytaibcfghokhghaa.Lk Go.Proofs.Ytaibcfghokhghaa.Dk
attribute [local go_sem] max2_int min2_int max_two min_two max_three min_three max_four min_four
open Classical in
noncomputable def knapsacklaw21_DiskPlays.l0 : Nat → List S33 → Dsk → Dsk → Int → Option Bool
  | 0, _, _, _, _ => none
  | k + 1, l, D, M, i =>
    if i < (l.length : Int) then
      if 0 ≤ i then
        (actF k D M (rd_T33 l i)).bind fun t =>
          if SameOk t.1 t.2 then knapsacklaw21_DiskPlays.l0 k l t.1 t.2 (wrap64 (i + 1)) else none
      else none
    else some true
noncomputable def knapsacklaw21_DiskPlays.f (k : Nat) (l : List S33) : Option Bool :=
  (knapsacklaw21_few.f k l).bind fun ok => if ok = true then knapsacklaw21_DiskPlays.l0 k l D0 D0 0 else some true

set_option maxHeartbeats 1600000 in
set_option maxRecDepth 100000 in
theorem knapsacklaw21_DiskPlays.calls (k : Nat) (A : Option Addr) (c : Nat) (l : List S33) (r : Bool) (w : World) (hr0 : Kd.C k33 w A l.length l) (hc0 : l.length ≤ c) (h : knapsacklaw21_DiskPlays.f k l = some r) :
    Calls Try.prog 3 #[.slice A l.length c] w fun e w' => e = .returned (.bool r) ∧ Below w.heap.size w w' := by
  unfold knapsacklaw21_DiskPlays.f at h
  obtain ⟨ok, hok, h⟩ := Option.bind_eq_some_iff.mp h
  have AF := Aside0.mk hok
  have HR := Aside0.mk hr0
  have HC := Aside0.mk hc0
  have HB0 := Aside0.mk (Below.refl w.heap.size w)
  clear hok hr0 hc0
  cases ok with
  | false =>
    rw [if_neg (by simp)] at h
    obtain rfl := Option.some.inj h
    clear h
    go_enter Try.func3, Try.ntmps3
    go_wp2_with (first
      | (go_at_call 5; refine (knapsacklaw21_few.calls k A c l false _ HR.out HC.out AF.out).mono ?_; rintro e w1 ⟨rfl, ⟨m, rfl⟩⟩)
      | (go_at_call 6; refine (new_calls _).mono ?_; rintro e w2 ⟨rfl, rfl⟩)
      | (go_at_call 7; refine (knows_calls _).mono ?_; rintro e w5 ⟨rfl, hb5⟩))
    go_ret
    exact ⟨rfl, below_step (by repeat (first | (with_reducible first | exact HB0.out | apply below_alloc | apply pw_below_drewN | apply below_drew1) | exact HB0.out)) hb5⟩
  | true =>
    rw [if_pos rfl] at h
    have AL := Aside0.mk h
    clear h
    go_enter Try.func3, Try.ntmps3
    go_wp2_with (first
      | (go_at_call 5; refine (knapsacklaw21_few.calls k A c l true _ HR.out HC.out AF.out).mono ?_; rintro e w1 ⟨rfl, ⟨m, rfl⟩⟩)
      | (go_at_call 6; refine (new_calls _).mono ?_; rintro e w2 ⟨rfl, rfl⟩))
    go_loopg [6] k (fun kq v6 w' => ∃ (i : Int) (D M : Dsk) (lv mv : Value), v6 = .int .i64 i ∧ Aside0 (knapsacklaw21_DiskPlays.l0 kq l D M i = some r) ∧ Aside0 (kq ≤ k) ∧ Aside0 (PL w w' w.heap.size lv (w.heap.size + 1) mv D M))
    case atStart => exact ⟨0, D0, D0, .slice none 0 0, .slice none 0 0, rfl, AL, ⟨Nat.le_refl _⟩, ⟨pl_start w m _ rfl⟩⟩
    case round =>
      clear AL
      obtain ⟨i, D, M, lv, mv, rfl, HA, HK1, HN⟩ := hrel
      cases gk with
      | zero => exact absurd HA.out (by simp [knapsacklaw21_DiskPlays.l0])
      | succ k1 =>
        have H := HA.out
        clear HA
        simp only [knapsacklaw21_DiskPlays.l0] at H
        by_cases c2 : i < (l.length : Int)
        · rw [if_pos c2] at H
          have c2b0 : decide (i < (l.length : Int)) = true := decide_eq_true c2
          by_cases c3 : 0 ≤ i
          · rw [if_pos c3] at H
            replace H := Option.bind_eq_some_iff.mp H
            obtain ⟨⟨D1, M1⟩, hst, H⟩ := H
            by_cases c4 : SameOk D1 M1
            · rw [if_pos c4] at H
              obtain ⟨ad, e101, hx0, hx1, hx2, hx3, hx4⟩ := at_T33 (Kd.C_below HR.out (HN.out.bel.mono (Nat.le_refl _))) i c3 c2
              have AS := Aside0.mk hst
              have AN := Aside0.mk H
              have A4 := Aside0.mk c4
              have c3b0 := eq_true c3
              have c2b1 := eq_true c2
              clear c3 c2 hst H c4
              cases e101
              go_wp2_with (first
                | (go_at_call 8; refine (act_calls k1 _ _ lv _ mv D M D1 M1 (rd_T33 l i) HN.out.d HN.out.m AS.out).mono ?_; rintro e w5 ⟨rfl, lv5, mv5, ht5⟩; have HN5 := Aside0.mk (HN.out.tk ht5); clear ht5)
                | (go_at_call 9; refine (same_calls _ _ lv5 _ mv5 D1 M1 HN5.out.d HN5.out.m A4.out).mono ?_; rintro e w6 ⟨rfl, hb6⟩; have HN6 := Aside0.mk (HN5.out.below hb6); clear hb6))
              go_roundg k1
              case measure => have := HK1.out; omega
              case rel => exact ⟨wrap64 (i + 1), D1, M1, lv5, mv5, rfl, AN, ⟨by have := HK1.out; omega⟩, HN6⟩
            · rw [if_neg c4] at H
              exact absurd H (by simp)
          · rw [if_neg c3] at H
            exact absurd H (by simp)
        · rw [if_neg c2] at H
          have c2b0 : decide (i < (l.length : Int)) = false := decide_eq_false c2
          obtain rfl := Option.some.inj H
          have HB := Aside0.mk HN.out.bel
          clear H c2
          go_wp2_with (first | (go_at_call 7; refine (knows_calls _).mono ?_; rintro e w5 ⟨rfl, hb5⟩))
          go_ret
          exact ⟨rfl, below_step HB.out hb5⟩
end Go.Proofs.Ytaibcfghokhghaa.PA
