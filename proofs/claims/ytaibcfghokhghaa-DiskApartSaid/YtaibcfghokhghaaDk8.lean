/- The law's knows; one act, whichever it is. -/
import Derived.Test.YtaibcfghokhghaaDk7
set_option linter.unusedVariables false
set_option linter.unusedSimpArgs false
namespace Go.Proofs.Ytaibcfghokhghaa.Dk
open Go.RowKit Go.Proofs.Ytaibcfghokhghaa.Lk Go.Proofs.YtaibcfghokhghaaW.PrintWords Go.Proofs.YtaibcfghokhghaaW.PrintLast Go.Proofs.YtaibcfghokhghaaW.PrintMore Go.Proofs.Ytaibcfghokhghaa.PA
attribute [local go_sem] max2_int min2_int max_two min_two max_three min_three max_four min_four

theorem below_kp {B : Nat} {w0 w w' : World} {S : Nat → Prop} (h : Below B w0 w) (hB : B ≤ w0.heap.size) (hk : Kp w w' S) (hs : ∀ g, S g → B ≤ g) : Below B w0 w' :=
  ⟨hk.os.trans h.os, hk.tape.trans h.tape, hk.output.trans h.output, Nat.le_trans h.size hk.size, fun g hg => (hk.block g (by have := h.size; omega) (fun x => by have := hs g x; omega)).trans (h.block g hg)⟩
/-- A disk that is new since a world. -/
structure OD (w : World) (b : Nat) (w' : World) (lv : Value) (D : Dsk) : Prop where
  d : IsDisk w' b lv D
  bel : Below w.heap.size w w'
  lo : w.heap.size ≤ b
  own : ∀ g, lv.ownBlock = some g → w.heap.size ≤ g
section
variable {w w' w5 : World} {b : Nat} {lv lv5 : Value} {D D1 : Dsk}
theorem OD.step (h : OD w b w' lv D) (d5 : IsDisk w5 b lv5 D1) (hk : Kp w' w5 (fun g => g = b ∨ lv.ownBlock = some g)) (hf : ∀ g, lv5.ownBlock = some g → lv.ownBlock = some g ∨ w'.heap.size ≤ g) : OD w b w5 lv5 D1 :=
  ⟨d5, below_kp h.bel (Nat.le_refl _) hk (fun g x => x.elim (fun e => e ▸ h.lo) (fun e => h.own g e)), h.lo, fun g hg => (hf g hg).elim (fun e => h.own g e) (fun e => Nat.le_trans h.bel.size e)⟩
theorem OD.below (h : OD w b w' lv D) (hb : Below w'.heap.size w' w5) : OD w b w5 lv D := ⟨h.d.below hb, h.bel.trans (hb.mono h.bel.size), h.lo, h.own⟩
theorem OD.drew (h : OD w b w' lv D) : OD w b w'.drew lv D := h.below (Below.refl _ _).drew
end
theorem od_new (w : World) : OD w w.heap.size (w.alloc (.cells (dcells (.slice none 0 0) D0) 47)) (.slice none 0 0) D0 :=
  ⟨new_disk w, (Below.refl _ _).alloc (Nat.le_refl _) _, Nat.le_refl _, fun g hg => by simp [Value.ownBlock] at hg⟩
def Dk_a : Dsk := ⟨[], 0, 2, false⟩
def Dk_b : Dsk := ⟨[(⟨#[97]⟩, ⟨#[120, 121]⟩)], 0, 2, true⟩
def Dk_c : Dsk := ⟨[(⟨#[97]⟩, ⟨#[120, 121]⟩)], -1, 2, false⟩
def Dk_d : Dsk := ⟨[(⟨#[97]⟩, ⟨#[120, 121]⟩), (⟨#[98]⟩, ⟨#[]⟩)], -1, 2, false⟩
theorem kn_a : ({ D0 with fuse := max 0 (-1), part := 2 } : Dsk) = Dk_a := rfl
theorem kn_b : putF Dk_a ⟨#[97]⟩ ⟨#[120, 121, 122]⟩ 0 = (11, Dk_b) := by rfl
theorem kn_c : ({ Dk_b with fuse := -1, down := false } : Dsk) = Dk_c := rfl
theorem kn_g : getF Dk_c ⟨#[97]⟩ 0 = (⟨#[120, 121]⟩, true) := by rfl
theorem kn_d : putF Dk_c ⟨#[98]⟩ ⟨#[]⟩ 1 = (0, Dk_d) := by rfl
theorem kn_n : namesF Dk_d = [⟨#[97]⟩, ⟨#[98]⟩] := by rfl
theorem kl_a : Lower Dk_a.l ⟨#[97]⟩ 0 := by decide
theorem kl_c : Lower Dk_c.l ⟨#[97]⟩ 0 := by decide
theorem kl_d : Lower Dk_c.l ⟨#[98]⟩ 1 := by decide

set_option maxHeartbeats 4000000 in
set_option maxRecDepth 100000 in
theorem knows_calls (w : World) : Calls Try.prog 7 #[] w fun e w' => e = .returned (.bool true) ∧ Below w.heap.size w w' := by
  go_enter Try.func7, Try.ntmps7
  go_wp2_with (first
    | (go_at_call 6; refine (new_calls _).mono ?_; rintro e w1 ⟨rfl, hw1⟩; have H1 := Aside0.mk (show OD w w.heap.size w1 (.slice none 0 0) D0 by rw [hw1]; exact od_new w); clear hw1)
    | (go_at_call 13; refine (fail_calls _ _ _ D0 0 2 H1.out.d).mono ?_; rintro e w2 ⟨rfl, lv2, d2, k2, f2⟩; rw [kn_a] at d2; have H2 := Aside0.mk (H1.out.step d2 k2 f2); clear d2 k2 f2)
    | (go_at_call 14; (with_reducible refine (put_calls _ _ _ Dk_c ⟨#[98]⟩ ⟨#[]⟩ 1 H5.out.d (by decide) kl_d (by decide) (by decide) (by decide)).mono ?_); rw [kn_d]; rintro e w6 ⟨rfl, lv6, d6, k6, f6⟩; have H6 := Aside0.mk (H5.out.step d6 k6 f6); clear d6 k6 f6)
    | (go_at_call 14; refine (put_calls _ _ _ Dk_a ⟨#[97]⟩ ⟨#[120, 121, 122]⟩ 0 H2.out.d (by decide) kl_a (by decide) (by decide) (by decide)).mono ?_; rw [kn_b]; rintro e w3 ⟨rfl, lv3, d3, k3, f3⟩; have H3 := Aside0.mk (H2.out.step d3 k3 f3); clear d3 k3 f3)
    | (go_at_call 17; refine (down_calls _ _ _ Dk_b H3.out.d).mono ?_; rintro e wd ⟨rfl, rfl⟩)
    | (go_at_call 12; refine (restart_calls _ _ _ Dk_b H3.out.d).mono ?_; rintro e w4 ⟨rfl, lv4, d4, k4, f4⟩; rw [kn_c] at d4; have H4 := Aside0.mk (H3.out.step d4 k4 f4); clear d4 k4 f4)
    | (go_at_call 16; refine (get_calls _ _ _ Dk_c ⟨#[97]⟩ 0 H4.out.d (by decide) kl_c).mono ?_; rw [kn_g]; rintro e w5 ⟨rfl, hb5⟩; have H5 := Aside0.mk (H4.out.below hb5); clear hb5)
    | (go_at_call 15; refine (names_calls _ _ _ Dk_d H6.out.d (by decide)).mono ?_; rintro e w7 ⟨nv, rfl, hR7, hB7, hF7⟩; rw [kn_n] at hR7; obtain ⟨A7, c7, rfl, _, _⟩ := hR7.form; have H7 := Aside0.mk (H6.out.below hB7); clear hR7 hB7 hF7))
  all_goals go_ret
  all_goals exact ⟨rfl, H7.out.bel⟩

/-- How many of the files have lesser names, if they rise. -/
def lbN (l : List File) (name : ByteArray) : Nat := (l.takeWhile (fun x => decide (cmpN x.1 name < 0))).length
/-- What is asked ahead of an act. -/
structure ActOk (D M : Dsk) (a : S33) : Prop where
  ok : Ok D a.f1 (lbN D.l a.f1)
  f1 : M.fuse ≤ 9223372036854775807
  f2 : -9223372036854775808 ≤ M.fuse
  data : a.f2.size ≤ 1000000
  len : M.l.length ≤ 1000000
open Classical in
/-- One act; none where the two answers differ. -/
noncomputable def actF (k : Nat) (D M : Dsk) (a : S33) : Option (Dsk × Dsk) :=
  if ActOk D M a then
    if Int.tmod a.f0 6 = 0 ∨ Int.tmod a.f0 6 = 1 then
      (writeF k M a.f1 a.f2 false).bind fun r => if r.1 = (putF D a.f1 a.f2 (lbN D.l a.f1)).1 then some ((putF D a.f1 a.f2 (lbN D.l a.f1)).2, r.2) else none
    else if Int.tmod a.f0 6 = 2 then
      (writeF k M a.f1 ⟨#[]⟩ true).bind fun r => if r.1 = (dropF D a.f1 (lbN D.l a.f1)).1 then some ((dropF D a.f1 (lbN D.l a.f1)).2, r.2) else none
    else if Int.tmod a.f0 6 = 3 then some ({ D with fuse := max a.f3 (-1), part := a.f4 }, { M with fuse := if a.f3 < 0 then -1 else a.f3, part := a.f4 })
    else if Int.tmod a.f0 6 = 4 then some ({ D with fuse := -1, down := false }, { M with fuse := -1, down := false })
    else if Int.tmod a.f0 6 = 5 then
      (knapsackref21_Get.f k (rl M.l) a.f1).bind fun t => if (if M.down = true then getF D a.f1 (lbN D.l a.f1) = (⟨#[]⟩, false) else getF D a.f1 (lbN D.l a.f1) = t) then some (D, M) else none
    else none
  else none
theorem act_calls (k : Nat) (w : World) (bd : Nat) (lv : Value) (bm : Nat) (mv : Value) (D M D1 M1 : Dsk) (a : S33) (hd : IsDisk w bd lv D) (hm : IsRef w bm mv M) (h : actF k D M a = some (D1, M1)) :
    Calls Try.prog 8 #[.pointer (some ⟨bd, 0, none⟩), .pointer (some ⟨bm, 0, none⟩), .agg #[.int .u8 a.f0, .string a.f1, .string a.f2, .int .i64 a.f3, .int .i64 a.f4]] w fun e w' => e = .returned (.bool true) ∧ ∃ lv' mv', TK w bd lv bm mv w' lv' mv' D1 M1 := by
  unfold actF at h
  by_cases ho : ActOk D M a
  · rw [if_pos ho] at h
    by_cases c0 : Int.tmod a.f0 6 = 0 ∨ Int.tmod a.f0 6 = 1
    · rw [if_pos c0] at h
      obtain ⟨⟨n, M2⟩, hw, h⟩ := Option.bind_eq_some_iff.mp h
      by_cases hn : n = (putF D a.f1 a.f2 (lbN D.l a.f1)).1
      · rw [if_pos hn] at h
        obtain ⟨rfl, rfl⟩ := Prod.mk.inj (Option.some.inj h)
        rw [hn] at hw
        rcases c0 with c | c
        · exact act_put0 k w bd lv bm mv D M _ a.f0 a.f3 a.f4 a.f1 a.f2 _ hd hm ho.ok ho.f1 ho.f2 ho.data c hw
        · exact act_put1 k w bd lv bm mv D M _ a.f0 a.f3 a.f4 a.f1 a.f2 _ hd hm ho.ok ho.f1 ho.f2 ho.data c hw
      · rw [if_neg hn] at h
        exact absurd h (by simp)
    · rw [if_neg c0] at h
      by_cases c2 : Int.tmod a.f0 6 = 2
      · rw [if_pos c2] at h
        obtain ⟨⟨n, M2⟩, hw, h⟩ := Option.bind_eq_some_iff.mp h
        by_cases hn : n = (dropF D a.f1 (lbN D.l a.f1)).1
        · rw [if_pos hn] at h
          obtain ⟨rfl, rfl⟩ := Prod.mk.inj (Option.some.inj h)
          rw [hn] at hw
          exact act_drop k w bd lv bm mv D M _ a.f0 a.f3 a.f4 a.f1 a.f2 _ hd hm ho.ok ho.f1 ho.f2 c2 hw
        · rw [if_neg hn] at h
          exact absurd h (by simp)
      · rw [if_neg c2] at h
        by_cases c3 : Int.tmod a.f0 6 = 3
        · rw [if_pos c3] at h
          obtain ⟨rfl, rfl⟩ := Prod.mk.inj (Option.some.inj h)
          exact act_fail k w bd lv bm mv D M a.f0 a.f3 a.f4 a.f1 a.f2 (lbN D.l a.f1) hd hm c3
        · rw [if_neg c3] at h
          by_cases c4 : Int.tmod a.f0 6 = 4
          · rw [if_pos c4] at h
            obtain ⟨rfl, rfl⟩ := Prod.mk.inj (Option.some.inj h)
            exact act_restart k w bd lv bm mv D M a.f0 a.f3 a.f4 a.f1 a.f2 (lbN D.l a.f1) hd hm c4
          · rw [if_neg c4] at h
            by_cases c5 : Int.tmod a.f0 6 = 5
            · rw [if_pos c5] at h
              obtain ⟨t, ht, h⟩ := Option.bind_eq_some_iff.mp h
              by_cases hg : (if M.down = true then getF D a.f1 (lbN D.l a.f1) = (⟨#[]⟩, false) else getF D a.f1 (lbN D.l a.f1) = t)
              · rw [if_pos hg] at h
                obtain ⟨rfl, rfl⟩ := Prod.mk.inj (Option.some.inj h)
                exact act_get k w bd lv bm mv D M a.f0 a.f3 a.f4 a.f1 a.f2 _ hd hm ho.ok ho.len t ht hg c5
              · rw [if_neg hg] at h
                exact absurd h (by simp)
            · rw [if_neg c5] at h
              exact absurd h (by simp)
  · rw [if_neg ho] at h
    exact absurd h (by simp)
end Go.Proofs.Ytaibcfghokhghaa.Dk
