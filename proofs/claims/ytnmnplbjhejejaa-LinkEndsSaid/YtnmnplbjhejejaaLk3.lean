/- link's ends: Receive. Printed by wip/gen_recv.py. -/
import Derived.Test.YtnmnplbjhejejaaLk2
set_option linter.unusedVariables false
set_option linter.unusedSimpArgs false
namespace Go.Proofs.Ytnmnplbjhejejaa.Lk
open Go.RowKit Go.Proofs.YtnmnplbjhejejaaW.PrintWords Go.Proofs.YtnmnplbjhejejaaW.PrintLast Go.Proofs.YtnmnplbjhejejaaW.PrintMore Go.Proofs.Ytnmnplbjhejejaa.PA
attribute [local go_sem] max2_int min2_int max_two min_two max_three min_three max_four min_four

def headOff (E : En) : En := { E with parts := E.parts.tail, number := IntKind.u64.wrap (E.number + 1) }
def restF (E : En) (number : Int) (text : ByteArray) (last : Bool) : Option (En × List ByteArray × Bool) :=
  if number = IntKind.u64.wrap (E.took + 1) then (takeF E text last).bind fun x => some (x.1, x.2, true) else some (E, [], true)
def recvF (k : Nat) (E : En) (s : ByteArray) : Option (En × List ByteArray × Bool) :=
  (link_read.f k s).bind fun p =>
    if p.2.2.2.2.2 = true then
      if p.1 = E.conn then
        if 0 < E.parts.length then
          if p.2.2.2.2.1 = E.number then restF (headOff E) p.2.1 p.2.2.1 p.2.2.2.1 else restF E p.2.1 p.2.2.1 p.2.2.2.1
        else restF E p.2.1 p.2.2.1 p.2.2.2.1
      else some (E, [], false)
    else some (E, [], false)
theorem IsEnd.headOff {W : World} {b g off off' c : Nat} {E : En} (he : IsEnd W b (.slice (some ⟨g, off, none⟩) E.parts.length c) E) (h0 : 0 < E.parts.length) (h : off' = off + 2 ∨ (c = 1 ∧ off' = off)) :
    IsEnd ((W.setCell ⟨b, 1, none⟩ (.slice (some ⟨g, off', none⟩) (E.parts.length - 1) (c - 1))).setCell ⟨b, 2, none⟩ (.int .u64 (IntKind.u64.wrap (E.number + 1)))) b (.slice (some ⟨g, off', none⟩) (E.parts.length - 1) (c - 1)) (Lk.headOff E) := by
  have hap : g ≠ b := by simpa [Value.ownBlock] using he.apart
  have hrow : Rw W 90 2 (.slice (some ⟨g, off', none⟩) (E.parts.length - 1) (c - 1)) (E.parts.length - 1) (pcells E.parts.tail) := by
    rcases he.row.2 with ⟨hv, _⟩ | ⟨g2, off2, cap, cur, hv, hg, hn, hm, hs, hx⟩
    · simp at hv
    · simp only [Value.slice.injEq, Option.some.injEq, Addr.mk.injEq, and_true, true_and] at hv
      obtain ⟨⟨rfl, rfl⟩, rfl⟩ := hv
      refine ⟨by rw [pcells_length, List.length_tail], .inr ⟨g, off', c - 1, cur, rfl, hg, by omega, by omega, by rcases h with rfl | ⟨h1, rfl⟩ <;> omega, ?_⟩⟩
      cases hp : E.parts with
      | nil => rw [hp] at h0; simp at h0
      | cons p l =>
        rw [hp] at hx
        simp only [List.tail_cons, List.length_cons, Nat.add_sub_cancel]
        rcases h with rfl | ⟨h1, rfl⟩
        · have := congrArg (List.drop 2) hx
          rw [List.drop_take, List.drop_drop] at this
          simp only [List.length_cons] at this
          rw [show (l.length + 1) * 2 - 2 = l.length * 2 by omega] at this
          rw [this]
          rfl
        · rw [hp] at hn
          simp only [List.length_cons] at hn
          have : l = [] := List.eq_nil_of_length_eq_zero (by omega)
          subst this
          rfl
  refine ⟨blk_put (blk_put he.cells 1 _ rfl) 2 _ rfl, ?_, by simpa [Value.ownBlock] using hap⟩
  have hl : (Lk.headOff E).parts.length = E.parts.length - 1 := by simp [Lk.headOff]
  rw [hl]
  exact (hrow.setCell (by simpa [Value.ownBlock] using hap) _).setCell (by simpa [Value.ownBlock] using hap) _
theorem IsEnd.headOff1 {W : World} {b g off : Nat} {E : En} (he : IsEnd W b (.slice (some ⟨g, off, none⟩) E.parts.length 1) E) (h0 : 0 < E.parts.length) (hc : E.parts.length ≤ 1) :
    IsEnd ((W.setCell ⟨b, 1, none⟩ (.slice (some ⟨g, off, none⟩) 0 0)).setCell ⟨b, 2, none⟩ (.int .u64 (IntKind.u64.wrap (E.number + 1)))) b (.slice (some ⟨g, off, none⟩) 0 0) (Lk.headOff E) := by
  have h := he.headOff h0 (off' := off) (.inr ⟨rfl, rfl⟩)
  rw [show E.parts.length - 1 = 0 by omega] at h
  exact h
theorem IsEnd.facts {w : World} {b : Nat} {pv : Value} {E : En} (he : IsEnd w b pv E) :
    w.cell? ⟨b, 0, none⟩ = some (.int .u64 E.conn) ∧ w.cell? ⟨b, 1, none⟩ = some pv ∧ w.cell? ⟨b, 2, none⟩ = some (.int .u64 E.number) ∧ w.cell? ⟨b, 3, none⟩ = some (.int .u64 E.took) ∧
      w.frozen? ⟨b, 1, none⟩ = false ∧ w.frozen? ⟨b, 2, none⟩ = false ∧ b < w.heap.size := by
  refine ⟨?_, ?_, ?_, ?_, ?_, ?_, (Array.getElem?_eq_some_iff.1 he.cells).1⟩
  all_goals first
    | (simp [World.cell?, he.cells, endCells]; done)
    | (simp [World.frozen?, he.cells]; done)

set_option maxHeartbeats 8000000 in
set_option maxRecDepth 100000 in
theorem recv_bad (k : Nat) (b : Nat) (pv : Value) (E : En) (s : ByteArray) (r1 r2 : Int) (r3 : ByteArray) (r4 : Bool) (r5 : Int) (r6 : Bool) (w : World) (he : IsEnd w b pv E) (hr : link_read.f k s = some (r1, r2, r3, r4, r5, r6)) (h6 : r6 = false) :
    Calls Try.prog 39 #[.pointer (some ⟨b, 0, none⟩), .string s] w fun e w' => ∃ tv pv', e = .returned (.tuple #[tv, .bool false]) ∧ IsEnd w' b pv' E ∧ Kp w w' (fun g => g = b) ∧ Rw w' 9 1 tv 0 (scells []) ∧ (∀ g, tv.ownBlock = some g → w.heap.size ≤ g) ∧ (([] : List ByteArray) = [] → tv = .slice none 0 0) ∧ (∀ g, pv'.ownBlock = some g → pv.ownBlock = some g) := by
  have AR := Aside0.mk hr
  have HE := Aside0.mk he
  clear hr he
  subst h6
  go_enter Try.func39, Try.ntmps39
  go_wp2_with (first | ((with_reducible refine gate_callee (f := 48) rfl ?_); refine goesL_ (some 12) rfl rfl Try.func48 (by kernel_rfl) rfl #[.string s] rfl (by (try simp only [List.map_toArray, List.map_cons, List.map_nil]); first | done | rfl) ?_; (with_reducible refine (link_read.calls k s r1 r2 r3 r4 r5 false _ AR.out).mono ?_); rintro e w5 ⟨rfl, hb⟩; refine ⟨_, rfl, ?_⟩; have HE5 := Aside0.mk (HE.out.below hb); have HK5 := Aside0.mk (Kp.of_below hb (fun g => g = b)); obtain ⟨x0, x1, x2, x3, f1, f2, hblt⟩ := HE5.out.facts; clear hb))
  go_region
  go_wp2
  go_ret2
  exact ⟨_, _, rfl, (by repeat (first | (with_reducible exact HE5.out) | apply IsEnd.drew | apply IsEnd.alloc)), (by repeat (first | (with_reducible exact HK5.out) | apply Kp.drew | apply Kp.alloc)), Rw.nil _ _ _, fun g hg => by simp [Value.ownBlock] at hg, fun _ => rfl, fun g hg => hg⟩

set_option maxHeartbeats 8000000 in
set_option maxRecDepth 100000 in
theorem recv_other (k : Nat) (b : Nat) (pv : Value) (E : En) (s : ByteArray) (r1 r2 : Int) (r3 : ByteArray) (r4 : Bool) (r5 : Int) (r6 : Bool) (w : World) (he : IsEnd w b pv E) (hr : link_read.f k s = some (r1, r2, r3, r4, r5, r6)) (h6 : r6 = true) (h1 : r1 ≠ E.conn) :
    Calls Try.prog 39 #[.pointer (some ⟨b, 0, none⟩), .string s] w fun e w' => ∃ tv pv', e = .returned (.tuple #[tv, .bool false]) ∧ IsEnd w' b pv' E ∧ Kp w w' (fun g => g = b) ∧ Rw w' 9 1 tv 0 (scells []) ∧ (∀ g, tv.ownBlock = some g → w.heap.size ≤ g) ∧ (([] : List ByteArray) = [] → tv = .slice none 0 0) ∧ (∀ g, pv'.ownBlock = some g → pv.ownBlock = some g) := by
  have AR := Aside0.mk hr
  have HE := Aside0.mk he
  clear hr he
  subst h6
  have c1 : (r1 == E.conn) = false := beq_eq_false_iff_ne.mpr h1
  have c2 : (r1 != E.conn) = true := bne_iff_ne.mpr h1
  have c3 : decide (r1 = E.conn) = false := decide_eq_false h1
  go_enter Try.func39, Try.ntmps39
  go_wp2_with (first | ((with_reducible refine gate_callee (f := 48) rfl ?_); refine goesL_ (some 12) rfl rfl Try.func48 (by kernel_rfl) rfl #[.string s] rfl (by (try simp only [List.map_toArray, List.map_cons, List.map_nil]); first | done | rfl) ?_; (with_reducible refine (link_read.calls k s r1 r2 r3 r4 r5 true _ AR.out).mono ?_); rintro e w5 ⟨rfl, hb⟩; refine ⟨_, rfl, ?_⟩; have HE5 := Aside0.mk (HE.out.below hb); have HK5 := Aside0.mk (Kp.of_below hb (fun g => g = b)); obtain ⟨x0, x1, x2, x3, f1, f2, hblt⟩ := HE5.out.facts; clear hb))
  go_region
  go_wp2
  go_ret2
  exact ⟨_, _, rfl, (by repeat (first | (with_reducible exact HE5.out) | apply IsEnd.drew | apply IsEnd.alloc)), (by repeat (first | (with_reducible exact HK5.out) | apply Kp.drew | apply Kp.alloc)), Rw.nil _ _ _, fun g hg => by simp [Value.ownBlock] at hg, fun _ => rfl, fun g hg => hg⟩

set_option maxHeartbeats 8000000 in
set_option maxRecDepth 100000 in
theorem recv_empty_far (k : Nat) (b : Nat) (pv : Value) (E : En) (s : ByteArray) (r1 r2 : Int) (r3 : ByteArray) (r4 : Bool) (r5 : Int) (r6 : Bool) (w : World) (he : IsEnd w b pv E) (hr : link_read.f k s = some (r1, r2, r3, r4, r5, r6)) (h6 : r6 = true) (h1 : r1 = E.conn) (h0 : ¬ 0 < E.parts.length) (h2 : r2 ≠ IntKind.u64.wrap (E.took + 1)) :
    Calls Try.prog 39 #[.pointer (some ⟨b, 0, none⟩), .string s] w fun e w' => ∃ tv pv', e = .returned (.tuple #[tv, .bool true]) ∧ IsEnd w' b pv' E ∧ Kp w w' (fun g => g = b) ∧ Rw w' 9 1 tv 0 (scells []) ∧ (∀ g, tv.ownBlock = some g → w.heap.size ≤ g) ∧ (([] : List ByteArray) = [] → tv = .slice none 0 0) ∧ (∀ g, pv'.ownBlock = some g → pv.ownBlock = some g) := by
  have AR := Aside0.mk hr
  have HE := Aside0.mk he
  clear hr he
  subst h6
  have c1a : (r1 == E.conn) = true := beq_iff_eq.mpr h1
  have c1b : (r1 != E.conn) = false := bne_eq_false_iff_eq.mpr h1
  have hl1 : (0 < E.parts.length) = False := eq_false h0
  have hl2 : decide (0 < E.parts.length) = false := decide_eq_false h0
  have hl3 : decide ((0 : Int) < (E.parts.length : Int)) = false := decide_eq_false (by omega)
  have c2a : (r2 == IntKind.u64.wrap (E.took + 1)) = false := beq_eq_false_iff_ne.mpr h2
  have c2b : (r2 != IntKind.u64.wrap (E.took + 1)) = true := bne_iff_ne.mpr h2
  obtain ⟨A, c, rfl, hc, _⟩ := HE.out.row.form
  go_enter Try.func39, Try.ntmps39
  go_wp2_with (first | ((with_reducible refine gate_callee (f := 48) rfl ?_); refine goesL_ (some 12) rfl rfl Try.func48 (by kernel_rfl) rfl #[.string s] rfl (by (try simp only [List.map_toArray, List.map_cons, List.map_nil]); first | done | rfl) ?_; (with_reducible refine (link_read.calls k s r1 r2 r3 r4 r5 true _ AR.out).mono ?_); rintro e w5 ⟨rfl, hb⟩; refine ⟨_, rfl, ?_⟩; have HE5 := Aside0.mk (HE.out.below hb); have HK5 := Aside0.mk (Kp.of_below hb (fun g => g = b)); obtain ⟨x0, x1, x2, x3, f1, f2, hblt⟩ := HE5.out.facts; clear hb))
  go_region
  go_wp2
  go_region
  go_wp2
  go_region
  go_wp2
  go_ret2
  exact ⟨_, _, rfl, (by repeat (first | (with_reducible exact HE5.out) | apply IsEnd.drew | apply IsEnd.alloc)), (by repeat (first | (with_reducible exact HK5.out) | apply Kp.drew | apply Kp.alloc)), Rw.nil _ _ _, fun g hg => by simp [Value.ownBlock] at hg, fun _ => rfl, fun g hg => hg⟩

set_option maxHeartbeats 8000000 in
set_option maxRecDepth 100000 in
theorem recv_empty_next (k : Nat) (b : Nat) (pv : Value) (E : En) (s : ByteArray) (r1 r2 : Int) (r3 : ByteArray) (r4 : Bool) (r5 : Int) (r6 : Bool) (w : World) (he : IsEnd w b pv E) (hr : link_read.f k s = some (r1, r2, r3, r4, r5, r6)) (h6 : r6 = true) (h1 : r1 = E.conn) (h0 : ¬ 0 < E.parts.length) (h2 : r2 = IntKind.u64.wrap (E.took + 1)) (E' : En) (r : List ByteArray) (ht : takeF E r3 r4 = some (E', r)) :
    Calls Try.prog 39 #[.pointer (some ⟨b, 0, none⟩), .string s] w fun e w' => ∃ tv pv', e = .returned (.tuple #[tv, .bool true]) ∧ IsEnd w' b pv' E' ∧ Kp w w' (fun g => g = b) ∧ Rw w' 9 1 tv r.length (scells r) ∧ (∀ g, tv.ownBlock = some g → w.heap.size ≤ g) ∧ (r = [] → tv = .slice none 0 0) ∧ (∀ g, pv'.ownBlock = some g → pv.ownBlock = some g) := by
  have AR := Aside0.mk hr
  have HE := Aside0.mk he
  clear hr he
  subst h6
  have c1a : (r1 == E.conn) = true := beq_iff_eq.mpr h1
  have c1b : (r1 != E.conn) = false := bne_eq_false_iff_eq.mpr h1
  have AT := Aside0.mk ht
  clear ht
  have hl1 : (0 < E.parts.length) = False := eq_false h0
  have hl2 : decide (0 < E.parts.length) = false := decide_eq_false h0
  have hl3 : decide ((0 : Int) < (E.parts.length : Int)) = false := decide_eq_false (by omega)
  have c2a : (r2 == IntKind.u64.wrap (E.took + 1)) = true := beq_iff_eq.mpr h2
  have c2b : (r2 != IntKind.u64.wrap (E.took + 1)) = false := bne_eq_false_iff_eq.mpr h2
  obtain ⟨A, c, rfl, hc, _⟩ := HE.out.row.form
  go_enter Try.func39, Try.ntmps39
  go_wp2_with (first | ((with_reducible refine gate_callee (f := 48) rfl ?_); refine goesL_ (some 12) rfl rfl Try.func48 (by kernel_rfl) rfl #[.string s] rfl (by (try simp only [List.map_toArray, List.map_cons, List.map_nil]); first | done | rfl) ?_; (with_reducible refine (link_read.calls k s r1 r2 r3 r4 r5 true _ AR.out).mono ?_); rintro e w5 ⟨rfl, hb⟩; refine ⟨_, rfl, ?_⟩; have HE5 := Aside0.mk (HE.out.below hb); have HK5 := Aside0.mk (Kp.of_below hb (fun g => g = b)); obtain ⟨x0, x1, x2, x3, f1, f2, hblt⟩ := HE5.out.facts; clear hb))
  go_region
  go_wp2
  go_region
  go_wp2
  go_region
  go_wp2_with (first | ((with_reducible refine gate_callee (f := 49) rfl ?_); refine goesL_ (some 67) rfl rfl Try.func49 (by kernel_rfl) rfl #[.pointer (some ⟨b, 0, none⟩), .agg #[.string r3, .bool r4]] rfl (by (try simp only [List.map_toArray, List.map_cons, List.map_nil]); first | done | rfl) ?_; (with_reducible refine (take_calls b _ E E' r3 r4 r _ (by repeat (first | (with_reducible exact HE5.out) | apply IsEnd.drew | apply IsEnd.alloc)) AT.out).mono ?_); rintro e w6 ⟨tv, rfl, hE6, hK6, hR6, hF6, hT6⟩; refine ⟨_, rfl, ?_⟩))
  go_ret2
  exact ⟨_, _, rfl, hE6, Kp.trans (by repeat (first | (with_reducible exact HK5.out) | apply Kp.drew | apply Kp.alloc)) hK6 (fun _ _ h => h), hR6, fun g hg => Nat.le_trans (Kp.size (by repeat (first | (with_reducible exact HK5.out) | apply Kp.drew | apply Kp.alloc))) (hF6 g hg), hT6, fun g hg => hg⟩

set_option maxHeartbeats 8000000 in
set_option maxRecDepth 100000 in
theorem recv_kept_far (k : Nat) (b : Nat) (pv : Value) (E : En) (s : ByteArray) (r1 r2 : Int) (r3 : ByteArray) (r4 : Bool) (r5 : Int) (r6 : Bool) (w : World) (he : IsEnd w b pv E) (hr : link_read.f k s = some (r1, r2, r3, r4, r5, r6)) (h6 : r6 = true) (h1 : r1 = E.conn) (h0 : 0 < E.parts.length) (h5 : r5 ≠ E.number) (h2 : r2 ≠ IntKind.u64.wrap (E.took + 1)) :
    Calls Try.prog 39 #[.pointer (some ⟨b, 0, none⟩), .string s] w fun e w' => ∃ tv pv', e = .returned (.tuple #[tv, .bool true]) ∧ IsEnd w' b pv' E ∧ Kp w w' (fun g => g = b) ∧ Rw w' 9 1 tv 0 (scells []) ∧ (∀ g, tv.ownBlock = some g → w.heap.size ≤ g) ∧ (([] : List ByteArray) = [] → tv = .slice none 0 0) ∧ (∀ g, pv'.ownBlock = some g → pv.ownBlock = some g) := by
  have AR := Aside0.mk hr
  have HE := Aside0.mk he
  clear hr he
  subst h6
  have c1a : (r1 == E.conn) = true := beq_iff_eq.mpr h1
  have c1b : (r1 != E.conn) = false := bne_eq_false_iff_eq.mpr h1
  have hl1 : (0 < E.parts.length) = True := eq_true h0
  have hl2 : decide (0 < E.parts.length) = true := decide_eq_true h0
  have hl3 : decide ((0 : Int) < (E.parts.length : Int)) = true := decide_eq_true (by omega)
  have c5a : (r5 == E.number) = false := beq_eq_false_iff_ne.mpr h5
  have c5b : (r5 != E.number) = true := bne_iff_ne.mpr h5
  have c2a : (r2 == IntKind.u64.wrap (E.took + 1)) = false := beq_eq_false_iff_ne.mpr h2
  have c2b : (r2 != IntKind.u64.wrap (E.took + 1)) = true := bne_iff_ne.mpr h2
  obtain ⟨A, c, rfl, hc, _⟩ := HE.out.row.form
  go_enter Try.func39, Try.ntmps39
  go_wp2_with (first | ((with_reducible refine gate_callee (f := 48) rfl ?_); refine goesL_ (some 12) rfl rfl Try.func48 (by kernel_rfl) rfl #[.string s] rfl (by (try simp only [List.map_toArray, List.map_cons, List.map_nil]); first | done | rfl) ?_; (with_reducible refine (link_read.calls k s r1 r2 r3 r4 r5 true _ AR.out).mono ?_); rintro e w5 ⟨rfl, hb⟩; refine ⟨_, rfl, ?_⟩; have HE5 := Aside0.mk (HE.out.below hb); have HK5 := Aside0.mk (Kp.of_below hb (fun g => g = b)); obtain ⟨x0, x1, x2, x3, f1, f2, hblt⟩ := HE5.out.facts; clear hb))
  go_region
  go_wp2
  go_region
  go_wp2
  go_region
  go_wp2
  go_ret2
  exact ⟨_, _, rfl, (by repeat (first | (with_reducible exact HE5.out) | apply IsEnd.drew | apply IsEnd.alloc)), (by repeat (first | (with_reducible exact HK5.out) | apply Kp.drew | apply Kp.alloc)), Rw.nil _ _ _, fun g hg => by simp [Value.ownBlock] at hg, fun _ => rfl, fun g hg => hg⟩

set_option maxHeartbeats 8000000 in
set_option maxRecDepth 100000 in
theorem recv_kept_next (k : Nat) (b : Nat) (pv : Value) (E : En) (s : ByteArray) (r1 r2 : Int) (r3 : ByteArray) (r4 : Bool) (r5 : Int) (r6 : Bool) (w : World) (he : IsEnd w b pv E) (hr : link_read.f k s = some (r1, r2, r3, r4, r5, r6)) (h6 : r6 = true) (h1 : r1 = E.conn) (h0 : 0 < E.parts.length) (h5 : r5 ≠ E.number) (h2 : r2 = IntKind.u64.wrap (E.took + 1)) (E' : En) (r : List ByteArray) (ht : takeF E r3 r4 = some (E', r)) :
    Calls Try.prog 39 #[.pointer (some ⟨b, 0, none⟩), .string s] w fun e w' => ∃ tv pv', e = .returned (.tuple #[tv, .bool true]) ∧ IsEnd w' b pv' E' ∧ Kp w w' (fun g => g = b) ∧ Rw w' 9 1 tv r.length (scells r) ∧ (∀ g, tv.ownBlock = some g → w.heap.size ≤ g) ∧ (r = [] → tv = .slice none 0 0) ∧ (∀ g, pv'.ownBlock = some g → pv.ownBlock = some g) := by
  have AR := Aside0.mk hr
  have HE := Aside0.mk he
  clear hr he
  subst h6
  have c1a : (r1 == E.conn) = true := beq_iff_eq.mpr h1
  have c1b : (r1 != E.conn) = false := bne_eq_false_iff_eq.mpr h1
  have AT := Aside0.mk ht
  clear ht
  have hl1 : (0 < E.parts.length) = True := eq_true h0
  have hl2 : decide (0 < E.parts.length) = true := decide_eq_true h0
  have hl3 : decide ((0 : Int) < (E.parts.length : Int)) = true := decide_eq_true (by omega)
  have c5a : (r5 == E.number) = false := beq_eq_false_iff_ne.mpr h5
  have c5b : (r5 != E.number) = true := bne_iff_ne.mpr h5
  have c2a : (r2 == IntKind.u64.wrap (E.took + 1)) = true := beq_iff_eq.mpr h2
  have c2b : (r2 != IntKind.u64.wrap (E.took + 1)) = false := bne_eq_false_iff_eq.mpr h2
  obtain ⟨A, c, rfl, hc, _⟩ := HE.out.row.form
  go_enter Try.func39, Try.ntmps39
  go_wp2_with (first | ((with_reducible refine gate_callee (f := 48) rfl ?_); refine goesL_ (some 12) rfl rfl Try.func48 (by kernel_rfl) rfl #[.string s] rfl (by (try simp only [List.map_toArray, List.map_cons, List.map_nil]); first | done | rfl) ?_; (with_reducible refine (link_read.calls k s r1 r2 r3 r4 r5 true _ AR.out).mono ?_); rintro e w5 ⟨rfl, hb⟩; refine ⟨_, rfl, ?_⟩; have HE5 := Aside0.mk (HE.out.below hb); have HK5 := Aside0.mk (Kp.of_below hb (fun g => g = b)); obtain ⟨x0, x1, x2, x3, f1, f2, hblt⟩ := HE5.out.facts; clear hb))
  go_region
  go_wp2
  go_region
  go_wp2
  go_region
  go_wp2_with (first | ((with_reducible refine gate_callee (f := 49) rfl ?_); refine goesL_ (some 67) rfl rfl Try.func49 (by kernel_rfl) rfl #[.pointer (some ⟨b, 0, none⟩), .agg #[.string r3, .bool r4]] rfl (by (try simp only [List.map_toArray, List.map_cons, List.map_nil]); first | done | rfl) ?_; (with_reducible refine (take_calls b _ E E' r3 r4 r _ (by repeat (first | (with_reducible exact HE5.out) | apply IsEnd.drew | apply IsEnd.alloc)) AT.out).mono ?_); rintro e w6 ⟨tv, rfl, hE6, hK6, hR6, hF6, hT6⟩; refine ⟨_, rfl, ?_⟩))
  go_ret2
  exact ⟨_, _, rfl, hE6, Kp.trans (by repeat (first | (with_reducible exact HK5.out) | apply Kp.drew | apply Kp.alloc)) hK6 (fun _ _ h => h), hR6, fun g hg => Nat.le_trans (Kp.size (by repeat (first | (with_reducible exact HK5.out) | apply Kp.drew | apply Kp.alloc))) (hF6 g hg), hT6, fun g hg => hg⟩

set_option maxHeartbeats 8000000 in
set_option maxRecDepth 100000 in
theorem recv_head_far_one (k : Nat) (b : Nat) (pv : Value) (E : En) (s : ByteArray) (r1 r2 : Int) (r3 : ByteArray) (r4 : Bool) (r5 : Int) (r6 : Bool) (w : World) (he : IsEnd w b pv E) (hr : link_read.f k s = some (r1, r2, r3, r4, r5, r6)) (h6 : r6 = true) (h1 : r1 = E.conn) (h0 : 0 < E.parts.length) (h5 : r5 = E.number) (g off c : Nat) (hpv : pv = .slice (some ⟨g, off, none⟩) E.parts.length c) (hc : E.parts.length ≤ c) (hc1 : c = 1) (h2 : r2 ≠ IntKind.u64.wrap (E.took + 1)) :
    Calls Try.prog 39 #[.pointer (some ⟨b, 0, none⟩), .string s] w fun e w' => ∃ tv pv', e = .returned (.tuple #[tv, .bool true]) ∧ IsEnd w' b pv' (headOff E) ∧ Kp w w' (fun g => g = b) ∧ Rw w' 9 1 tv 0 (scells []) ∧ (∀ g, tv.ownBlock = some g → w.heap.size ≤ g) ∧ (([] : List ByteArray) = [] → tv = .slice none 0 0) ∧ (∀ g, pv'.ownBlock = some g → pv.ownBlock = some g) := by
  have AR := Aside0.mk hr
  have HE := Aside0.mk he
  clear hr he
  subst h6
  have c1a : (r1 == E.conn) = true := beq_iff_eq.mpr h1
  have c1b : (r1 != E.conn) = false := bne_eq_false_iff_eq.mpr h1
  subst hpv
  have hl1 : (0 < E.parts.length) = True := eq_true h0
  have hl2 : decide (0 < E.parts.length) = true := decide_eq_true h0
  have hl3 : decide ((0 : Int) < (E.parts.length : Int)) = true := decide_eq_true (by omega)
  have c5a : (r5 == E.number) = true := beq_iff_eq.mpr h5
  have c5b : (r5 != E.number) = false := bne_eq_false_iff_eq.mpr h5
  subst hc1
  have c2a : (r2 == IntKind.u64.wrap (E.took + 1)) = false := beq_eq_false_iff_ne.mpr h2
  have c2b : (r2 != IntKind.u64.wrap (E.took + 1)) = true := bne_iff_ne.mpr h2
  go_enter Try.func39, Try.ntmps39
  go_wp2_with (first | ((with_reducible refine gate_callee (f := 48) rfl ?_); refine goesL_ (some 12) rfl rfl Try.func48 (by kernel_rfl) rfl #[.string s] rfl (by (try simp only [List.map_toArray, List.map_cons, List.map_nil]); first | done | rfl) ?_; (with_reducible refine (link_read.calls k s r1 r2 r3 r4 r5 true _ AR.out).mono ?_); rintro e w5 ⟨rfl, hb⟩; refine ⟨_, rfl, ?_⟩; have HE5 := Aside0.mk (HE.out.below hb); have HK5 := Aside0.mk (Kp.of_below hb (fun g => g = b)); obtain ⟨x0, x1, x2, x3, f1, f2, hblt⟩ := HE5.out.facts; clear hb))
  go_region
  go_wp2
  go_region
  go_wp2
  go_region
  go_wp2
  go_ret2
  exact ⟨_, (.slice (some ⟨g, off, none⟩) 0 0), rfl, (by repeat (first | (with_reducible exact HE5.out.headOff1 h0 hc) | apply IsEnd.drew | apply IsEnd.alloc)), (by repeat (first | (with_reducible exact HK5.out) | apply Kp.drew | apply Kp.alloc | (refine Kp.setCell (S := fun g => g = b) ?_ _ _ (fun _ => rfl)))), Rw.nil _ _ _, fun g hg => by simp [Value.ownBlock] at hg, fun _ => rfl, fun g hg => hg⟩

set_option maxHeartbeats 8000000 in
set_option maxRecDepth 100000 in
theorem recv_head_next_one (k : Nat) (b : Nat) (pv : Value) (E : En) (s : ByteArray) (r1 r2 : Int) (r3 : ByteArray) (r4 : Bool) (r5 : Int) (r6 : Bool) (w : World) (he : IsEnd w b pv E) (hr : link_read.f k s = some (r1, r2, r3, r4, r5, r6)) (h6 : r6 = true) (h1 : r1 = E.conn) (h0 : 0 < E.parts.length) (h5 : r5 = E.number) (g off c : Nat) (hpv : pv = .slice (some ⟨g, off, none⟩) E.parts.length c) (hc : E.parts.length ≤ c) (hc1 : c = 1) (h2 : r2 = IntKind.u64.wrap (E.took + 1)) (E' : En) (r : List ByteArray) (ht : takeF (headOff E) r3 r4 = some (E', r)) :
    Calls Try.prog 39 #[.pointer (some ⟨b, 0, none⟩), .string s] w fun e w' => ∃ tv pv', e = .returned (.tuple #[tv, .bool true]) ∧ IsEnd w' b pv' E' ∧ Kp w w' (fun g => g = b) ∧ Rw w' 9 1 tv r.length (scells r) ∧ (∀ g, tv.ownBlock = some g → w.heap.size ≤ g) ∧ (r = [] → tv = .slice none 0 0) ∧ (∀ g, pv'.ownBlock = some g → pv.ownBlock = some g) := by
  have AR := Aside0.mk hr
  have HE := Aside0.mk he
  clear hr he
  subst h6
  have c1a : (r1 == E.conn) = true := beq_iff_eq.mpr h1
  have c1b : (r1 != E.conn) = false := bne_eq_false_iff_eq.mpr h1
  subst hpv
  have hl1 : (0 < E.parts.length) = True := eq_true h0
  have hl2 : decide (0 < E.parts.length) = true := decide_eq_true h0
  have hl3 : decide ((0 : Int) < (E.parts.length : Int)) = true := decide_eq_true (by omega)
  have c5a : (r5 == E.number) = true := beq_iff_eq.mpr h5
  have c5b : (r5 != E.number) = false := bne_eq_false_iff_eq.mpr h5
  subst hc1
  have AT := Aside0.mk ht
  clear ht
  have c2a : (r2 == IntKind.u64.wrap (E.took + 1)) = true := beq_iff_eq.mpr h2
  have c2b : (r2 != IntKind.u64.wrap (E.took + 1)) = false := bne_eq_false_iff_eq.mpr h2
  go_enter Try.func39, Try.ntmps39
  go_wp2_with (first | ((with_reducible refine gate_callee (f := 48) rfl ?_); refine goesL_ (some 12) rfl rfl Try.func48 (by kernel_rfl) rfl #[.string s] rfl (by (try simp only [List.map_toArray, List.map_cons, List.map_nil]); first | done | rfl) ?_; (with_reducible refine (link_read.calls k s r1 r2 r3 r4 r5 true _ AR.out).mono ?_); rintro e w5 ⟨rfl, hb⟩; refine ⟨_, rfl, ?_⟩; have HE5 := Aside0.mk (HE.out.below hb); have HK5 := Aside0.mk (Kp.of_below hb (fun g => g = b)); obtain ⟨x0, x1, x2, x3, f1, f2, hblt⟩ := HE5.out.facts; clear hb))
  go_region
  go_wp2
  go_region
  go_wp2
  go_region
  go_wp2_with (first | ((with_reducible refine gate_callee (f := 49) rfl ?_); refine goesL_ (some 67) rfl rfl Try.func49 (by kernel_rfl) rfl #[.pointer (some ⟨b, 0, none⟩), .agg #[.string r3, .bool r4]] rfl (by (try simp only [List.map_toArray, List.map_cons, List.map_nil]); first | done | rfl) ?_; (with_reducible refine (take_calls b (.slice (some ⟨g, off, none⟩) 0 0) (headOff E) E' r3 r4 r _ (by repeat (first | (with_reducible exact HE5.out.headOff1 h0 hc) | apply IsEnd.drew | apply IsEnd.alloc)) AT.out).mono ?_); rintro e w6 ⟨tv, rfl, hE6, hK6, hR6, hF6, hT6⟩; refine ⟨_, rfl, ?_⟩))
  go_ret2
  exact ⟨_, (.slice (some ⟨g, off, none⟩) 0 0), rfl, hE6, Kp.trans (S := fun g => g = b) (by repeat (first | (with_reducible exact HK5.out) | apply Kp.drew | apply Kp.alloc | (refine Kp.setCell (S := fun g => g = b) ?_ _ _ (fun _ => rfl)))) hK6 (fun _ _ h => h), hR6, fun g hg => Nat.le_trans (Kp.size (S := fun g => g = b) (by repeat (first | (with_reducible exact HK5.out) | apply Kp.drew | apply Kp.alloc | (refine Kp.setCell (S := fun g => g = b) ?_ _ _ (fun _ => rfl))))) (hF6 g hg), hT6, fun g hg => hg⟩

set_option maxHeartbeats 8000000 in
set_option maxRecDepth 100000 in
theorem recv_head_far_more (k : Nat) (b : Nat) (pv : Value) (E : En) (s : ByteArray) (r1 r2 : Int) (r3 : ByteArray) (r4 : Bool) (r5 : Int) (r6 : Bool) (w : World) (he : IsEnd w b pv E) (hr : link_read.f k s = some (r1, r2, r3, r4, r5, r6)) (h6 : r6 = true) (h1 : r1 = E.conn) (h0 : 0 < E.parts.length) (h5 : r5 = E.number) (g off c : Nat) (hpv : pv = .slice (some ⟨g, off, none⟩) E.parts.length c) (hc : E.parts.length ≤ c) (hc1 : c ≠ 1) (h2 : r2 ≠ IntKind.u64.wrap (E.took + 1)) :
    Calls Try.prog 39 #[.pointer (some ⟨b, 0, none⟩), .string s] w fun e w' => ∃ tv pv', e = .returned (.tuple #[tv, .bool true]) ∧ IsEnd w' b pv' (headOff E) ∧ Kp w w' (fun g => g = b) ∧ Rw w' 9 1 tv 0 (scells []) ∧ (∀ g, tv.ownBlock = some g → w.heap.size ≤ g) ∧ (([] : List ByteArray) = [] → tv = .slice none 0 0) ∧ (∀ g, pv'.ownBlock = some g → pv.ownBlock = some g) := by
  have AR := Aside0.mk hr
  have HE := Aside0.mk he
  clear hr he
  subst h6
  have c1a : (r1 == E.conn) = true := beq_iff_eq.mpr h1
  have c1b : (r1 != E.conn) = false := bne_eq_false_iff_eq.mpr h1
  subst hpv
  have hl1 : (0 < E.parts.length) = True := eq_true h0
  have hl2 : decide (0 < E.parts.length) = true := decide_eq_true h0
  have hl3 : decide ((0 : Int) < (E.parts.length : Int)) = true := decide_eq_true (by omega)
  have c5a : (r5 == E.number) = true := beq_iff_eq.mpr h5
  have c5b : (r5 != E.number) = false := bne_eq_false_iff_eq.mpr h5
  have c2a : (r2 == IntKind.u64.wrap (E.took + 1)) = false := beq_eq_false_iff_ne.mpr h2
  have c2b : (r2 != IntKind.u64.wrap (E.took + 1)) = true := bne_iff_ne.mpr h2
  go_enter Try.func39, Try.ntmps39
  go_wp2_with (first | ((with_reducible refine gate_callee (f := 48) rfl ?_); refine goesL_ (some 12) rfl rfl Try.func48 (by kernel_rfl) rfl #[.string s] rfl (by (try simp only [List.map_toArray, List.map_cons, List.map_nil]); first | done | rfl) ?_; (with_reducible refine (link_read.calls k s r1 r2 r3 r4 r5 true _ AR.out).mono ?_); rintro e w5 ⟨rfl, hb⟩; refine ⟨_, rfl, ?_⟩; have HE5 := Aside0.mk (HE.out.below hb); have HK5 := Aside0.mk (Kp.of_below hb (fun g => g = b)); obtain ⟨x0, x1, x2, x3, f1, f2, hblt⟩ := HE5.out.facts; clear hb))
  go_region
  go_wp2
  go_region
  go_wp2
  go_region
  go_wp2
  go_ret2
  exact ⟨_, (.slice (some ⟨g, off + 2, none⟩) (E.parts.length - 1) (c - 1)), rfl, (by repeat (first | (with_reducible exact HE5.out.headOff h0 (.inl rfl)) | apply IsEnd.drew | apply IsEnd.alloc)), (by repeat (first | (with_reducible exact HK5.out) | apply Kp.drew | apply Kp.alloc | (refine Kp.setCell (S := fun g => g = b) ?_ _ _ (fun _ => rfl)))), Rw.nil _ _ _, fun g hg => by simp [Value.ownBlock] at hg, fun _ => rfl, fun g hg => hg⟩

set_option maxHeartbeats 8000000 in
set_option maxRecDepth 100000 in
theorem recv_head_next_more (k : Nat) (b : Nat) (pv : Value) (E : En) (s : ByteArray) (r1 r2 : Int) (r3 : ByteArray) (r4 : Bool) (r5 : Int) (r6 : Bool) (w : World) (he : IsEnd w b pv E) (hr : link_read.f k s = some (r1, r2, r3, r4, r5, r6)) (h6 : r6 = true) (h1 : r1 = E.conn) (h0 : 0 < E.parts.length) (h5 : r5 = E.number) (g off c : Nat) (hpv : pv = .slice (some ⟨g, off, none⟩) E.parts.length c) (hc : E.parts.length ≤ c) (hc1 : c ≠ 1) (h2 : r2 = IntKind.u64.wrap (E.took + 1)) (E' : En) (r : List ByteArray) (ht : takeF (headOff E) r3 r4 = some (E', r)) :
    Calls Try.prog 39 #[.pointer (some ⟨b, 0, none⟩), .string s] w fun e w' => ∃ tv pv', e = .returned (.tuple #[tv, .bool true]) ∧ IsEnd w' b pv' E' ∧ Kp w w' (fun g => g = b) ∧ Rw w' 9 1 tv r.length (scells r) ∧ (∀ g, tv.ownBlock = some g → w.heap.size ≤ g) ∧ (r = [] → tv = .slice none 0 0) ∧ (∀ g, pv'.ownBlock = some g → pv.ownBlock = some g) := by
  have AR := Aside0.mk hr
  have HE := Aside0.mk he
  clear hr he
  subst h6
  have c1a : (r1 == E.conn) = true := beq_iff_eq.mpr h1
  have c1b : (r1 != E.conn) = false := bne_eq_false_iff_eq.mpr h1
  subst hpv
  have hl1 : (0 < E.parts.length) = True := eq_true h0
  have hl2 : decide (0 < E.parts.length) = true := decide_eq_true h0
  have hl3 : decide ((0 : Int) < (E.parts.length : Int)) = true := decide_eq_true (by omega)
  have c5a : (r5 == E.number) = true := beq_iff_eq.mpr h5
  have c5b : (r5 != E.number) = false := bne_eq_false_iff_eq.mpr h5
  have AT := Aside0.mk ht
  clear ht
  have c2a : (r2 == IntKind.u64.wrap (E.took + 1)) = true := beq_iff_eq.mpr h2
  have c2b : (r2 != IntKind.u64.wrap (E.took + 1)) = false := bne_eq_false_iff_eq.mpr h2
  go_enter Try.func39, Try.ntmps39
  go_wp2_with (first | ((with_reducible refine gate_callee (f := 48) rfl ?_); refine goesL_ (some 12) rfl rfl Try.func48 (by kernel_rfl) rfl #[.string s] rfl (by (try simp only [List.map_toArray, List.map_cons, List.map_nil]); first | done | rfl) ?_; (with_reducible refine (link_read.calls k s r1 r2 r3 r4 r5 true _ AR.out).mono ?_); rintro e w5 ⟨rfl, hb⟩; refine ⟨_, rfl, ?_⟩; have HE5 := Aside0.mk (HE.out.below hb); have HK5 := Aside0.mk (Kp.of_below hb (fun g => g = b)); obtain ⟨x0, x1, x2, x3, f1, f2, hblt⟩ := HE5.out.facts; clear hb))
  go_region
  go_wp2
  go_region
  go_wp2
  go_region
  go_wp2_with (first | ((with_reducible refine gate_callee (f := 49) rfl ?_); refine goesL_ (some 67) rfl rfl Try.func49 (by kernel_rfl) rfl #[.pointer (some ⟨b, 0, none⟩), .agg #[.string r3, .bool r4]] rfl (by (try simp only [List.map_toArray, List.map_cons, List.map_nil]); first | done | rfl) ?_; (with_reducible refine (take_calls b (.slice (some ⟨g, off + 2, none⟩) (E.parts.length - 1) (c - 1)) (headOff E) E' r3 r4 r _ (by repeat (first | (with_reducible exact HE5.out.headOff h0 (.inl rfl)) | apply IsEnd.drew | apply IsEnd.alloc)) AT.out).mono ?_); rintro e w6 ⟨tv, rfl, hE6, hK6, hR6, hF6, hT6⟩; refine ⟨_, rfl, ?_⟩))
  go_ret2
  exact ⟨_, (.slice (some ⟨g, off + 2, none⟩) (E.parts.length - 1) (c - 1)), rfl, hE6, Kp.trans (S := fun g => g = b) (by repeat (first | (with_reducible exact HK5.out) | apply Kp.drew | apply Kp.alloc | (refine Kp.setCell (S := fun g => g = b) ?_ _ _ (fun _ => rfl)))) hK6 (fun _ _ h => h), hR6, fun g hg => Nat.le_trans (Kp.size (S := fun g => g = b) (by repeat (first | (with_reducible exact HK5.out) | apply Kp.drew | apply Kp.alloc | (refine Kp.setCell (S := fun g => g = b) ?_ _ _ (fun _ => rfl))))) (hF6 g hg), hT6, fun g hg => hg⟩

/-- Receive, all ways. -/
theorem recv_calls (k : Nat) (b : Nat) (pv : Value) (E E' : En) (s : ByteArray) (r : List ByteArray) (ok : Bool) (w : World) (he : IsEnd w b pv E) (h : recvF k E s = some (E', r, ok)) :
    Calls Try.prog 39 #[.pointer (some ⟨b, 0, none⟩), .string s] w fun e w' => ∃ tv pv', e = .returned (.tuple #[tv, .bool ok]) ∧ IsEnd w' b pv' E' ∧ Kp w w' (fun g => g = b) ∧ Rw w' 9 1 tv r.length (scells r) ∧ (∀ g, tv.ownBlock = some g → w.heap.size ≤ g) ∧ (r = [] → tv = .slice none 0 0) ∧ (∀ g, pv'.ownBlock = some g → pv.ownBlock = some g) := by
  unfold recvF at h
  obtain ⟨⟨r1, r2, r3, r4, r5, r6⟩, hr, h⟩ := Option.bind_eq_some_iff.mp h
  simp only at h
  by_cases h6 : r6 = true
  · rw [if_pos h6] at h
    by_cases h1 : r1 = E.conn
    · rw [if_pos h1] at h
      have rest : ∀ E1, restF E1 r2 r3 r4 = some (E', r, ok) → (r2 ≠ IntKind.u64.wrap (E1.took + 1) ∧ E' = E1 ∧ r = [] ∧ ok = true) ∨ (r2 = IntKind.u64.wrap (E1.took + 1) ∧ takeF E1 r3 r4 = some (E', r) ∧ ok = true) := by
        intro E1 hE
        unfold restF at hE
        by_cases h2 : r2 = IntKind.u64.wrap (E1.took + 1)
        · rw [if_pos h2] at hE
          obtain ⟨x, hx, hE⟩ := Option.bind_eq_some_iff.mp hE
          simp only [Option.some.injEq, Prod.mk.injEq] at hE
          obtain ⟨rfl, rfl, rfl⟩ := hE
          exact .inr ⟨h2, hx, rfl⟩
        · rw [if_neg h2] at hE
          simp only [Option.some.injEq, Prod.mk.injEq] at hE
          obtain ⟨rfl, rfl, rfl⟩ := hE
          exact .inl ⟨h2, rfl, rfl, rfl⟩
      by_cases h0 : 0 < E.parts.length
      · rw [if_pos h0] at h
        by_cases h5 : r5 = E.number
        · rw [if_pos h5] at h
          obtain ⟨g, off, c, hpv, hc, _⟩ := he.row.form2 h0
          rcases rest _ h with ⟨h2, rfl, rfl, rfl⟩ | ⟨h2, ht, rfl⟩
          · by_cases hc1 : c = 1
            · exact recv_head_far_one k b pv E s r1 r2 r3 r4 r5 r6 w he hr h6 h1 h0 h5 g off c hpv hc hc1 h2
            · exact recv_head_far_more k b pv E s r1 r2 r3 r4 r5 r6 w he hr h6 h1 h0 h5 g off c hpv hc hc1 h2
          · by_cases hc1 : c = 1
            · exact recv_head_next_one k b pv E s r1 r2 r3 r4 r5 r6 w he hr h6 h1 h0 h5 g off c hpv hc hc1 h2 E' r ht
            · exact recv_head_next_more k b pv E s r1 r2 r3 r4 r5 r6 w he hr h6 h1 h0 h5 g off c hpv hc hc1 h2 E' r ht
        · rw [if_neg h5] at h
          rcases rest _ h with ⟨h2, rfl, rfl, rfl⟩ | ⟨h2, ht, rfl⟩
          · exact recv_kept_far k b pv E' s r1 r2 r3 r4 r5 r6 w he hr h6 h1 h0 h5 h2
          · exact recv_kept_next k b pv E s r1 r2 r3 r4 r5 r6 w he hr h6 h1 h0 h5 h2 E' r ht
      · rw [if_neg h0] at h
        rcases rest _ h with ⟨h2, rfl, rfl, rfl⟩ | ⟨h2, ht, rfl⟩
        · exact recv_empty_far k b pv E' s r1 r2 r3 r4 r5 r6 w he hr h6 h1 h0 h2
        · exact recv_empty_next k b pv E s r1 r2 r3 r4 r5 r6 w he hr h6 h1 h0 h2 E' r ht
    · rw [if_neg h1] at h
      simp only [Option.some.injEq, Prod.mk.injEq] at h
      obtain ⟨rfl, rfl, rfl⟩ := h
      exact recv_other k b pv E s r1 r2 r3 r4 r5 r6 w he hr h6 h1
  · rw [if_neg h6] at h
    simp only [Option.some.injEq, Prod.mk.injEq] at h
    obtain ⟨rfl, rfl, rfl⟩ := h
    exact recv_bad k b pv E s r1 r2 r3 r4 r5 r6 w he hr (by simpa using h6)
end Go.Proofs.Ytnmnplbjhejejaa.Lk
