/- link's ends: take, Receive, Tick, Idle. -/
import Derived.Test.YtnmnplbjhejejaaLk1
set_option linter.unusedVariables false
set_option linter.unusedSimpArgs false
namespace Go.Proofs.Ytnmnplbjhejejaa.Lk
open Go.RowKit Go.Proofs.YtnmnplbjhejejaaW.PrintWords Go.Proofs.YtnmnplbjhejejaaW.PrintLast Go.Proofs.YtnmnplbjhejejaaW.PrintMore Go.Proofs.Ytnmnplbjhejejaa.PA
attribute [local go_sem] max2_int min2_int max_two min_two max_three min_three max_four min_four

theorem IsEnd.set {w : World} {b : Nat} {pv : Value} {E E' : En} (he : IsEnd w b pv E) (i : Nat) (v : Value) (e : (endCells pv E).setIfInBounds i v = endCells pv E') (hl : E'.parts = E.parts) : IsEnd (w.setCell ⟨b, i, none⟩ v) b pv E' :=
  ⟨blk_put he.cells i v e, by rw [hl]; exact he.row.setCell he.apart v, he.apart⟩
theorem IsEnd.kp {w w' : World} {b : Nat} {pv : Value} {E : En} {S : Nat → Prop} (he : IsEnd w b pv E) (hk : Kp w w' S) (h1 : ¬ S b) (h2 : ∀ g, pv.ownBlock = some g → ¬ S g) : IsEnd w' b pv E :=
  ⟨hk.at he.cells h1, he.row.kp hk h2, he.apart⟩
theorem IsEnd.alloc {w : World} {b : Nat} {pv : Value} {E : En} (he : IsEnd w b pv E) (o : Obj) : IsEnd (w.alloc o) b pv E := he.kp ((Kp.refl w (fun _ => False)).alloc o) (fun x => x) (fun _ _ x => x)
theorem IsEnd.drew {w : World} {b : Nat} {pv : Value} {E : En} (he : IsEnd w b pv E) : IsEnd w.drew b pv E := ⟨he.cells, he.row, he.apart⟩
theorem IsEnd.drewN {w : World} {b : Nat} {pv : Value} {E : En} (he : IsEnd w b pv E) (n : Nat) : IsEnd (w.drewN n) b pv E := ⟨he.cells, he.row, he.apart⟩
theorem IsEnd.below {w w' : World} {b : Nat} {pv : Value} {E : En} (he : IsEnd w b pv E) (hb : Below w.heap.size w w') : IsEnd w' b pv E := he.kp (Kp.of_below hb (fun _ => False)) (fun x => x) (fun _ _ x => x)
theorem Rw.made {W : World} {e sz n g : Nat} (cs : Array Value) (hg : W.heap[g]? = some (.cells cs e (0, 0))) (hn : n ≤ maxLen) (h : cs.size = n * sz) : Rw W e sz (.slice (some ⟨g, 0, none⟩) n n) n cs.toList :=
  ⟨by simpa using h, .inr ⟨g, 0, n, cs, rfl, hg, Nat.le_refl _, hn, by omega, by rw [List.drop_zero]; exact List.take_of_length_le (by rw [Array.length_toList]; omega)⟩⟩
theorem made_at {W : World} {o : Obj} {g : Nat} (h : W.heap.size = g) : (W.alloc o).heap[g]? = some o := by subst h; exact heap_alloc_new W o
def scells (l : List ByteArray) : List Value := l.map Value.string
def takeF (E : En) (t : ByteArray) (l : Bool) : Option (En × List ByteArray) :=
  if E.text.size + t.size ≤ 9223372036854775807 then
    if l = true then some ({ E with took := IntKind.u64.wrap (E.took + 1), text := ⟨#[]⟩ }, [E.text ++ t])
    else some ({ E with took := IntKind.u64.wrap (E.took + 1), text := E.text ++ t }, [])
  else none

set_option maxHeartbeats 8000000 in
set_option maxRecDepth 100000 in
theorem take_calls (b : Nat) (pv : Value) (E E' : En) (t : ByteArray) (l : Bool) (r : List ByteArray) (w : World) (he : IsEnd w b pv E) (h : takeF E t l = some (E', r)) :
    Calls Try.prog 49 #[.pointer (some ⟨b, 0, none⟩), .agg #[.string t, .bool l]] w fun e w' => ∃ tv, e = .returned tv ∧ IsEnd w' b pv E' ∧ Kp w w' (fun g => g = b) ∧ Rw w' 9 1 tv r.length (scells r) ∧ (∀ g, tv.ownBlock = some g → w.heap.size ≤ g) ∧ (r = [] → tv = .slice none 0 0) := by
  have hblt : b < w.heap.size := (Array.getElem?_eq_some_iff.1 he.cells).1
  have x3 : w.cell? ⟨b, 3, none⟩ = some (.int .u64 E.took) := by simp [World.cell?, he.cells, endCells]
  have x4 : w.cell? ⟨b, 4, none⟩ = some (.string E.text) := by simp [World.cell?, he.cells, endCells]
  have f3 : w.frozen? ⟨b, 3, none⟩ = false := by simp [World.frozen?, he.cells]
  have f4 : w.frozen? ⟨b, 4, none⟩ = false := by simp [World.frozen?, he.cells]
  have HE := Aside0.mk he
  clear he
  have H : (if E.text.size + t.size ≤ 9223372036854775807 then
    if l = true then some ({ E with took := IntKind.u64.wrap (E.took + 1), text := ⟨#[]⟩ }, [E.text ++ t])
    else some ({ E with took := IntKind.u64.wrap (E.took + 1), text := E.text ++ t }, [])
  else none) = some (E', r) := h
  clear h
  by_cases c1 : E.text.size + t.size ≤ 9223372036854775807
  · rw [if_pos c1] at H
    have c1b1 : decide (E.text.size + t.size ≤ 9223372036854775807) = true := decide_eq_true c1
    have c1b2 : (9223372036854775807 < E.text.size + t.size) = False := eq_false (Nat.not_lt.2 c1)
    clear c1
    cases l with
    | true =>
      rw [if_pos rfl] at H
      simp only [Option.some.injEq, Prod.mk.injEq] at H
      obtain ⟨rfl, rfl⟩ := H
      go_enter Try.func49, Try.ntmps49
      go_wp2
      go_region
      go_wp2
      go_ret
      refine ⟨_, rfl, ?_, ?_, ?_, ?_, fun h => by simp at h⟩
      · exact (((((HE.out.set 3 _ (E' := { E with took := IntKind.u64.wrap (E.took + 1) }) rfl rfl).set 4 _ (E' := { E with took := IntKind.u64.wrap (E.took + 1), text := E.text ++ t }) rfl rfl).set 4 _ (E' := { E with took := IntKind.u64.wrap (E.took + 1), text := ⟨#[]⟩ }) rfl rfl).alloc _).alloc _).drew
      · exact (((((Kp.refl w (fun g => g = b)).setCell _ _ (fun _ => rfl)).setCell _ _ (fun _ => rfl)).setCell _ _ (fun _ => rfl)).alloc _ |>.alloc _).drew
      · exact (Rw.made #[.string (E.text ++ t)] (made_at (by simp)) (by decide) rfl)
      · intro g hg
        have : w.heap.size + 1 = g := by simpa [Value.ownBlock] using hg
        omega
    | false =>
      rw [if_neg (by simp)] at H
      simp only [Option.some.injEq, Prod.mk.injEq] at H
      obtain ⟨rfl, rfl⟩ := H
      go_enter Try.func49, Try.ntmps49
      go_wp2
      go_region
      go_wp2
      go_ret
      refine ⟨_, rfl, ?_, ?_, Rw.nil _ _ _, ?_, fun _ => rfl⟩
      · exact (((HE.out.set 3 _ (E' := { E with took := IntKind.u64.wrap (E.took + 1) }) rfl rfl).set 4 _ (E' := { E with took := IntKind.u64.wrap (E.took + 1), text := E.text ++ t }) rfl rfl).alloc _).drew
      · exact ((((Kp.refl w (fun g => g = b)).setCell _ _ (fun _ => rfl)).setCell _ _ (fun _ => rfl)).alloc _).drew
      · intro g hg
        simp [Value.ownBlock] at hg
  · rw [if_neg c1] at H
    exact absurd H (by simp)

set_option maxHeartbeats 8000000 in
set_option maxRecDepth 100000 in
theorem idle_calls (b : Nat) (pv : Value) (E : En) (w : World) (he : IsEnd w b pv E) :
    Calls Try.prog 42 #[.pointer (some ⟨b, 0, none⟩)] w fun e w' => e = .returned (.bool (decide (E.parts.length = 0))) ∧ w' = w := by
  obtain ⟨A, c, rfl, hc, _⟩ := he.row.form
  have x1 : w.cell? ⟨b, 1, none⟩ = some (.slice A E.parts.length c) := by simp [World.cell?, he.cells, endCells]
  by_cases h0 : E.parts.length = 0
  · have c1 : decide ((E.parts.length : Int) = 0) = true := decide_eq_true (by omega)
    have c2 : ((E.parts.length : Int) == 0) = true := beq_iff_eq.mpr (by omega)
    have c3 : decide (E.parts.length = 0) = true := decide_eq_true h0
    go_enter Try.func42, Try.ntmps42
    go_wp2
    go_ret
    exact ⟨by simp [h0], rfl⟩
  · have c1 : decide ((E.parts.length : Int) = 0) = false := decide_eq_false (by omega)
    have c2 : ((E.parts.length : Int) == 0) = false := beq_eq_false_iff_ne.mpr (by omega)
    have c3 : decide (E.parts.length = 0) = false := decide_eq_false h0
    go_enter Try.func42, Try.ntmps42
    go_wp2
    go_ret
    exact ⟨by simp [h0], rfl⟩

def tickF (k : Nat) (E : En) : Option ByteArray :=
  match E.parts with
  | [] => link_packet_bytes.f k E.conn 0 ⟨#[]⟩ false E.took
  | p :: _ => link_packet_bytes.f k E.conn E.number p.1 p.2 E.took
set_option maxHeartbeats 8000000 in
set_option maxRecDepth 100000 in
theorem tick_calls (k : Nat) (b : Nat) (pv : Value) (E : En) (s : ByteArray) (w : World) (he : IsEnd w b pv E) (h : tickF k E = some s) :
    Calls Try.prog 40 #[.pointer (some ⟨b, 0, none⟩)] w fun e w' => e = .returned (.string s) ∧ Below w.heap.size w w' := by
  have HB := Aside0.mk (Below.refl w.heap.size w)
  have hblt : b < w.heap.size := (Array.getElem?_eq_some_iff.1 he.cells).1
  have x0 : w.cell? ⟨b, 0, none⟩ = some (.int .u64 E.conn) := by simp [World.cell?, he.cells, endCells]
  have x1 : w.cell? ⟨b, 1, none⟩ = some pv := by simp [World.cell?, he.cells, endCells]
  have x2 : w.cell? ⟨b, 2, none⟩ = some (.int .u64 E.number) := by simp [World.cell?, he.cells, endCells]
  have x3 : w.cell? ⟨b, 3, none⟩ = some (.int .u64 E.took) := by simp [World.cell?, he.cells, endCells]
  unfold tickF at h
  cases hp : E.parts with
  | nil =>
    obtain ⟨A, c, rfl, hc, hcell⟩ := he.row.form
    rw [hp] at h x1
    have AS := Aside0.mk h
    clear h hcell
    go_enter Try.func40, Try.ntmps40
    go_wp2
    go_region
    go_wp2_with (first | ((with_reducible refine gate_callee (f := 50) rfl ?_); refine goesL_ (some 34) rfl rfl Try.func50 (by kernel_rfl) rfl #[.agg #[.int .u64 E.conn, .int .u64 0, .string ⟨#[]⟩, .bool false, .int .u64 E.took]] rfl (by (try simp only [List.map_toArray, List.map_cons, List.map_nil]); first | done | rfl) ?_; (with_reducible refine (link_packet_bytes.calls k E.conn 0 ⟨#[]⟩ false E.took s _ AS.out).mono ?_); rintro e w5 ⟨rfl, hb⟩; refine ⟨_, rfl, ?_⟩))
    go_ret
    exact ⟨rfl, below_step (by repeat (first | (with_reducible first | exact HB.out | apply below_alloc | apply pw_below_drewN | apply below_drew1) | exact HB.out)) hb⟩
  | cons p l =>
    have hrow := he.row
    rw [hp] at h hrow
    obtain ⟨g, off, c, rfl, hc, hcell⟩ := hrow.form2 (by simp)
    have AS := Aside0.mk h
    clear h
    have y0 : w.cell? ⟨g, off, none⟩ = some (.string p.1) := hcell 0 (.string p.1) rfl
    have y1 : w.cell? ⟨g, off + 1, none⟩ = some (.bool p.2) := hcell 1 (.bool p.2) rfl
    have hglt : g < w.heap.size := hrow.lt g rfl
    clear hcell hrow
    have hl1 : (0 : Int) < ((p :: l).length : Int) := by simp only [List.length_cons]; omega
    have hl2 : decide ((0 : Int) < ((p :: l).length : Int)) = true := decide_eq_true hl1
    have hl3 : (0 < (p :: l).length) = True := eq_true (by simp)
    have hl4 : decide (0 < (p :: l).length) = true := decide_eq_true (by simp)
    go_enter Try.func40, Try.ntmps40
    go_wp2
    go_region
    go_wp2
    go_region
    go_wp2_with (first | ((with_reducible refine gate_callee (f := 50) rfl ?_); refine goesL_ (some 34) rfl rfl Try.func50 (by kernel_rfl) rfl #[.agg #[.int .u64 E.conn, .int .u64 E.number, .string p.1, .bool p.2, .int .u64 E.took]] rfl (by (try simp only [List.map_toArray, List.map_cons, List.map_nil]); first | done | rfl) ?_; (with_reducible refine (link_packet_bytes.calls k E.conn E.number p.1 p.2 E.took s _ AS.out).mono ?_); rintro e w5 ⟨rfl, hb⟩; refine ⟨_, rfl, ?_⟩))
    go_ret
    exact ⟨rfl, below_step (by repeat (first | (with_reducible first | exact HB.out | apply below_alloc | apply pw_below_drewN | apply below_drew1) | exact HB.out)) hb⟩
end Go.Proofs.Ytnmnplbjhejejaa.Lk
