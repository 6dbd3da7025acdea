/- link's ends in memory: what Send, Tick, Receive, Idle do to them, as the program has it. Functions' numbers are those of the seat's dump. -/
import Derived.Test.YtnmnplbjhejejaaLk0
import Derived.Test.YtnmnplbjhejejaaPAx15
import Derived.Test.YtnmnplbjhejejaaPAx16
import Derived.Test.YtnmnplbjhejejaaPAx17
set_option linter.unusedVariables false
set_option linter.unusedSimpArgs false
namespace Go.Proofs.Ytnmnplbjhejejaa.Lk
open Go.RowKit Go.Proofs.YtnmnplbjhejejaaW.PrintWords Go.Proofs.YtnmnplbjhejejaaW.PrintLast Go.Proofs.YtnmnplbjhejejaaW.PrintMore Go.Proofs.Ytnmnplbjhejejaa.PA
attribute [local go_sem] max2_int min2_int max_two min_two max_three min_three max_four min_four

structure En where
  conn : Int
  parts : List (ByteArray × Bool)
  number : Int
  took : Int
  text : ByteArray
def pcells (l : List (ByteArray × Bool)) : List Value := l.flatMap fun x => [.string x.1, .bool x.2]
theorem pcells_length (l : List (ByteArray × Bool)) : (pcells l).length = l.length * 2 := by
  induction l with
  | nil => rfl
  | cons x l ih => simp only [pcells, List.flatMap_cons, List.length_append, List.length_cons, List.length_nil] at ih ⊢; omega
theorem pcells_append (l m : List (ByteArray × Bool)) : pcells (l ++ m) = pcells l ++ pcells m := by simp [pcells]
def endCells (pv : Value) (E : En) : Array Value := #[.int .u64 E.conn, pv, .int .u64 E.number, .int .u64 E.took, .string E.text]
structure IsEnd (w : World) (b : Nat) (pv : Value) (E : En) : Prop where
  cells : w.heap[b]? = some (.cells (endCells pv E) 85 (0, 0))
  row : Rw w 90 2 pv E.parts.length (pcells E.parts)
  apart : pv.ownBlock ≠ some b
theorem u83 : Try.prog.underlying 83 = some (.slice 90) := by kernel_rfl
theorem info90 : (Try.prog.info? 90).map (fun i => (i.zero, i.size, i.bytes)) = some (some (.agg #[.string ⟨#[]⟩, .bool false]), 2, 24) := by kernel_rfl

theorem IsEnd.grew {wr w1 : World} {b g off cap : Nat} {pv : Value} {E : En} {o : Obj} {t : ByteArray} {l : Bool} (he : IsEnd wr b pv E) (hrow : Rw w1 90 2 (.slice (some ⟨g, off, none⟩) (E.parts.length + 1) cap) (E.parts.length + 1) (pcells E.parts ++ [.string t, .bool l]))
    (hg : (wr.alloc o).drew.grownBy w1 pv.ownBlock) (hat : pv.ownBlock = some g ∨ g = (wr.alloc o).drew.heap.size) :
    IsEnd (w1.setCell ⟨b, 1, none⟩ (.slice (some ⟨g, off, none⟩) (E.parts.length + 1) cap)) b (.slice (some ⟨g, off, none⟩) (E.parts.length + 1) cap) { E with parts := E.parts ++ [(t, l)] } := by
  have hblt : b < wr.heap.size := (Array.getElem?_eq_some_iff.1 he.cells).1
  have hs : (wr.alloc o).drew.heap.size = wr.heap.size + 1 := by
    show (wr.heap.push o).size = _
    rw [Array.size_push]
  have hgb : g ≠ b := by
    rcases hat with h | h
    · intro e; subst e; exact he.apart h
    · omega
  have h1 : w1.heap[b]? = some (.cells (endCells pv E) 85 (0, 0)) := by
    refine (hg.block b (by omega) (fun e => he.apart e.symm)).trans ?_
    exact (heap_alloc_old wr o hblt).trans he.cells
  refine ⟨blk_put h1 1 _ rfl, ?_, ?_⟩
  · have : (E.parts ++ [(t, l)]).length = E.parts.length + 1 := by simp
    show Rw _ 90 2 _ (E.parts ++ [(t, l)]).length (pcells (E.parts ++ [(t, l)]))
    rw [this, pcells_append]
    exact hrow.setCell (by simpa [Value.ownBlock] using hgb) _
  · simpa [Value.ownBlock] using hgb
theorem Kp.grew {w wr w1 : World} {b : Nat} {pv pv0 : Value} {o : Obj} (v : Value) (hk : Kp w wr (fun g => g = b ∨ pv0.ownBlock = some g)) (hf : ∀ g, pv.ownBlock = some g → pv0.ownBlock = some g ∨ w.heap.size ≤ g)
    (hg : (wr.alloc o).drew.grownBy w1 pv.ownBlock) : Kp w (w1.setCell ⟨b, 1, none⟩ v) (fun g => g = b ∨ pv0.ownBlock = some g) := by
  refine Kp.setCell ((hk.alloc o).drew.grown hg ?_) _ _ (fun _ => .inl rfl)
  intro k hk2 hlt
  rcases hf k hk2 with h | h
  · exact .inr h
  · omega
theorem grew_fresh {w wr : World} {g off n cap : Nat} {pv pv0 : Value} {o : Obj} (hs : w.heap.size ≤ wr.heap.size) (hf : ∀ g, pv.ownBlock = some g → pv0.ownBlock = some g ∨ w.heap.size ≤ g) (hat : pv.ownBlock = some g ∨ g = (wr.alloc o).drew.heap.size) :
    ∀ k, (Value.slice (some ⟨g, off, none⟩) n cap).ownBlock = some k → pv0.ownBlock = some k ∨ w.heap.size ≤ k := by
  intro k hk
  have : g = k := by simpa [Value.ownBlock] using hk
  subst this
  rcases hat with h | h
  · exact hf g h
  · have : (wr.alloc o).drew.heap.size = wr.heap.size + 1 := by
      show (wr.heap.push o).size = _
      rw [Array.size_push]
    omega
def sendF : Nat → List (ByteArray × Bool) → ByteArray → Option (List (ByteArray × Bool))
  | 0, _, _ => none
  | k + 1, ps, m =>
    if (m.size : Int) > 200 then
      if ps.length ≤ 1000000 then sendF k (ps ++ [(m.extract 0 200, false)]) (m.extract 200 m.size) else none
    else if ps.length ≤ 1000000 then some (ps ++ [(m, true)]) else none

set_option maxHeartbeats 8000000 in
set_option maxRecDepth 100000 in
theorem send_calls (k : Nat) (b : Nat) (pv : Value) (E : En) (m : ByteArray) (ps : List (ByteArray × Bool)) (w : World) (he : IsEnd w b pv E) (h : sendF k E.parts m = some ps) :
    Calls Try.prog 47 #[.pointer (some ⟨b, 0, none⟩), .string m] w fun e w' => e = .returned (.tuple #[]) ∧ ∃ pv', IsEnd w' b pv' { E with parts := ps } ∧ Kp w w' (fun g => g = b ∨ pv.ownBlock = some g) ∧ (∀ g, pv'.ownBlock = some g → pv.ownBlock = some g ∨ w.heap.size ≤ g) := by
  have H' := Aside0.mk h
  have HE := Aside0.mk he
  clear h he
  go_enter Try.func47, Try.ntmps47
  go_wp2
  go_loopg [1] k (fun kq v1 w' => ∃ (m' : ByteArray) (ps' : List (ByteArray × Bool)) (pv' : Value), v1 = .string m' ∧ Aside0 (sendF kq ps' m' = some ps) ∧ Aside0 (kq ≤ k) ∧ Aside0 (IsEnd w' b pv' { E with parts := ps' }) ∧ Aside0 (Kp w w' (fun g => g = b ∨ pv.ownBlock = some g)) ∧ Aside0 (∀ g, pv'.ownBlock = some g → pv.ownBlock = some g ∨ w.heap.size ≤ g))
  case atStart => exact ⟨m, E.parts, pv, rfl, H', ⟨Nat.le_refl _⟩, HE, ⟨Kp.refl _ _⟩, ⟨fun g hg => .inl hg⟩⟩
  case round =>
    clear H' HE
    obtain ⟨m', ps', pv', rfl, HA, HK1, HE, HKp, HF⟩ := hrel
    cases gk with
    | zero => exact absurd HA.out (by simp [sendF])
    | succ k1 =>
      have H := HA.out
      clear HA
      simp only [sendF] at H
      have hc := HE.out.cells
      have x1 : wr.cell? ⟨b, 1, none⟩ = some pv' := by simp [World.cell?, hc, endCells]
      have f1 : wr.frozen? ⟨b, 1, none⟩ = false := by simp [World.frozen?, hc]
      by_cases c1 : (m'.size : Int) > 200
      · rw [if_pos c1] at H
        have c1b0 : decide (200 < m'.size) = true := decide_eq_true (by omega)
        have c1b1 : decide (200 < (m'.size : Int)) = true := decide_eq_true c1
        have q1 : 200 ≤ m'.size := by omega
        have q2 : ((200 : Int) ≤ (m'.size : Int)) = True := eq_true (by omega)
        have q3 : (200 ≤ m'.size) = True := eq_true (by omega)
        have q4 : decide ((200 : Int) ≤ (m'.size : Int)) = true := decide_eq_true (by omega)
        have q5 : ((m'.size : Int) < 200) = False := eq_false (by omega)
        have q6 : (m'.size < 200) = False := eq_false (by omega)
        by_cases c2 : ps'.length ≤ 1000000
        · rw [if_pos c2] at H
          have H' := Aside0.mk H
          have hblt : b < wr.heap.size := (Array.getElem?_eq_some_iff.1 hc).1
          have hbne : some b ≠ pv'.ownBlock := fun e => HE.out.apart e.symm
          have hone : ∀ u ∈ [Value.string (m'.extract 0 200), .bool false], u.oneCell' = true := by intro u hu; simp at hu; rcases hu with rfl | rfl <;> rfl
          have hbig : ps'.length + 1 ≤ maxLen ∧ (ps'.length + 1) * 24 ≤ 140737488355328 := ⟨by simp only [maxLen]; omega, by omega⟩
          clear H hc
          go_wp2
          go_region_law
            ((refine step_append_rw _ (by rfl) _ _ _ (by rfl) 90 _ 2 24 u83 info90 (by rfl) pv' ps'.length (pcells ps') (by rfl) (Rw.alloc HE.out.row _) ⟨wr.heap.size, 0, none⟩ 1 1 [.string (m'.extract 0 200), .bool false] (by rfl) (by rfl) (World.news_of_block (heap_alloc_new wr _)) hone (by omega) hbig ?_; intro g off cap w1 hrow hgrow hat; have y1 := (keep_grown hgrow x1 f1 hblt hbne).1; have yf := (keep_grown hgrow x1 f1 hblt hbne).2))
          all_goals
            go_wp2
            go_roundg k1
          all_goals try (case measure => have := HK1.out; omega)
          all_goals exact ⟨m'.extract 200 m'.size, ps' ++ [(m'.extract 0 200, false)], _, rfl, H', ⟨by have := HK1.out; omega⟩, ⟨IsEnd.grew HE.out hrow hgrow hat⟩, ⟨Kp.grew _ HKp.out HF.out hgrow⟩, ⟨grew_fresh HKp.out.size HF.out hat⟩⟩
        · rw [if_neg c2] at H
          exact absurd H (by simp)
      · rw [if_neg c1] at H
        have c1b0 : decide (200 < m'.size) = false := decide_eq_false (by omega)
        have c1b1 : decide (200 < (m'.size : Int)) = false := decide_eq_false c1
        by_cases c2 : ps'.length ≤ 1000000
        · rw [if_pos c2] at H
          obtain rfl := Option.some.inj H
          have hblt : b < wr.heap.size := (Array.getElem?_eq_some_iff.1 hc).1
          have hbne : some b ≠ pv'.ownBlock := fun e => HE.out.apart e.symm
          have hone : ∀ u ∈ [Value.string m', .bool true], u.oneCell' = true := by intro u hu; simp at hu; rcases hu with rfl | rfl <;> rfl
          have hbig : ps'.length + 1 ≤ maxLen ∧ (ps'.length + 1) * 24 ≤ 140737488355328 := ⟨by simp only [maxLen]; omega, by omega⟩
          clear hc
          go_wp2_with (first | ((with_reducible refine gate_builtin (b := .append) (xs := #[.tmp 27, .tmp 30]) rfl ?_); at_builtin; refine wpList_append_rw _ rfl _ _ _ (by rfl) 90 _ 2 24 u83 info90 (by rfl) pv' ps'.length (pcells ps') (by rfl) (Rw.alloc HE.out.row _) ⟨wr.heap.size, 0, none⟩ 1 1 [.string m', .bool true] (by rfl) (by rfl) (World.news_of_block (heap_alloc_new wr _)) hone (by omega) hbig ?_; intro g off cap w1 hrow hgrow0 hat; have hgrow := grown_drew hgrow0; have y1 := (keep_grown hgrow x1 f1 hblt hbne).1; have yf := (keep_grown hgrow x1 f1 hblt hbne).2))
          go_end0
          exact ⟨rfl, _, IsEnd.grew HE.out hrow hgrow hat, Kp.grew _ HKp.out HF.out hgrow, grew_fresh HKp.out.size HF.out hat⟩
        · rw [if_neg c2] at H
          exact absurd H (by simp)
end Go.Proofs.Ytnmnplbjhejejaa.Lk
