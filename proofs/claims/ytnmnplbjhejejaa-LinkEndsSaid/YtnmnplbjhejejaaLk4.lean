/- The law's net of two ends in memory. -/
import Derived.Test.YtnmnplbjhejejaaLk3
set_option linter.unusedVariables false
set_option linter.unusedSimpArgs false
namespace Go.Proofs.Ytnmnplbjhejejaa.Lk
open Go.RowKit Go.Proofs.YtnmnplbjhejejaaW.PrintWords Go.Proofs.YtnmnplbjhejejaaW.PrintLast Go.Proofs.YtnmnplbjhejejaaW.PrintMore Go.Proofs.Ytnmnplbjhejejaa.PA

def upd {α : Type} {n : Nat} (f : Fin n → α) (i : Fin n) (x : α) : Fin n → α := fun j => if j = i then x else f j
theorem upd_same {α : Type} {n : Nat} (f : Fin n → α) (i : Fin n) (x : α) : upd f i x i = x := if_pos rfl
theorem upd_other {α : Type} {n : Nat} (f : Fin n → α) (i j : Fin n) (x : α) (h : j ≠ i) : upd f i x j = f j := if_neg h
/-- Where the net's things lie: the ends' blocks, their slices of parts, and the slices way (0, 1), sent (2, 3), told (4, 5). -/
structure NV where
  b : Fin 2 → Nat
  p : Fin 2 → Value
  v : Fin 6 → Value
structure NS where
  e : Fin 2 → En
  l : Fin 6 → List ByteArray
  fine : Bool
def netCells (V : NV) (N : NS) : Array Value :=
  #[.pointer (some ⟨V.b 0, 0, none⟩), .pointer (some ⟨V.b 1, 0, none⟩), V.v 0, V.v 1, V.v 2, V.v 3, V.v 4, V.v 5, .bool N.fine]
structure IsNet (w : World) (n : Nat) (V : NV) (N : NS) : Prop where
  cells : w.heap[n]? = some (.cells (netCells V N) 63 (0, 0))
  ends : ∀ k, IsEnd w (V.b k) (V.p k) (N.e k)
  rows : ∀ i, Rw w 9 1 (V.v i) (N.l i).length (scells (N.l i))
  nb : ∀ k, V.b k ≠ n
  bb : ∀ k k', k ≠ k' → V.b k ≠ V.b k'
  pn : ∀ k, (V.p k).ownBlock ≠ some n
  pb : ∀ k k', (V.p k).ownBlock ≠ some (V.b k')
  pp : ∀ k k' g, k ≠ k' → (V.p k).ownBlock = some g → (V.p k').ownBlock ≠ some g
  vn : ∀ i, (V.v i).ownBlock ≠ some n
  vb : ∀ i k, (V.v i).ownBlock ≠ some (V.b k)
  vp : ∀ i k g, (V.v i).ownBlock = some g → (V.p k).ownBlock ≠ some g
  vv : ∀ i j g, i ≠ j → (V.v i).ownBlock = some g → (V.v j).ownBlock ≠ some g
section
variable {w w' w1 : World} {n : Nat} {V : NV} {N : NS}
theorem IsNet.lt (h : IsNet w n V N) : n < w.heap.size := (Array.getElem?_eq_some_iff.1 h.cells).1
theorem IsNet.blt (h : IsNet w n V N) (k : Fin 2) : V.b k < w.heap.size := (Array.getElem?_eq_some_iff.1 (h.ends k).cells).1
theorem IsNet.plt (h : IsNet w n V N) (k : Fin 2) {g : Nat} (hg : (V.p k).ownBlock = some g) : g < w.heap.size := (h.ends k).row.lt g hg
theorem IsNet.vlt (h : IsNet w n V N) (i : Fin 6) {g : Nat} (hg : (V.v i).ownBlock = some g) : g < w.heap.size := (h.rows i).lt g hg
theorem IsNet.keep (h : IsNet w n V N) (hk : Kp w w' (fun _ => False)) : IsNet w' n V N :=
  { h with
    cells := hk.at h.cells (fun x => x)
    ends := fun k => (h.ends k).kp hk (fun x => x) (fun _ _ x => x)
    rows := fun i => (h.rows i).kp hk (fun _ _ x => x) }
theorem IsNet.below (h : IsNet w n V N) (hb : Below w.heap.size w w') : IsNet w' n V N := h.keep (Kp.of_below hb _)
theorem IsNet.alloc (h : IsNet w n V N) (o : Obj) : IsNet (w.alloc o) n V N := h.keep ((Kp.refl w _).alloc o)
theorem IsNet.drew (h : IsNet w n V N) : IsNet w.drew n V N := h.keep (Kp.refl w _).drew
theorem IsNet.drewN (h : IsNet w n V N) (m : Nat) : IsNet (w.drewN m) n V N := h.keep ((Kp.refl w _).drewN m)
/-- An end did something. -/
theorem IsNet.end_ (h : IsNet w n V N) (k : Fin 2) {p' : Value} {E' : En} (he : IsEnd w' (V.b k) p' E') (hk : Kp w w' (fun g => g = V.b k ∨ (V.p k).ownBlock = some g)) (hf : ∀ g, p'.ownBlock = some g → (V.p k).ownBlock = some g ∨ w.heap.size ≤ g) :
    IsNet w' n { V with p := upd V.p k p' } { N with e := upd N.e k E' } := by
  have fresh : ∀ g, p'.ownBlock = some g → ∀ x, x < w.heap.size → (V.p k).ownBlock ≠ some x → g ≠ x := by
    intro g hg x hx hn e
    subst e
    rcases hf g hg with h1 | h1
    · exact hn h1
    · omega
  refine { h with cells := ?_, ends := ?_, rows := ?_, pn := ?_, pb := ?_, pp := ?_, vp := ?_ }
  · exact hk.at h.cells (fun x => x.elim (fun e => h.nb k e.symm) (fun e => h.pn k e))
  · intro j
    by_cases hj : j = k
    · subst hj
      show IsEnd w' (V.b j) (upd V.p j p' j) (upd N.e j E' j)
      rw [upd_same, upd_same]; exact he
    · show IsEnd w' (V.b j) (upd V.p k p' j) (upd N.e k E' j)
      rw [upd_other _ _ _ _ hj, upd_other _ _ _ _ hj]
      exact (h.ends j).kp hk (fun x => x.elim (fun e => h.bb j k hj e) (fun e => h.pb k j e)) (fun g hg x => x.elim (fun e => by subst e; exact h.pb j k hg) (fun e => h.pp j k g hj hg e))
  · intro i
    exact (h.rows i).kp hk (fun g hg x => x.elim (fun e => by subst e; exact h.vb i k hg) (fun e => h.vp i k g hg e))
  · intro j hj
    dsimp only at hj
    by_cases e : j = k
    · subst e
      rw [show (upd V.p j p' j) = p' from upd_same _ _ _] at hj
      exact fresh n hj n h.lt (h.pn j) rfl
    · rw [show (upd V.p k p' j) = V.p j from upd_other _ _ _ _ e] at hj
      exact h.pn j hj
  · intro j k' hj
    dsimp only at hj
    by_cases e : j = k
    · subst e
      rw [show (upd V.p j p' j) = p' from upd_same _ _ _] at hj
      exact fresh _ hj _ (h.blt k') (h.pb j k') rfl
    · rw [show (upd V.p k p' j) = V.p j from upd_other _ _ _ _ e] at hj
      exact h.pb j k' hj
  · intro j j' g hne hj hj'
    dsimp only at hj hj'
    by_cases e : j = k
    · subst e
      rw [show (upd V.p j p' j) = p' from upd_same _ _ _] at hj
      rw [show (upd V.p j p' j') = V.p j' from upd_other _ _ _ _ (fun x => hne x.symm)] at hj'
      exact fresh g hj g (h.plt j' hj') (h.pp j' j g (fun x => hne x.symm) hj') rfl
    · rw [show (upd V.p k p' j) = V.p j from upd_other _ _ _ _ e] at hj
      by_cases e' : j' = k
      · subst e'
        rw [show (upd V.p j' p' j') = p' from upd_same _ _ _] at hj'
        exact fresh g hj' g (h.plt j hj) (h.pp j j' g hne hj) rfl
      · rw [show (upd V.p k p' j') = V.p j' from upd_other _ _ _ _ e'] at hj'
        exact h.pp j j' g hne hj hj'
  · intro i j g hi hj
    dsimp only at hi hj
    by_cases e : j = k
    · subst e
      rw [show (upd V.p j p' j) = p' from upd_same _ _ _] at hj
      exact fresh g hj g (h.vlt i hi) (h.vp i j g hi) rfl
    · rw [show (upd V.p k p' j) = V.p j from upd_other _ _ _ _ e] at hj
      exact h.vp i j g hi hj
theorem netCells_slot (V : NV) (N : NS) (i : Fin 6) (v' : Value) (l' : List ByteArray) : (netCells V N).setIfInBounds (2 + i.val) v' = netCells { V with v := upd V.v i v' } { N with l := upd N.l i l' } := by
  match i with
  | 0 => rfl
  | 1 => rfl
  | 2 => rfl
  | 3 => rfl
  | 4 => rfl
  | 5 => rfl
/-- A slice grew, and its new value was put into the net. -/
theorem IsNet.slot (h : IsNet w n V N) (i : Fin 6) {v' : Value} {l' : List ByteArray} (hr : Rw w1 9 1 v' l'.length (scells l')) (hk : Kp w w1 (fun g => (V.v i).ownBlock = some g)) (hf : ∀ g, v'.ownBlock = some g → (V.v i).ownBlock = some g ∨ w.heap.size ≤ g) :
    IsNet (w1.setCell ⟨n, 2 + i.val, none⟩ v') n { V with v := upd V.v i v' } { N with l := upd N.l i l' } := by
  have fresh : ∀ g, v'.ownBlock = some g → ∀ x, x < w.heap.size → (V.v i).ownBlock ≠ some x → g ≠ x := by
    intro g hg x hx hn e
    subst e
    rcases hf g hg with h1 | h1
    · exact hn h1
    · omega
  have hkn : Kp w (w1.setCell ⟨n, 2 + i.val, none⟩ v') (fun g => g = n ∨ (V.v i).ownBlock = some g) := (hk.mono (fun _ _ x => .inr x)).setCell _ _ (fun _ => .inl rfl)
  have hvn : v'.ownBlock ≠ some n := fun hg => fresh n hg n h.lt (h.vn i) rfl
  refine { h with cells := ?_, ends := ?_, rows := ?_, vn := ?_, vb := ?_, vp := ?_, vv := ?_ }
  · exact blk_put (hk.at h.cells (h.vn i)) (2 + i.val) v' (netCells_slot V N i v' l')
  · intro k
    exact (h.ends k).kp hkn (fun x => x.elim (fun e => h.nb k e) (fun e => h.vb i k e)) (fun g hg x => x.elim (fun e => by subst e; exact h.pn k hg) (fun e => h.vp i k g e hg))
  · intro j
    by_cases e : j = i
    · subst e
      show Rw _ 9 1 (upd V.v j v' j) (upd N.l j l' j).length (scells (upd N.l j l' j))
      rw [upd_same, upd_same]
      exact hr.setCell hvn _
    · show Rw _ 9 1 (upd V.v i v' j) (upd N.l i l' j).length (scells (upd N.l i l' j))
      rw [upd_other _ _ _ _ e, upd_other _ _ _ _ e]
      exact (h.rows j).kp hkn (fun g hg x => x.elim (fun e2 => by subst e2; exact h.vn j hg) (fun e2 => h.vv j i g e hg e2))
  · intro j hj
    dsimp only at hj
    by_cases e : j = i
    · subst e
      rw [show (upd V.v j v' j) = v' from upd_same _ _ _] at hj
      exact hvn hj
    · rw [show (upd V.v i v' j) = V.v j from upd_other _ _ _ _ e] at hj
      exact h.vn j hj
  · intro j k hj
    dsimp only at hj
    by_cases e : j = i
    · subst e
      rw [show (upd V.v j v' j) = v' from upd_same _ _ _] at hj
      exact fresh _ hj _ (h.blt k) (h.vb j k) rfl
    · rw [show (upd V.v i v' j) = V.v j from upd_other _ _ _ _ e] at hj
      exact h.vb j k hj
  · intro j k g hj hp
    dsimp only at hj hp
    by_cases e : j = i
    · subst e
      rw [show (upd V.v j v' j) = v' from upd_same _ _ _] at hj
      exact fresh g hj g (h.plt k hp) (fun e2 => h.vp j k g e2 hp) rfl
    · rw [show (upd V.v i v' j) = V.v j from upd_other _ _ _ _ e] at hj
      exact h.vp j k g hj hp
  · intro j j' g hne hj hj'
    dsimp only at hj hj'
    by_cases e : j = i
    · subst e
      rw [show (upd V.v j v' j) = v' from upd_same _ _ _] at hj
      rw [show (upd V.v j v' j') = V.v j' from upd_other _ _ _ _ (fun x => hne x.symm)] at hj'
      exact fresh g hj g (h.vlt j' hj') (h.vv j' j g (fun x => hne x.symm) hj') rfl
    · rw [show (upd V.v i v' j) = V.v j from upd_other _ _ _ _ e] at hj
      by_cases e' : j' = i
      · subst e'
        rw [show (upd V.v j' v' j') = v' from upd_same _ _ _] at hj'
        exact fresh g hj' g (h.vlt j hj) (h.vv j j' g hne hj) rfl
      · rw [show (upd V.v i v' j') = V.v j' from upd_other _ _ _ _ e'] at hj'
        exact h.vv j j' g hne hj hj'
theorem IsNet.put_fine (h : IsNet w n V N) (f : Bool) : IsNet (w.setCell ⟨n, 8, none⟩ (.bool f)) n V { N with fine := f } := by
  have hk : Kp w (w.setCell ⟨n, 8, none⟩ (.bool f)) (fun g => g = n) := (Kp.refl w _).setCell _ _ (fun _ => rfl)
  refine { h with cells := ?_, ends := ?_, rows := ?_ }
  · exact blk_put h.cells 8 _ rfl
  · intro k
    exact (h.ends k).kp hk (fun e => h.nb k e) (fun g hg e => by subst e; exact h.pn k hg)
  · intro i
    exact (h.rows i).kp hk (fun g hg e => by subst e; exact h.vn i hg)
/-- All that is the net's lies from B on. -/
structure Lo (B n : Nat) (V : NV) : Prop where
  n : B ≤ n
  b : ∀ k, B ≤ V.b k
  p : ∀ k g, (V.p k).ownBlock = some g → B ≤ g
  v : ∀ i g, (V.v i).ownBlock = some g → B ≤ g
/-- The net, since a world w0: only what is its own, or new, has changed. -/
structure NetB (B : Nat) (w0 w : World) (n : Nat) (V : NV) (N : NS) : Prop where
  net : IsNet w n V N
  lo : Lo B n V
  bel : Below B w0 w
  size : B ≤ w0.heap.size
theorem below_kp {B : Nat} {w0 w w' : World} {S : Nat → Prop} (h : Below B w0 w) (hB : B ≤ w0.heap.size) (hk : Kp w w' S) (hs : ∀ g, S g → B ≤ g) : Below B w0 w' :=
  ⟨hk.os.trans h.os, hk.tape.trans h.tape, hk.output.trans h.output, Nat.le_trans h.size hk.size, fun g hg => (hk.block g (by have := h.size; omega) (fun x => by have := hs g x; omega)).trans (h.block g hg)⟩
section
variable {B : Nat} {w0 : World}
theorem NetB.keep (h : NetB B w0 w n V N) (hk : Kp w w' (fun _ => False)) : NetB B w0 w' n V N := ⟨h.net.keep hk, h.lo, below_kp h.bel h.size hk (fun _ x => x.elim), h.size⟩
theorem NetB.below (h : NetB B w0 w n V N) (hb : Below w.heap.size w w') : NetB B w0 w' n V N := h.keep (Kp.of_below hb _)
theorem NetB.alloc (h : NetB B w0 w n V N) (o : Obj) : NetB B w0 (w.alloc o) n V N := h.keep ((Kp.refl w _).alloc o)
theorem NetB.drew (h : NetB B w0 w n V N) : NetB B w0 w.drew n V N := h.keep (Kp.refl w _).drew
theorem NetB.drewN (h : NetB B w0 w n V N) (m : Nat) : NetB B w0 (w.drewN m) n V N := h.keep ((Kp.refl w _).drewN m)
theorem NetB.end_ (h : NetB B w0 w n V N) (k : Fin 2) {p' : Value} {E' : En} (he : IsEnd w' (V.b k) p' E') (hk : Kp w w' (fun g => g = V.b k ∨ (V.p k).ownBlock = some g)) (hf : ∀ g, p'.ownBlock = some g → (V.p k).ownBlock = some g ∨ w.heap.size ≤ g) :
    NetB B w0 w' n { V with p := upd V.p k p' } { N with e := upd N.e k E' } := by
  refine ⟨h.net.end_ k he hk hf, { h.lo with p := ?_ }, below_kp h.bel h.size hk (fun g x => x.elim (fun e => by subst e; exact h.lo.b k) (h.lo.p k g)), h.size⟩
  intro j g hj
  dsimp only at hj
  by_cases e : j = k
  · subst e
    rw [upd_same] at hj
    rcases hf g hj with h1 | h1
    · exact h.lo.p j g h1
    · have := h.bel.size; have := h.size; omega
  · rw [upd_other _ _ _ _ e] at hj
    exact h.lo.p j g hj
/-- A text was appended to a slice of the net's, and the new slice put there. -/
theorem NetB.append (h : NetB B w0 w n V N) (i : Fin 6) {g off cap : Nat} {o : Obj} {x : ByteArray} (hrow : Rw w1 9 1 (.slice (some ⟨g, off, none⟩) ((N.l i).length + 1) cap) ((N.l i).length + 1) (scells (N.l i) ++ [.string x]))
    (hg : (w.alloc o).drew.grownBy w1 (V.v i).ownBlock) (hat : (V.v i).ownBlock = some g ∨ g = (w.alloc o).drew.heap.size) :
    NetB B w0 (w1.setCell ⟨n, 2 + i.val, none⟩ (.slice (some ⟨g, off, none⟩) ((N.l i).length + 1) cap)) n { V with v := upd V.v i (.slice (some ⟨g, off, none⟩) ((N.l i).length + 1) cap) } { N with l := upd N.l i (N.l i ++ [x]) } := by
  have hk : Kp w w1 (fun g => (V.v i).ownBlock = some g) := ((Kp.refl w _).alloc o).drew.grown hg (fun k hk _ => hk)
  have hs : (w.alloc o).drew.heap.size = w.heap.size + 1 := by
    show (w.heap.push o).size = _
    rw [Array.size_push]
  have hf : ∀ q, (Value.slice (some ⟨g, off, none⟩) ((N.l i).length + 1) cap).ownBlock = some q → (V.v i).ownBlock = some q ∨ w.heap.size ≤ q := by
    intro q hq
    have : g = q := by simpa [Value.ownBlock] using hq
    subst this
    rcases hat with h1 | h1
    · exact .inl h1
    · right; omega
  have hr : Rw w1 9 1 (.slice (some ⟨g, off, none⟩) ((N.l i).length + 1) cap) (N.l i ++ [x]).length (scells (N.l i ++ [x])) := by
    have : (N.l i ++ [x]).length = (N.l i).length + 1 := by simp
    rw [this]
    simpa [scells] using hrow
  refine ⟨h.net.slot i hr hk hf, { h.lo with v := ?_ }, below_kp h.bel h.size (S := fun q => q = n ∨ (V.v i).ownBlock = some q) ((hk.mono (fun _ _ x => .inr x)).setCell _ _ (fun _ => .inl rfl)) (fun q x => x.elim (fun e => by subst e; exact h.lo.n) (h.lo.v i q)), h.size⟩
  intro j q hj
  dsimp only at hj
  by_cases e : j = i
  · subst e
    rw [upd_same] at hj
    rcases hf q hj with h1 | h1
    · exact h.lo.v j q h1
    · have := h.bel.size; have := h.size; omega
  · rw [upd_other _ _ _ _ e] at hj
    exact h.lo.v j q hj
/-- The like, of whatever was appended, wherever the new row lies. -/
theorem NetB.slot (h : NetB B w0 w n V N) (i : Fin 6) {v' : Value} {l' : List ByteArray} (hr : Rw w1 9 1 v' l'.length (scells l')) (hk : Kp w w1 (fun g => (V.v i).ownBlock = some g)) (hf : ∀ q, v'.ownBlock = some q → (V.v i).ownBlock = some q ∨ w.heap.size ≤ q) :
    NetB B w0 (w1.setCell ⟨n, 2 + i.val, none⟩ v') n { V with v := upd V.v i v' } { N with l := upd N.l i l' } := by
  refine ⟨h.net.slot i hr hk hf, { h.lo with v := ?_ }, below_kp h.bel h.size (S := fun q => q = n ∨ (V.v i).ownBlock = some q) ((hk.mono (fun _ _ x => .inr x)).setCell _ _ (fun _ => .inl rfl)) (fun q x => x.elim (fun e => by subst e; exact h.lo.n) (h.lo.v i q)), h.size⟩
  intro j q hj
  dsimp only at hj
  by_cases e : j = i
  · subst e
    rw [upd_same] at hj
    rcases hf q hj with h1 | h1
    · exact h.lo.v j q h1
    · have := h.bel.size; have := h.size; omega
  · rw [upd_other _ _ _ _ e] at hj
    exact h.lo.v j q hj
theorem NetB.append_at (h : NetB B w0 w n V N) (i : Fin 6) {g off cap : Nat} {x : ByteArray} (hrow : Rw w1 9 1 (.slice (some ⟨g, off, none⟩) ((N.l i).length + 1) cap) ((N.l i).length + 1) (scells (N.l i) ++ [.string x]))
    (hg : w.grownBy w1 (V.v i).ownBlock) (hat : (V.v i).ownBlock = some g ∨ g = w.heap.size) :
    NetB B w0 (w1.setCell ⟨n, 2 + i.val, none⟩ (.slice (some ⟨g, off, none⟩) ((N.l i).length + 1) cap)) n { V with v := upd V.v i (.slice (some ⟨g, off, none⟩) ((N.l i).length + 1) cap) } { N with l := upd N.l i (N.l i ++ [x]) } := by
  refine h.slot i ?_ ((Kp.refl w _).grown hg (fun k hk _ => hk)) ?_
  · have : (N.l i ++ [x]).length = (N.l i).length + 1 := by simp
    rw [this]
    simpa [scells] using hrow
  · intro q hq
    have : g = q := by simpa [Value.ownBlock] using hq
    subst this
    rcases hat with h1 | h1
    · exact .inl h1
    · right; omega
theorem NetB.append_none (h : NetB B w0 w n V N) (i : Fin 6) : NetB B w0 (w.setCell ⟨n, 2 + i.val, none⟩ (V.v i)) n { V with v := upd V.v i (V.v i) } { N with l := upd N.l i (N.l i ++ []) } := by
  refine h.slot i ?_ (Kp.refl w _) (fun q hq => .inl hq)
  rw [List.append_nil]
  exact h.net.rows i
theorem NetB.put_fine (h : NetB B w0 w n V N) (f : Bool) : NetB B w0 (w.setCell ⟨n, 8, none⟩ (.bool f)) n V { N with fine := f } :=
  ⟨h.net.put_fine f, h.lo, below_kp h.bel h.size (S := fun g => g = n) ((Kp.refl w _).setCell _ _ (fun _ => rfl)) (fun q e => by subst e; exact h.lo.n), h.size⟩
end
end
end Go.Proofs.Ytnmnplbjhejejaa.Lk
