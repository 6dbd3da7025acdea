/- Rows of a slice's elements in memory, from wherever in their block on (a slice that was cut at its head goes on growing); what a call keeps. Plain lemmas over whatever program. -/
import Derived.Deep.AppendLies
import Derived.Deep.RegionHeld3
import Derived.Deep.RegionLaw
import Derived.Below
import Derived.RowKit
import Derived.WalkKit
import Derived.Deep.QuietTactic
set_option linter.unusedVariables false
set_option linter.unusedSimpArgs false
namespace Go.Proofs.Ytklbemgepeleoaa.Lk
open Go.RowKit

/-- What a call keeps: all but the blocks of S, and what is new since. -/
structure Kp (w w' : World) (S : Nat → Prop) : Prop where
  os : w'.os = w.os
  tape : w'.tape = w.tape
  output : w'.output = w.output
  size : w.heap.size ≤ w'.heap.size
  block : ∀ k, k < w.heap.size → ¬ S k → w'.heap[k]? = w.heap[k]?
theorem Kp.refl (w : World) (S : Nat → Prop) : Kp w w S := ⟨rfl, rfl, rfl, Nat.le_refl _, fun _ _ _ => rfl⟩
theorem Kp.mono {w w' : World} {S T : Nat → Prop} (h : Kp w w' S) (hs : ∀ k, k < w.heap.size → S k → T k) : Kp w w' T := ⟨h.os, h.tape, h.output, h.size, fun k hk hn => h.block k hk (fun x => hn (hs k hk x))⟩
theorem Kp.trans {w w' w'' : World} {S T : Nat → Prop} (h : Kp w w' S) (k : Kp w' w'' T) (hs : ∀ j, j < w.heap.size → T j → S j) : Kp w w'' S :=
  ⟨k.os.trans h.os, k.tape.trans h.tape, k.output.trans h.output, Nat.le_trans h.size k.size, fun j hj hn => (k.block j (Nat.lt_of_lt_of_le hj h.size) (fun x => hn (hs j hj x))).trans (h.block j hj hn)⟩
theorem Kp.of_below {w w' : World} (h : Below w.heap.size w w') (S : Nat → Prop) : Kp w w' S := ⟨h.os, h.tape, h.output, h.size, fun k hk _ => h.block k hk⟩
theorem Kp.below {w w' : World} {S : Nat → Prop} {B : Nat} (h : Kp w w' S) (hB : B ≤ w.heap.size) (hs : ∀ k, S k → B ≤ k) : Below B w w' :=
  ⟨h.os, h.tape, h.output, h.size, fun k hk => h.block k (by omega) (fun x => by have := hs k x; omega)⟩
theorem Kp.drewN {w w' : World} {S : Nat → Prop} (h : Kp w w' S) (n : Nat) : Kp w (w'.drewN n) S := ⟨h.os, h.tape, h.output, h.size, h.block⟩
theorem Kp.drew {w w' : World} {S : Nat → Prop} (h : Kp w w' S) : Kp w w'.drew S := ⟨h.os, h.tape, h.output, h.size, h.block⟩
theorem Kp.then_below {w w' w'' : World} {S : Nat → Prop} (h : Kp w w' S) (k : Below w'.heap.size w' w'') : Kp w w'' S := h.trans (Kp.of_below k (fun _ => False)) (fun _ _ x => x.elim)
theorem Kp.alloc {w w' : World} {S : Nat → Prop} (h : Kp w w' S) (o : Obj) : Kp w (w'.alloc o) S :=
  h.then_below ((Below.refl _ _).alloc (Nat.le_refl _) o)
theorem Kp.setCell {w w' : World} {S : Nat → Prop} (h : Kp w w' S) (a : Addr) (v : Value) (ha : a.block < w.heap.size → S a.block) : Kp w (w'.setCell a v) S :=
  h.trans (T := fun k => k = a.block) ⟨rfl, rfl, rfl, by simp [World.setCell], fun k _ hn => Below.heap_setCell w' a v k hn⟩ (fun j hj x => by subst x; exact ha hj)
theorem Kp.grown {w w' w'' : World} {S : Nat → Prop} {row : Option Nat} (h : Kp w w' S) (hg : w'.grownBy w'' row) (hr : ∀ k, row = some k → k < w.heap.size → S k) : Kp w w'' S :=
  h.trans (T := fun k => row = some k) ⟨hg.os, hg.tape, hg.output, hg.size, fun k hk hn => hg.block k hk (fun e => hn e.symm)⟩ (fun j hj x => hr j x hj)
theorem Kp.at {w w' : World} {S : Nat → Prop} {k : Nat} {o : Obj} (h : Kp w w' S) (ho : w.heap[k]? = some o) (hn : ¬ S k) : w'.heap[k]? = some o :=
  (h.block k (Array.getElem?_eq_some_iff.1 ho).1 hn).trans ho

/-- A cell that may be written, behind an alloc (and a draw). -/
theorem keep_a {w : World} {a : Addr} {v : Value} (h : w.cell? a = some v) (f : w.frozen? a = false) (hlt : a.block < w.heap.size) (o : Obj) : (w.alloc o).cell? a = some v ∧ (w.alloc o).frozen? a = false := by
  have hb : (w.alloc o).heap[a.block]? = w.heap[a.block]? := heap_alloc_old w _ hlt
  exact ⟨(World.cell?_of_block hb).trans h, (World.frozen?_of_block hb).trans f⟩
theorem keep_ad {w : World} {a : Addr} {v : Value} (h : w.cell? a = some v) (f : w.frozen? a = false) (hlt : a.block < w.heap.size) (o : Obj) : (w.alloc o).drew.cell? a = some v ∧ (w.alloc o).drew.frozen? a = false := keep_a h f hlt o

theorem grown_drew {w w1 : World} {row : Option Nat} (h : w.grownBy w1 row) : w.drew.grownBy w1 row := ⟨h.os, h.tape, h.output, h.size, h.block⟩
theorem keep_grown {w w1 : World} {a : Addr} {v : Value} {o : Obj} {row : Option Nat} (hg : (w.alloc o).drew.grownBy w1 row) (h : w.cell? a = some v) (f : w.frozen? a = false) (hlt : a.block < w.heap.size) (hne : some a.block ≠ row) :
    w1.cell? a = some v ∧ w1.frozen? a = false := by
  obtain ⟨h2, f2⟩ := keep_ad h f hlt o
  have hs : a.block < (w.alloc o).drew.heap.size := by
    show a.block < (w.heap.push o).size
    rw [Array.size_push]; omega
  exact ⟨(hg.cell_far a hs hne).trans h2, (hg.frozen_far a hs hne).trans f2⟩

/-- A row of n elements (of type e, sz cells each), from somewhere in its block on. -/
def Rw (w : World) (e sz : Nat) (v : Value) (n : Nat) (xs : List Value) : Prop :=
  xs.length = n * sz ∧
  ((v = .slice none 0 0 ∧ n = 0) ∨
   ∃ g off cap cur, v = .slice (some ⟨g, off, none⟩) n cap ∧ w.heap[g]? = some (.cells cur e (0, 0)) ∧ n ≤ cap ∧ cap ≤ maxLen ∧ off + cap * sz ≤ cur.size ∧ (cur.toList.drop off).take (n * sz) = xs)
section
variable {w w' : World} {e sz n : Nat} {v : Value} {xs : List Value}
theorem Rw.nil (w : World) (e sz : Nat) : Rw w e sz (.slice none 0 0) 0 [] := ⟨by simp, .inl ⟨rfl, rfl⟩⟩
theorem Rw.lt (h : Rw w e sz v n xs) : ∀ k, v.ownBlock = some k → k < w.heap.size := by
  intro k hk
  rcases h.2 with ⟨rfl, _⟩ | ⟨g, off, cap, cur, rfl, hg, _⟩
  · simp [Value.ownBlock] at hk
  · simp [Value.ownBlock] at hk
    subst hk
    exact (Array.getElem?_eq_some_iff.1 hg).1
theorem Rw.of_block (h : Rw w e sz v n xs) (hb : ∀ k, v.ownBlock = some k → w'.heap[k]? = w.heap[k]?) : Rw w' e sz v n xs := by
  refine ⟨h.1, ?_⟩
  rcases h.2 with ⟨rfl, h0⟩ | ⟨g, off, cap, cur, rfl, hg, r⟩
  · exact .inl ⟨rfl, h0⟩
  · exact .inr ⟨g, off, cap, cur, rfl, (hb g rfl).trans hg, r⟩
theorem Rw.kp {S : Nat → Prop} (h : Rw w e sz v n xs) (hk : Kp w w' S) (hn : ∀ k, v.ownBlock = some k → ¬ S k) : Rw w' e sz v n xs :=
  h.of_block fun k ho => hk.block k (h.lt k ho) (hn k ho)
theorem Rw.drewN (h : Rw w e sz v n xs) (m : Nat) : Rw (w.drewN m) e sz v n xs := h
theorem Rw.drew (h : Rw w e sz v n xs) : Rw w.drew e sz v n xs := h
theorem Rw.alloc (h : Rw w e sz v n xs) (o : Obj) : Rw (w.alloc o) e sz v n xs := h.kp ((Kp.refl w (fun _ => False)).alloc o) (fun _ _ x => x)
theorem Rw.setCell (h : Rw w e sz v n xs) {a : Addr} (ha : v.ownBlock ≠ some a.block) (u : Value) : Rw (w.setCell a u) e sz v n xs :=
  h.of_block fun k ho => Below.heap_setCell w a u k (fun x => ha (by rw [ho, x]))
/-- What it looks like where something is in it. -/
theorem Rw.form2 (h : Rw w e sz v n xs) (hn : 0 < n) : ∃ g off cap, v = .slice (some ⟨g, off, none⟩) n cap ∧ n ≤ cap ∧ (∀ j u, xs[j]? = some u → w.cell? ⟨g, off + j, none⟩ = some u) := by
  rcases h.2 with ⟨rfl, rfl⟩ | ⟨g, off, cap, cur, rfl, hg, hn, _, hs, hx⟩
  · omega
  · refine ⟨g, off, cap, rfl, hn, fun j u hj => ?_⟩
    rw [cell_of_row w g (off + j) cur e (0, 0) hg]
    rw [← hx] at hj
    have hj2 := List.getElem?_eq_some_iff.1 hj
    obtain ⟨hlt, _⟩ := hj2
    rw [List.length_take, List.length_drop] at hlt
    rw [List.getElem?_take_of_lt (by omega), List.getElem?_drop] at hj
    simpa using hj
/-- What it looks like. -/
theorem Rw.form (h : Rw w e sz v n xs) : ∃ A c, v = .slice A n c ∧ n ≤ c ∧ (∀ j u, xs[j]? = some u → ∃ a, A = some a ∧ w.cell? (a.add j) = some u) := by
  rcases h.2 with ⟨rfl, rfl⟩ | ⟨g, off, cap, cur, rfl, hg, hn, _, hs, hx⟩
  · have : xs = [] := List.eq_nil_of_length_eq_zero (by have := h.1; omega)
    subst this
    exact ⟨none, 0, rfl, Nat.le_refl _, fun j u hj => by simp at hj⟩
  · refine ⟨_, cap, rfl, hn, fun j u hj => ⟨_, rfl, ?_⟩⟩
    have hadd : (⟨g, off, none⟩ : Addr).add j = ⟨g, off + j, none⟩ := by unfold Addr.add; split <;> simp_all
    rw [hadd, cell_of_row w g (off + j) cur e (0, 0) hg]
    rw [← hx] at hj
    have hj2 := List.getElem?_eq_some_iff.1 hj
    obtain ⟨hlt, _⟩ := hj2
    rw [List.length_take, List.length_drop] at hlt
    rw [List.getElem?_take_of_lt (by omega), List.getElem?_drop] at hj
    simpa using hj
end

section
variable {P : Program} (w : World)
theorem add_ (g off j : Nat) : (⟨g, off, none⟩ : Addr).add j = ⟨g, off + j, none⟩ := by unfold Addr.add; split <;> simp_all

theorem run_append_room_off (t ty e : TypeId) (i : TypeInfo) (ht : P.underlying t = some (.slice e)) (hi : P.info? e = some i)
    (g off sLen sCap : Nat) (cur : Array Value) (hg : w.heap[g]? = some (.cells cur e (0, 0)))
    (a : Addr) (m c : Nat) (news : List Value) (hl : news.length = m * i.size) (hnews : ∀ j u, news[j]? = some u → w.cell? (a.add j) = some u) (h1 : ∀ u ∈ news, u.oneCell' = true)
    (hroom : sLen + m ≤ sCap) (hfit : off + sLen * i.size + news.length ≤ cur.size) :
    (Builtin.append_ #[t, t] ty #[.slice (some ⟨g, off, none⟩) sLen sCap, .slice (some a) m c]).run P w =
      .ok (.slice (some ⟨g, off, none⟩) (sLen + m) sCap) (w.setRow g (cur.toList.take (off + sLen * i.size) ++ news ++ cur.toList.drop (off + sLen * i.size + news.length)).toArray) := by
  have hf := run_firstCells_some (P := P) w i.size m a m c news hl hnews
  have hst := run_storeCells_at P g (off + sLen * i.size) e news 0 cur w hg (by simpa using hfit) h1
  simp only [Nat.add_zero] at hst
  simp [Builtin.append_, run_underlying ht, sizeOf, typeInfo, hi, Builtin.lenOf, hroom, hf, add_, hst]

/-- THE LAW: a row grows where it stands, or in a block made now. -/
theorem run_append_rw (t ty e : TypeId) (i : TypeInfo) (z : Value) (size bytes : Nat) (ht : P.underlying t = some (.slice e)) (hi : P.info? e = some i) (hz : i.zero = some z)
    (hsize : i.size = size) (hby : i.bytes = bytes) (hzs : z.cells.size = size)
    (v : Value) (n : Nat) (xs : List Value) (hown : Rw w e size v n xs)
    (a : Addr) (m c : Nat) (news : List Value) (hl : news.length = m * size) (hnews : ∀ j u, news[j]? = some u → w.cell? (a.add j) = some u) (h1 : ∀ u ∈ news, u.oneCell' = true)
    (hm : 0 < m) (h63 : n + m ≤ maxLen) (hbytes : (n + m) * bytes ≤ 140737488355328) :
    ∃ v' w', (Builtin.append_ #[t, t] ty #[v, .slice (some a) m c]).run P w = .ok v' w' ∧ Rw w' e size v' (n + m) (xs ++ news) ∧ w.grownBy w' v.ownBlock ∧ (v'.ownBlock = v.ownBlock ∨ v'.ownBlock = some w.heap.size) := by
  subst hsize
  subst hby
  have hsmall : n + m ≤ 9223372036854775807 := by simp only [maxLen] at h63; omega
  have hlen : (xs ++ news).length = (n + m) * i.size := by rw [List.length_append, hown.1, hl, Nat.add_mul]
  have grown : ∀ (old : Nat), old < n + m → ∀ (row : Option Nat),
      Rw (w.drew.alloc (.cells (xs.toArray ++ news.toArray ++ Builtin.zeroCells z.cells (grownCap w (n + m) old e - (n + m))) e)) e i.size
        (.slice (some ⟨w.heap.size, 0, none⟩) (n + m) (grownCap w (n + m) old e)) (n + m) (xs ++ news) ∧
      w.grownBy (w.drew.alloc (.cells (xs.toArray ++ news.toArray ++ Builtin.zeroCells z.cells (grownCap w (n + m) old e - (n + m))) e)) row := by
    intro old ho row
    have hge := grownCap_ge w (n + m) old e
    have hcm : grownCap w (n + m) old e ≤ maxLen := grownCap_le_maxLen w (n + m) old e h63
    refine ⟨⟨hlen, .inr ⟨w.heap.size, 0, _, _, rfl, heap_alloc_new w.drew _, hge, hcm, ?_, ?_⟩⟩, ⟨rfl, rfl, rfl, by simp, fun k hk _ => heap_alloc_old w.drew _ hk⟩⟩
    · simp only [Array.size_append, List.size_toArray, size_zeroCells, hzs, hown.1, hl, ← Nat.add_mul, Nat.zero_add]
      exact Nat.mul_le_mul_right _ (by omega)
    · simp only [Array.toList_append, List.append_assoc, List.drop_zero]
      rw [← List.append_assoc, ← hlen]
      exact List.take_left
  rcases hown.2 with ⟨rfl, rfl⟩ | ⟨g, off, cap, cur, rfl, hg, hnc, hcm, hcs, htake⟩
  · have hx : xs = [] := List.eq_nil_of_length_eq_zero (by simpa using hown.1)
    subst hx
    have hr := run_append_nil (P := P) w t ty e i z ht hi hz a m c news hl hnews (by omega) (by omega) (by have hb := hbytes; simp only [Nat.zero_add] at hb; omega)
    have hgr := grown 0 (by omega) (Value.ownBlock (.slice none 0 0))
    simp only [Nat.zero_add, List.nil_append, Array.empty_append] at hgr ⊢
    exact ⟨_, _, hr, hgr.1, hgr.2, .inr rfl⟩
  · by_cases hroom : n + m ≤ cap
    · have hfit : off + n * i.size + news.length ≤ cur.size := by
        have : (n + m) * i.size ≤ cap * i.size := Nat.mul_le_mul_right _ hroom
        rw [Nat.add_mul] at this
        rw [hl]; omega
      have hr := run_append_room_off (P := P) w t ty e i ht hi g off n cap cur hg a m c news hl hnews h1 hroom hfit
      refine ⟨_, _, hr, ⟨hlen, .inr ⟨g, off, cap, _, rfl, setRow_heap w g cur _ e _ hg, hroom, hcm, ?_, ?_⟩⟩, ⟨rfl, rfl, rfl, by simp, fun k _ hk => setRow_other w g k _ (fun e => hk (by simp [Value.ownBlock, e]))⟩, .inl rfl⟩
      · simp only [List.size_toArray, List.length_append, List.length_take, List.length_drop, Array.length_toList]
        omega
      · have e1 : cur.toList.take (off + n * i.size) = cur.toList.take off ++ xs := by rw [List.take_add, htake]
        have e2 : (cur.toList.take off).length = off := by rw [List.length_take, Array.length_toList]; omega
        rw [e1, List.append_assoc, List.append_assoc]
        rw [show (cur.toList.take off ++ (xs ++ (news ++ cur.toList.drop (off + n * i.size + news.length)))).toArray.toList = cur.toList.take off ++ (xs ++ (news ++ cur.toList.drop (off + n * i.size + news.length))) by simp]
        rw [List.drop_append_of_le_length (by omega), List.drop_of_length_le (by omega), List.nil_append, ← List.append_assoc, ← hlen]
        exact List.take_left
    · have holds : ∀ j u, xs[j]? = some u → w.cell? ((⟨g, off, none⟩ : Addr).add j) = some u := by
        intro j u hj
        obtain ⟨A, c2, hv, _, hc⟩ := hown.form
        obtain ⟨a2, ha, hc2⟩ := hc j u hj
        simp only [Value.slice.injEq] at hv
        obtain ⟨h1, _, _⟩ := hv
        rw [ha] at h1
        simp only [Option.some.injEq] at h1
        rw [h1]; exact hc2
      have hr := run_append_grow (P := P) w t ty e i z ht hi hz ⟨g, off, none⟩ n cap xs hown.1 holds a m c news hl hnews (by omega) (by omega) (growslice_fits (by omega) hbytes)
      have hgr := grown cap (by omega) (Value.ownBlock (.slice (some ⟨g, off, none⟩) n cap))
      exact ⟨_, _, hr, hgr.1, hgr.2, .inr rfl⟩

theorem wp_append_rw {o : Oper} {a : Act} {K : Act → World → Prop} {Q : Exit → Act → World → Prop} (s x : Operand) (t : TypeId)
    (ho : o.op = .call { callee := .builtin .append, args := #[s, x], argTypes := #[t, t] })
    (e : TypeId) (z : Value) (size bytes : Nat) (ht : P.underlying t = some (.slice e)) (hinfo : (P.info? e).map (fun i => (i.zero, i.size, i.bytes)) = some (some z, size, bytes)) (hzs : z.cells.size = size)
    (v : Value) (n : Nat) (xs : List Value) (hs : a.eval s = v) (hown : Rw w e size v n xs)
    (ad : Addr) (m c : Nat) (news : List Value) (hx : a.eval x = .slice (some ad) m c) (hl : news.length = m * size) (hnews : ∀ j u, news[j]? = some u → w.cell? (ad.add j) = some u) (h1 : ∀ u ∈ news, u.oneCell' = true)
    (hm : 0 < m) (hbytes : n + m ≤ maxLen ∧ (n + m) * bytes ≤ 140737488355328)
    (h : ∀ (g off cap : Nat) (w' : World), Rw w' e size (.slice (some ⟨g, off, none⟩) (n + m) cap) (n + m) (xs ++ news) → w.grownBy w' v.ownBlock → (v.ownBlock = some g ∨ g = w.heap.size) → K (a.put o.dst (.slice (some ⟨g, off, none⟩) (n + m) cap)) w') : o.wp P a w K Q := by
  obtain ⟨i, hi, hz, hsize, hby⟩ : ∃ i, P.info? e = some i ∧ i.zero = some z ∧ i.size = size ∧ i.bytes = bytes := by
    cases hi : P.info? e with
    | none => rw [hi] at hinfo; simp at hinfo
    | some i => rw [hi] at hinfo; simp only [Option.map_some, Option.some.injEq, Prod.mk.injEq] at hinfo; exact ⟨i, rfl, hinfo⟩
  obtain ⟨v', w', hr, h2, h3, h4⟩ := run_append_rw (P := P) w t o.type e i z size bytes ht hi hz hsize hby hzs v n xs hown ad m c news hl hnews h1 hm hbytes.1 hbytes.2
  unfold Oper.wp execOp
  simp only [ho, resolve, invoke, builtin, Sem.run_bind, Sem.run_pure, Result.andThen_ok, List.map_toArray, List.map_cons, List.map_nil, hs, hx, hr]
  rcases h2.2 with ⟨_, h0⟩ | ⟨g, off, cap, cur, rfl, _⟩
  · omega
  · refine h g off cap w' h2 h3 ?_
    rcases h4 with h4 | h4
    · exact .inl h4.symm
    · exact .inr (by simpa [Value.ownBlock] using h4)
theorem wpList_append_rw {ops : Array Oper} {rest : List Oper} {o : Oper} {a : Act} {Q : Exit → Act → World → Prop} (hgd : o.guard = none) (s x : Operand) (t : TypeId)
    (ho : o.op = .call { callee := .builtin .append, args := #[s, x], argTypes := #[t, t] })
    (e : TypeId) (z : Value) (size bytes : Nat) (ht : P.underlying t = some (.slice e)) (hinfo : (P.info? e).map (fun i => (i.zero, i.size, i.bytes)) = some (some z, size, bytes)) (hzs : z.cells.size = size)
    (v : Value) (n : Nat) (xs : List Value) (hs : a.eval s = v) (hown : Rw w e size v n xs)
    (ad : Addr) (m c : Nat) (news : List Value) (hx : a.eval x = .slice (some ad) m c) (hl : news.length = m * size) (hnews : ∀ j u, news[j]? = some u → w.cell? (ad.add j) = some u) (h1 : ∀ u ∈ news, u.oneCell' = true)
    (hm : 0 < m) (hbytes : n + m ≤ maxLen ∧ (n + m) * bytes ≤ 140737488355328)
    (h : ∀ (g off cap : Nat) (w' : World), Rw w' e size (.slice (some ⟨g, off, none⟩) (n + m) cap) (n + m) (xs ++ news) → w.grownBy w' v.ownBlock → (v.ownBlock = some g ∨ g = w.heap.size) → wpList P ops Q rest (a.put o.dst (.slice (some ⟨g, off, none⟩) (n + m) cap)) w') : wpList P ops Q (o :: rest) a w :=
  wpList_plain hgd fun _ hK => wp_append_rw w s x t ho e z size bytes ht hinfo hzs v n xs hs hown ad m c news hx hl hnews h1 hm hbytes fun g off cap w' h2 h3 h4 => hK _ _ (h g off cap w' h2 h3 h4)
theorem step_append_rw {ops : Array Oper} {o : Oper} {a : Act} {K : Act → World → Prop} {Q : Exit → Act → World → Prop} {E : Prop} (hgd : o.guard = none) (s x : Operand) (t : TypeId)
    (ho : o.op = .call { callee := .builtin .append, args := #[s, x], argTypes := #[t, t] })
    (e : TypeId) (z : Value) (size bytes : Nat) (ht : P.underlying t = some (.slice e)) (hinfo : (P.info? e).map (fun i => (i.zero, i.size, i.bytes)) = some (some z, size, bytes)) (hzs : z.cells.size = size)
    (v : Value) (n : Nat) (xs : List Value) (hs : a.eval s = v) (hown : Rw w e size v n xs)
    (ad : Addr) (m c : Nat) (news : List Value) (hx : a.eval x = .slice (some ad) m c) (hl : news.length = m * size) (hnews : ∀ j u, news[j]? = some u → w.cell? (ad.add j) = some u) (h1 : ∀ u ∈ news, u.oneCell' = true)
    (hm : 0 < m) (hbytes : n + m ≤ maxLen ∧ (n + m) * bytes ≤ 140737488355328)
    (h : ∀ (g off cap : Nat) (w' : World), Rw w' e size (.slice (some ⟨g, off, none⟩) (n + m) cap) (n + m) (xs ++ news) → w.grownBy w' v.ownBlock → (v.ownBlock = some g ∨ g = w.heap.size) → K (a.put o.dst (.slice (some ⟨g, off, none⟩) (n + m) cap)) w') :
    if Region.wanted o (yielded ops a.tmps) = true then Oper.wp P o a w K Q else E := by
  have hw : Region.wanted o (yielded ops a.tmps) = true := by simp [Region.wanted, hgd]
  rw [if_pos hw]
  exact wp_append_rw w s x t ho e z size bytes ht hinfo hzs v n xs hs hown ad m c news hx hl hnews h1 hm hbytes h
/-- Nothing is appended. -/
theorem run_append_zero (t ty e : TypeId) (i : TypeInfo) (size : Nat) (ht : P.underlying t = some (.slice e)) (hi : P.info? e = some i) (v : Value) (n : Nat) (xs : List Value) (hown : Rw w e size v n xs) :
    (Builtin.append_ #[t, t] ty #[v, .slice none 0 0]).run P w = .ok v w := by
  rcases hown.2 with ⟨rfl, rfl⟩ | ⟨g, off, cap, cur, rfl, _, hnc, _⟩
  · simp [Builtin.append_, run_underlying ht, sizeOf, typeInfo, hi, Builtin.lenOf, Builtin.firstCells]
  · simp [Builtin.append_, run_underlying ht, sizeOf, typeInfo, hi, Builtin.lenOf, Builtin.firstCells, hnc, storeCells]
theorem step_append_zero {ops : Array Oper} {o : Oper} {a : Act} {K : Act → World → Prop} {Q : Exit → Act → World → Prop} {E : Prop} (hgd : o.guard = none) (s x : Operand) (t : TypeId)
    (ho : o.op = .call { callee := .builtin .append, args := #[s, x], argTypes := #[t, t] })
    (e : TypeId) (size : Nat) (ht : P.underlying t = some (.slice e)) (hinfo : (P.info? e).isSome = true) (v : Value) (n : Nat) (xs : List Value) (hs : a.eval s = v) (hown : Rw w e size v n xs) (hx : a.eval x = .slice none 0 0)
    (h : K (a.put o.dst v) w) :
    if Region.wanted o (yielded ops a.tmps) = true then Oper.wp P o a w K Q else E := by
  have hw : Region.wanted o (yielded ops a.tmps) = true := by simp [Region.wanted, hgd]
  rw [if_pos hw]
  obtain ⟨i, hi⟩ := Option.isSome_iff_exists.mp hinfo
  have hr := run_append_zero (P := P) w t o.type e i size ht hi v n xs hown
  unfold Oper.wp execOp
  simp only [ho, resolve, invoke, builtin, Sem.run_bind, Sem.run_pure, Result.andThen_ok, List.map_toArray, List.map_cons, List.map_nil, hs, hx, hr]
  exact h
end
end Go.Proofs.Ytklbemgepeleoaa.Lk
