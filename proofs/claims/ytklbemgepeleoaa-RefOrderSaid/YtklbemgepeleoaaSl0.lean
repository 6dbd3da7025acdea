/- Rows of a slice's elements (Lk0's Rw): copy into a row, a row cut or lengthened within its capacity, append where there is no room, clear. Plain lemmas over whatever program. -/
import Derived.Test.YtklbemgepeleoaaLk0
import Derived.Lib.Overlaps
import Derived.Laws.Externs
set_option linter.unusedVariables false
set_option linter.unusedSimpArgs false
namespace Go.Proofs.Ytklbemgepeleoaa.Lk
open Go.RowKit

section
variable {w w' : World} {e sz n g off cap : Nat} {xs : List Value}
theorem Rw.open_ (h : Rw w e sz (.slice (some ⟨g, off, none⟩) n cap) n xs) : ∃ cur, w.heap[g]? = some (.cells cur e (0, 0)) ∧ n ≤ cap ∧ cap ≤ maxLen ∧ off + cap * sz ≤ cur.size ∧ (cur.toList.drop off).take (n * sz) = xs := by
  rcases h.2 with ⟨hv, _⟩ | ⟨g2, off2, cap2, cur, hv, hg, r⟩
  · simp at hv
  · simp only [Value.slice.injEq, Option.some.injEq, Addr.mk.injEq, and_true, true_and] at hv
    obtain ⟨⟨rfl, rfl⟩, rfl⟩ := hv
    exact ⟨cur, hg, r⟩
/-- The cells of a row. -/
theorem Rw.cell (h : Rw w e sz (.slice (some ⟨g, off, none⟩) n cap) n xs) {j : Nat} {u : Value} (hj : xs[j]? = some u) : w.cell? ⟨g, off + j, none⟩ = some u := by
  obtain ⟨cur, hg, hn, hm, hs, hx⟩ := h.open_
  rw [cell_of_row w g (off + j) cur e (0, 0) hg]
  rw [← hx] at hj
  have hlt := (List.getElem?_eq_some_iff.1 hj).1
  rw [List.length_take, List.length_drop] at hlt
  rw [List.getElem?_take_of_lt (by omega), List.getElem?_drop] at hj
  simpa using hj
theorem Rw.frozen (h : Rw w e sz (.slice (some ⟨g, off, none⟩) n cap) n xs) (j : Nat) : w.frozen? ⟨g, j, none⟩ = false := by
  obtain ⟨cur, hg, _⟩ := h.open_
  simp [World.frozen?, hg]
theorem Rw.cut (h : Rw w e sz (.slice (some ⟨g, off, none⟩) n cap) n xs) {k : Nat} (hk : k ≤ n) : Rw w e sz (.slice (some ⟨g, off, none⟩) k cap) k (xs.take (k * sz)) := by
  obtain ⟨cur, hg, hn, hm, hs, hx⟩ := h.open_
  have hle : k * sz ≤ n * sz := Nat.mul_le_mul_right _ hk
  refine ⟨by rw [List.length_take, h.1]; omega, .inr ⟨g, off, cap, cur, rfl, hg, by omega, hm, hs, ?_⟩⟩
  rw [← hx, List.take_take, Nat.min_eq_left hle]
/-- Lengthened within its capacity: some cells more. -/
theorem Rw.more (h : Rw w e sz (.slice (some ⟨g, off, none⟩) n cap) n xs) {m : Nat} (hm : n + m ≤ cap) : ∃ ys, ys.length = m * sz ∧ Rw w e sz (.slice (some ⟨g, off, none⟩) (n + m) cap) (n + m) (xs ++ ys) := by
  obtain ⟨cur, hg, hn, hmx, hs, hx⟩ := h.open_
  have hle : (n + m) * sz ≤ cap * sz := Nat.mul_le_mul_right _ hm
  have hsp : (n + m) * sz = n * sz + m * sz := Nat.add_mul _ _ _
  have hc : cur.toList.length = cur.size := Array.length_toList
  refine ⟨(cur.toList.drop (off + n * sz)).take (m * sz), by rw [List.length_take, List.length_drop]; omega, ?_, .inr ⟨g, off, cap, cur, rfl, hg, hm, hmx, hs, ?_⟩⟩
  · rw [List.length_append, h.1, List.length_take, List.length_drop]; omega
  · rw [hsp, List.take_add, hx, List.drop_drop]
/-- The row again, other elements at the same place. -/
theorem Rw.set_ (h : Rw w e sz (.slice (some ⟨g, off, none⟩) n cap) n xs) (k m : Nat) (hk : k + m ≤ n) (cs : List Value) (hl : cs.length = m * sz) (cur : Array Value) (hg : w.heap[g]? = some (.cells cur e (0, 0))) :
    Rw (w.setRow g (cur.toList.take (off + k * sz) ++ cs ++ cur.toList.drop (off + k * sz + cs.length)).toArray) e sz (.slice (some ⟨g, off, none⟩) n cap) n (xs.take (k * sz) ++ cs ++ xs.drop ((k + m) * sz)) := by
  obtain ⟨cur2, hg2, hn, hmx, hs, hx⟩ := h.open_
  rw [hg] at hg2
  injection hg2 with hg2
  injection hg2 with hg2
  subst hg2
  have hc : cur.toList.length = cur.size := Array.length_toList
  have h1 : (k + m) * sz = k * sz + m * sz := Nat.add_mul _ _ _
  have h2 : (k + m) * sz ≤ n * sz := Nat.mul_le_mul_right _ hk
  have h3 : n * sz ≤ cap * sz := Nat.mul_le_mul_right _ hn
  have hxl := h.1
  refine ⟨?_, .inr ⟨g, off, cap, _, rfl, setRow_heap w g cur _ e _ hg, hn, hmx, ?_, ?_⟩⟩
  · simp only [List.length_append, List.length_take, List.length_drop]; omega
  · simp only [List.size_toArray, List.length_append, List.length_take, List.length_drop, hc]; omega
  · rw [show (cur.toList.take (off + k * sz) ++ cs ++ cur.toList.drop (off + k * sz + cs.length)).toArray.toList = cur.toList.take (off + k * sz) ++ cs ++ cur.toList.drop (off + k * sz + cs.length) by simp]
    have e1 : cur.toList.take (off + k * sz) = cur.toList.take off ++ xs.take (k * sz) := by
      rw [List.take_add, ← hx, List.take_take, Nat.min_eq_left (by omega)]
    have e2 : (cur.toList.take off).length = off := by rw [List.length_take]; omega
    have e3 : (cur.toList.drop (off + k * sz + cs.length)).take (n * sz - (k + m) * sz) = xs.drop ((k + m) * sz) := by
      rw [← hx, List.drop_take, List.drop_drop, hl, h1]
      congr 2
      omega
    rw [e1, List.append_assoc, List.append_assoc, List.drop_append_of_le_length (by omega), List.drop_of_length_le (by omega), List.nil_append, ← List.append_assoc]
    have e4 : (xs.take (k * sz) ++ cs).length = (k + m) * sz := by rw [List.length_append, List.length_take, hl]; omega
    rw [List.take_append, e4, List.take_of_length_le (by omega), e3]
end
section
variable {P : Program} (w : World)
theorem run_copy_rw (t ty e : TypeId) (i : TypeInfo) (ht : P.underlying t = some (.slice e)) (hi : P.info? e = some i) (sz : Nat) (hsize : i.size = sz) {n g off cap : Nat} {xs : List Value} (hown : Rw w e sz (.slice (some ⟨g, off, none⟩) n cap) n xs)
    (k m dLen dCap sLen sCap : Nat) (a : Addr) (cs : List Value) (hl : cs.length = m * sz) (hm : Nat.min sLen dLen = m) (hk : k + m ≤ n) (hsrc : ∀ j u, cs[j]? = some u → w.cell? (a.add j) = some u) (h1 : ∀ u ∈ cs, u.oneCell' = true) :
    ∃ w', (Builtin.copy_ #[t, t] ty #[.slice (some ⟨g, off + k * sz, none⟩) dLen dCap, .slice (some a) sLen sCap]).run P w = .ok (goInt m) w' ∧ Rw w' e sz (.slice (some ⟨g, off, none⟩) n cap) n (xs.take (k * sz) ++ cs ++ xs.drop ((k + m) * sz)) ∧ w.grownBy w' (some g) := by
  subst hsize
  obtain ⟨cur, hg, hn, hmx, hs, hx⟩ := hown.open_
  have h3 : (k + m) * i.size ≤ n * i.size := Nat.mul_le_mul_right _ hk
  have h4 : n * i.size ≤ cap * i.size := Nat.mul_le_mul_right _ hn
  have h5 : (k + m) * i.size = k * i.size + m * i.size := Nat.add_mul _ _ _
  have hf := run_loadCells_list (P := P) w a cs hsrc
  have hst := run_storeCells_at P g (off + k * i.size) e cs 0 cur w hg (by rw [Nat.add_zero]; omega) h1
  simp only [Nat.add_zero] at hst
  refine ⟨_, ?_, hown.set_ k m hk cs hl cur hg, ⟨rfl, rfl, rfl, by simp, fun j _ hj => setRow_other w g j _ (fun e => hj (by rw [e]))⟩⟩
  rw [hl] at hf hst
  simp [Builtin.copy_, run_underlying ht, Builtin.lenOf, Builtin.firstCells, sizeOf, typeInfo, hi, hm, hf, hst, hl]
theorem wp_run_builtin {o : Oper} {a : Act} {K : Act → World → Prop} {Q : Exit → Act → World → Prop} (d s : Operand) (t t' : TypeId)
    (ho : o.op = .call { callee := .builtin .copy, args := #[d, s], argTypes := #[t, t'] }) (v u : Value) (hd : a.eval d = v) (hs : a.eval s = u) {v' : Value} {w' : World}
    (hr : (Builtin.copy_ #[t, t'] o.type #[v, u]).run P w = .ok v' w') (h : K (a.put o.dst v') w') : o.wp P a w K Q := by
  unfold Oper.wp execOp
  simp only [ho, resolve, invoke, builtin, Sem.run_bind, Sem.run_pure, Result.andThen_ok, List.map_toArray, List.map_cons, List.map_nil, hd, hs, hr]
  exact h
/-- copy at a step of a region that draws, and in a plain one, where its run is known. -/
theorem step_copy_rw {ops : Array Oper} {o : Oper} {a : Act} {K : Act → World → Prop} {Q : Exit → Act → World → Prop} {E : Prop} (hgd : o.guard = none) (d s : Operand) (t t' : TypeId)
    (ho : o.op = .call { callee := .builtin .copy, args := #[d, s], argTypes := #[t, t'] }) (v u : Value) (hd : a.eval d = v) (hs : a.eval s = u) {v' : Value} {w' : World}
    (hr : (Builtin.copy_ #[t, t'] o.type #[v, u]).run P w = .ok v' w') (h : K (a.put o.dst v') w') :
    if Region.wanted o (yielded ops a.tmps) = true then Oper.wp P o a w K Q else E := by
  have hw : Region.wanted o (yielded ops a.tmps) = true := by simp [Region.wanted, hgd]
  rw [if_pos hw]
  exact wp_run_builtin w d s t t' ho v u hd hs hr h
theorem wpList_copy_rw {ops : Array Oper} {rest : List Oper} {o : Oper} {a : Act} {Q : Exit → Act → World → Prop} (hgd : o.guard = none) (d s : Operand) (t t' : TypeId)
    (ho : o.op = .call { callee := .builtin .copy, args := #[d, s], argTypes := #[t, t'] }) (v u : Value) (hd : a.eval d = v) (hs : a.eval s = u) {v' : Value} {w' : World}
    (hr : (Builtin.copy_ #[t, t'] o.type #[v, u]).run P w = .ok v' w') (h : wpList P ops Q rest (a.put o.dst v') w') : wpList P ops Q (o :: rest) a w :=
  wpList_plain hgd fun _ hK => wp_run_builtin w d s t t' ho v u hd hs hr (hK _ _ h)
theorem step_append_run {ops : Array Oper} {o : Oper} {a : Act} {K : Act → World → Prop} {Q : Exit → Act → World → Prop} {E : Prop} (hgd : o.guard = none) (d s : Operand) (t t' : TypeId)
    (ho : o.op = .call { callee := .builtin .append, args := #[d, s], argTypes := #[t, t'] }) (v u : Value) (hd : a.eval d = v) (hs : a.eval s = u) {v' : Value} {w' : World}
    (hr : (Builtin.append_ #[t, t'] o.type #[v, u]).run P w = .ok v' w') (h : K (a.put o.dst v') w') :
    if Region.wanted o (yielded ops a.tmps) = true then Oper.wp P o a w K Q else E := by
  have hw : Region.wanted o (yielded ops a.tmps) = true := by simp [Region.wanted, hgd]
  rw [if_pos hw]
  unfold Oper.wp execOp
  simp only [ho, resolve, invoke, builtin, Sem.run_bind, Sem.run_pure, Result.andThen_ok, List.map_toArray, List.map_cons, List.map_nil, hd, hs, hr]
  exact h
/-- append where there is no room: the row lies in a new block; all that was is as it was. -/
theorem run_append_full (t ty e : TypeId) (i : TypeInfo) (z : Value) (size bytes : Nat) (ht : P.underlying t = some (.slice e)) (hi : P.info? e = some i) (hz : i.zero = some z)
    (hsize : i.size = size) (hby : i.bytes = bytes) (hzs : z.cells.size = size)
    {n g off cap : Nat} {xs : List Value} (hown : Rw w e size (.slice (some ⟨g, off, none⟩) n cap) n xs)
    (a : Addr) (m c : Nat) (news : List Value) (hl : news.length = m * size) (hnews : ∀ j u, news[j]? = some u → w.cell? (a.add j) = some u)
    (hm : 0 < m) (hfull : cap < n + m) (h63 : n + m ≤ maxLen) (hbytes : (n + m) * bytes ≤ 140737488355328) :
    ∃ cap' w', (Builtin.append_ #[t, t] ty #[.slice (some ⟨g, off, none⟩) n cap, .slice (some a) m c]).run P w = .ok (.slice (some ⟨w.heap.size, 0, none⟩) (n + m) cap') w' ∧ Rw w' e size (.slice (some ⟨w.heap.size, 0, none⟩) (n + m) cap') (n + m) (xs ++ news) ∧ Below w.heap.size w w' := by
  subst hsize
  subst hby
  have hsmall : n + m ≤ 9223372036854775807 := by simp only [maxLen] at h63; omega
  have hlen : (xs ++ news).length = (n + m) * i.size := by rw [List.length_append, hown.1, hl, Nat.add_mul]
  have holds : ∀ j u, xs[j]? = some u → w.cell? ((⟨g, off, none⟩ : Addr).add j) = some u := by
    intro j u hj
    rw [add_]
    exact hown.cell hj
  have hr := run_append_grow (P := P) w t ty e i z ht hi hz ⟨g, off, none⟩ n cap xs hown.1 holds a m c news hl hnews (by omega) (by omega) (growslice_fits (by omega) hbytes)
  have hge := grownCap_ge w (n + m) cap e
  have hcm : grownCap w (n + m) cap e ≤ maxLen := grownCap_le_maxLen w (n + m) cap e h63
  refine ⟨_, _, hr, ⟨hlen, .inr ⟨w.heap.size, 0, _, _, rfl, heap_alloc_new w.drew _, hge, hcm, ?_, ?_⟩⟩, ⟨rfl, rfl, rfl, by simp, fun k hk => heap_alloc_old w.drew _ hk⟩⟩
  · simp only [Array.size_append, List.size_toArray, size_zeroCells, hzs, hown.1, hl, ← Nat.add_mul, Nat.zero_add]
    exact Nat.mul_le_mul_right _ (by omega)
  · simp only [Array.toList_append, List.append_assoc, List.drop_zero]
    rw [← List.append_assoc, ← hlen]
    exact List.take_left
/-- append where there is room (nothing at all may be appended, wherever that lies). -/
theorem run_append_within (t ty e : TypeId) (i : TypeInfo) (ht : P.underlying t = some (.slice e)) (hi : P.info? e = some i) {n g off cap : Nat} {xs : List Value} (hown : Rw w e i.size (.slice (some ⟨g, off, none⟩) n cap) n xs)
    (a : Addr) (m c : Nat) (news : List Value) (hl : news.length = m * i.size) (hnews : ∀ j u, news[j]? = some u → w.cell? (a.add j) = some u) (h1 : ∀ u ∈ news, u.oneCell' = true) (hroom : n + m ≤ cap) :
    ∃ w' cur cur', w.heap[g]? = some (.cells cur e (0, 0)) ∧ w'.heap[g]? = some (.cells cur' e (0, 0)) ∧ cur'.toList = cur.toList.take (off + n * i.size) ++ news ++ cur.toList.drop (off + n * i.size + news.length) ∧
      (Builtin.append_ #[t, t] ty #[.slice (some ⟨g, off, none⟩) n cap, .slice (some a) m c]).run P w = .ok (.slice (some ⟨g, off, none⟩) (n + m) cap) w' ∧ Rw w' e i.size (.slice (some ⟨g, off, none⟩) (n + m) cap) (n + m) (xs ++ news) ∧ w.grownBy w' (some g) := by
  obtain ⟨cur, hg, hn, hmx, hs, hx⟩ := hown.open_
  have hfit : off + n * i.size + news.length ≤ cur.size := by
    have : (n + m) * i.size ≤ cap * i.size := Nat.mul_le_mul_right _ hroom
    rw [Nat.add_mul] at this
    rw [hl]; omega
  have hr := run_append_room_off (P := P) w t ty e i ht hi g off n cap cur hg a m c news hl hnews h1 hroom hfit
  have hc : cur.toList.length = cur.size := Array.length_toList
  refine ⟨_, cur, _, hg, setRow_heap w g cur _ e _ hg, by simp, hr, ⟨by rw [List.length_append, hown.1, hl, Nat.add_mul], .inr ⟨g, off, cap, _, rfl, setRow_heap w g cur _ e _ hg, hroom, hmx, ?_, ?_⟩⟩, ⟨rfl, rfl, rfl, by simp, fun j _ hj => setRow_other w g j _ (fun e => hj (by rw [e]))⟩⟩
  · simp only [List.size_toArray, List.length_append, List.length_take, List.length_drop, hc]; omega
  · have hlen : (xs ++ news).length = (n + m) * i.size := by rw [List.length_append, hown.1, hl, Nat.add_mul]
    have e1 : cur.toList.take (off + n * i.size) = cur.toList.take off ++ xs := by rw [List.take_add, hx]
    have e2 : (cur.toList.take off).length = off := by rw [List.length_take]; omega
    rw [show (cur.toList.take (off + n * i.size) ++ news ++ cur.toList.drop (off + n * i.size + news.length)).toArray.toList = cur.toList.take (off + n * i.size) ++ news ++ cur.toList.drop (off + n * i.size + news.length) by simp]
    rw [e1, List.append_assoc, List.append_assoc, List.drop_append_of_le_length (by omega), List.drop_of_length_le (by omega), List.nil_append, ← List.append_assoc, ← hlen]
    exact List.take_left
theorem zeroCells_one (z : Array Value) (h : ∀ u ∈ z, u.oneCell' = true) (m : Nat) : ∀ u ∈ Builtin.zeroCells z m, u.oneCell' = true := by
  intro u hu
  unfold Builtin.zeroCells at hu
  rw [Array.mem_map] at hu
  obtain ⟨i, hi, rfl⟩ := hu
  have hlt : i < m * z.size := by simpa using hi
  have hpos : 0 < z.size := by
    rcases Nat.eq_zero_or_pos z.size with h0 | h0
    · rw [h0] at hlt; omega
    · exact h0
  have hm := Nat.mod_lt i hpos
  rw [getElem!_pos z _ hm]
  exact h _ (Array.getElem_mem hm)
/-- clear behind a row's end. -/
theorem run_clear_rw (t e ty : TypeId) (z : Value) (ht : P.underlying t = some (.slice e)) (hv : ∀ w, (zeroValue e).run P w = .ok z w) (sz : Nat) (hz : z.cells.size = sz) (hone : ∀ u ∈ z.cells, u.oneCell' = true)
    {n g off cap : Nat} {xs : List Value} (hown : Rw w e sz (.slice (some ⟨g, off, none⟩) n cap) n xs) (m c : Nat) (hm : n + m ≤ cap) :
    ∃ w', (Builtin.clear_ #[t] ty #[.slice (some ⟨g, off + n * sz, none⟩) m c]).run P w = .ok (.tuple #[]) w' ∧ Rw w' e sz (.slice (some ⟨g, off, none⟩) n cap) n xs ∧ w.grownBy w' (some g) := by
  subst hz
  obtain ⟨cur, hg, hn, hmx, hs, hx⟩ := hown.open_
  have hc : cur.toList.length = cur.size := Array.length_toList
  have hzl : (Builtin.zeroCells z.cells m).toList.length = m * z.cells.size := by rw [Array.length_toList, size_zeroCells]
  have h5 : (n + m) * z.cells.size = n * z.cells.size + m * z.cells.size := Nat.add_mul _ _ _
  have h6 : (n + m) * z.cells.size ≤ cap * z.cells.size := Nat.mul_le_mul_right _ hm
  have hst := run_storeCells_at P g (off + n * z.cells.size) e (Builtin.zeroCells z.cells m).toList 0 cur w hg (by rw [Nat.add_zero]; omega) (by
    intro u hu
    exact zeroCells_one z.cells hone m u (by simpa using hu))
  simp only [Nat.add_zero] at hst
  cases m with
  | zero =>
    refine ⟨w, ?_, hown, World.grownBy.refl w _⟩
    simp [Builtin.clear_, run_underlying ht]
  | succ m =>
    have hr : (Builtin.clear_ #[t] ty #[.slice (some ⟨g, off + n * z.cells.size, none⟩) (m + 1) c]).run P w =
        .ok (.tuple #[]) (w.setRow g (cur.toList.take (off + n * z.cells.size) ++ (Builtin.zeroCells z.cells (m + 1)).toList ++ cur.toList.drop (off + n * z.cells.size + (Builtin.zeroCells z.cells (m + 1)).toList.length)).toArray) := by
      have hst2 := hst
      simp [Builtin.clear_, run_underlying ht, hv] at hst2 ⊢
      rw [hst2]
      simp
    refine ⟨_, hr, ⟨hown.1, .inr ⟨g, off, cap, _, rfl, setRow_heap w g cur _ e _ hg, hn, hmx, ?_, ?_⟩⟩, ⟨rfl, rfl, rfl, by simp, fun j _ hj => setRow_other w g j _ (fun e => hj (by rw [e]))⟩⟩
    · simp only [List.size_toArray, List.length_append, List.length_take, List.length_drop, hc, hzl]; omega
    · rw [show ∀ l : List Value, l.toArray.toList = l from fun l => by simp]
      have e1 : cur.toList.take (off + n * z.cells.size) = cur.toList.take off ++ xs := by rw [List.take_add, hx]
      have e2 : (cur.toList.take off).length = off := by rw [List.length_take]; omega
      rw [e1, List.append_assoc, List.append_assoc, List.drop_append_of_le_length (by omega), List.drop_of_length_le (by omega), List.nil_append, ← hown.1]
      exact List.take_left
end
end Go.Proofs.Ytklbemgepeleoaa.Lk
