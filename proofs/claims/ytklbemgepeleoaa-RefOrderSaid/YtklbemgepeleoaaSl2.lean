/- slices.Insert (one value), Delete (one element), Clone at the program's own slice type. Printed by wip/gen_sl.py. -/
import Derived.Test.YtklbemgepeleoaaSl0
import Derived.Test.YtklbemgepeleoaaProg
import Derived.Lib.AppendZerosOnto
import Derived.RegionTactic
import Derived.WalkSpells
import Derived.Test.YtklbemgepeleoaaWMore
set_option linter.unusedVariables false
set_option linter.unusedSimpArgs false
namespace Go.Proofs.Ytklbemgepeleoaa.Sl2
open Go.RowKit Go.Proofs.Ytklbemgepeleoaa.Lk Go.Proofs.YtklbemgepeleoaaW.PrintWords
theorem uT : Try.prog.underlying 22 = some (.slice 54) := by kernel_rfl
theorem uI : Try.prog.underlying 3 = some (.int .i64) := by kernel_rfl
theorem infoE : (Try.prog.info? 54).map (fun i => (i.zero, i.size, i.bytes)) = some (some (.agg #[.string ⟨#[]⟩, .int .u8 0, .int .u8 0, .int .u8 0, .int .u8 0, .int .u8 0, .int .u8 0, .int .u8 0, .int .u8 0, .int .u8 0, .int .u8 0, .int .u8 0, .int .u8 0, .int .u8 0, .int .u8 0, .int .u8 0, .int .u8 0, .int .u8 0, .int .u8 0, .int .u8 0, .int .u8 0, .int .u8 0, .int .u8 0, .int .u8 0, .int .u8 0, .int .u8 0, .int .u8 0, .int .u8 0, .int .u8 0, .int .u8 0, .int .u8 0, .int .u8 0, .int .u8 0]), 33, 48) := by kernel_rfl
theorem ovl (w : World) (vb g off la lb cb o : Nat) (hne : vb ≠ g) (ca cg : Array Value) (ha : w.heap[vb]? = some (.cells ca 54 (0, 0))) (hb : w.heap[g]? = some (.cells cg 54 (0, 0))) (hz : cg.size ≠ 0) :
    (callFunc 53 #[.slice (some ⟨vb, 0, none⟩) la 1, .slice (some ⟨g, o, none⟩) lb cb]).run Try.prog w = .ok (.value (.bool false)) w := by
  obtain ⟨i0, hi0, _, hs0, _⟩ := info_parts infoE
  have hsize : ∀ w, (Go.sizeOf 54).run Try.prog w = .ok 33 w := fun w => by simp [sizeOf, typeInfo, hi0, hs0]
  rw [run_callFunc_extern Try.func53 (by kernel_rfl) (by kernel_rfl) (by kernel_rfl) (e := Extern.SlicesOverlaps.overlaps #[22, 22] #[4]) (by kernel_rfl),
    Lib.run_overlaps_apart w 22 4 54 uT 33 hsize ⟨vb, 0, none⟩ ⟨g, o, none⟩ la 1 lb cb hne 54 54 ca.size cg.size (by simp [World.shape?, ha]) (by simp [World.shape?, hb]) hz (by simp [World.frozen?, ha]) (by simp [World.frozen?, ha])]
  rfl
set_option maxHeartbeats 1000000 in
set_option maxRecDepth 100000 in
theorem ins_room (w : World) (n i cap g off vb : Nat) (xs : List Value) (news : Array Value) (h : Rw w 54 33 (.slice (some ⟨g, off, none⟩) n cap) n xs) (hi : i < n) (hroom : n + 1 ≤ cap) (hvb : w.heap[vb]? = some (.cells news 54 (0, 0))) (hne : vb ≠ g)
    (hsz : news.size = 33) (h1x : ∀ u ∈ xs, u.oneCell' = true) (h1n : ∀ u ∈ news, u.oneCell' = true) (hlt : n ≤ 1000000) :
    Calls Try.prog 48 #[.slice (some ⟨g, off, none⟩) n cap, .int .i64 (i : Int), .slice (some ⟨vb, 0, none⟩) 1 1] w fun e w' =>
      e = .returned (.slice (some ⟨g, off, none⟩) (n + 1) cap) ∧ Rw w' 54 33 (.slice (some ⟨g, off, none⟩) (n + 1) cap) (n + 1) (xs.take (i * 33) ++ news.toList ++ xs.drop (i * 33)) ∧ w.grownBy w' (some g) := by
  obtain ⟨cur, hg, hn, hmx, hcs, hx⟩ := h.open_
  obtain ⟨i0, hi0, hz0, hs0, hb0⟩ := info_parts infoE
  obtain ⟨ys, hyl, hR0⟩ := h.more (m := 1) hroom
  have hxl := h.1
  unfold maxLen at hmx
  have hov : ∀ lb cb o, (callFunc 53 #[.slice (some ⟨vb, 0, none⟩) 1 1, .slice (some ⟨g, o, none⟩) lb cb]).run Try.prog w = .ok (.value (.bool false)) w := fun lb cb o => ovl w vb g off 1 lb cb o hne news cur hvb hg (by omega)
  -- the first copy: what lies from i on, one place on
  have hcp1 : ∀ dC sC, ∃ w1, (Builtin.copy_ #[22, 22] 3 #[.slice (some ⟨g, off + (i + 1) * 33, none⟩) (n - i) dC, .slice (some ⟨g, off + i * 33, none⟩) (n + 1 - i) sC]).run Try.prog w.drew = .ok (goInt ((n - i : Nat) : Int)) w1 ∧
      Rw w1 54 33 (.slice (some ⟨g, off, none⟩) (n + 1) cap) (n + 1) ((xs ++ ys).take ((i + 1) * 33) ++ xs.drop (i * 33) ++ (xs ++ ys).drop ((i + 1 + (n - i)) * 33)) ∧ w.drew.grownBy w1 (some g) := fun dC sC =>
    run_copy_rw w.drew 22 3 54 i0 uT hi0 33 hs0 (hR0.drew) (i + 1) (n - i) (n - i) dC (n + 1 - i) sC ⟨g, off + i * 33, none⟩ (xs.drop (i * 33)) (by rw [List.length_drop, hxl]; omega)
      (by simp only [Nat.min_def]; split <;> omega) (by omega)
      (fun j u hj => by
        rw [add_, Nat.add_assoc]
        rw [List.getElem?_drop] at hj
        exact h.drew.cell hj)
      (fun u hu => h1x u (List.mem_of_mem_drop hu))
  obtain ⟨w1, hr1, hR1, hG1⟩ := hcp1 (cap - (i + 1)) (cap - i)
  have hvb1 : w1.heap[vb]? = some (.cells news 54 (0, 0)) := (hG1.block vb (Array.getElem?_eq_some_iff.1 hvb).1 (fun e => hne (by injection e))).trans hvb
  obtain ⟨w2, hr2, hR2, hG2⟩ := run_copy_rw (P := Try.prog) w1 22 3 54 i0 uT hi0 33 hs0 hR1 i 1 (n + 1 - i) (cap - i) 1 1 ⟨vb, 0, none⟩ news.toList (by rw [Array.length_toList, hsz])
      (by simp only [Nat.min_def]; split <;> omega) (by omega)
      (fun j u hj => by
        rw [add_, Nat.zero_add, cell_of_row w1 vb j news 54 (0, 0) hvb1]
        simpa using hj)
      (fun u hu => h1n u (by simpa using hu))
  have hfin : ((xs ++ ys).take ((i + 1) * 33) ++ xs.drop (i * 33) ++ (xs ++ ys).drop ((i + 1 + (n - i)) * 33)).take (i * 33) ++ news.toList ++ ((xs ++ ys).take ((i + 1) * 33) ++ xs.drop (i * 33) ++ (xs ++ ys).drop ((i + 1 + (n - i)) * 33)).drop ((i + 1) * 33) = xs.take (i * 33) ++ news.toList ++ xs.drop (i * 33) := by
    have l1 : (xs ++ ys).length = (n + 1) * 33 := by rw [List.length_append, hxl, hyl]; omega
    have e0 : (xs ++ ys).drop ((i + 1 + (n - i)) * 33) = [] := List.drop_of_length_le (by omega)
    have l2 : ((xs ++ ys).take ((i + 1) * 33)).length = (i + 1) * 33 := by rw [List.length_take]; omega
    rw [e0, List.append_nil, List.take_append_of_le_length (by omega), List.take_take, Nat.min_eq_left (by omega), List.take_append_of_le_length (by omega), List.drop_append_of_le_length (by omega), List.drop_of_length_le (by omega), List.nil_append]
  rw [hfin] at hR2
  have hGG : w.grownBy w2 (some g) := ⟨hG2.os.trans hG1.os, hG2.tape.trans hG1.tape, hG2.output.trans hG1.output, Nat.le_trans hG1.size hG2.size, fun j hj hjn => (hG2.block j (Nat.lt_of_lt_of_le hj hG1.size) hjn).trans (hG1.block j hj hjn)⟩
  have A1 := Aside0.mk hR2
  have A2 := Aside0.mk hGG
  clear hcp1 hR1 hR2 hG1 hG2 hGG hfin hR0 hyl hvb1
  have b1 : ((n : Int) + 1) ≤ (cap : Int) := by omega
  have b2 : (0 : Int) ≤ (i : Int) := by omega
  have b3 : (i : Int) ≤ (n : Int) := by omega
  have b4 : ((i : Int) = (n : Int)) = False := eq_false (by omega)
  have b5 : (i = n) = False := eq_false (by omega)
  have b6 : ((cap : Int) < (n : Int) + 1) = False := eq_false (by omega)
  have b7 : (cap = i) = False := eq_false (by omega)
  have b8 : (cap = i + 1) = False := eq_false (by omega)
  go_enter Try.func48, Try.ntmps48
  have s1 : IntKind.i64.wrap ((i : Int) + 1) = (i : Int) + 1 := by simp [IntKind.wrap, IntKind.bits, IntKind.signed]; omega
  have s2 : (0 : Int) ≤ (i : Int) + 1 := by omega
  have s3 : (i : Int) + 1 ≤ (n : Int) + 1 := by omega
  have s4 : ((i : Int) + 1).toNat = i + 1 := by omega
  have s5 : n + 1 - (i + 1) = n - i := by omega
  have s6 : (i : Int) ≤ (n : Int) + 1 := by omega
  go_wp2
  go_region
  all_goals
    go_wp2_with (at_builtin; refine wpList_copy_rw _ rfl _ _ _ _ rfl _ _ rfl rfl hr2 ?_)
    go_ret
    exact ⟨rfl, A1.out, A2.out⟩
set_option maxHeartbeats 1000000 in
set_option maxRecDepth 100000 in
theorem ins_full (w : World) (n i cap g off vb : Nat) (xs : List Value) (news : Array Value) (h : Rw w 54 33 (.slice (some ⟨g, off, none⟩) n cap) n xs) (hi : i < n) (hfull : cap < n + 1) (hvb : w.heap[vb]? = some (.cells news 54 (0, 0))) (hne : vb ≠ g)
    (hsz : news.size = 33) (h1x : ∀ u ∈ xs, u.oneCell' = true) (h1n : ∀ u ∈ news, u.oneCell' = true) (hlt : n ≤ 1000000) :
    Calls Try.prog 48 #[.slice (some ⟨g, off, none⟩) n cap, .int .i64 (i : Int), .slice (some ⟨vb, 0, none⟩) 1 1] w fun e w' =>
      ∃ cap', e = .returned (.slice (some ⟨w.heap.size, 0, none⟩) (n + 1) cap') ∧ Rw w' 54 33 (.slice (some ⟨w.heap.size, 0, none⟩) (n + 1) cap') (n + 1) (xs.take (i * 33) ++ news.toList ++ xs.drop (i * 33)) ∧ Below w.heap.size w w' := by
  obtain ⟨cur, hg, hn, hmx, hcs, hx⟩ := h.open_
  obtain ⟨i0, hi0, hz0, hs0, hb0⟩ := info_parts infoE
  have hxl := h.1
  have hvlt : vb < w.heap.size := (Array.getElem?_eq_some_iff.1 hvb).1
  have hglt : g < w.heap.size := (Array.getElem?_eq_some_iff.1 hg).1
  unfold maxLen at hmx
  -- the new row: the first i elements, then zero values
  have happ := Lib.run_append_grow_zeros (P := Try.prog) w 22 3 22 54 i0 _ .i64 .i64 uT uI hi0 hz0 (some ⟨g, off, none⟩) i cap (xs.take (i * 33))
    (by
      have := run_firstCells_some (P := Try.prog) w.drew i0.size i ⟨g, off, none⟩ i cap (xs.take (i * 33)) (by rw [List.length_take, hxl, hs0]; omega) (fun j u hj => by
        rw [add_]
        exact (h.cut (k := i) (by omega)).drew.cell hj)
      exact this)
    (n + 1 - i) (by omega) (by omega) (by omega) (by omega) (by rw [hb0]; omega) (growslice_fits (by omega) (by rw [hb0]; omega))
  rw [show i + (n + 1 - i) = n + 1 by omega] at happ
  obtain ⟨cap', hcap'⟩ : ∃ cap', cap' = grownCap w (n + 1) cap 54 := ⟨_, rfl⟩
  obtain ⟨w1, hw1⟩ : ∃ w1, w1 = w.drew.alloc (.cells ((xs.take (i * 33)).toArray ++ Builtin.zeroCells (Value.cells (.agg #[.string ⟨#[]⟩, .int .u8 0, .int .u8 0, .int .u8 0, .int .u8 0, .int .u8 0, .int .u8 0, .int .u8 0, .int .u8 0, .int .u8 0, .int .u8 0, .int .u8 0, .int .u8 0, .int .u8 0, .int .u8 0, .int .u8 0, .int .u8 0, .int .u8 0, .int .u8 0, .int .u8 0, .int .u8 0, .int .u8 0, .int .u8 0, .int .u8 0, .int .u8 0, .int .u8 0, .int .u8 0, .int .u8 0, .int .u8 0, .int .u8 0, .int .u8 0, .int .u8 0, .int .u8 0])) (n + 1 - i) ++ Builtin.zeroCells (Value.cells (.agg #[.string ⟨#[]⟩, .int .u8 0, .int .u8 0, .int .u8 0, .int .u8 0, .int .u8 0, .int .u8 0, .int .u8 0, .int .u8 0, .int .u8 0, .int .u8 0, .int .u8 0, .int .u8 0, .int .u8 0, .int .u8 0, .int .u8 0, .int .u8 0, .int .u8 0, .int .u8 0, .int .u8 0, .int .u8 0, .int .u8 0, .int .u8 0, .int .u8 0, .int .u8 0, .int .u8 0, .int .u8 0, .int .u8 0, .int .u8 0, .int .u8 0, .int .u8 0, .int .u8 0, .int .u8 0])) (cap' - (n + 1))) 54) := ⟨_, rfl⟩
  rw [← hcap', ← hw1] at happ
  have hge : n + 1 ≤ cap' := by rw [hcap']; exact grownCap_ge w (n + 1) cap 54
  have hcm : cap' ≤ maxLen := by rw [hcap']; exact grownCap_le_maxLen w (n + 1) cap 54 (by simp only [maxLen]; omega)
  have hB1 : Below w.heap.size w w1 := by rw [hw1]; exact ⟨rfl, rfl, rfl, by simp, fun k hk => heap_alloc_old w.drew _ hk⟩
  have hzl : ∀ q, (Builtin.zeroCells (Value.cells (.agg #[.string ⟨#[]⟩, .int .u8 0, .int .u8 0, .int .u8 0, .int .u8 0, .int .u8 0, .int .u8 0, .int .u8 0, .int .u8 0, .int .u8 0, .int .u8 0, .int .u8 0, .int .u8 0, .int .u8 0, .int .u8 0, .int .u8 0, .int .u8 0, .int .u8 0, .int .u8 0, .int .u8 0, .int .u8 0, .int .u8 0, .int .u8 0, .int .u8 0, .int .u8 0, .int .u8 0, .int .u8 0, .int .u8 0, .int .u8 0, .int .u8 0, .int .u8 0, .int .u8 0, .int .u8 0])) q).toList.length = q * 33 := fun q => by rw [Array.length_toList, size_zeroCells]; rfl
  have hR1 : Rw w1 54 33 (.slice (some ⟨w.heap.size, 0, none⟩) (n + 1) cap') (n + 1) (xs.take (i * 33) ++ (Builtin.zeroCells (Value.cells (.agg #[.string ⟨#[]⟩, .int .u8 0, .int .u8 0, .int .u8 0, .int .u8 0, .int .u8 0, .int .u8 0, .int .u8 0, .int .u8 0, .int .u8 0, .int .u8 0, .int .u8 0, .int .u8 0, .int .u8 0, .int .u8 0, .int .u8 0, .int .u8 0, .int .u8 0, .int .u8 0, .int .u8 0, .int .u8 0, .int .u8 0, .int .u8 0, .int .u8 0, .int .u8 0, .int .u8 0, .int .u8 0, .int .u8 0, .int .u8 0, .int .u8 0, .int .u8 0, .int .u8 0, .int .u8 0])) (n + 1 - i)).toList) := by
    rw [hw1]
    refine ⟨by rw [List.length_append, hzl, List.length_take, hxl]; omega, .inr ⟨w.heap.size, 0, cap', _, rfl, heap_alloc_new w.drew _, hge, hcm, ?_, ?_⟩⟩
    · have := hzl (n + 1 - i)
      have := hzl (cap' - (n + 1))
      simp only [Array.length_toList] at *
      simp only [Array.size_append, List.size_toArray, List.length_take, hxl, *]
      omega
    · have l1 : (xs.take (i * 33) ++ (Builtin.zeroCells (Value.cells (.agg #[.string ⟨#[]⟩, .int .u8 0, .int .u8 0, .int .u8 0, .int .u8 0, .int .u8 0, .int .u8 0, .int .u8 0, .int .u8 0, .int .u8 0, .int .u8 0, .int .u8 0, .int .u8 0, .int .u8 0, .int .u8 0, .int .u8 0, .int .u8 0, .int .u8 0, .int .u8 0, .int .u8 0, .int .u8 0, .int .u8 0, .int .u8 0, .int .u8 0, .int .u8 0, .int .u8 0, .int .u8 0, .int .u8 0, .int .u8 0, .int .u8 0, .int .u8 0, .int .u8 0, .int .u8 0])) (n + 1 - i)).toList).length = (n + 1) * 33 := by rw [List.length_append, hzl, List.length_take, hxl]; omega
      simp only [Array.toList_append, List.append_assoc, List.drop_zero]
      rw [← List.append_assoc, ← l1]
      exact List.take_left
  have hlt1 : vb < w1.heap.size := Nat.lt_of_lt_of_le hvlt hB1.size
  have hvb1 : w1.heap[vb]? = some (.cells news 54 (0, 0)) := (hB1.block vb hvlt).trans hvb
  obtain ⟨w2, hr2, hR2, hG2⟩ := run_copy_rw (P := Try.prog) w1 22 3 54 i0 uT hi0 33 hs0 hR1 i 1 (n + 1 - i) (cap' - i) 1 1 ⟨vb, 0, none⟩ news.toList (by rw [Array.length_toList, hsz])
      (by simp only [Nat.min_def]; split <;> omega) (by omega)
      (fun j u hj => by
        rw [add_, Nat.zero_add, cell_of_row w1 vb j news 54 (0, 0) hvb1]
        simpa using hj)
      (fun u hu => h1n u (by simpa using hu))
  have hB2 : Below w.heap.size w w2 := ⟨hG2.os.trans hB1.os, hG2.tape.trans hB1.tape, hG2.output.trans hB1.output, Nat.le_trans hB1.size hG2.size, fun j hj => (hG2.block j (Nat.lt_of_lt_of_le hj hB1.size) (fun e => by injection e with e; omega)).trans (hB1.block j hj)⟩
  have h2 : Rw w2 54 33 (.slice (some ⟨g, off, none⟩) n cap) n xs := h.of_block fun k hk => by
    have : g = k := by simpa [Value.ownBlock] using hk
    subst this
    exact hB2.block g hglt
  obtain ⟨w3, hr3, hR3, hG3⟩ := run_copy_rw (P := Try.prog) w2.drew 22 3 54 i0 uT hi0 33 hs0 hR2.drew (i + 1) (n - i) (n + 1 - (i + 1)) (cap' - (i + 1)) (n - i) (cap - i) ⟨g, off + i * 33, none⟩ (xs.drop (i * 33)) (by rw [List.length_drop, hxl]; omega)
      (by simp only [Nat.min_def]; split <;> omega) (by omega)
      (fun j u hj => by
        rw [add_, Nat.add_assoc]
        rw [List.getElem?_drop] at hj
        exact h2.drew.cell hj)
      (fun u hu => h1x u (List.mem_of_mem_drop hu))
  have hB3 : Below w.heap.size w w3 := ⟨hG3.os.trans hB2.os, hG3.tape.trans hB2.tape, hG3.output.trans hB2.output, Nat.le_trans hB2.size hG3.size, fun j hj => (hG3.block j (Nat.lt_of_lt_of_le hj hB2.size) (fun e => by injection e with e; omega)).trans (hB2.block j hj)⟩
  have hfin : ∀ zs : List Value, zs.length = (n + 1 - i) * 33 → ((((xs.take (i * 33) ++ zs).take (i * 33) ++ news.toList ++ (xs.take (i * 33) ++ zs).drop ((i + 1) * 33)).take ((i + 1) * 33)) ++ xs.drop (i * 33) ++ ((xs.take (i * 33) ++ zs).take (i * 33) ++ news.toList ++ (xs.take (i * 33) ++ zs).drop ((i + 1) * 33)).drop ((i + 1 + (n - i)) * 33)) = xs.take (i * 33) ++ news.toList ++ xs.drop (i * 33) := by
    intro zs hz
    have l0 : (xs.take (i * 33)).length = i * 33 := by rw [List.length_take, hxl]; omega
    have l1 : news.toList.length = 33 := by rw [Array.length_toList, hsz]
    have e1 : (xs.take (i * 33) ++ zs).take (i * 33) = xs.take (i * 33) := by rw [List.take_append_of_le_length (by omega), List.take_take, Nat.min_self]
    rw [e1]
    have l2 : (xs.take (i * 33) ++ news.toList).length = (i + 1) * 33 := by rw [List.length_append, l0, l1]; omega
    have l3 : ((xs.take (i * 33) ++ zs).drop ((i + 1) * 33)).length = (n - i) * 33 := by rw [List.length_drop, List.length_append, l0, hz]; omega
    have e2 : (xs.take (i * 33) ++ news.toList ++ (xs.take (i * 33) ++ zs).drop ((i + 1) * 33)).take ((i + 1) * 33) = xs.take (i * 33) ++ news.toList := by
      rw [List.take_append_of_le_length (by omega)]
      exact List.take_of_length_le (by omega)
    have e3 : (xs.take (i * 33) ++ news.toList ++ (xs.take (i * 33) ++ zs).drop ((i + 1) * 33)).drop ((i + 1 + (n - i)) * 33) = [] := List.drop_of_length_le (by rw [List.length_append, l2, l3]; omega)
    rw [e2, e3, List.append_nil]
  have hR3' := hR3
  rw [hfin _ (hzl _)] at hR3'
  have A1 := Aside0.mk hR3'
  have A2 := Aside0.mk hB3
  clear hR3' hR3 hB3 hG3 h2 hB2 hG2 hR2 hvb1 hR1 hB1 hzl hcap' hw1 hfin hz0 hg hcs hx
  have b2 : (0 : Int) ≤ (i : Int) := by omega
  have b3 : (i : Int) ≤ (n : Int) := by omega
  have b4 : ((i : Int) = (n : Int)) = False := eq_false (by omega)
  have b5 : (i = n) = False := eq_false (by omega)
  have b6 : ((cap : Int) < (n : Int) + 1) = True := eq_true (by omega)
  have b7 : (cap = i) = False := eq_false (by omega)
  have b9 : (cap' = i) = False := eq_false (by omega)
  have b8 : (cap' = i + 1) = False := eq_false (by omega)
  have b10 : (i : Int) ≤ (cap : Int) := by omega
  have s1 : IntKind.i64.wrap ((i : Int) + 1) = (i : Int) + 1 := by simp [IntKind.wrap, IntKind.bits, IntKind.signed]; omega
  have s2 : (0 : Int) ≤ (i : Int) + 1 := by omega
  have s3 : (i : Int) + 1 ≤ (n : Int) + 1 := by omega
  have s4 : ((i : Int) + 1).toNat = i + 1 := by omega
  have s5 : n + 1 - (i + 1) = n - i := by omega
  have s6 : (i : Int) ≤ (n : Int) + 1 := by omega
  have s7 : (n : Int) + 1 - (i : Int) = ((n + 1 - i : Nat) : Int) := by omega
  rw [s5] at hr3
  simp only [Nat.zero_add] at hr2 hr3
  go_enter Try.func48, Try.ntmps48
  go_wp2_with (at_builtin; refine Lib.wpList_append_run _ rfl _ _ _ _ rfl _ _ rfl (by first | rfl | exact congrArg (Value.int .i64) s7) _ _ happ ?_)
  go_region
  all_goals
    go_wp2
    go_ret
    exact ⟨cap', rfl, A1.out, A2.out⟩
set_option maxHeartbeats 1000000 in
set_option maxRecDepth 100000 in
theorem ins_end (w : World) (n c vb : Nat) (A : Option Addr) (xs : List Value) (news : Array Value) (h : Rw w 54 33 (.slice A n c) n xs) (hnc : n ≤ c) (hvb : w.heap[vb]? = some (.cells news 54 (0, 0)))
    (hsz : news.size = 33) (h1n : ∀ u ∈ news, u.oneCell' = true) (hlt : n ≤ 1000000) :
    Calls Try.prog 48 #[.slice A n c, .int .i64 (n : Int), .slice (some ⟨vb, 0, none⟩) 1 1] w fun e w' =>
      ∃ g off cap, e = .returned (.slice (some ⟨g, off, none⟩) (n + 1) cap) ∧ Rw w' 54 33 (.slice (some ⟨g, off, none⟩) (n + 1) cap) (n + 1) (xs ++ news.toList) ∧ w.grownBy w' (Value.slice A n c).ownBlock ∧ ((Value.slice A n c).ownBlock = some g ∨ g = w.heap.size) := by
  have hbig : n + 1 ≤ maxLen ∧ (n + 1) * 48 ≤ 140737488355328 := ⟨by simp only [maxLen]; omega, by omega⟩
  have hnl : news.toList.length = 1 * 33 := by rw [Array.length_toList, hsz]
  have hcell : ∀ j u, news.toList[j]? = some u → w.cell? ((⟨vb, 0, none⟩ : Addr).add j) = some u := fun j u hj => by
    rw [add_, Nat.zero_add, cell_of_row w vb j news 54 (0, 0) hvb]
    simpa using hj
  have hone : ∀ u ∈ news.toList, u.oneCell' = true := fun u hu => h1n u (by simpa using hu)
  have HR := Aside0.mk h
  have HC := Aside0.mk hcell
  have HO := Aside0.mk hone
  have b1 : (n : Int) ≤ (c : Int) := by omega
  clear h hcell hone
  by_cases e : c = n
  · have e1 : (c = n) = True := eq_true e
    clear e
    go_enter Try.func48, Try.ntmps48
    go_wp2_with (at_builtin; refine wpList_append_rw _ rfl _ _ _ rfl 54 _ 33 48 uT infoE rfl (.slice A n c) n xs rfl HR.out ⟨vb, 0, none⟩ 1 1 news.toList rfl hnl HC.out HO.out (by omega) hbig ?_; intro g off cap w1 hrow hgrow hat)
    go_ret
    exact ⟨g, off, cap, rfl, hrow, hgrow, hat⟩
  · have e1 : (c = n) = False := eq_false e
    clear e
    go_enter Try.func48, Try.ntmps48
    go_wp2_with (at_builtin; refine wpList_append_rw _ rfl _ _ _ rfl 54 _ 33 48 uT infoE rfl (.slice A n c) n xs rfl HR.out ⟨vb, 0, none⟩ 1 1 news.toList rfl hnl HC.out HO.out (by omega) hbig ?_; intro g off cap w1 hrow hgrow hat)
    go_ret
    exact ⟨g, off, cap, rfl, hrow, hgrow, hat⟩
/-- slices.Insert of one value. -/
theorem insert_calls (w : World) (n i vb : Nat) (v : Value) (xs : List Value) (news : Array Value) (h : Rw w 54 33 v n xs) (hi : i ≤ n) (hvb : w.heap[vb]? = some (.cells news 54 (0, 0))) (hne : v.ownBlock ≠ some vb)
    (hsz : news.size = 33) (h1x : ∀ u ∈ xs, u.oneCell' = true) (h1n : ∀ u ∈ news, u.oneCell' = true) (hlt : n ≤ 1000000) :
    Calls Try.prog 48 #[v, .int .i64 (i : Int), .slice (some ⟨vb, 0, none⟩) 1 1] w fun e w' =>
      ∃ v', e = .returned v' ∧ Rw w' 54 33 v' (n + 1) (xs.take (i * 33) ++ news.toList ++ xs.drop (i * 33)) ∧ w.grownBy w' v.ownBlock ∧ (∀ k, v'.ownBlock = some k → v.ownBlock = some k ∨ w.heap.size ≤ k) := by
  by_cases e : i = n
  · subst e
    obtain ⟨A, c, rfl, hnc, _⟩ := h.form
    refine (ins_end w i c vb A xs news h hnc hvb hsz h1n hlt).mono ?_
    rintro e w' ⟨g, off, cap, rfl, hR, hG, hat⟩
    have hx := h.1
    refine ⟨_, rfl, ?_, hG, fun k hk => ?_⟩
    · rw [List.take_of_length_le (by omega), List.drop_of_length_le (by omega), List.append_nil]
      exact hR
    · have : g = k := by simpa [Value.ownBlock] using hk
      subst this
      rcases hat with h1 | h1
      · exact .inl h1
      · exact .inr (by omega)
  · obtain ⟨g, off, cap, rfl, hnc, _⟩ := h.form2 (by omega)
    have hne' : vb ≠ g := fun e => hne (by rw [e]; rfl)
    by_cases hr : n + 1 ≤ cap
    · refine (ins_room w n i cap g off vb xs news h (by omega) hr hvb hne' hsz h1x h1n hlt).mono ?_
      rintro e w' ⟨rfl, hR, hG⟩
      exact ⟨_, rfl, hR, hG, fun k hk => .inl hk⟩
    · refine (ins_full w n i cap g off vb xs news h (by omega) (by omega) hvb hne' hsz h1x h1n hlt).mono ?_
      rintro e w' ⟨cap', rfl, hR, hB⟩
      refine ⟨_, rfl, hR, ⟨hB.os, hB.tape, hB.output, hB.size, fun j hj _ => hB.block j hj⟩, fun k hk => .inr ?_⟩
      have : w.heap.size = k := by simpa [Value.ownBlock] using hk
      omega
set_option maxHeartbeats 1000000 in
set_option maxRecDepth 100000 in
theorem clone_nil (w : World) : Calls Try.prog 23 #[.slice none 0 0] w fun e w' => e = .returned (.slice none 0 0) ∧ w' = w := by
  have hq := fun (W : World) => Lib.run_eql_slice_nil (P := Try.prog) W 22 54 none 0 0 0 0 uT
  go_enter Try.func23, Try.ntmps23
  go_wp2
  go_ret
  exact ⟨rfl, rfl⟩
set_option maxHeartbeats 1000000 in
set_option maxRecDepth 100000 in
theorem clone_some (w : World) (n cap g off : Nat) (xs : List Value) (h : Rw w 54 33 (.slice (some ⟨g, off, none⟩) n cap) n xs) (h1x : ∀ u ∈ xs, u.oneCell' = true) (hlt : n ≤ 1000000) :
    Calls Try.prog 23 #[.slice (some ⟨g, off, none⟩) n cap] w fun e w' =>
      ∃ v', e = .returned v' ∧ Rw w' 54 33 v' n xs ∧ Below w.heap.size w w' ∧ (∀ k, v'.ownBlock = some k → w.heap.size ≤ k) := by
  have hxl := h.1
  obtain ⟨i0, hi0, hz0, hs0, hb0⟩ := info_parts infoE
  have hq := fun (W : World) => Lib.run_eql_slice_nil (P := Try.prog) W 22 54 (some ⟨g, off, none⟩) n cap 0 0 uT
  have hR0 : Rw (w.alloc (.cells #[] 54)) 54 33 (.slice (some ⟨w.heap.size, 0, none⟩) 0 0) 0 [] :=
    ⟨by simp, .inr ⟨w.heap.size, 0, 0, #[], rfl, heap_alloc_new w _, Nat.le_refl _, by simp [maxLen], by simp, by simp⟩⟩
  have hA := h.alloc (.cells #[] 54)
  by_cases h0 : n = 0
  · subst h0
    have hxs : xs = [] := List.eq_nil_of_length_eq_zero (by omega)
    subst hxs
    obtain ⟨w1, cur1, cur1', _, _, _, hr1, hR1, hG1⟩ := run_append_within (P := Try.prog) (w.alloc (.cells #[] 54)) 22 22 54 i0 uT hi0 (n := 0) (g := w.heap.size) (off := 0) (cap := 0) (xs := []) (by rw [hs0]; exact hR0) ⟨g, off, none⟩ 0 cap [] (by simp) (fun j u hj => by simp at hj) (fun u hu => by simp at hu) (Nat.le_refl _)
    have A1 := Aside0.mk hR1
    have A2 := Aside0.mk (show Below w.heap.size w w1 from ⟨hG1.os, hG1.tape, hG1.output, Nat.le_trans (by simp) hG1.size, fun j hj => (hG1.block j (by simp; omega) (fun e => by injection e with e; omega)).trans (heap_alloc_old w _ hj)⟩)
    clear hR1 hG1 hA hR0 hz0
    rw [Nat.add_zero] at hr1
    go_enter Try.func23, Try.ntmps23
    go_wp2_with (at_builtin; refine Lib.wpList_append_run _ rfl _ _ _ _ rfl _ _ rfl rfl _ _ hr1 ?_)
    go_ret
    refine ⟨_, rfl, ?_, A2.out, fun k hk => ?_⟩
    · have := A1.out
      rw [hs0] at this
      exact this
    · have : w.heap.size = k := by simpa [Value.ownBlock] using hk
      omega
  · obtain ⟨cap', w1, hr1, hR1, hB1⟩ := run_append_full (P := Try.prog) (w.alloc (.cells #[] 54)) 22 22 54 i0 _ 33 48 uT hi0 hz0 hs0 hb0 rfl hR0 ⟨g, off, none⟩ n cap xs hxl (fun j u hj => by rw [add_]; exact hA.cell hj) (by omega) (by omega) (by simp only [maxLen]; omega) (by omega)
    rw [Nat.zero_add] at hr1 hR1
    rw [List.nil_append] at hR1
    have hsz : (w.alloc (.cells #[] 54)).heap.size = w.heap.size + 1 := by simp
    rw [hsz] at hr1 hR1 hB1
    have A1 := Aside0.mk hR1
    have A2 := Aside0.mk (show Below w.heap.size w w1 from ((Below.refl _ _).alloc (Nat.le_refl _) _).trans (hB1.mono (by omega)))
    clear hR1 hB1 hA hR0 hz0 hsz
    go_enter Try.func23, Try.ntmps23
    go_wp2_with (at_builtin; refine Lib.wpList_append_run _ rfl _ _ _ _ rfl _ _ rfl rfl _ _ hr1 ?_)
    go_ret
    refine ⟨_, rfl, A1.out, A2.out, fun k hk => ?_⟩
    have : w.heap.size + 1 = k := by simpa [Value.ownBlock] using hk
    omega
/-- slices.Clone. -/
theorem clone_calls (w : World) (n : Nat) (v : Value) (xs : List Value) (h : Rw w 54 33 v n xs) (h1x : ∀ u ∈ xs, u.oneCell' = true) (hlt : n ≤ 1000000) :
    Calls Try.prog 23 #[v] w fun e w' => ∃ v', e = .returned v' ∧ Rw w' 54 33 v' n xs ∧ Below w.heap.size w w' ∧ (∀ k, v'.ownBlock = some k → w.heap.size ≤ k) := by
  rcases h.2 with ⟨rfl, rfl⟩ | ⟨g, off, cap, cur, rfl, hg, hn, hm, hs, hx⟩
  · refine (clone_nil w).mono ?_
    rintro e w' ⟨rfl, rfl⟩
    exact ⟨_, rfl, h, Below.refl _ _, fun k hk => by simp [Value.ownBlock] at hk⟩
  · exact clone_some w n cap g off xs h h1x hlt
end Go.Proofs.Ytklbemgepeleoaa.Sl2
