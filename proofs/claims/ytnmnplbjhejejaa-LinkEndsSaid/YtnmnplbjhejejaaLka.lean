/- The law's step: a packet comes with a byte turned. (step_turned1 is step_turned0 with the ends exchanged.) -/
import Derived.Test.YtnmnplbjhejejaaLk5
import Derived.Lib.ConvBytes
import Derived.Lib.SlBytesRow
set_option linter.unusedVariables false
set_option linter.unusedSimpArgs false
namespace Go.Proofs.Ytnmnplbjhejejaa.Lk
open Go.RowKit Go.Proofs.YtnmnplbjhejejaaW.PrintWords Go.Proofs.YtnmnplbjhejejaaW.PrintLast Go.Proofs.YtnmnplbjhejejaaW.PrintMore Go.Proofs.Ytnmnplbjhejejaa.PA
attribute [local go_sem] max2_int min2_int max_two min_two max_three min_three max_four min_four
theorem bytesWorld_below (w : World) (e : TypeId) (s : ByteArray) : Below w.heap.size w (Lib.bytesWorld w e s) :=
  ⟨rfl, rfl, rfl, by rw [Lib.bytesWorld_size]; omega, fun j hj => Lib.bytesWorld_at_old w e s j hj⟩

/-- The bytes of s, one of them y. -/
def turnS (s : ByteArray) (t : Nat) (y : UInt8) : ByteArray := ⟨(s.data.toList.set t y).toArray⟩
theorem turnS_size (s : ByteArray) (t : Nat) (y : UInt8) : (turnS s t y).size = s.size := by
  show (s.data.toList.set t y).toArray.size = s.data.size
  simp
theorem bytesWorld_frozen (W : World) (e : TypeId) (s : ByteArray) (t : Nat) (ht : t < s.size) : (Lib.bytesWorld W e s).frozen? ⟨W.heap.size, t, none⟩ = false := by
  have hn := Lib.bytesWorld_at_new W e s
  have hsz : t < (Lib.bytesCells W e s).size := by
    unfold Lib.bytesCells
    simp only [Array.size_append, Array.size_map, Array.size_replicate]
    have : s.data.size = s.size := rfl
    omega
  unfold World.frozen?
  simp only [hn]
  simp
  omega
theorem turnS_get (s : ByteArray) (t : Nat) (y : UInt8) (i : Nat) (hi : i < (turnS s t y).size) : (turnS s t y)[i] = if i = t then y else s.data.toList.getD i 0 := by
  have hs : s.data.toList.length = s.size := by simp
  have h2 : i < s.size := by rw [turnS_size] at hi; exact hi
  show (s.data.toList.set t y).toArray[i]'(by simpa using h2) = _
  rw [List.getElem_toArray, List.getElem_set]
  by_cases e : i = t
  · rw [if_pos e.symm, if_pos e]
  · rw [if_neg (Ne.symm e), if_neg e, List.getD_eq_getElem?_getD, List.getElem?_eq_getElem (by omega)]
    rfl
theorem turned_bytes {W : World} {b : Nat} {s : ByteArray} (h : ∀ i, i < s.size → W.cell? ⟨b, i, none⟩ = some (.int .u8 ((s.data.toList.getD i 0).toNat : Int))) (t : Nat) (ht : t < s.size) (y : UInt8) :
    Lib.Bytes (W.setCell ⟨b, t, none⟩ (.int .u8 (y.toNat : Int))) b 0 (turnS s t y) := by
  intro i hi
  rw [turnS_get]
  rw [turnS_size] at hi
  rw [Nat.zero_add]
  by_cases e : i = t
  · subst e
    rw [if_pos rfl]
    exact World.cell?_setCell_same _ _ _ (h i hi)
  · rw [if_neg e, World.cell?_setCell_other _ _ _ _ (fun x => e (by injection x with _ h2; exact h2.symm)), h i hi]
theorem conv_at {W : World} {b cp : Nat} {s : ByteArray} {t : Nat} {y : UInt8} (h : Lib.Bytes W b 0 (turnS s t y)) : (convert 32 9 (.slice (some ⟨b, 0, none⟩) s.size cp)).run Try.prog W = .ok (.string (turnS s t y)) W := by
  have := Lib.run_convert_whole (P := Try.prog) W 32 5 9 Try.underlying32 Try.underlying5 Try.underlying9 b 0 (turnS s t y) h cp
  rw [turnS_size] at this
  exact this
theorem bytes_kp {W W' : World} {b : Nat} {s : ByteArray} {S : Nat → Prop} (h : Lib.Bytes W b 0 s) (hk : Kp W W' S) (hb : ¬ S b) (hlt : b < W.heap.size) : Lib.Bytes W' b 0 s :=
  fun i hi => (World.cell?_of_block (hk.block b hlt hb)).trans (h i hi)
theorem way_keep {B : Nat} {w0 w' : World} {n g off cap j : Nat} {V : NV} {N : NS} {x0 x1 x3 x4 x5 : Int} {x2 s : ByteArray} {hs : Nat} (h : NetB B w0 w' n V N)
    (hx : w'.heap[hs]? = some (.cells (stepCells x0 x1 x2 x3 x4 x5) 66 (0, 0))) (i : Fin 2) (hv : V.v ⟨i.val, by omega⟩ = .slice (some ⟨g, off, none⟩) (N.l ⟨i.val, by omega⟩).length cap) (hj : (N.l ⟨i.val, by omega⟩)[j]? = some s) :
    w'.cell? ⟨n, 2 + i.val, none⟩ = some (.slice (some ⟨g, off, none⟩) (N.l ⟨i.val, by omega⟩).length cap) ∧ w'.cell? ⟨hs, 3, none⟩ = some (.int .u8 x3) ∧ w'.cell? ⟨g, off + j, none⟩ = some (.string s) := by
  obtain ⟨c0, c1, c2, c3, c4, c5, c6, c7, c8, cf, hnlt⟩ := h.net.facts
  obtain ⟨z2, z3, z4, z5, hzlt⟩ := stepFacts hx
  have hr := h.net.rows ⟨i.val, by omega⟩
  refine ⟨?_, z3, ?_⟩
  · rw [← hv]
    match i with
    | 0 => exact c2
    | 1 => exact c3
  · refine Rw.cell_at (e := 9) (n := (N.l ⟨i.val, by omega⟩).length) (cap := cap) (l := N.l ⟨i.val, by omega⟩) ?_ hj
    rw [← hv]
    exact hr
theorem way_keep0 {B : Nat} {w0 w' : World} {n g off cap j : Nat} {V : NV} {N : NS} {x0 x1 x3 x4 x5 : Int} {x2 s : ByteArray} {hs : Nat} (h : NetB B w0 w' n V N)
    (hx : w'.heap[hs]? = some (.cells (stepCells x0 x1 x2 x3 x4 x5) 66 (0, 0))) (hv : V.v 0 = .slice (some ⟨g, off, none⟩) (N.l 0).length cap) (hj : (N.l 0)[j]? = some s) :
    w'.cell? ⟨n, 2, none⟩ = some (.slice (some ⟨g, off, none⟩) (N.l 0).length cap) ∧ w'.cell? ⟨hs, 3, none⟩ = some (.int .u8 x3) ∧ w'.cell? ⟨g, off + j, none⟩ = some (.string s) := way_keep h hx 0 hv hj
theorem way_keep1 {B : Nat} {w0 w' : World} {n g off cap j : Nat} {V : NV} {N : NS} {x0 x1 x3 x4 x5 : Int} {x2 s : ByteArray} {hs : Nat} (h : NetB B w0 w' n V N)
    (hx : w'.heap[hs]? = some (.cells (stepCells x0 x1 x2 x3 x4 x5) 66 (0, 0))) (hv : V.v 1 = .slice (some ⟨g, off, none⟩) (N.l 1).length cap) (hj : (N.l 1)[j]? = some s) :
    w'.cell? ⟨n, 3, none⟩ = some (.slice (some ⟨g, off, none⟩) (N.l 1).length cap) ∧ w'.cell? ⟨hs, 3, none⟩ = some (.int .u8 x3) ∧ w'.cell? ⟨g, off + j, none⟩ = some (.string s) := way_keep h hx 1 hv hj

theorem turned_keep0 {B : Nat} {w0 w w8 w6 : World} {n cp t : Nat} {V : NV} {N : NS} {pv : Value} {E' : En} {s : ByteArray} {y : UInt8} (h : NetB B w0 w6 n { V with p := upd V.p 0 pv } { N with e := upd N.e 0 E' })
    (hy : Lib.Bytes w8 (w.heap.size + 1) 0 (turnS s t y)) (hk : Kp w8.drew w6 (fun g => g = V.b 0)) (hn : NetB B w0 w n V N) (hz : w8.heap.size = w.heap.size + 2) :
    w6.cell? ⟨n, 0, none⟩ = some (.pointer (some ⟨V.b 0, 0, none⟩)) ∧ (convert 32 9 (.slice (some ⟨w.heap.size + 1, 0, none⟩) s.size cp)).run Try.prog w6 = .ok (.string (turnS s t y)) w6 := by
  obtain ⟨c0, c1, c2, c3, c4, c5, c6, c7, c8, cf, hnlt⟩ := h.net.facts
  refine ⟨c0, conv_at (bytes_kp (W := w8.drew) hy hk (fun x => ?_) (by show _ < w8.heap.size; omega))⟩
  have := hn.net.blt 0
  omega
theorem turned_keep1 {B : Nat} {w0 w w8 w6 : World} {n cp t : Nat} {V : NV} {N : NS} {pv : Value} {E' : En} {s : ByteArray} {y : UInt8} (h : NetB B w0 w6 n { V with p := upd V.p 1 pv } { N with e := upd N.e 1 E' })
    (hy : Lib.Bytes w8 (w.heap.size + 1) 0 (turnS s t y)) (hk : Kp w8.drew w6 (fun g => g = V.b 1)) (hn : NetB B w0 w n V N) (hz : w8.heap.size = w.heap.size + 2) :
    w6.cell? ⟨n, 1, none⟩ = some (.pointer (some ⟨V.b 1, 0, none⟩)) ∧ (convert 32 9 (.slice (some ⟨w.heap.size + 1, 0, none⟩) s.size cp)).run Try.prog w6 = .ok (.string (turnS s t y)) w6 := by
  obtain ⟨c0, c1, c2, c3, c4, c5, c6, c7, c8, cf, hnlt⟩ := h.net.facts
  refine ⟨c1, conv_at (bytes_kp (W := w8.drew) hy hk (fun x => ?_) (by show _ < w8.heap.size; omega))⟩
  have := hn.net.blt 1
  omega

set_option maxHeartbeats 8000000 in
set_option maxRecDepth 100000 in
theorem step_turned0 (k B : Nat) (w0 : World) (n : Nat) (V : NV) (N : NS) (x0 x1 x3 x4 x5 : Int) (x2 : ByteArray) (w : World) (h : NetB B w0 w n V N) (s : ByteArray) (E' : En) (j g off cap : Nat)
    (hx3 : 0 ≤ x3 ∧ x3 ≤ 255) (hv : V.v 0 = .slice (some ⟨g, off, none⟩) (N.l 0).length cap) (hcap : (N.l 0).length ≤ cap)
    (hpos : 0 < (N.l 0).length) (hlen : (N.l 0).length ≤ 1000000) (hj : j < (N.l 0).length) (hjm : Int.tmod x3 ((N.l 0).length : Int) = (j : Int)) (hsj : (N.l 0)[j]? = some s)
    (hx5 : 0 < x5 ∧ x5 ≤ 255) (hsz : 0 < s.size)
    (hfine : N.fine = true)
    (tt : Nat) (htt : tt < s.size) (htm : Int.tmod x4 (s.size : Int) = (tt : Int)) (hx4 : 0 ≤ x4 ∧ x4 ≤ 255) (y : UInt8) (hy : Go.bits .xor .u8 ((s.data.toList.getD tt 0).toNat : Int) x5 = (y.toNat : Int)) (hs : recvF k (N.e 0) (turnS s tt y) = some (E', [], false)) (hw : Int.tmod x0 6 = 5) (ht : Int.tmod x1 2 = 0)  :
    Calls Try.prog 36 #[.pointer (some ⟨n, 0, none⟩), .agg #[.int .u8 x0, .int .u8 x1, .string x2, .int .u8 x3, .int .u8 x4, .int .u8 x5]] w fun e w' => e = .returned (.tuple #[]) ∧ ∃ V', NetB B w0 w' n V' { N with e := upd N.e 0 E', fine := true } := by
  have HN := Aside0.mk h
  obtain ⟨c0, c1, c2, c3, c4, c5, c6, c7, c8, cf, hnlt⟩ := h.net.facts
  have HV := Aside0.mk hv
  have HF := Aside0.mk hfine
  have HJ := Aside0.mk hsj
  have hcell := Rw.cell_at (by have := h.net.rows 0; rw [hv] at this; exact this) hsj
  rw [hv] at c2
  have e1 : (0 : Int) ≤ (j : Int) := by omega
  have e2 : (j : Int) < ((N.l 0).length : Int) := by omega
  have e3 : IntKind.i64.wrap x3 = x3 := by simp [IntKind.wrap, IntKind.bits, IntKind.signed]; omega
  have e4 : (0 : Int) < ((N.l 0).length : Int) := by omega
  have e5 : decide ((0 : Int) < ((N.l 0).length : Int)) = true := decide_eq_true e4
  have e6 : (((N.l 0).length : Int) == 0) = false := beq_eq_false_iff_ne.mpr (by omega)
  have e7 : decide (0 < (N.l 0).length) = true := decide_eq_true hpos
  have e8 : ((N.l 0).length = 0) = False := eq_false (by omega)
  have e9 : (((N.l 0).length : Int) = 0) = False := eq_false (by omega)
  have g1 : decide (0 < x5) = true := decide_eq_true hx5.1
  have g2 : (0 < x5) = True := eq_true hx5.1
  have g3 : (0 < s.size) = True := eq_true hsz
  have g4 : decide (0 < (s.size : Int)) = true := decide_eq_true (by omega)
  have g5 : ((s.size : Int) == 0) = false := beq_eq_false_iff_ne.mpr (by omega)
  have g6 : ((s.size : Int) = 0) = False := eq_false (by omega)
  have g7 : (s.size = 0) = False := eq_false (by omega)
  obtain ⟨w7, hW7⟩ : ∃ w7, w7 = Lib.bytesWorld (w.alloc (.cells #[.int .u8 x0, .int .u8 x1, .string x2, .int .u8 x3, .int .u8 x4, .int .u8 x5] 66)).drew 5 s := ⟨_, rfl⟩
  have h7 : NetB B w0 w7 n V N := by rw [hW7]; exact NetB.below (NetB.drew (NetB.alloc h _)) (bytesWorld_below _ _ _)
  have hx7 : w7.heap[w.heap.size]? = some (.cells (stepCells x0 x1 x2 x3 x4 x5) 66 (0, 0)) := by rw [hW7]; exact (Lib.bytesWorld_at_old _ _ _ _ (by simp)).trans (heap_alloc_new w _)
  have HW7 := Aside0.mk hW7
  have HQ := Aside0.mk (way_keep0 h7 hx7 hv hsj)
  have HN7 := Aside0.mk h7
  have HX7 := Aside0.mk hx7
  have hsz0 : (w.alloc (.cells #[.int .u8 x0, .int .u8 x1, .string x2, .int .u8 x3, .int .u8 x4, .int .u8 x5] 66)).drew.heap.size = w.heap.size + 1 := by simp
  have hsz7 : w7.heap.size = w.heap.size + 2 := by rw [hW7, Lib.bytesWorld_size, hsz0]
  have HS7 := Aside0.mk hsz7
  have HC7 := Aside0.mk (show ∀ i, i < s.size → w7.cell? ⟨w.heap.size + 1, i, none⟩ = some (.int .u8 ((s.data.toList.getD i 0).toNat : Int)) by
    intro i hi
    rw [hW7, ← hsz0]
    exact Lib.bytesWorld_cell _ 5 s i hi)
  have HF7 := Aside0.mk (show w7.frozen? ⟨w.heap.size + 1, tt, none⟩ = false by
    rw [hW7, ← hsz0]
    exact bytesWorld_frozen _ 5 s tt htt)
  have HB7 := Aside0.mk (show Below w.heap.size w w7 by
    rw [hW7]
    have h1 : Below w.heap.size w (w.alloc (.cells #[.int .u8 x0, .int .u8 x1, .string x2, .int .u8 x3, .int .u8 x4, .int .u8 x5] 66)).drew := ((Below.refl _ _).alloc (Nat.le_refl _) _).drew
    exact h1.trans ((bytesWorld_below _ 5 s).mono (by rw [hsz0]; omega)))
  clear hsz0 hsz7 hW7
  clear h7 hx7
  have HS := Aside0.mk hs
  clear cf h hv hfine hsj hs
  have d1 : decide (Int.tmod x1 2 = 0) = true := decide_eq_true ht
  have hconv := fun W => Lib.run_convert_string_bytes (P := Try.prog) W 9 32 5 s Try.underlying9 Try.underlying32 Try.underlying5
  have k0 := World.new_ne w ⟨n, 0, none⟩ c0
  have k2 := World.new_ne w ⟨n, 2, none⟩ c2
  go_enter Try.func36, Try.ntmps36
  go_wp2
  go_region_held (fun w' => w'.cell? ⟨n, 2, none⟩ = some (.slice (some ⟨g, off, none⟩) (N.l 0).length cap) ∧ w'.cell? ⟨w.heap.size, 3, none⟩ = some (.int .u8 x3) ∧ w'.cell? ⟨g, off + j, none⟩ = some (.string s)) (first | go_keep | (rw [← HW7.out]; exact HQ.out)) (fail)
  rw [← HW7.out]
  clear c0 c1 c2 c3 c4 c5 c6 c7 c8 hnlt hcell k0 k2 hconv
  obtain ⟨c0, c1, c2, c3, c4, c5, c6, c7, c8', cf, hnlt⟩ := HN7.out.net.facts
  have c8 : w7.cell? ⟨n, 8, none⟩ = some (.bool true) := by rw [← HF.out]; exact c8'
  have ff8 := cf 8
  clear cf c8'
  obtain ⟨z2, z3, z4, z5, hzlt⟩ := stepFacts HX7.out
  obtain ⟨aa, haa⟩ : ∃ aa : Int, aa = ((s.data.toList.getD tt 0).toNat : Int) := ⟨_, rfl⟩
  have q1 : w7.cell? ⟨w.heap.size + 1, tt, none⟩ = some (.int .u8 aa) := by rw [haa]; exact HC7.out tt htt
  have hy1 : Go.bits .xor .u8 aa x5 = (y.toNat : Int) := by rw [haa]; exact hy
  clear haa hy
  have q2 := HF7.out
  have m1 : IntKind.i64.wrap x4 = x4 := by simp [IntKind.wrap, IntKind.bits, IntKind.signed]; omega
  have m2 : (0 : Int) ≤ (tt : Int) := by omega
  have m3 : (tt : Int) < (s.size : Int) := by omega
  go_wp2
  go_region
  generalize grownCap _ _ _ _ = cp
  clear c1 c2 c3 c4 c5 c6 c7 z2 z3 z4 z5 q1 q2
  obtain ⟨w8, hw8⟩ : ∃ w8, w8 = (w7.setCell ⟨w.heap.size + 1, tt, none⟩ (.int .u8 (y.toNat : Int))).drew := ⟨_, rfl⟩
  have HB8 := Aside0.mk (show Below w.heap.size w w8 by
    rw [hw8]
    exact (HB7.out.setCell (by show _ ≤ w.heap.size + 1; omega) _).drew)
  have HY8 := Aside0.mk (show Lib.Bytes w8 (w.heap.size + 1) 0 (turnS s tt y) by rw [hw8]; exact turned_bytes HC7.out tt htt y)
  have HZ8 := Aside0.mk (show w8.heap.size = w.heap.size + 2 by rw [hw8]; show (w7.setCell _ _).heap.size = _; simp only [World.setCell, Array.size_modify]; exact HS7.out)
  have HN8 := Aside0.mk (NetB.below HN.out HB8.out)
  rw [← hw8]
  clear hw8 hy1 c0 c8 ff8 hnlt hzlt
  obtain ⟨c0, c1, c2, c3, c4, c5, c6, c7, c8', cf, hnlt⟩ := HN8.out.net.facts
  clear c1 c2 c3 c4 c5 c6 c7 c8' cf
  have k0 := World.new_ne w8 ⟨n, 0, none⟩ c0
  have HS0 := Aside0.mk (show w8.drew.cell? ⟨n, 0, none⟩ = some (.pointer (some ⟨V.b 0, 0, none⟩)) ∧ (convert 32 9 (.slice (some ⟨w.heap.size + 1, 0, none⟩) s.size cp)).run Try.prog w8.drew = .ok (.string (turnS s tt y)) w8.drew from ⟨c0, conv_at (W := w8.drew) HY8.out⟩)
  go_wp2
  go_region_held3 (fun w' => w'.cell? ⟨n, 0, none⟩ = some (.pointer (some ⟨V.b 0, 0, none⟩)) ∧ (convert 32 9 (.slice (some ⟨w.heap.size + 1, 0, none⟩) s.size cp)).run Try.prog w' = .ok (.string (turnS s tt y)) w') (first | exact HQ6 | exact HS0.out)
    (first | (go_at_call 39; refine (recv_calls k (V.b 0) (V.p 0) (N.e 0) E' (turnS s tt y) [] false _ (by repeat (first | (with_reducible exact HN8.out.net.ends 0) | apply IsEnd.drew | apply IsEnd.alloc)) HS.out).mono ?_; rintro e w6 ⟨tv, pv6, rfl, hE6, hK6, hR6, hT6, hT6', hP6⟩; obtain rfl := hT6' rfl; have HN6 := Aside0.mk (NetB.end_ (B := B) (w0 := w0) (V := V) (N := N) (n := n) (by repeat (first | (with_reducible exact HN8.out) | apply NetB.drew | apply NetB.alloc)) 0 hE6 (hK6.mono (fun _ _ x => .inl x)) (fun g hg => .inl (hP6 g hg))); have HQ6 := turned_keep0 (V := V) (N := N) (cp := cp) HN6.out HY8.out hK6 HN.out HZ8.out; clear hE6 hK6 hR6 hT6 hT6' hP6))
  clear HQ6 c0 hnlt k0
  obtain ⟨c0, c1, c2, c3, c4, c5, c6, c7, c8', cf, hnlt⟩ := HN6.out.net.facts
  have c8 : w6.cell? ⟨n, 8, none⟩ = some (.bool true) := by rw [← HF.out]; exact c8'
  have ff8 := cf 8
  clear cf c8'
  go_wp2
  go_end0
  exact ⟨rfl, _, NetB.put_fine HN6.out true⟩

set_option maxHeartbeats 8000000 in
set_option maxRecDepth 100000 in
theorem step_noby0 (k B : Nat) (w0 : World) (n : Nat) (V : NV) (N : NS) (x0 x1 x3 x4 x5 : Int) (x2 : ByteArray) (w : World) (h : NetB B w0 w n V N) (hw : Int.tmod x0 6 = 5) (ht : Int.tmod x1 2 = 0) (h0 : 0 < (N.l 0).length) (hx5 : x5 = 0) :
    Calls Try.prog 36 #[.pointer (some ⟨n, 0, none⟩), .agg #[.int .u8 x0, .int .u8 x1, .string x2, .int .u8 x3, .int .u8 x4, .int .u8 x5]] w fun e w' => e = .returned (.tuple #[]) ∧ ∃ V', NetB B w0 w' n V' N := by
  have HN := Aside0.mk h
  obtain ⟨c0, c1, c2, c3, c4, c5, c6, c7, c8, cf, hnlt⟩ := h.net.facts
  obtain ⟨A, cc, hv, _, _⟩ := (h.net.rows 0).form
  rw [hv] at c2
  have e7 : decide (0 < (N.l 0).length) = true := decide_eq_true h0
  have e5 : decide ((0 : Int) < ((N.l 0).length : Int)) = true := decide_eq_true (by omega)
  clear cf h hv
  subst hx5
  have d1 : decide (Int.tmod x1 2 = 0) = true := decide_eq_true ht
  go_enter Try.func36, Try.ntmps36
  go_wp2
  all_goals
    go_end0
    exact ⟨rfl, _, (by repeat (first | (with_reducible exact HN.out) | apply NetB.drew | apply NetB.alloc))⟩

set_option maxHeartbeats 8000000 in
set_option maxRecDepth 100000 in
theorem step_noby1 (k B : Nat) (w0 : World) (n : Nat) (V : NV) (N : NS) (x0 x1 x3 x4 x5 : Int) (x2 : ByteArray) (w : World) (h : NetB B w0 w n V N) (hw : Int.tmod x0 6 = 5) (ht : Int.tmod x1 2 = 1) (h0 : 0 < (N.l 1).length) (hx5 : x5 = 0) :
    Calls Try.prog 36 #[.pointer (some ⟨n, 0, none⟩), .agg #[.int .u8 x0, .int .u8 x1, .string x2, .int .u8 x3, .int .u8 x4, .int .u8 x5]] w fun e w' => e = .returned (.tuple #[]) ∧ ∃ V', NetB B w0 w' n V' N := by
  have HN := Aside0.mk h
  obtain ⟨c0, c1, c2, c3, c4, c5, c6, c7, c8, cf, hnlt⟩ := h.net.facts
  obtain ⟨A, cc, hv, _, _⟩ := (h.net.rows 1).form
  rw [hv] at c3
  have e7 : decide (0 < (N.l 1).length) = true := decide_eq_true h0
  have e5 : decide ((0 : Int) < ((N.l 1).length : Int)) = true := decide_eq_true (by omega)
  clear cf h hv
  subst hx5
  have d1 : decide (Int.tmod x1 2 = 1) = true := decide_eq_true ht
  go_enter Try.func36, Try.ntmps36
  go_wp2
  all_goals
    go_end0
    exact ⟨rfl, _, (by repeat (first | (with_reducible exact HN.out) | apply NetB.drew | apply NetB.alloc))⟩
end Go.Proofs.Ytnmnplbjhejejaa.Lk
namespace Go.Proofs.Ytnmnplbjhejejaa.Lk
open Go.RowKit Go.Proofs.YtnmnplbjhejejaaW.PrintWords Go.Proofs.YtnmnplbjhejejaaW.PrintLast Go.Proofs.YtnmnplbjhejejaaW.PrintMore Go.Proofs.Ytnmnplbjhejejaa.PA
attribute [local go_sem] max2_int min2_int max_two min_two max_three min_three max_four min_four

set_option maxHeartbeats 8000000 in
set_option maxRecDepth 100000 in
theorem step_turned1 (k B : Nat) (w0 : World) (n : Nat) (V : NV) (N : NS) (x0 x1 x3 x4 x5 : Int) (x2 : ByteArray) (w : World) (h : NetB B w0 w n V N) (s : ByteArray) (E' : En) (j g off cap : Nat)
    (hx3 : 0 ≤ x3 ∧ x3 ≤ 255) (hv : V.v 1 = .slice (some ⟨g, off, none⟩) (N.l 1).length cap) (hcap : (N.l 1).length ≤ cap)
    (hpos : 0 < (N.l 1).length) (hlen : (N.l 1).length ≤ 1000000) (hj : j < (N.l 1).length) (hjm : Int.tmod x3 ((N.l 1).length : Int) = (j : Int)) (hsj : (N.l 1)[j]? = some s)
    (hx5 : 0 < x5 ∧ x5 ≤ 255) (hsz : 0 < s.size)
    (hfine : N.fine = true)
    (tt : Nat) (htt : tt < s.size) (htm : Int.tmod x4 (s.size : Int) = (tt : Int)) (hx4 : 0 ≤ x4 ∧ x4 ≤ 255) (y : UInt8) (hy : Go.bits .xor .u8 ((s.data.toList.getD tt 0).toNat : Int) x5 = (y.toNat : Int)) (hs : recvF k (N.e 1) (turnS s tt y) = some (E', [], false)) (hw : Int.tmod x0 6 = 5) (ht : Int.tmod x1 2 = 1)  :
    Calls Try.prog 36 #[.pointer (some ⟨n, 0, none⟩), .agg #[.int .u8 x0, .int .u8 x1, .string x2, .int .u8 x3, .int .u8 x4, .int .u8 x5]] w fun e w' => e = .returned (.tuple #[]) ∧ ∃ V', NetB B w0 w' n V' { N with e := upd N.e 1 E', fine := true } := by
  have HN := Aside0.mk h
  obtain ⟨c0, c1, c2, c3, c4, c5, c6, c7, c8, cf, hnlt⟩ := h.net.facts
  have HV := Aside0.mk hv
  have HF := Aside0.mk hfine
  have HJ := Aside0.mk hsj
  have hcell := Rw.cell_at (by have := h.net.rows 1; rw [hv] at this; exact this) hsj
  rw [hv] at c3
  have e1 : (0 : Int) ≤ (j : Int) := by omega
  have e2 : (j : Int) < ((N.l 1).length : Int) := by omega
  have e3 : IntKind.i64.wrap x3 = x3 := by simp [IntKind.wrap, IntKind.bits, IntKind.signed]; omega
  have e4 : (0 : Int) < ((N.l 1).length : Int) := by omega
  have e5 : decide ((0 : Int) < ((N.l 1).length : Int)) = true := decide_eq_true e4
  have e6 : (((N.l 1).length : Int) == 0) = false := beq_eq_false_iff_ne.mpr (by omega)
  have e7 : decide (0 < (N.l 1).length) = true := decide_eq_true hpos
  have e8 : ((N.l 1).length = 0) = False := eq_false (by omega)
  have e9 : (((N.l 1).length : Int) = 0) = False := eq_false (by omega)
  have g1 : decide (0 < x5) = true := decide_eq_true hx5.1
  have g2 : (0 < x5) = True := eq_true hx5.1
  have g3 : (0 < s.size) = True := eq_true hsz
  have g4 : decide (0 < (s.size : Int)) = true := decide_eq_true (by omega)
  have g5 : ((s.size : Int) == 0) = false := beq_eq_false_iff_ne.mpr (by omega)
  have g6 : ((s.size : Int) = 0) = False := eq_false (by omega)
  have g7 : (s.size = 0) = False := eq_false (by omega)
  obtain ⟨w7, hW7⟩ : ∃ w7, w7 = Lib.bytesWorld (w.alloc (.cells #[.int .u8 x0, .int .u8 x1, .string x2, .int .u8 x3, .int .u8 x4, .int .u8 x5] 66)).drew 5 s := ⟨_, rfl⟩
  have h7 : NetB B w0 w7 n V N := by rw [hW7]; exact NetB.below (NetB.drew (NetB.alloc h _)) (bytesWorld_below _ _ _)
  have hx7 : w7.heap[w.heap.size]? = some (.cells (stepCells x0 x1 x2 x3 x4 x5) 66 (0, 0)) := by rw [hW7]; exact (Lib.bytesWorld_at_old _ _ _ _ (by simp)).trans (heap_alloc_new w _)
  have HW7 := Aside0.mk hW7
  have HQ := Aside0.mk (way_keep1 h7 hx7 hv hsj)
  have HN7 := Aside0.mk h7
  have HX7 := Aside0.mk hx7
  have hsz0 : (w.alloc (.cells #[.int .u8 x0, .int .u8 x1, .string x2, .int .u8 x3, .int .u8 x4, .int .u8 x5] 66)).drew.heap.size = w.heap.size + 1 := by simp
  have hsz7 : w7.heap.size = w.heap.size + 2 := by rw [hW7, Lib.bytesWorld_size, hsz0]
  have HS7 := Aside0.mk hsz7
  have HC7 := Aside0.mk (show ∀ i, i < s.size → w7.cell? ⟨w.heap.size + 1, i, none⟩ = some (.int .u8 ((s.data.toList.getD i 0).toNat : Int)) by
    intro i hi
    rw [hW7, ← hsz0]
    exact Lib.bytesWorld_cell _ 5 s i hi)
  have HF7 := Aside0.mk (show w7.frozen? ⟨w.heap.size + 1, tt, none⟩ = false by
    rw [hW7, ← hsz0]
    exact bytesWorld_frozen _ 5 s tt htt)
  have HB7 := Aside0.mk (show Below w.heap.size w w7 by
    rw [hW7]
    have h1 : Below w.heap.size w (w.alloc (.cells #[.int .u8 x0, .int .u8 x1, .string x2, .int .u8 x3, .int .u8 x4, .int .u8 x5] 66)).drew := ((Below.refl _ _).alloc (Nat.le_refl _) _).drew
    exact h1.trans ((bytesWorld_below _ 5 s).mono (by rw [hsz0]; omega)))
  clear hsz0 hsz7 hW7
  clear h7 hx7
  have HS := Aside0.mk hs
  clear cf h hv hfine hsj hs
  have d1 : decide (Int.tmod x1 2 = 1) = true := decide_eq_true ht
  have hconv := fun W => Lib.run_convert_string_bytes (P := Try.prog) W 9 32 5 s Try.underlying9 Try.underlying32 Try.underlying5
  have k0 := World.new_ne w ⟨n, 1, none⟩ c1
  have k2 := World.new_ne w ⟨n, 3, none⟩ c3
  go_enter Try.func36, Try.ntmps36
  go_wp2
  go_region_held (fun w' => w'.cell? ⟨n, 3, none⟩ = some (.slice (some ⟨g, off, none⟩) (N.l 1).length cap) ∧ w'.cell? ⟨w.heap.size, 3, none⟩ = some (.int .u8 x3) ∧ w'.cell? ⟨g, off + j, none⟩ = some (.string s)) (first | go_keep | (rw [← HW7.out]; exact HQ.out)) (fail)
  rw [← HW7.out]
  clear c0 c1 c2 c3 c4 c5 c6 c7 c8 hnlt hcell k0 k2 hconv
  obtain ⟨c0, c1, c2, c3, c4, c5, c6, c7, c8', cf, hnlt⟩ := HN7.out.net.facts
  have c8 : w7.cell? ⟨n, 8, none⟩ = some (.bool true) := by rw [← HF.out]; exact c8'
  have ff8 := cf 8
  clear cf c8'
  obtain ⟨z2, z3, z4, z5, hzlt⟩ := stepFacts HX7.out
  obtain ⟨aa, haa⟩ : ∃ aa : Int, aa = ((s.data.toList.getD tt 0).toNat : Int) := ⟨_, rfl⟩
  have q1 : w7.cell? ⟨w.heap.size + 1, tt, none⟩ = some (.int .u8 aa) := by rw [haa]; exact HC7.out tt htt
  have hy1 : Go.bits .xor .u8 aa x5 = (y.toNat : Int) := by rw [haa]; exact hy
  clear haa hy
  have q2 := HF7.out
  have m1 : IntKind.i64.wrap x4 = x4 := by simp [IntKind.wrap, IntKind.bits, IntKind.signed]; omega
  have m2 : (0 : Int) ≤ (tt : Int) := by omega
  have m3 : (tt : Int) < (s.size : Int) := by omega
  go_wp2
  go_region
  generalize grownCap _ _ _ _ = cp
  clear c0 c2 c3 c4 c5 c6 c7 z2 z3 z4 z5 q1 q2
  obtain ⟨w8, hw8⟩ : ∃ w8, w8 = (w7.setCell ⟨w.heap.size + 1, tt, none⟩ (.int .u8 (y.toNat : Int))).drew := ⟨_, rfl⟩
  have HB8 := Aside0.mk (show Below w.heap.size w w8 by
    rw [hw8]
    exact (HB7.out.setCell (by show _ ≤ w.heap.size + 1; omega) _).drew)
  have HY8 := Aside0.mk (show Lib.Bytes w8 (w.heap.size + 1) 0 (turnS s tt y) by rw [hw8]; exact turned_bytes HC7.out tt htt y)
  have HZ8 := Aside0.mk (show w8.heap.size = w.heap.size + 2 by rw [hw8]; show (w7.setCell _ _).heap.size = _; simp only [World.setCell, Array.size_modify]; exact HS7.out)
  have HN8 := Aside0.mk (NetB.below HN.out HB8.out)
  rw [← hw8]
  clear hw8 hy1 c1 c8 ff8 hnlt hzlt
  obtain ⟨c0, c1, c2, c3, c4, c5, c6, c7, c8', cf, hnlt⟩ := HN8.out.net.facts
  clear c0 c2 c3 c4 c5 c6 c7 c8' cf
  have k0 := World.new_ne w8 ⟨n, 1, none⟩ c1
  have HS0 := Aside0.mk (show w8.drew.cell? ⟨n, 1, none⟩ = some (.pointer (some ⟨V.b 1, 0, none⟩)) ∧ (convert 32 9 (.slice (some ⟨w.heap.size + 1, 0, none⟩) s.size cp)).run Try.prog w8.drew = .ok (.string (turnS s tt y)) w8.drew from ⟨c1, conv_at (W := w8.drew) HY8.out⟩)
  go_wp2
  go_region_held3 (fun w' => w'.cell? ⟨n, 1, none⟩ = some (.pointer (some ⟨V.b 1, 0, none⟩)) ∧ (convert 32 9 (.slice (some ⟨w.heap.size + 1, 0, none⟩) s.size cp)).run Try.prog w' = .ok (.string (turnS s tt y)) w') (first | exact HQ6 | exact HS0.out)
    (first | (go_at_call 39; refine (recv_calls k (V.b 1) (V.p 1) (N.e 1) E' (turnS s tt y) [] false _ (by repeat (first | (with_reducible exact HN8.out.net.ends 1) | apply IsEnd.drew | apply IsEnd.alloc)) HS.out).mono ?_; rintro e w6 ⟨tv, pv6, rfl, hE6, hK6, hR6, hT6, hT6', hP6⟩; obtain rfl := hT6' rfl; have HN6 := Aside0.mk (NetB.end_ (B := B) (w0 := w0) (V := V) (N := N) (n := n) (by repeat (first | (with_reducible exact HN8.out) | apply NetB.drew | apply NetB.alloc)) 1 hE6 (hK6.mono (fun _ _ x => .inl x)) (fun g hg => .inl (hP6 g hg))); have HQ6 := turned_keep1 (V := V) (N := N) (cp := cp) HN6.out HY8.out hK6 HN.out HZ8.out; clear hE6 hK6 hR6 hT6 hT6' hP6))
  clear HQ6 c1 hnlt k0
  obtain ⟨c0, c1, c2, c3, c4, c5, c6, c7, c8', cf, hnlt⟩ := HN6.out.net.facts
  have c8 : w6.cell? ⟨n, 8, none⟩ = some (.bool true) := by rw [← HF.out]; exact c8'
  have ff8 := cf 8
  clear cf c8'
  go_wp2
  go_end0
  exact ⟨rfl, _, NetB.put_fine HN6.out true⟩
end Go.Proofs.Ytnmnplbjhejejaa.Lk
