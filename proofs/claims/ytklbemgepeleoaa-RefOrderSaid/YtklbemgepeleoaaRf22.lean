/- knows: the document's examples. -/
import Derived.Test.YtklbemgepeleoaaRf20
import Derived.Test.YtklbemgepeleoaaRp1
set_option linter.unusedVariables false
set_option linter.unusedSimpArgs false
namespace Go.Proofs.Ytklbemgepeleoaa.Rf
open Go.RowKit Go.Proofs.Ytklbemgepeleoaa.Lk Go.Proofs.YtklbemgepeleoaaW.PrintWords Go.Proofs.YtklbemgepeleoaaW.PrintLast Go.Proofs.YtklbemgepeleoaaW.PrintMore
attribute [local go_sem] max2_int min2_int max_two min_two max_three min_three max_four min_four
attribute [-simp] Try.isAgg37 Try.isAgg54 Try.isAgg39
attribute [-go_sem] Instr.loadAt Instr.storeAt Instr.build Instr.buildSlice run_equalIn_agg
attribute [local go_sem] loadAt9 loadAt3 loadAt28
def idn (n : Int) : List Int := n :: List.replicate 31 0
def nmA : ByteArray := ⟨#[97]⟩
theorem idn_length (n : Int) : (idn n).length = 32 := by simp [idn]
theorem bk37 (n : Int) (w : World) : (Instr.build 37 #[(0, .int .u8 n)]).run Try.prog w = .ok (.agg (idc (idn n)).toArray) w := by kernel_rfl
theorem bk39a (n : Int) (w : World) : (Instr.build 39 #[(0, .string ⟨#[97]⟩), (2, .agg (idc (idn n)).toArray)]).run Try.prog w = .ok (.agg (.string nmA :: (idc id0 ++ idc (idn n))).toArray) w := by kernel_rfl
theorem bk39b (n m : Int) (w : World) : (Instr.build 39 #[(0, .string ⟨#[97]⟩), (1, .agg (idc (idn n)).toArray), (2, .agg (idc (idn m)).toArray)]).run Try.prog w = .ok (.agg (.string nmA :: (idc (idn n) ++ idc (idn m))).toArray) w := by kernel_rfl
theorem bs39a (n : Int) (w : World) : (Instr.buildSlice 23 1 #[(0, .agg (.string nmA :: (idc id0 ++ idc (idn n))).toArray)]).run Try.prog w = .ok (.slice (some ⟨w.heap.size, 0, none⟩) 1 1) (w.alloc (.cells (.string nmA :: (idc id0 ++ idc (idn n))).toArray 39)) := by kernel_rfl
theorem bs39b (n m : Int) (w : World) : (Instr.buildSlice 23 1 #[(0, .agg (.string nmA :: (idc (idn n) ++ idc (idn m))).toArray)]).run Try.prog w = .ok (.slice (some ⟨w.heap.size, 0, none⟩) 1 1) (w.alloc (.cells (.string nmA :: (idc (idn n) ++ idc (idn m))).toArray 39)) := by kernel_rfl
theorem bk54 (n : Int) (w : World) : (Instr.build 54 #[(0, .string ⟨#[97]⟩), (1, .agg (idc (idn n)).toArray)]).run Try.prog w = .ok (.agg (.string nmA :: idc (idn n)).toArray) w := by kernel_rfl
theorem bs54 (n : Int) (w : World) : (Instr.buildSlice 22 1 #[(0, .agg (.string nmA :: idc (idn n)).toArray)]).run Try.prog w = .ok (.slice (some ⟨w.heap.size, 0, none⟩) 1 1) (w.alloc (.cells (.string nmA :: idc (idn n)).toArray 54)) := by kernel_rfl
theorem rdu_one (w : World) (x : UpE) (h : x.2.1.length = 32 ∧ x.2.2.length = 32) : RdU (w.alloc (.cells (.string x.1 :: (idc x.2.1 ++ idc x.2.2)).toArray 39)) (some ⟨w.heap.size, 0, none⟩) 1 [x] := by
  refine ⟨Nat.le_refl _, fun y hy => by rw [List.mem_singleton.mp hy]; exact h, fun j u hu => ⟨_, rfl, ?_⟩⟩
  rw [add_, Nat.zero_add, cell_of_row _ _ j _ _ (0, 0) (heap_alloc_last w _)]
  simpa [ucells, ucell] using hu
theorem rdl_one (w : World) (x : RefE) (h : x.2.length = 32) : RdL (w.alloc (.cells (.string x.1 :: idc x.2).toArray 54)) (some ⟨w.heap.size, 0, none⟩) 1 [x] := by
  refine ⟨Nat.le_refl _, fun y hy => by rw [List.mem_singleton.mp hy]; exact h, fun j u hu => ⟨_, rfl, ?_⟩⟩
  rw [add_, Nat.zero_add, cell_of_row _ _ j _ _ (0, 0) (heap_alloc_last w _)]
  simpa [rcells, rcell] using hu
theorem rdl_none (w : World) : RdL w none 0 [] := ⟨Nat.le_refl _, fun _ h => absurd h (by simp), fun j u hu => by simp [rcells] at hu⟩
theorem ex1 : updE [(nmA, id0, idn 1)] [] true = ([(nmA, idn 1)], [0]) := by decide
theorem ex2 : updE [(nmA, idn 2, idn 3)] [(nmA, idn 1)] false = ([(nmA, idn 1)], [10]) := by
  have e : eqB nmA nmA = true := (eqB_iff _ _).mpr rfl
  have h1 : idE [(nmA, idn 1)] nmA = idn 1 := by simp [idE, posE, List.findIdx_cons, e]
  have h2 : errE [(nmA, idn 1)] [] (nmA, idn 2, idn 3) = 10 := by
    unfold errE
    rw [show rightE [] (nmA, idn 2, idn 3) = true by decide, if_pos rfl]
    simp only []
    rw [h1, if_neg (by decide)]
  have h3 : runE [(nmA, idn 2, idn 3)] [(nmA, idn 1)] 1 = ([(nmA, idn 1)], [10]) := by
    simp [runE, h2]
  unfold updE
  rw [show [(nmA, idn 2, idn 3)].length = 1 from rfl, h3, if_neg (by simp)]
theorem ex_fine0 : Fine [] := ⟨by simp, fun i h => absurd h (by simp)⟩
theorem ex_fine1 : Fine [(nmA, idn 1)] := by
  refine ⟨by simp, fun i h _ => ?_⟩
  have : i = 0 := by simp at h; omega
  subst this
  exact ⟨(by decide : nameB nmA = true), (by decide : idn 1 ≠ id0), fun j hj => absurd hj (by omega)⟩
theorem known1 (w W1 : World) (hW1 : w.alloc (.cells (.string nmA :: (idc id0 ++ idc (idn 1))).toArray 39) = W1) :
    Calls Try.prog 10 #[.slice none 0 0, .slice (some ⟨w.heap.size, 0, none⟩) 1 1, .bool true] W1 (fun e w' => ∃ A1 c1 A2 c2, e = .returned (.tuple #[.slice A1 1 c1, .slice A2 1 c2, .int .i64 0]) ∧ RdL w' A1 c1 [(nmA, idn 1)] ∧ Rw w' 28 1 (.slice A2 1 c2) 1 [.int .i64 0] ∧ Below W1.heap.size W1 w') := by
  have hu : RdU W1 (some ⟨w.heap.size, 0, none⟩) 1 [(nmA, id0, idn 1)] := by rw [← hW1]; exact rdu_one w (nmA, id0, idn 1) ⟨by simp, idn_length 1⟩
  refine (update_yes W1 none (some ⟨w.heap.size, 0, none⟩) 0 1 [] [(nmA, id0, idn 1)] true (rdl_none W1) hu (fun x hx => absurd hx (by simp)) (fun x hx => by rw [List.mem_singleton.mp hx]; show nmA.size ≤ 1000000; decide) (by simp) (by simp) ex_fine0).mono ?_
  rintro e w' ⟨v, t, he, hp⟩
  have hr := hp.row
  have ht := hp.trow
  have hg := hp.good
  rw [ex1] at hr ht hg
  obtain ⟨A1, c1, rfl, hrd⟩ := RdL.of_rw hr hg
  obtain ⟨A2, c2, rfl, hc2, _⟩ := ht.form
  exact ⟨A1, c1, A2, c2, he, hrd, ht, hp.below⟩
theorem known2 (w W2 W3 : World) (n : Nat) (hn : W2.heap.size = n) (hW2 : w.alloc (.cells (.string nmA :: idc (idn 1)).toArray 54) = W2) (hW3 : W2.alloc (.cells (.string nmA :: (idc (idn 2) ++ idc (idn 3))).toArray 39) = W3) :
    Calls Try.prog 10 #[.slice (some ⟨w.heap.size, 0, none⟩) 1 1,   .slice (some ⟨n, 0, none⟩) 1 1, .bool false] W3 (fun e w' => ∃ v A2 c2, e = .returned (.tuple #[v, .slice A2 1 c2, .int .i64 0]) ∧ Rw w' 28 1 (.slice A2 1 c2) 1 [.int .i64 10] ∧ Below W3.heap.size W3 w') := by
  subst hn
  have hl2 : RdL W2 (some ⟨w.heap.size, 0, none⟩) 1 [(nmA, idn 1)] := by rw [← hW2]; exact rdl_one w (nmA, idn 1) (idn_length 1)
  have hl : RdL W3 (some ⟨w.heap.size, 0, none⟩) 1 [(nmA, idn 1)] := by rw [← hW3]; exact hl2.below ((Below.refl _ _).alloc (Nat.le_refl _) _)
  have hu : RdU W3 (some ⟨W2.heap.size, 0, none⟩) 1 [(nmA, idn 2, idn 3)] := by rw [← hW3]; exact rdu_one W2 (nmA, idn 2, idn 3) ⟨idn_length 2, idn_length 3⟩
  refine (update_yes W3 (some ⟨w.heap.size, 0, none⟩) (some ⟨W2.heap.size, 0, none⟩) 1 1 [(nmA, idn 1)] [(nmA, idn 2, idn 3)] false hl hu (fun x hx => by rw [List.mem_singleton.mp hx]; show nmA.size ≤ 1000000; decide) (fun x hx => by rw [List.mem_singleton.mp hx]; show nmA.size ≤ 1000000; decide) (by simp) (by simp) ex_fine1).mono ?_
  rintro e w' ⟨v, t, he, hp⟩
  have ht := hp.trow
  rw [ex2] at ht
  obtain ⟨A2, c2, rfl, hc2, _⟩ := ht.form
  exact ⟨v, A2, c2, he, ht, hp.below⟩
set_option maxHeartbeats 2000000 in
set_option maxRecDepth 100000 in
theorem knows_calls (w : World) : Calls Try.prog 9 #[] w fun e w' => e = .returned (.bool true) ∧ Below w.heap.size w w' := by
  have k1 := fun W => bk37 1 W
  have k2 := fun W => bk37 2 W
  have k3 := fun W => bk37 3 W
  have k4 := fun W => bk39a 1 W
  have k5 := fun W => bk39b 2 3 W
  have k6 := fun W => bs39a 1 W
  have k7 := fun W => bs39b 2 3 W
  have k8 := fun W => bk54 1 W
  have k9 := fun W => bs54 1 W
  obtain ⟨W1, hW1⟩ : ∃ W1, w.alloc (.cells (.string nmA :: (idc id0 ++ idc (idn 1))).toArray 39) = W1 := ⟨_, rfl⟩
  have HC1 := Aside0.mk (known1 w W1 hW1)
  have HB1 := Aside0.mk (show Below w.heap.size w W1 by rw [← hW1]; exact (Below.refl _ _).alloc (Nat.le_refl _) _)
  go_enter Try.func9, Try.ntmps9
  go_wp2_with (go_at_call 10; (with_reducible refine HC1.out.mono ?_); rintro e w2 ⟨A1, c1, A2, c2, rfl, hr2, ht2, hb2⟩; have HR2 := Aside0.mk hr2; have HT2 := Aside0.mk ht2; have HB2 := Aside0.mk (HB1.out.trans (hb2.mono HB1.out.size)); clear hr2 ht2 hb2)
  have hW : Below w2.heap.size w2 ((w2.alloc (.cells (.string nmA :: idc (idn 1)).toArray 54)).alloc (.cells (.string nmA :: (idc (idn 2) ++ idc (idn 3))).toArray 39)) := ((Below.refl _ _).alloc (Nat.le_refl _) _).alloc (by simp) _
  have HW := Aside0.mk hW
  clear hW
  refine (known2 w2 _ _ _ (by simp) rfl rfl).mono ?_
  rintro e w3 ⟨v3, A4, c4, rfl, ht4, hb4⟩
  have hb23 : Below w2.heap.size w2 w3 := HW.out.trans (hb4.mono HW.out.size)
  have hr3 := HR2.out.below hb23
  have ht3 := rw_below HT2.out hb23
  have HB3 := Aside0.mk (HB2.out.trans (hb23.mono HB2.out.size))
  obtain ⟨a1, ha1, hld⟩ := hr3.whole 0 (by simp)
  subst ha1
  have hld1 : (Instr.loadAt 54 (.pointer (some a1))).run Try.prog w3 = .ok (.agg (.string nmA :: idc (idn 1)).toArray) w3 := by simpa [Addr.add] using hld
  obtain ⟨g2, o2, q2, hv2, _, hc2⟩ := ht3.form2 (by omega)
  obtain ⟨rfl, rfl⟩ : A2 = some ⟨g2, o2, none⟩ ∧ c2 = q2 := by injection hv2 with h1 h2 h3; exact ⟨h1, h3⟩
  obtain ⟨g4, o4, q4, hv4, _, hc4⟩ := ht4.form2 (by omega)
  obtain ⟨rfl, rfl⟩ : A4 = some ⟨g4, o4, none⟩ ∧ c4 = q4 := by injection hv4 with h1 h2 h3; exact ⟨h1, h3⟩
  have y2 : w3.cell? ⟨g2, o2, none⟩ = some (.int .i64 0) := hc2 0 _ rfl
  have y4 : w3.cell? ⟨g4, o4, none⟩ = some (.int .i64 10) := hc4 0 _ rfl
  have heq : ∀ W, (Op.equalIn 10000 54 (.agg (.string nmA :: idc (idn 1)).toArray) (.agg (.string nmA :: idc (idn 1)).toArray)).run Try.prog W = .ok true W := fun W => by
    have := eq_ref W nmA nmA (idn 1) (idn 1) (idn_length 1) (idn_length 1)
    rw [decide_eq_true rfl] at this
    exact this
  clear hld hc2 hc4 hv2 hv4 hr3 ht3 ht4 hb4 hb23
  go_wp2
  go_ret
  exact ⟨rfl, HB3.out⟩
end Go.Proofs.Ytklbemgepeleoaa.Rf
