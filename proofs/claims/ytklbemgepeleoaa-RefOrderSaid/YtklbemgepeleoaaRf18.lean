/- The document's Set. -/
import Derived.Test.YtklbemgepeleoaaRf16
set_option linter.unusedVariables false
set_option linter.unusedSimpArgs false
namespace Go.Proofs.Ytklbemgepeleoaa.Rf
open Go.RowKit Go.Proofs.Ytklbemgepeleoaa.Lk Go.Proofs.YtklbemgepeleoaaW.PrintWords Go.Proofs.YtklbemgepeleoaaW.PrintLast Go.Proofs.YtklbemgepeleoaaW.PrintMore
attribute [local go_sem] max2_int min2_int max_two min_two max_three min_three max_four min_four
attribute [-simp] Try.isAgg37 Try.isAgg54 Try.isAgg39
attribute [-go_sem] Instr.loadAt Instr.storeAt Instr.build Instr.buildSlice run_equalIn_agg
attribute [local go_sem] loadAt9 loadAt3 loadAt28
/-- One element appended to a row. -/
theorem append_el {w5 : World} {v : Value} {out : List RefE} (h : Rw w5 54 33 v out.length (rcells out)) (hi : out.length ≤ 1000000) (nm : ByteArray) (x : List Int) (hx : x.length = 32) :
    ∃ v6 w6, (Builtin.append_ #[22, 22] 22 #[v, .slice (some ⟨w5.heap.size, 0, none⟩) 1 1]).run Try.prog (w5.alloc (.cells (.string nm :: idc x).toArray 54)) = .ok v6 w6 ∧ Rw w6 54 33 v6 (out ++ [(nm, x)]).length (rcells (out ++ [(nm, x)])) ∧ (w5.alloc (.cells (.string nm :: idc x).toArray 54)).grownBy w6 v.ownBlock ∧
      ∀ k, v6.ownBlock = some k → v.ownBlock = some k ∨ w5.heap.size ≤ k := by
  obtain ⟨i0, hi0, hz0, hs0, hb0⟩ := info_parts Sl2.infoE
  have hl := rcell_length (x := (nm, x)) hx
  have hcell : ∀ j u, (rcell (nm, x))[j]? = some u → (w5.alloc (.cells (.string nm :: idc x).toArray 54)).cell? ((⟨w5.heap.size, 0, none⟩ : Addr).add j) = some u := fun j u hj => by
    rw [add_, Nat.zero_add, cell_of_row _ _ j _ _ (0, 0) (heap_alloc_last w5 _)]
    simpa [rcell] using hj
  obtain ⟨v6, w6, hr, hR, hG, ho⟩ := run_append_rw (P := Try.prog) (w5.alloc (.cells (.string nm :: idc x).toArray 54)) 22 22 54 i0 _ 33 48 Sl2.uT hi0 hz0 hs0 hb0 rfl v out.length (rcells out) (h.alloc _) ⟨w5.heap.size, 0, none⟩ 1 1 (rcell (nm, x)) (by rw [hl]) hcell (rcell_one _) (by omega) (by simp only [maxLen]; omega) (by omega)
  refine ⟨v6, w6, hr, by rw [rcells_append, List.length_append]; simpa [rcells] using hR, hG, fun k hk => ?_⟩
  rcases ho with h1 | h1
  · exact .inl (h1 ▸ hk)
  · rw [h1] at hk
    injection hk with hk
    exact .inr (by simp at hk; omega)
/-- A row of the call's own, built of elements one behind the other. -/
structure OwnI (W wr : World) (v : Value) (out : List RefE) : Prop where
  row : Rw wr 54 33 v out.length (rcells out)
  good : Good32 out
  below : Below W.heap.size W wr
  fresh : ∀ k, v.ownBlock = some k → W.heap.size ≤ k
theorem OwnI.nil (W : World) : OwnI W W (.slice none 0 0) [] := ⟨Rw.nil _ _ _, fun _ h => absurd h (by simp), Below.refl _ _, fun k hk => by simp [Value.ownBlock] at hk⟩
theorem OwnI.app {W wr : World} {v : Value} {out : List RefE} (h : OwnI W wr v out) (hi : out.length ≤ 1000000) (nm : ByteArray) (x : List Int) (hx : x.length = 32) :
    ∃ v6 w6, (Builtin.append_ #[22, 22] 22 #[v, .slice (some ⟨wr.heap.size, 0, none⟩) 1 1]).run Try.prog (wr.alloc (.cells (.string nm :: idc x).toArray 54)) = .ok v6 w6 ∧ OwnI W w6 v6 (out ++ [(nm, x)]) := by
  obtain ⟨v6, w6, hr, hR, hG, ho⟩ := append_el h.row hi nm x hx
  refine ⟨v6, w6, hr, hR, fun y hy => ?_, pw_below_grown (h.below.alloc h.below.size _) _ (Nat.le_trans h.below.size (by simp)) hG h.fresh, fun k hk => ?_⟩
  · rcases List.mem_append.mp hy with hy | hy
    · exact h.good y hy
    · rw [List.mem_singleton.mp hy]; exact hx
  · rcases ho k hk with h1 | h1
    · exact h.fresh k h1
    · exact Nat.le_trans h.below.size h1
theorem OwnI.after {W wr w5 : World} {v : Value} {out : List RefE} (h : OwnI W wr v out) (hb : Below wr.heap.size wr w5) : OwnI W w5 v out :=
  ⟨rw_below h.row hb, h.good, h.below.trans (hb.mono h.below.size), h.fresh⟩
/-- Refs in which a name stands for something: the document's Set. -/
def setF (nm : ByteArray) (x : List Int) (s : List RefE × Bool) (y : RefE) : List RefE × Bool :=
  if s.2 = false ∧ ltB y.1 nm = false then (if eqB y.1 nm = true then s.1 ++ [(nm, x)] else s.1 ++ [(nm, x)] ++ [y], true) else (if eqB y.1 nm = true then s.1 else s.1 ++ [y], s.2)
def setS (l : List RefE) (nm : ByteArray) (x : List Int) (k : Nat) : List RefE × Bool := (l.take k).foldl (setF nm x) ([], decide (x = id0))
def setE (l : List RefE) (nm : ByteArray) (x : List Int) : List RefE := if (setS l nm x l.length).2 = true then (setS l nm x l.length).1 else (setS l nm x l.length).1 ++ [(nm, x)]
theorem setS_succ {l : List RefE} {nm : ByteArray} {x : List Int} {k : Nat} (hk : k < l.length) : setS l nm x (k + 1) = setF nm x (setS l nm x k) l[k] := by
  unfold setS
  rw [List.take_succ_eq_append_getElem hk, List.foldl_append]
  rfl
theorem setS_len {l : List RefE} {nm : ByteArray} {x : List Int} (k : Nat) (hk : k ≤ l.length) : (setS l nm x k).1.length ≤ 2 * k := by
  induction k with
  | zero => simp [setS]
  | succ k ih =>
    have := ih (by omega)
    rw [setS_succ (by omega)]
    unfold setF
    split <;> (split <;> simp <;> omega)
theorem build_zid (w : World) : (Instr.build 37 #[]).run Try.prog w = .ok (.agg zid) w := by kernel_rfl
theorem setF_skip {nm : ByteArray} {x : List Int} {s : List RefE × Bool} {y : RefE} (h : s.2 = true ∨ ltB y.1 nm = true) : setF nm x s y = (if eqB y.1 nm = true then s.1 else s.1 ++ [y], s.2) := by
  unfold setF
  rw [if_neg (by rcases h with h | h <;> rw [h] <;> simp)]
theorem setF_put {nm : ByteArray} {x : List Int} {s : List RefE × Bool} {y : RefE} (h : s.2 = false) (g : ltB y.1 nm = false) : setF nm x s y = (if eqB y.1 nm = true then s.1 ++ [(nm, x)] else s.1 ++ [(nm, x)] ++ [y], true) := by
  unfold setF
  rw [if_pos ⟨h, g⟩]
theorem eqB_comm (a b : ByteArray) : eqB a b = eqB b a := by
  rw [Bool.eq_iff_iff, eqB_iff, eqB_iff]
  exact ⟨Eq.symm, Eq.symm⟩
set_option maxHeartbeats 2000000 in
set_option maxRecDepth 100000 in
theorem docset_calls (w : World) (A : Option Addr) (c : Nat) (l : List RefE) (h : RdL w A c l) (hl : l.length ≤ 100000) (nm : ByteArray) (x : List Int) (hx : x.length = 32) :
    Calls Try.prog 26 #[.slice A l.length c, .string nm, idv x] w fun e w' => ∃ v, e = .returned v ∧ Rw w' 54 33 v (setE l nm x).length (rcells (setE l nm x)) ∧ Good32 (setE l nm x) ∧ Below w.heap.size w w' := by
  obtain ⟨W, hW⟩ : ∃ W, W = w.alloc (.cells (idc x).toArray 37) := ⟨_, rfl⟩
  have hbW : Below w.heap.size w W := by rw [hW]; exact (Below.refl _ _).alloc (Nat.le_refl _) _
  have HBW := Aside0.mk hbW
  have HR := Aside0.mk (h.below hbW)
  have HX := Aside0.mk hx
  have HLD := Aside0.mk (show ∀ w2, Below W.heap.size W w2 → (Instr.loadAt 37 (.pointer (some ⟨w.heap.size, 0, none⟩))).run Try.prog w2 = .ok (.agg (idc x).toArray) w2 from fun w2 hb => load_id hx fun j v hv => by
    have hs : W.heap.size = w.heap.size + 1 := by rw [hW]; simp
    rw [Addr.add_mid, Nat.zero_add, hb.cell (p := ⟨w.heap.size, j, none⟩) (by simp; omega), hW, cell_of_row _ _ j _ _ (0, 0) (heap_alloc_last w _)]
    simpa using hv)
  have heq : (Op.equalIn 10000 37 (.agg (idc x).toArray) (.agg zid)).run Try.prog W = .ok (decide (x = id0)) W := eq_id0 x hx W
  have hl0 := HLD.out W (Below.refl _ _)
  have hbz := fun W => build_zid W
  obtain ⟨b0, hb0⟩ : ∃ b, decide (x = id0) = b := ⟨_, rfl⟩
  rw [hb0] at heq
  have HB0 := Aside0.mk hb0
  have HO0 := Aside0.mk (OwnI.nil W)
  have hWr := hW.symm
  have hbr := fun W => build_ref nm x HX.out W
  have hbs := fun W => build_row nm x HX.out W
  clear h hbW hx hb0 hW
  go_enter Try.func26, Try.ntmps26
  go_wp2
  go_loopw [7, 8, 9] (fun v7 v8 v9 w' => ∃ (k : Nat), v8 = .bool (setS l nm x k).2 ∧ v9 = .int .i64 (k : Int) ∧ k ≤ l.length ∧ Aside0 (OwnI W w' v7 (setS l nm x k).1)) (fun _ _ v9 _ => l.length - (intOf v9).toNat)
  case atStart => exact ⟨0, by rw [← HB0.out]; rfl, rfl, Nat.zero_le _, HO0⟩
  case round =>
    clear heq hl0 hWr
    obtain ⟨k, hv8, rfl, hk, HO⟩ := hrel
    obtain ⟨o7, ho7⟩ : ∃ o, (setS l nm x k).1 = o := ⟨_, rfl⟩
    obtain ⟨b8, hb8⟩ : ∃ o, (setS l nm x k).2 = o := ⟨_, rfl⟩
    have hpair : setS l nm x k = (o7, b8) := by rw [← ho7, ← hb8]
    have holen : o7.length ≤ 1000000 := by rw [← ho7]; have := setS_len (l := l) (nm := nm) (x := x) k hk; omega
    have holen2 : o7.length + 1 ≤ 1000000 := by rw [← ho7]; have := setS_len (l := l) (nm := nm) (x := x) k hk; omega
    rw [hb8] at hv8
    rw [ho7] at HO
    subst hv8
    have HPAIR := Aside0.mk hpair
    clear ho7 hb8 hpair
    have hld1 := HLD.out wr HO.out.below
    by_cases hlt : k < l.length
    · have e1 : decide ((k : Int) < (l.length : Int)) = true := decide_eq_true (by omega)
      have e3 : (0 : Int) ≤ (k : Int) := by omega
      have e4 : (k : Int) < (l.length : Int) := by omega
      obtain ⟨a, rfl, y1⟩ := (HR.out.below HO.out.below).name k hlt
      obtain ⟨a', ea, hwhole⟩ := (HR.out.below HO.out.below).whole k hlt
      obtain rfl := Option.some.inj ea
      have HNA := Aside0.mk (show ∀ w2, Below W.heap.size W w2 → w2.cell? (a.add (k * 33)) = some (.string l[k].1) from fun w2 hb => by
        obtain ⟨a', ea, hy⟩ := (HR.out.below hb).name k hlt
        obtain rfl := Option.some.inj ea
        exact hy)
      have HWH := Aside0.mk (show ∀ w2, Below W.heap.size W w2 → (Instr.loadAt 54 (.pointer (some (a.add (k * 33))))).run Try.prog w2 = .ok (.agg (.string l[k].1 :: idc l[k].2).toArray) w2 from fun w2 hb => by
        obtain ⟨a', ea, hy⟩ := (HR.out.below hb).whole k hlt
        obtain rfl := Option.some.inj ea
        exact hy)
      have hy32 := HR.out.good l[k] (List.getElem_mem hlt)
      have HS := Aside0.mk (show setS l nm x (k + 1) = setF nm x (o7, b8) l[k] by rw [setS_succ hlt, HPAIR.out])
      obtain ⟨nx, hnx⟩ : ∃ nx, l[k].1 = nx := ⟨_, rfl⟩
      obtain ⟨y, hyy⟩ : ∃ y, l[k].2 = y := ⟨_, rfl⟩
      have hyp : l[k] = (nx, y) := by rw [← hnx, ← hyy]
      rw [hyp] at HS HWH HNA hwhole y1 hy32
      have HY32 := Aside0.mk hy32
      have hbs2 := fun W => build_row nx y HY32.out W
      clear hnx hyy hyp hy32
      obtain ⟨q, hq⟩ : ∃ q, eqB nx nm = q := ⟨_, rfl⟩
      have hq1 : (nx.toList == nm.toList) = q := hq
      have hq2 : (nm.toList == nx.toList) = q := by rw [← hq, eqB_comm]; rfl
      have HQ := Aside0.mk hq
      clear hq
      by_cases hdone : b8 = true ∨ ltB nx nm = true
      · have HS2 := Aside0.mk (HS.out.trans (setF_skip hdone))
        have hleq : b8 = true ∨ (b8 = false ∧ Op.bytesLess nm.toList nx.toList = false ∧ q = false) := by
          rcases hdone with h | h
          · exact .inl h
          · cases b8 with
            | true => exact .inl rfl
            | false => exact .inr ⟨rfl, lt_asymm h, by
                rw [← HQ.out]
                cases he : eqB nx nm with
                | false => rfl
                | true => exact absurd ((eqB_iff _ _).mp he) (lt_ne h)⟩
        clear hdone HS
        cases q with
        | true =>
          have hb8t : b8 = true := by
            rcases hleq with h | ⟨_, _, h⟩
            · exact h
            · cases h
          subst hb8t
          have HQQ := Aside0.mk HQ.out
          clear hleq
          go_wp2
          go_roundw
          case rel => exact ⟨k + 1, by rw [HS2.out], by go_num, by omega, ⟨by rw [HS2.out, HQQ.out]; exact HO.out⟩⟩
          case measure => simp [intOf]; omega
        | false =>
          have HQQ := Aside0.mk HQ.out
          obtain ⟨v6, w6, hap, hO6⟩ := HO.out.app holen nx y HY32.out
          have HO6 := Aside0.mk hO6
          clear hO6
          rcases hleq with rfl | ⟨rfl, hlt2, _⟩
          · go_wp2_with (at_builtin; refine Lib.wpList_append_run _ rfl _ _ _ _ rfl _ _ rfl rfl _ _ hap ?_)
            go_roundw
            case rel => exact ⟨k + 1, by rw [HS2.out], by go_num, by omega, ⟨by rw [HS2.out, HQQ.out]; exact HO6.out⟩⟩
            case measure => simp [intOf]; omega
          · go_wp2_with (at_builtin; refine Lib.wpList_append_run _ rfl _ _ _ _ rfl _ _ rfl rfl _ _ hap ?_)
            go_roundw
            case rel => exact ⟨k + 1, by rw [HS2.out], by go_num, by omega, ⟨by rw [HS2.out, HQQ.out]; exact HO6.out⟩⟩
            case measure => simp [intOf]; omega
      · have hb8f : b8 = false := by cases b8 <;> simp_all
        have hltf : ltB nx nm = false := by cases h : ltB nx nm <;> simp_all
        have HS2 := Aside0.mk (HS.out.trans (setF_put hb8f hltf))
        have hle : (Op.bytesLess nm.toList nx.toList || nm.toList == nx.toList) = true := by rw [ge_iff, hltf]; rfl
        subst hb8f
        clear hdone HS hltf
        obtain ⟨v6, w6, hap, hO6⟩ := HO.out.app holen nm x HX.out
        have HO6 := Aside0.mk hO6
        have y6 := HNA.out w6 hO6.below
        cases q with
        | true =>
          have HQQ := Aside0.mk HQ.out
          clear hO6 hle
          go_wp2_with (at_builtin; refine Lib.wpList_append_run _ rfl _ _ _ _ rfl _ _ rfl rfl _ _ hap ?_)
          go_roundw
          case rel => exact ⟨k + 1, by rw [HS2.out], by go_num, by omega, ⟨by rw [HS2.out, HQQ.out]; exact HO6.out⟩⟩
          case measure => simp [intOf]; omega
        | false =>
          have HQQ := Aside0.mk HQ.out
          have hbl : Op.bytesLess nm.toList nx.toList = true := by
            rw [hq2, Bool.or_false] at hle
            exact hle
          have hwhole6 := HWH.out w6 hO6.below
          obtain ⟨v7, w7, hap2, hO7⟩ := hO6.app (by simp; omega) nx y HY32.out
          have HO7 := Aside0.mk hO7
          clear hO6 hle hO7
          go_wp2_with (first | (at_builtin; refine Lib.wpList_append_run _ rfl _ _ _ _ rfl _ _ rfl rfl _ _ hap ?_) | (at_builtin; refine Lib.wpList_append_run _ rfl _ _ _ _ rfl _ _ rfl rfl _ _ hap2 ?_))
          go_roundw
          case rel => exact ⟨k + 1, by rw [HS2.out], by go_num, by omega, ⟨by rw [HS2.out, HQQ.out]; exact HO7.out⟩⟩
          case measure => simp [intOf]; omega
    · have e1 : decide ((k : Int) < (l.length : Int)) = false := decide_eq_false (by omega)
      obtain rfl : k = l.length := by omega
      cases b8 with
      | true =>
        have HE := Aside0.mk (show setE l nm x = o7 by unfold setE; rw [HPAIR.out, if_pos rfl])
        go_wp2
        go_ret
        exact ⟨_, rfl, by rw [HE.out]; exact HO.out.row, by rw [HE.out]; exact HO.out.good, HBW.out.trans (HO.out.below.mono HBW.out.size)⟩
      | false =>
        have HE := Aside0.mk (show setE l nm x = o7 ++ [(nm, x)] by unfold setE; rw [HPAIR.out, if_neg (by simp)])
        obtain ⟨v6, w6, hap, hO6⟩ := HO.out.app holen nm x HX.out
        have HO6 := Aside0.mk hO6
        clear hO6
        go_wp2_with (at_builtin; refine Lib.wpList_append_run _ rfl _ _ _ _ rfl _ _ rfl rfl _ _ hap ?_)
        go_ret
        exact ⟨_, rfl, by rw [HE.out]; exact HO6.out.row, by rw [HE.out]; exact HO6.out.good, HBW.out.trans (HO6.out.below.mono HBW.out.size)⟩
end Go.Proofs.Ytklbemgepeleoaa.Rf
