/- Refs: the document's Find; Same. -/
import Derived.Test.YtklbemgepeleoaaRf8
set_option linter.unusedVariables false
set_option linter.unusedSimpArgs false
namespace Go.Proofs.Ytklbemgepeleoaa.Rf
open Go.RowKit Go.Proofs.Ytklbemgepeleoaa.Lk Go.Proofs.YtklbemgepeleoaaW.PrintWords Go.Proofs.YtklbemgepeleoaaW.PrintLast Go.Proofs.YtklbemgepeleoaaW.PrintMore
attribute [local go_sem] max2_int min2_int max_two min_two max_three min_three max_four min_four
attribute [-simp] Try.isAgg37 Try.isAgg54 Try.isAgg39
attribute [-go_sem] Instr.loadAt Instr.storeAt run_equalIn_agg
attribute [local go_sem] loadAt9 loadAt3
set_option maxHeartbeats 1000000 in
set_option maxRecDepth 100000 in
theorem docfind_none (w : World) (A : Option Addr) (c : Nat) (l : List RefE) (h : RdL w A c l) (hl : l.length ≤ 1000000) (nm : ByteArray) (hn : ¬ posE l nm < l.length) :
    Calls Try.prog 20 #[.slice A l.length c, .string nm] w fun e w' => e = .returned (.tuple #[idv id0, .bool false]) ∧ Below w.heap.size w w' := by
  have HR := Aside0.mk (h.below ((Below.refl w.heap.size w).alloc (Nat.le_refl _) (.cells zid 37)))
  have HBF := Aside0.mk (show ∀ j, (hj : j < l.length) → eqB l[j].1 nm = false from fun j hj => posE_bef l nm j (by omega))
  obtain ⟨w6, hst, hg6, hld⟩ := var_id w (w.alloc (.cells zid 37)) w.heap.size zid (heap_alloc_last w _) rfl id0 (by simp)
  change (Instr.storeAt 37 _ (.agg zid)).run Try.prog _ = _ at hst
  have HB6 := Aside0.mk (below_var (Below.refl _ _) hg6)
  have HLD := Aside0.mk hld
  clear h hn hg6 hld
  go_enter Try.func20, Try.ntmps20
  go_wp2
  go_loop [6] (fun v6 => ∃ k : Nat, v6 = .int .i64 (k : Int) ∧ k ≤ l.length) (fun v6 => l.length - (intOf v6).toNat)
  case atStart => exact ⟨0, rfl, Nat.zero_le _⟩
  case round =>
    obtain ⟨k, rfl, hk⟩ := hrel
    by_cases hlt : k < l.length
    · have e1 : decide ((k : Int) < (l.length : Int)) = true := decide_eq_true (by omega)
      have e3 : (0 : Int) ≤ (k : Int) := by omega
      have e4 : (k : Int) < (l.length : Int) := by omega
      obtain ⟨a, rfl, y1⟩ := HR.out.name k hlt
      have heq := HBF.out k hlt
      obtain ⟨nx, hnx⟩ : ∃ nx, l[k].1 = nx := ⟨_, rfl⟩
      rw [hnx] at y1 heq
      change (nx.toList == nm.toList) = false at heq
      clear hnx
      go_wp2
      go_round
      case rel => exact ⟨k + 1, by go_num, by omega⟩
      case measure => simp [intOf]; omega
    · have e1 : decide ((k : Int) < (l.length : Int)) = false := decide_eq_false (by omega)
      go_wp2
      have hld := HLD.out
      exact bodyPost_ret (v := .tuple #[idv id0, .bool false]) (results_cell_tmp (a := 4) (u := 5) (T := 37) rfl _ _ rfl rfl hld) rfl ⟨rfl, HB6.out⟩
set_option maxHeartbeats 1000000 in
set_option maxRecDepth 100000 in
theorem docfind_at (w : World) (A : Option Addr) (c : Nat) (l : List RefE) (h : RdL w A c l) (hl : l.length ≤ 1000000) (nm : ByteArray) (s : Nat) (hs : s < l.length) (hsp : posE l nm = s) (x : List Int) (hx : l[s].2 = x) :
    Calls Try.prog 20 #[.slice A l.length c, .string nm] w fun e w' => e = .returned (.tuple #[idv x, .bool true]) ∧ Below w.heap.size w w' := by
  have HR := Aside0.mk (h.below ((Below.refl w.heap.size w).alloc (Nat.le_refl _) (.cells zid 37)))
  have HBF := Aside0.mk (show ∀ j, (hj : j < s) → eqB (l[j]'(Nat.lt_trans hj hs)).1 nm = false from fun j hj => posE_bef l nm j (by omega))
  have HAT := Aside0.mk (show eqB l[s].1 nm = true by subst hsp; exact posE_at l nm hs)
  obtain ⟨w6, hst, hg6, hld⟩ := var_id w (w.alloc (.cells zid 37)) w.heap.size zid (heap_alloc_last w _) rfl x (hx ▸ h.good l[s] (List.getElem_mem hs))
  have HB6 := Aside0.mk (below_var (Below.refl _ _) hg6)
  have HLD := Aside0.mk hld
  have HX := Aside0.mk hx
  have HS := Aside0.mk hs
  clear h hsp hg6 hld hx
  go_enter Try.func20, Try.ntmps20
  go_wp2
  go_loop [6] (fun v6 => ∃ k : Nat, v6 = .int .i64 (k : Int) ∧ k ≤ s) (fun v6 => s - (intOf v6).toNat)
  case atStart => exact ⟨0, rfl, Nat.zero_le _⟩
  case round =>
    obtain ⟨k, rfl, hk⟩ := hrel
    have e1 : decide ((k : Int) < (l.length : Int)) = true := decide_eq_true (by omega)
    have e3 : (0 : Int) ≤ (k : Int) := by omega
    have e4 : (k : Int) < (l.length : Int) := by omega
    by_cases hlt : k < s
    · obtain ⟨a, rfl, y1⟩ := HR.out.name k (by omega)
      have heq := HBF.out k hlt
      obtain ⟨nx, hnx⟩ : ∃ nx, (l[k]'(by omega)).1 = nx := ⟨_, rfl⟩
      rw [hnx] at y1 heq
      change (nx.toList == nm.toList) = false at heq
      clear hnx
      go_wp2
      go_round
      case rel => exact ⟨k + 1, by go_num, by omega⟩
      case measure => simp [intOf]; omega
    · obtain rfl : k = s := by omega
      obtain ⟨a, rfl, y1⟩ := HR.out.name k HS.out
      obtain ⟨a', ea, hl5⟩ := HR.out.idload k HS.out
      obtain rfl := Option.some.inj ea
      have heq := HAT.out
      rw [HX.out] at hl5
      obtain ⟨nx, hnx⟩ : ∃ nx, (l[k]'HS.out).1 = nx := ⟨_, rfl⟩
      rw [hnx] at y1 heq
      change (nx.toList == nm.toList) = true at heq
      clear hnx
      go_wp2
      have hld := HLD.out
      exact bodyPost_ret (v := .tuple #[idv x, .bool true]) (results_cell_tmp (a := 4) (u := 5) (T := 37) rfl _ _ rfl rfl hld) rfl ⟨rfl, HB6.out⟩
theorem part_str {P : Program} (w : World) (T : TypeId) (hs : P.underlying T = some .string) (v : Value) (cs : List Value) : (part T (v :: cs).toArray 0).run P w = .ok v w := by
  simp [part, isAgg, run_underlying hs]
theorem part_id (w : World) (v : Value) (x : List Int) (hx : x.length = 32) : (part 37 (v :: idc x).toArray 1).run Try.prog w = .ok (idv x) w := by
  have h : (sizeOf 37).run Try.prog w = .ok 32 w := Try.sizeOf37 w
  have e : (v :: idc x).toArray.extract 1 33 = (idc x).toArray := by
    apply Array.ext'
    simp [Array.toList_extract, List.extract_eq_take_drop]
    exact List.take_of_length_le (by rw [idc_length]; omega)
  simp only [part, isAgg, Sem.run_bind, run_underlying Try.underlying37, Result.andThen_ok, Sem.run_pure, if_true, h, e]
theorem eq_ref (w : World) (a b : ByteArray) (x y : List Int) (hx : x.length = 32) (hy : y.length = 32) :
    (Op.equalIn 10000 54 (.agg (.string a :: idc x).toArray) (.agg (.string b :: idc y).toArray)).run Try.prog w = .ok (decide ((a, x) = (b, y))) w := by
  have e : decide ((a, x) = (b, y)) = ((a.toList == b.toList) && decide (x = y)) := by
    have : (a.toList == b.toList) = decide (a = b) := by
      rw [Bool.eq_iff_iff, beq_iff_eq, decide_eq_true_iff]
      exact ⟨toList_inj, fun h => by rw [h]⟩
    rw [this, Bool.eq_iff_iff]
    simp
  rw [e]
  refine eqA_of Try.underlying54 (by kernel_rfl) ?_
  refine eqf_cons (a := .string a) (b := .string b) rfl ?_ ?_ ?_ (eqf_last (a := idv x) (b := idv y) rfl ?_ ?_ ?_)
  · exact part_str w 9 Try.underlying9 _ _
  · exact part_str w 9 Try.underlying9 _ _
  · exact run_equalIn_string w 9998 9 a b Try.underlying9
  · exact part_id w _ x hx
  · exact part_id w _ y hy
  · exact eq_ids (P := Try.prog) w 9997 37 5 32 Try.underlying37 Try.underlying5 (fun w => Try.sizeOf5 w) x y hx hy
set_option maxHeartbeats 1000000 in
set_option maxRecDepth 100000 in
theorem same_calls (w : World) (A B : Option Addr) (c d : Nat) (l m : List RefE) (h : RdL w A c l) (g : RdL w B d m) (hl : l.length ≤ 1000000) (hm : m.length ≤ 1000000) :
    Calls Try.prog 13 #[.slice A l.length c, .slice B m.length d] w fun e w' => ∃ b, e = .returned (.bool b) ∧ (b = true ↔ l = m) ∧ Below w.heap.size w w' := by
  have HR := Aside0.mk h
  have HG := Aside0.mk g
  clear h g
  by_cases hlen : l.length = m.length
  · have e0 : ((l.length : Int) == (m.length : Int)) = true := by rw [beq_iff_eq]; omega
    have e00 : ((l.length : Int) != (m.length : Int)) = false := by rw [bne, e0]; rfl
    have HLEN := Aside0.mk hlen
    have hlm : m.length = l.length := hlen.symm
    clear hlen
    clear e0 e00
    rw [hlm]
    have HLM := Aside0.mk hlm
    clear hlm
    go_enter Try.func13, Try.ntmps13
    go_wp2
    go_loopw [5] (fun v5 w' => ∃ k : Nat, v5 = .int .i64 (k : Int) ∧ k ≤ l.length ∧ Aside0 (∀ j, (hj : j < l.length) → j < k → l[j] = m[j]'(by have := HLEN.out; omega)) ∧ Aside0 (Below w.heap.size w w')) (fun v5 _ => l.length - (intOf v5).toNat)
    case atStart => exact ⟨0, rfl, Nat.zero_le _, ⟨fun j _ hj => by omega⟩, ⟨Below.refl _ _⟩⟩
    case round =>
      obtain ⟨k, rfl, hk, HE, HB⟩ := hrel
      by_cases hlt : k < l.length
      · have e1 : decide ((k : Int) < (l.length : Int)) = true := decide_eq_true (by omega)
        have e3 : (0 : Int) ≤ (k : Int) := by omega
        have e4 : (k : Int) < (l.length : Int) := by omega
        have hlt2 : k < m.length := by have := HLEN.out; omega
        obtain ⟨a, rfl, hld1⟩ := (HR.out.below HB.out).whole k hlt
        obtain ⟨b, rfl, hld2⟩ := (HG.out.below HB.out).whole k hlt2
        have hld3 : ∀ n, (Instr.loadAt 54 (.pointer (some (a.add (k * 33))))).run Try.prog (wr.drewN n) = .ok (.agg (.string l[k].1 :: idc l[k].2).toArray) (wr.drewN n) := fun n => by
          obtain ⟨a', ea, hl⟩ := (HR.out.below (pw_below_drewN HB.out n)).whole k hlt
          obtain rfl := Option.some.inj ea
          exact hl
        have hld4 : ∀ n, (Instr.loadAt 54 (.pointer (some (b.add (k * 33))))).run Try.prog (wr.drewN n) = .ok (.agg (.string m[k].1 :: idc m[k].2).toArray) (wr.drewN n) := fun n => by
          obtain ⟨a', ea, hl⟩ := (HG.out.below (pw_below_drewN HB.out n)).whole k hlt2
          obtain rfl := Option.some.inj ea
          exact hl
        have heq : ∀ n, (Op.equalIn 10000 54 (.agg (.string l[k].1 :: idc l[k].2).toArray) (.agg (.string m[k].1 :: idc m[k].2).toArray)).run Try.prog (wr.drewN n) = .ok (decide (l[k] = m[k])) (wr.drewN n) := fun n => eq_ref _ _ _ _ _ (HR.out.good _ (List.getElem_mem hlt)) (HG.out.good _ (List.getElem_mem hlt2))
        clear hld1 hld2
        by_cases hc : l[k] = m[k]
        · rw [decide_eq_true hc] at heq
          have HC := Aside0.mk (show ∀ j, (hj : j < l.length) → j < k + 1 → l[j] = m[j]'(by have := HLEN.out; omega) from fun j hj hjk => by
            by_cases e : j = k
            · subst e; exact hc
            · exact HE.out j hj (by omega))
          obtain ⟨nx, hnx⟩ : ∃ nx, l[k].1 = nx := ⟨_, rfl⟩
          obtain ⟨x, hx⟩ : ∃ nx, l[k].2 = nx := ⟨_, rfl⟩
          obtain ⟨ny, hny⟩ : ∃ nx, m[k].1 = nx := ⟨_, rfl⟩
          obtain ⟨y, hy⟩ : ∃ nx, m[k].2 = nx := ⟨_, rfl⟩
          rw [hnx, hx] at hld3 heq
          rw [hny, hy] at hld4 heq
          clear hnx hx hny hy hc hlt2
          go_wp2
          go_quiet (fail)
          go_wp2
          go_roundw
          case rel => exact ⟨k + 1, by go_num, by omega, HC, ⟨pw_below_drewN HB.out _⟩⟩
          case measure => simp [intOf]; omega
        · rw [decide_eq_false hc] at heq
          have HC := Aside0.mk (show ¬ l = m from fun e => hc (by subst e; rfl))
          obtain ⟨nx, hnx⟩ : ∃ nx, l[k].1 = nx := ⟨_, rfl⟩
          obtain ⟨x, hx⟩ : ∃ nx, l[k].2 = nx := ⟨_, rfl⟩
          obtain ⟨ny, hny⟩ : ∃ nx, m[k].1 = nx := ⟨_, rfl⟩
          obtain ⟨y, hy⟩ : ∃ nx, m[k].2 = nx := ⟨_, rfl⟩
          rw [hnx, hx] at hld3 heq
          rw [hny, hy] at hld4 heq
          clear hnx hx hny hy hc hlt2
          go_wp2
          go_quiet (fail)
          go_wp2
          go_ret
          exact ⟨false, rfl, ⟨by simp, fun e => absurd e HC.out⟩, pw_below_drewN HB.out _⟩
      · have e1 : decide ((k : Int) < (l.length : Int)) = false := decide_eq_false (by omega)
        go_wp2
        go_ret
        exact ⟨true, rfl, ⟨fun _ => List.ext_getElem HLEN.out (fun j h1 _ => HE.out j h1 (by omega)), fun _ => rfl⟩, HB.out⟩
  · have e0 : ((l.length : Int) == (m.length : Int)) = false := by rw [beq_eq_false_iff_ne]; omega
    have e00 : ((l.length : Int) != (m.length : Int)) = true := by rw [bne, e0]; rfl
    have HC := Aside0.mk (show ¬ l = m from fun e => hlen (by rw [e]))
    clear hlen
    go_enter Try.func13, Try.ntmps13
    go_wp2
    go_ret
    exact ⟨false, rfl, ⟨by simp, fun e => absurd e HC.out⟩, Below.refl _ _⟩
end Go.Proofs.Ytklbemgepeleoaa.Rf
