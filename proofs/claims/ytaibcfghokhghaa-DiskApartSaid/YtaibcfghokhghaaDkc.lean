/- DiskApart: the arguments are such as are gone through. -/
import Derived.Test.YtaibcfghokhghaaDkb
set_option linter.unusedVariables false
set_option linter.unusedSimpArgs false
namespace Go.Proofs.Ytaibcfghokhghaa.Dk
open Go.RowKit Go.Proofs.Ytaibcfghokhghaa.Lk Go.Proofs.YtaibcfghokhghaaW.PrintWords Go.Proofs.YtaibcfghokhghaaW.PrintLast Go.Proofs.YtaibcfghokhghaaW.PrintMore Go.Proofs.Ytaibcfghokhghaa.PA
attribute [local go_sem] max2_int min2_int max_two min_two max_three min_three max_four min_four

theorem run_inv (l : List S33) (hf : ∀ j, (h : j < l.length) → Fine l[j]) (D : Dsk) (i : Nat) (hi : i + l.length ≤ 1000) (h : Dp.Inv D i) (k : Nat) (hk : k ≤ l.length) : Dp.Inv (runD (l.take k) D) (i + k) := by
  induction k with
  | zero => exact h
  | succ k ih =>
    rw [run_take l D k (by omega)]
    have := ih (by omega)
    rw [Dp.rd33 l k (by omega)]
    exact (step_spec this (by omega) _ (hf k (by omega))).2
theorem take_all (l : List S33) (k : Nat) (h : ¬ k < l.length) : l.take k = l := List.take_of_length_le (by omega)

def upD (F : Dsk) : Dsk := { F with fuse := -1, down := false }
/-- A disk whose write of a file was cut off. -/
def cutD (F : Dsk) (n d : ByteArray) (pt : Int) : Dsk := ⟨if 0 < pt then setL F.l n (d.extract 0 (min pt.toNat d.size)) (lbN F.l n) else F.l, 0, pt, true⟩
theorem put_cut (F : Dsk) (n d : ByteArray) (pt : Int) : putF { upD F with fuse := max 0 (-1), part := pt } n d (lbN F.l n) = (11, cutD F n d pt) := by
  show putF ⟨F.l, 0, pt, false⟩ n d (lbN F.l n) = _
  unfold cutD
  by_cases h : 0 < pt
  · rw [Dp.put3 F.l n d _ h, if_pos h]
  · rw [Dp.put4 F.l n d _ h, if_neg h]
theorem names_up (F : Dsk) : namesF (upD F) = F.l.map Prod.fst := rfl
theorem getS_putS (l : List File) (n d m : ByteArray) (b : Bool) (h : ¬ m = n) : Dp.getS (Dp.putS l n d b) m = Dp.getS l m := by
  have hn : ¬ n = m := fun e => h e.symm
  induction l generalizing b with
  | nil =>
    unfold Dp.putS
    cases b with
    | true => rfl
    | false => simp [Dp.getS, hn]
  | cons x l ih =>
    unfold Dp.putS
    by_cases hx : x.1 = n
    · have hm : ¬ x.1 = m := fun e => h (e.symm.trans hx)
      split <;> simp [Dp.getS, hx, hn, ih]
    · split <;> by_cases hm : x.1 = m <;> simp [Dp.getS, hx, hn, hm, ih]
theorem getS_own (l : List File) (hr : Dp.Rise l) (i : Nat) (h : i < l.length) : Dp.getS l l[i].1 = (l[i].2, true) := by
  rw [Dp.getS_at l _ hr]
  have h1 := Dp.low_own l hr i h
  have h2 := Dp.lower_of l l[i].1 hr
  have e : lbN l l[i].1 = i := by
    rcases Nat.lt_trichotomy (lbN l l[i].1) i with c | c | c
    · have := (h2.2 _ (by omega)).mp ((h1.2 (lbN l l[i].1) (by omega)).mpr c)
      omega
    · exact c
    · have := (h1.2 i h).mp ((h2.2 i h).mpr c)
      omega
  rw [e]
  have := getF_at (D := ⟨l, 0, 0, false⟩) rfl h
  unfold getF at this
  rw [if_neg (by simp)] at this
  exact this
theorem cut_rise (F : Dsk) (n d : ByteArray) (pt : Int) (h : Dp.Rise F.l) (hl : F.l.length ≤ 1000) : Dp.Rise (cutD F n d pt).l ∧ (cutD F n d pt).l.length ≤ 100000 := by
  unfold cutD
  by_cases hp : 0 < pt
  · simp only [hp, if_true]
    rw [← Dp.putS_set F.l n _ h]
    exact ⟨Dp.putS_rise _ _ _ _ h, by have := (Dp.putS_length F.l n (d.extract 0 (min pt.toNat d.size)) false).1; omega⟩
  · simp only [hp, if_false]
    exact ⟨h, by omega⟩
theorem cut_get (F : Dsk) (n d m : ByteArray) (pt : Int) (h : Dp.Rise F.l) (hm : ¬ m = n) : Dp.getS (cutD F n d pt).l m = Dp.getS F.l m := by
  unfold cutD
  by_cases hp : 0 < pt
  · simp only [hp, if_true]
    rw [← Dp.putS_set F.l n _ h]
    exact getS_putS _ _ _ _ _ hm
  · simp only [hp, if_false]
theorem getF_up (F : Dsk) (m : ByteArray) (hd : F.down = false) (h : Dp.Rise F.l) : getF F m (lbN F.l m) = Dp.getS F.l m := by
  rw [Dp.getS_at _ _ h]
  unfold getF
  rw [if_neg (by rw [hd]; simp)]

set_option maxHeartbeats 16000000 in
set_option maxRecDepth 100000 in
theorem apart_yes (k0 k1 : Nat) (A0 : Option Addr) (c0 : Nat) (l0 : List S33) (A1 : Option Addr) (c1 : Nat) (l1 : List S33) (x0 : Int) (x1 x2 : ByteArray) (x3 x4 : Int) (w : World)
    (hr0 : Kd.C k33 w A0 l0.length l0) (hc0 : l0.length ≤ c0) (hr1 : Kd.C k33 w A1 l1.length l1) (hc1 : l1.length ≤ c1) (h0 : knapsacklaw21_few.f k0 l0 = some true) (h1 : knapsacklaw21_few.f k1 l1 = some true)
    (hx1 : x1.size ≤ 20) (hx2 : x2.size ≤ 100) (hn0 : l0.length ≤ 60) (hn1 : l1.length ≤ 60) (hf0 : ∀ j, (h : j < l0.length) → Fine l0[j]) (hf1 : ∀ j, (h : j < l1.length) → Fine l1[j]) :
    Calls Try.prog 4 #[.slice A0 l0.length c0, .slice A1 l1.length c1, .agg #[.int .u8 x0, .string x1, .string x2, .int .i64 x3, .int .i64 x4]] w fun e w' => e = .returned (.bool true) ∧ Below w.heap.size w w' := by
  have hbx : Below w.heap.size w (boxw w x0 x1 x2 x3 x4) := (Below.refl _ _).alloc (Nat.le_refl _) _
  have HR0 := Aside0.mk (Kd.C_below hr0 hbx)
  have HR1 := Aside0.mk (Kd.C_below hr1 hbx)
  have H0 := Aside0.mk h0
  have H1 := Aside0.mk h1
  have HI0 := Aside0.mk (fun k hk => run_inv l0 hf0 D0 0 (by omega) Dp.inv0 k hk)
  have hIE : Dp.Inv (runD l0 D0) l0.length := by
    have := HI0.out l0.length (Nat.le_refl _)
    rw [List.take_length, Nat.zero_add] at this
    exact this
  obtain ⟨E, hE⟩ : ∃ E, runD l0 D0 = E := ⟨_, rfl⟩
  rw [hE] at hIE
  have HE := Aside0.mk hE
  have HIE := Aside0.mk hIE
  have HI1 := Aside0.mk (fun k hk => run_inv l1 hf1 E l0.length (by omega) hIE k hk)
  have hIF : Dp.Inv (runD l1 E) (l0.length + l1.length) := by
    have := HI1.out l1.length (Nat.le_refl _)
    rw [List.take_length] at this
    exact this
  obtain ⟨F, hF⟩ : ∃ F, runD l1 E = F := ⟨_, rfl⟩
  rw [hF] at hIF
  have HFF := Aside0.mk hF
  have HIF := Aside0.mk hIF
  have HF0 := Aside0.mk hf0
  have HF1 := Aside0.mk hf1
  have g1 : decide ((20 : Int) < (x1.size : Int)) = false := decide_eq_false (by omega)
  have g2 : decide ((100 : Int) < (x2.size : Int)) = false := decide_eq_false (by omega)
  clear hr0 hr1 h0 h1 hbx hE hIE hF hIF hf0 hf1
  go_enter Try.func4, Try.ntmps4
  go_wp2_with (first
    | (go_at_call 5; refine (few_calls2 HBa.out k1 A1 c1 l1 _ HR1.out hc1 H1.out).mono ?_; rintro e wb ⟨rfl, hb2⟩; have HBb := Aside0.mk hb2; clear hb2)
    | (go_at_call 5; refine (few_calls2 (w1 := boxw w x0 x1 x2 x3 x4) (Below.refl _ _) k0 A0 c0 l0 _ HR0.out hc0 H0.out).mono ?_; rintro e wa ⟨rfl, hb1⟩; have HBa := Aside0.mk hb1; clear hb1)
    | (go_at_call 6; refine (new_od HBb.out).mono ?_; rintro e w2 ⟨bd, rfl, hod⟩; have HOD := Aside0.mk hod; obtain ⟨y1, y2, y3⟩ := box_at hod.bel; clear hod))
  clear y1 y2 y3
  go_loopw [11] (fun v11 w' => ∃ k : Nat, v11 = .int .i64 (k : Int) ∧ k ≤ l0.length ∧ ∃ lv mv, Aside0 (PL (boxw w x0 x1 x2 x3 x4) w' bd lv w2.heap.size mv (runD (l0.take k) D0) (runD (l0.take k) D0))) (fun v11 _ => l0.length - (intOf v11).toNat)
  case atStart => exact ⟨0, rfl, Nat.zero_le _, _, _, ⟨pl_of HOD.out⟩⟩
  case round =>
    obtain ⟨k, rfl, hk, lv, mv, HP⟩ := hrel
    by_cases hlt : k < l0.length
    · have e1 : decide ((k : Int) < (l0.length : Int)) = true := decide_eq_true (by omega)
      have e2 : (0 : Int) ≤ (k : Int) := by omega
      have e3 : (k : Int) < (l0.length : Int) := by omega
      obtain ⟨ad, e101, z0, z1, z2, z3, z4⟩ := at_T33 (Kd.C_below HR0.out HP.out.bel) (k : Int) e2 e3
      cases e101
      simp only [Int.toNat_natCast] at z0 z1 z2 z3 z4
      have HA := Aside0.mk (show Fine (rd_T33 l0 (k : Int)) by rw [Dp.rd33 l0 k hlt]; exact HF0.out k hlt)
      have HI := Aside0.mk (HI0.out k (by omega))
      have HT := Aside0.mk (run_take l0 D0 k hlt)
      go_wp2_with (go_at_call 8; refine (act_good HP.out.d HP.out.m HI.out (by omega) _ HA.out).mono ?_; rintro e w5 ⟨rfl, lv5, mv5, ht5⟩; have hp5 := HP.out.tk ht5; rw [← HT.out] at hp5; have HP5 := Aside0.mk hp5; clear hp5 ht5)
      go_roundw
      case rel => exact ⟨k + 1, by go_num, by omega, lv5, mv5, HP5⟩
      case measure => simp [intOf]; omega
    · have e1 : decide ((k : Int) < (l0.length : Int)) = false := decide_eq_false (by omega)
      have hp := HP.out
      rw [take_all l0 k hlt, HE.out] at hp
      have HPE := Aside0.mk hp
      clear hp HP
      have hle : E.l.length ≤ 100000 := by have := HIE.out.len; omega
      go_wp2_with (first
        | (go_at_call 10; refine (copy_calls _ bd lv E HPE.out.d hle).mono ?_; rintro e w5 ⟨bc, cv, rfl, dc, bb, lc, fc⟩; have HDC := Aside0.mk dc; have HBC := Aside0.mk bb; have HFC := Aside0.mk fc; have HPC := Aside0.mk (HPE.out.below bb); clear dc bb fc)
        | (go_at_call 11; refine (copied_calls _ _ mv E HPC.out.m hle).mono ?_; rintro e w6 ⟨bn, nv, rfl, dn, bb, ln, fn⟩; have HPP := Aside0.mk (P2.make HPE.out HDC.out HBC.out lc HFC.out dn bb ln fn); clear dn bb fn ln))
      clear HPC HPE HDC HBC HFC
      clear e1 lc hk hlt
      go_loopw [14] (fun v14 w' => ∃ k : Nat, v14 = .int .i64 (k : Int) ∧ k ≤ l1.length ∧ ∃ lv mv, Aside0 (P2 (boxw w x0 x1 x2 x3 x4) w' bd lv w2.heap.size mv (runD (l1.take k) E) (runD (l1.take k) E) bc cv bn nv E E)) (fun v14 _ => l1.length - (intOf v14).toNat)
      case atStart => exact ⟨0, rfl, Nat.zero_le _, _, _, HPP⟩
      case round =>
        clear HPP
        obtain ⟨k, rfl, hk, lv, mv, HP⟩ := hrel
        by_cases hlt : k < l1.length
        · have e1 : decide ((k : Int) < (l1.length : Int)) = true := decide_eq_true (by omega)
          have e2 : (0 : Int) ≤ (k : Int) := by omega
          have e3 : (k : Int) < (l1.length : Int) := by omega
          obtain ⟨ad, e101, z0, z1, z2, z3, z4⟩ := at_T33 (Kd.C_below HR1.out HP.out.p.bel) (k : Int) e2 e3
          cases e101
          simp only [Int.toNat_natCast] at z0 z1 z2 z3 z4
          have HA := Aside0.mk (show Fine (rd_T33 l1 (k : Int)) by rw [Dp.rd33 l1 k hlt]; exact HF1.out k hlt)
          have HI := Aside0.mk (HI1.out k (by omega))
          have HT := Aside0.mk (run_take l1 E k hlt)
          go_wp2_with (go_at_call 8; refine (act_good HP.out.p.d HP.out.p.m HI.out (by omega) _ HA.out).mono ?_; rintro e w5 ⟨rfl, lv5, mv5, ht5⟩; have hp5 := HP.out.tk ht5; rw [← HT.out] at hp5; have HP5 := Aside0.mk hp5; clear hp5 ht5)
          go_roundw
          case rel => exact ⟨k + 1, by go_num, by omega, lv5, mv5, HP5⟩
          case measure => simp [intOf]; omega
        · have e1 : decide ((k : Int) < (l1.length : Int)) = false := decide_eq_false (by omega)
          have hp := HP.out
          rw [take_all l1 k hlt, HFF.out] at hp
          have HPE := Aside0.mk hp
          clear hp HP
          have HSE := Aside0.mk (Dp.same_ok HIE.out (by omega))
          go_wp2_with (go_at_call 9; refine (same_calls _ _ cv _ nv E E HPE.out.q.d HPE.out.q.m HSE.out).mono ?_; rintro e w5 ⟨rfl, hb5⟩; have HPP := Aside0.mk (HPE.out.below hb5); clear hb5)
          clear HPE e1 hk hlt HSE
          go_loopw [15] (fun v15 w' => ∃ k : Nat, v15 = .int .i64 (k : Int) ∧ k ≤ l1.length ∧ ∃ cv nv, Aside0 (P2 (boxw w x0 x1 x2 x3 x4) w' bd lv w2.heap.size mv F F bc cv bn nv (runD (l1.take k) E) (runD (l1.take k) E))) (fun v15 _ => l1.length - (intOf v15).toNat)
          case atStart => exact ⟨0, rfl, Nat.zero_le _, _, _, HPP⟩
          case round =>
            clear HPP
            obtain ⟨k, rfl, hk, cv, nv, HP⟩ := hrel
            by_cases hlt : k < l1.length
            · have e1 : decide ((k : Int) < (l1.length : Int)) = true := decide_eq_true (by omega)
              have e2 : (0 : Int) ≤ (k : Int) := by omega
              have e3 : (k : Int) < (l1.length : Int) := by omega
              obtain ⟨ad, e101, z0, z1, z2, z3, z4⟩ := at_T33 (Kd.C_below HR1.out HP.out.p.bel) (k : Int) e2 e3
              cases e101
              simp only [Int.toNat_natCast] at z0 z1 z2 z3 z4
              have HA := Aside0.mk (show Fine (rd_T33 l1 (k : Int)) by rw [Dp.rd33 l1 k hlt]; exact HF1.out k hlt)
              have HI := Aside0.mk (HI1.out k (by omega))
              have HT := Aside0.mk (run_take l1 E k hlt)
              go_wp2_with (go_at_call 8; refine (act_good HP.out.q.d HP.out.q.m HI.out (by omega) _ HA.out).mono ?_; rintro e w5 ⟨rfl, lv5, mv5, ht5⟩; have hp5 := (HP.out.swap.tk ht5).swap; rw [← HT.out] at hp5; have HP5 := Aside0.mk hp5; clear hp5 ht5)
              go_roundw
              case rel => exact ⟨k + 1, by go_num, by omega, lv5, mv5, HP5⟩
              case measure => simp [intOf]; omega
            · have e1 : decide ((k : Int) < (l1.length : Int)) = false := decide_eq_false (by omega)
              have hp := HP.out
              rw [take_all l1 k hlt, HFF.out] at hp
              have HPE := Aside0.mk hp
              clear hp HP
              have HSF := Aside0.mk (Dp.same_ok HIF.out (by omega))
              have hlf : F.l.length ≤ 1000 := by have := HIF.out.len; omega
              go_wp2_with (first
                | (go_at_call 9; refine (same_calls _ _ cv _ mv F F HPE.out.q.d HPE.out.p.m HSF.out).mono ?_; rintro e w5 ⟨rfl, hb5⟩; have HPP := Aside0.mk (OD.below (w := boxw w x0 x1 x2 x3 x4) ⟨HPE.out.q.d, HPE.out.q.bel, HPE.out.q.lo.1, HPE.out.q.fd⟩ hb5); clear hb5)
                | (go_at_call 12; (with_reducible refine (restart_calls _ _ _ (cutD F x1 x2 x4) HQ4.out.c.d).mono ?_); rintro e w6 ⟨rfl, cv6, d6, k6, f6⟩; have HQ5 := Aside0.mk (HQ4.out.step d6 k6 f6); clear d6 k6 f6)
                | (go_at_call 12; refine (restart_calls _ _ cv F HPP.out.d).mono ?_; rintro e w6 ⟨rfl, cv6, d6, k6, f6⟩; have HO6 := Aside0.mk (HPP.out.step d6 k6 f6); clear d6 k6 f6)
                | (go_at_call 10; refine (copy_calls _ _ _ (upD F) HO6.out.d (show F.l.length ≤ 100000 by omega)).mono ?_; rintro e w6 ⟨bh, hv, rfl, dc, bb, lc, fc⟩; have HQ2 := Aside0.mk (Q2.make HO6.out dc bb lc fc); obtain ⟨y1, y2, y3⟩ := box_at HQ2.out.c.bel; clear dc bb fc lc)
                | (go_at_call 13; refine (fail_calls _ _ _ (upD F) 0 x4 HQ2.out.c.d).mono ?_; rintro e w6 ⟨rfl, cv6, d6, k6, f6⟩; have HQ3 := Aside0.mk (HQ2.out.step d6 k6 f6); obtain ⟨y1, y2, y3⟩ := box_at HQ3.out.c.bel; clear d6 k6 f6)
                | (go_at_call 14; refine (put_calls _ _ _ _ x1 x2 (lbN F.l x1) HQ3.out.c.d (show F.l.length ≤ 100000 by omega) (Dp.lower_of _ _ HIF.out.rise) (by show max (0:Int) (-1) ≤ _; omega) (by show _ ≤ max (0:Int) (-1); omega) (by omega)).mono ?_; rw [put_cut]; rintro e w6 ⟨rfl, cv6, d6, k6, f6⟩; have HQ4 := Aside0.mk (HQ3.out.step d6 k6 f6); clear d6 k6 f6)
                | (go_at_call 15; refine (names_calls _ _ _ (upD F) HQ5.out.h.d (show F.l.length ≤ 100000 by omega)).mono ?_; rintro e w7 ⟨nv7, rfl, hR7, hB7, hF7⟩; rw [names_up, List.length_map] at hR7; obtain ⟨A7, c7, rfl, _, _⟩ := hR7.form; have HQ6 := Aside0.mk (HQ5.out.below hB7); have HR7 := Aside0.mk hR7; clear hR7 hB7 hF7))
              clear HPE HPP HO6 HQ2 HQ3 HQ4 HQ5 y1 y2 y3 e1 HSF
              have HCR := Aside0.mk (cut_rise F x1 x2 x4 HIF.out.rise hlf)
              go_loopw [20] (fun v20 w' => ∃ k : Nat, v20 = .int .i64 (k : Int) ∧ k ≤ F.l.length ∧ Aside0 (Below w7.heap.size w7 w')) (fun v20 _ => F.l.length - (intOf v20).toNat)
              case atStart => exact ⟨0, rfl, Nat.zero_le _, ⟨Below.refl _ _⟩⟩
              case round =>
                obtain ⟨k, rfl, hk, HB⟩ := hrel
                by_cases hlt : k < F.l.length
                · have e1 : decide ((k : Int) < (F.l.length : Int)) = true := decide_eq_true (by omega)
                  have e2 : (0 : Int) ≤ (k : Int) := by omega
                  have e3 : (k : Int) < (F.l.length : Int) := by omega
                  have hr7 := HR7.out
                  obtain ⟨g7, off7, cap7, hA7, _, _⟩ := hr7.form2 (by omega)
                  simp only [Value.slice.injEq, true_and] at hA7
                  obtain ⟨rfl, rfl⟩ := hA7
                  have hn := scells_at (F.l.map Prod.fst) k (by rw [List.length_map]; exact hlt)
                  rw [List.getElem_map] at hn
                  have hga : getF (upD F) F.l[k].1 (lbN F.l F.l[k].1) = (F.l[k].2, true) := by
                    have := getF_up (upD F) F.l[k].1 rfl HIF.out.rise
                    exact this.trans (getS_own F.l HIF.out.rise k hlt)
                  have hgc : ¬ F.l[k].1 = x1 → getF (upD (cutD F x1 x2 x4)) F.l[k].1 (lbN (cutD F x1 x2 x4).l F.l[k].1) = (F.l[k].2, true) := fun hm => by
                    have := getF_up (upD (cutD F x1 x2 x4)) F.l[k].1 rfl HCR.out.1
                    exact (this.trans (cut_get F x1 x2 _ x4 HIF.out.rise hm)).trans (getS_own F.l HIF.out.rise k hlt)
                  obtain ⟨nm, hnm⟩ : ∃ nm, F.l[k].1 = nm := ⟨_, rfl⟩
                  obtain ⟨dt, hdt⟩ : ∃ dt, F.l[k].2 = dt := ⟨_, rfl⟩
                  rw [hnm] at hn hga hgc
                  rw [hdt] at hga hgc
                  have HGA := Aside0.mk hga
                  have HY := Aside0.mk (show ∀ W, Below wr.heap.size wr W → W.cell? ⟨g7, off7 + k, none⟩ = some (.string nm) ∧ W.cell? ⟨w.heap.size, 1, none⟩ = some (.string x1) by
                    intro W hW
                    have hb : Below w7.heap.size w7 W := HB.out.trans (hW.mono HB.out.size)
                    exact ⟨(Rw.below hr7 hb).cell hn, (box_at (HQ6.out.below hb).c.bel).1⟩)
                  obtain ⟨y1, y2⟩ := HY.out _ (Below.refl _ _)
                  have HDA := Aside0.mk (show IsDisk wr bh _ (upD F) from (HQ6.out.below HB.out).h.d)
                  have HDC := Aside0.mk (show ∀ W, Below wr.heap.size wr W → IsDisk W bc _ (upD (cutD F x1 x2 x4)) from fun W hW => ((HQ6.out.below HB.out).below hW).c.d)
                  have HLA := Aside0.mk (show (upD F).l.length ≤ 100000 by show F.l.length ≤ 100000; omega)
                  have HLC := Aside0.mk (show (upD (cutD F x1 x2 x4)).l.length ≤ 100000 from HCR.out.2)
                  have HWA := Aside0.mk (show Lower (upD F).l nm (lbN F.l nm) from Dp.lower_of _ _ HIF.out.rise)
                  have HWC := Aside0.mk (show Lower (upD (cutD F x1 x2 x4)).l nm (lbN (cutD F x1 x2 x4).l nm) from Dp.lower_of _ _ HCR.out.1)
                  by_cases hne : nm = x1
                  · obtain ⟨q, hq⟩ : ∃ q, getF (upD (cutD F x1 x2 x4)) nm (lbN (cutD F x1 x2 x4).l nm) = q := ⟨_, rfl⟩
                    obtain ⟨qs, qb⟩ := q
                    have HGC := Aside0.mk hq
                    subst hne
                    clear hga hgc hnm hdt hr7 hn hq y2
                    go_wp2_with (first
                      | (go_at_call 16; (with_reducible refine (get_calls _ bh _ (upD F) nm (lbN F.l nm) HDA.out HLA.out HWA.out).mono ?_); rintro e w8 ⟨rfl, hb8⟩; rw [HGA.out]; obtain ⟨z1, z2⟩ := HY.out w8 hb8; have HB8 := Aside0.mk hb8; clear y1 hb8)
                      | (go_at_call 16; (with_reducible refine (get_calls _ bc _ (upD (cutD F nm x2 x4)) nm (lbN (cutD F nm x2 x4).l nm) (HDC.out _ HB8.out) HLC.out HWC.out).mono ?_); rintro e w9 ⟨rfl, hb9⟩; rw [HGC.out]; obtain ⟨v1, v2⟩ := HY.out w9 (HB8.out.trans (hb9.mono HB8.out.size)); have HB9 := Aside0.mk (HB8.out.trans (hb9.mono HB8.out.size)); clear z1 z2 hb9))
                    go_quiet (fail)
                    go_wp2
                    go_roundw
                    case rel => exact ⟨k + 1, by go_num, by omega, ⟨pw_below_drewN (HB.out.trans (HB9.out.mono HB.out.size)) _⟩⟩
                    case measure => simp [intOf]; omega
                  · have HGC := Aside0.mk (hgc hne)
                    have q1 : (nm.toList = x1.toList) = False := eq_false (fun e => hne ((Dp.tl_inj _ _).mp e))
                    have q2 : (nm.toList == x1.toList) = false := beq_eq_false_iff_ne.mpr (fun e => hne ((Dp.tl_inj _ _).mp e))
                    have q3 : (nm = x1) = False := eq_false hne
                    clear hga hgc hnm hdt hr7 hn hne
                    go_wp2_with (first
                      | (go_at_call 16; (with_reducible refine (get_calls _ bh _ (upD F) nm (lbN F.l nm) HDA.out HLA.out HWA.out).mono ?_); rintro e w8 ⟨rfl, hb8⟩; rw [HGA.out]; obtain ⟨z1, z2⟩ := HY.out w8 hb8; have HB8 := Aside0.mk hb8; clear y1 y2 hb8)
                      | (go_at_call 16; (with_reducible refine (get_calls _ bc _ (upD (cutD F x1 x2 x4)) nm (lbN (cutD F x1 x2 x4).l nm) (HDC.out _ HB8.out) HLC.out HWC.out).mono ?_); rintro e w9 ⟨rfl, hb9⟩; rw [HGC.out]; obtain ⟨v1, v2⟩ := HY.out w9 (HB8.out.trans (hb9.mono HB8.out.size)); have HB9 := Aside0.mk (HB8.out.trans (hb9.mono HB8.out.size)); clear z1 z2 hb9))
                    go_quiet (fail)
                    go_wp2
                    go_roundw
                    case rel => exact ⟨k + 1, by go_num, by omega, ⟨pw_below_drewN (HB.out.trans (HB9.out.mono HB.out.size)) _⟩⟩
                    case measure => simp [intOf]; omega
                · have e1 : decide ((k : Int) < (F.l.length : Int)) = false := decide_eq_false (by omega)
                  have HBE := Aside0.mk (box_far (HQ6.out.below HB.out).c.bel)
                  go_wp2_with (first
                    | (go_at_call 13; refine (nil_fail _).mono ?_; rintro e wz ⟨rfl, rfl⟩)
                    | (go_at_call 12; refine (nil_restart _).mono ?_; rintro e wz ⟨rfl, rfl⟩)
                    | (go_at_call 16; refine (nil_get _ _).mono ?_; rintro e wz ⟨rfl, rfl⟩)
                    | (go_at_call 17; refine (nil_down _).mono ?_; rintro e wz ⟨rfl, rfl⟩)
                    | (go_at_call 15; refine (nil_names _).mono ?_; rintro e wz ⟨rfl, rfl⟩)
                    | (go_at_call 10; refine (nil_copy _).mono ?_; rintro e wz ⟨rfl, rfl⟩)
                    | (go_at_call 14; refine (nil_put _ _ _).mono ?_; rintro e wz ⟨rfl, rfl⟩)
                    | (go_at_call 18; refine (nil_drop _ _).mono ?_; rintro e wz ⟨rfl, rfl⟩)
                    | (go_at_call 7; refine (knows_calls _).mono ?_; rintro e w5 ⟨rfl, hb5⟩))
                  go_ret
                  exact ⟨rfl, below_step HBE.out hb5⟩
end Go.Proofs.Ytaibcfghokhghaa.Dk
