/- disk's methods. -/
import Derived.Test.YtaibcfghokhghaaDk2
set_option linter.unusedVariables false
set_option linter.unusedSimpArgs false
namespace Go.Proofs.Ytaibcfghokhghaa.Dk
open Go.RowKit Go.Proofs.Ytaibcfghokhghaa.Lk Go.Proofs.YtaibcfghokhghaaW.PrintWords Go.Proofs.YtaibcfghokhghaaW.PrintLast Go.Proofs.YtaibcfghokhghaaW.PrintMore
attribute [local go_sem] max2_int min2_int max_two min_two max_three min_three max_four min_four

set_option maxHeartbeats 2000000 in
set_option maxRecDepth 100000 in
theorem gone_calls (w : World) (b : Nat) (lv : Value) (D : Dsk) (name : ByteArray) (p : Nat) (h : IsDisk w b lv D) (hl : D.l.length ≤ 100000) (hp : Lower D.l name p) :
    Calls Try.prog 25 #[.pointer (some ⟨b, 0, none⟩), .string name] w (DK w b lv { D with l := goneL D.l name p } (.tuple #[])) := by
  have HD := Aside0.mk h
  have HP := Aside0.mk hp
  cases hat : isAt D.l name p with
  | true =>
    obtain ⟨hpl, hnm⟩ := isAt_lt hat
    have HA := Aside0.mk hat
    have HL := Aside0.mk hpl
    clear hat hnm h hp
    have s1 : IntKind.i64.wrap ((p : Int) + 1) = (p : Int) + 1 := by simp [IntKind.wrap, IntKind.bits, IntKind.signed]; omega
    have s2 : (p : Int) ≤ 100000 := by omega
    have s3 : (0 : Int) ≤ (p : Int) := by omega
    go_enter Try.func25, Try.ntmps25
    go_wp2_with (first
      | (go_at_call 24; refine (place_calls w b _ D name p HD.out (by omega) HP.out).mono ?_; rintro e w5 ⟨rfl, hb5⟩; have HD5 := Aside0.mk (HD.out.below hb5); have HB5 := Aside0.mk hb5; clear hb5; obtain ⟨c0, c1, c2, c3, cf⟩ := HD5.out.facts; rw [HA.out]; clear c1 c2 c3 cf)
      | (go_at_call 31; refine (Sl1.delete_calls _ D.l.length p lv (fcells D.l) HD5.out.row HL.out (fcells_one _) (by omega)).mono ?_; rintro e w6 ⟨v', rfl, hR6, hG6, hF6⟩; obtain ⟨A9, c9, rfl, _, _⟩ := hR6.form; have HK6 := Aside0.mk (show Kp w5 w6 (fun g => lv.ownBlock = some g) from (Kp.refl w5 _).grown hG6 (fun k hk _ => hk)); have hc6 := HK6.out.at HD5.out.cells HD5.out.apart; have d0 : w6.cell? ⟨b, 0, none⟩ = some lv := (by simp [World.cell?, hc6, dcells]); have d1 : w6.frozen? ⟨b, 0, none⟩ = false := (by simp [World.frozen?, hc6]); have HR6 := Aside0.mk hR6; have HF6 := Aside0.mk hF6; clear hR6 hG6 hF6 hc6 c0))
    go_end0
    have e2 : (fcells D.l).take (p * 2) ++ (fcells D.l).drop ((p + 1) * 2) = fcells (goneL D.l name p) := by
      unfold goneL
      rw [if_pos HA.out, fcells_take, fcells_drop, fcells_append]
    have el : (goneL D.l name p).length = D.l.length - 1 := by
      unfold goneL
      rw [if_pos HA.out, List.length_append, List.length_take, List.length_drop]
      have := HL.out
      omega
    have hR : Rw w6 54 2 (.slice A9 (D.l.length - 1) c9) (goneL D.l name p).length (fcells (goneL D.l name p)) := by
      have h1 := HR6.out
      rw [e2] at h1
      rw [el]
      exact h1
    have hput := HD5.out.put hR HK6.out (fun g hg => .inl (by rw [← HF6.out]; exact hg))
    exact DK.then (HD.out.below HB5.out) (Kp.of_below HB5.out _) (fun g hg => .inl hg) ⟨rfl, _, hput, (HK6.out.mono (fun _ _ x => .inr x)).setCell _ _ (fun _ => .inl rfl), fun g hg => .inl (by rw [← HF6.out]; exact hg)⟩
  | false =>
    have HA := Aside0.mk hat
    clear hat h hp
    go_enter Try.func25, Try.ntmps25
    go_wp2_with (first
      | (go_at_call 24; refine (place_calls w b _ D name p HD.out (by omega) HP.out).mono ?_; rintro e w5 ⟨rfl, hb5⟩; have HD5 := Aside0.mk (HD.out.below hb5); have HB5 := Aside0.mk hb5; clear hb5; rw [HA.out]))
    go_end0
    have el : goneL D.l name p = D.l := by unfold goneL; rw [if_neg (by rw [HA.out]; simp)]
    rw [el]
    exact DK.same HD.out HB5.out _

/-- The next write: is the disk down, and what becomes of it. -/
def cutF (D : Dsk) : Dsk := { D with down := decide (D.fuse = 0) || D.down, fuse := if D.fuse > 0 then D.fuse - 1 else D.fuse }
set_option maxHeartbeats 2000000 in
set_option maxRecDepth 100000 in
theorem cut_calls (w : World) (b : Nat) (lv : Value) (D : Dsk) (h : IsDisk w b lv D) (hf : D.fuse ≤ 9223372036854775807) (hf0 : -9223372036854775808 ≤ D.fuse) :
    Calls Try.prog 22 #[.pointer (some ⟨b, 0, none⟩)] w (DK w b lv (cutF D) (.bool (cutF D).down)) := by
  obtain ⟨c0, c1, c2, c3, cf⟩ := h.facts
  have f1 := cf 1
  have f3 := cf 3
  have HD := Aside0.mk h
  clear cf h
  by_cases z0 : D.fuse = 0
  · have e1 : (D.fuse == 0) = true := beq_iff_eq.mpr z0
    have e2 : decide (0 < D.fuse) = false := decide_eq_false (by omega)
    have HC := Aside0.mk (show cutF D = { D with down := true } by unfold cutF; rw [z0]; simp)
    clear z0
    go_enter Try.func22, Try.ntmps22
    go_wp2
    go_ret
    rw [HC.out]
    exact ⟨rfl, lv, HD.out.set 3 _ (D' := { D with down := true }) rfl rfl, (Kp.refl w _).setCell _ _ (fun _ => .inl rfl), fun g hg => .inl hg⟩
  · have e1 : (D.fuse == 0) = false := beq_eq_false_iff_ne.mpr z0
    have e1b : (D.fuse = 0) = False := eq_false z0
    by_cases z1 : 0 < D.fuse
    · have e2 : decide (0 < D.fuse) = true := decide_eq_true z1
      have HC := Aside0.mk (show cutF D = { D with fuse := D.fuse - 1 } by unfold cutF; rw [decide_eq_false z0, if_pos z1]; simp)
      have e3 : IntKind.i64.wrap (D.fuse - 1) = D.fuse - 1 := by simp [IntKind.wrap, IntKind.bits, IntKind.signed]; omega
      clear z0
      go_enter Try.func22, Try.ntmps22
      go_wp2
      go_ret
      rw [HC.out]
      exact ⟨rfl, lv, HD.out.set 1 _ (D' := { D with fuse := D.fuse - 1 }) rfl rfl, (Kp.refl w _).setCell _ _ (fun _ => .inl rfl), fun g hg => .inl hg⟩
    · have e2 : decide (0 < D.fuse) = false := decide_eq_false z1
      have HC := Aside0.mk (show cutF D = D by unfold cutF; rw [decide_eq_false z0, if_neg z1]; simp)
      clear z0
      go_enter Try.func22, Try.ntmps22
      go_wp2
      go_ret
      rw [HC.out]
      exact ⟨rfl, lv, HD.out, Kp.refl w _, fun g hg => .inl hg⟩

/-- Put: an error's number, and the disk. -/
def putF (D : Dsk) (name data : ByteArray) (p : Nat) : Int × Dsk :=
  if D.down = true then (11, D)
  else if (cutF D).down = false then (0, { cutF D with l := setL D.l name data p })
  else if D.part > 0 then (11, { cutF D with l := setL D.l name (data.extract 0 (min D.part.toNat data.size)) p })
  else (11, cutF D)
theorem cutF_l (D : Dsk) : (cutF D).l = D.l := rfl
theorem cutF_part (D : Dsk) : (cutF D).part = D.part := rfl
set_option maxHeartbeats 2000000 in
set_option maxRecDepth 100000 in
theorem put_calls (w : World) (b : Nat) (lv : Value) (D : Dsk) (name data : ByteArray) (p : Nat) (h : IsDisk w b lv D) (hl : D.l.length ≤ 100000) (hp : Lower D.l name p) (hf : D.fuse ≤ 9223372036854775807) (hf0 : -9223372036854775808 ≤ D.fuse) (hd : data.size ≤ 1000000) :
    Calls Try.prog 14 #[.pointer (some ⟨b, 0, none⟩), .string name, .string data] w (DK w b lv (putF D name data p).2 (.int .i64 (putF D name data p).1)) := by
  obtain ⟨c0, c1, c2, c3, cf⟩ := h.facts
  have HD := Aside0.mk h
  have HP := Aside0.mk hp
  clear cf h hp c0 c1
  cases hdn : D.down with
  | true =>
    rw [hdn] at c3
    have HC := Aside0.mk (show putF D name data p = (11, D) by unfold putF; rw [if_pos hdn])
    clear hdn
    go_enter Try.func14, Try.ntmps14
    go_wp2
    go_ret
    rw [HC.out]
    exact DK.same HD.out (Below.refl _ _) _
  | false =>
    rw [hdn] at c3
    cases hcd : (cutF D).down with
    | false =>
      have HC := Aside0.mk (show putF D name data p = (0, { cutF D with l := setL D.l name data p }) by unfold putF; rw [if_neg (by rw [hdn]; simp), if_pos hcd])
      have HCD := Aside0.mk hcd
      clear hdn hcd
      go_enter Try.func14, Try.ntmps14
      go_wp2_with (first
        | (go_at_call 22; refine (cut_calls w b lv D HD.out hf hf0).mono ?_; rintro e w5 ⟨rfl, lv5, hD5, hK5, hF5⟩; have HD5 := Aside0.mk hD5; have HK5 := Aside0.mk hK5; have HF5 := Aside0.mk hF5; clear hD5 hK5 hF5; rw [HCD.out])
        | (go_at_call 23; refine (set_calls w5 b lv5 (cutF D) name data p HD5.out hl HP.out).mono ?_; intro e w6 hQ; have HQ := Aside0.mk (DK.then HD5.out HK5.out HF5.out hQ); obtain ⟨rfl, hrest⟩ := hQ; clear hrest))
      go_ret
      rw [HC.out]
      exact ⟨rfl, HQ.out.2⟩
    | true =>
      have HCD := Aside0.mk hcd
      by_cases hpt : D.part > 0
      · have HC := Aside0.mk (show putF D name data p = (11, { cutF D with l := setL D.l name (data.extract 0 (min D.part.toNat data.size)) p }) by unfold putF; rw [if_neg (by rw [hdn]; simp), if_neg (by rw [hcd]; simp), if_pos hpt])
        have e1 : decide (0 < D.part) = true := decide_eq_true hpt
        by_cases hmn : (data.size : Int) < D.part
        · have HE := Aside0.mk (show data.extract 0 (min D.part.toNat data.size) = data by rw [Nat.min_eq_right (by omega)]; exact ByteArray.extract_zero_size)
          have e2 : ((data.size : Int) < D.part) = True := eq_true hmn
          have e3 : decide ((data.size : Int) < D.part) = true := decide_eq_true hmn
          clear hdn hcd hmn
          go_enter Try.func14, Try.ntmps14
          go_wp2_with (first
            | (go_at_call 22; refine (cut_calls w b lv D HD.out hf hf0).mono ?_; rintro e w5 ⟨rfl, lv5, hD5, hK5, hF5⟩; have HD5 := Aside0.mk hD5; have HK5 := Aside0.mk hK5; have HF5 := Aside0.mk hF5; clear hD5 hK5 hF5; rw [HCD.out]; have d2 : w5.cell? ⟨b, 2, none⟩ = some (.int .i64 D.part) := HD5.out.facts.2.2.1)
            | (go_at_call 23; refine (set_calls w5 b lv5 (cutF D) name _ p HD5.out hl HP.out).mono ?_; intro e w6 hQ; have HQ := Aside0.mk (DK.then HD5.out HK5.out HF5.out hQ); obtain ⟨rfl, hrest⟩ := hQ; clear hrest))
          go_ret
          rw [HC.out, HE.out]
          exact ⟨rfl, HQ.out.2⟩
        · have HE := Aside0.mk (show min D.part.toNat data.size = D.part.toNat by omega)
          have e2 : ((data.size : Int) < D.part) = False := eq_false hmn
          have e3 : decide ((data.size : Int) < D.part) = false := decide_eq_false hmn
          have e4 : D.part ≤ (data.size : Int) := by omega
          have e5 : (0 : Int) ≤ D.part := by omega
          clear hdn hcd hmn
          go_enter Try.func14, Try.ntmps14
          go_wp2_with (first
            | (go_at_call 22; refine (cut_calls w b lv D HD.out hf hf0).mono ?_; rintro e w5 ⟨rfl, lv5, hD5, hK5, hF5⟩; have HD5 := Aside0.mk hD5; have HK5 := Aside0.mk hK5; have HF5 := Aside0.mk hF5; clear hD5 hK5 hF5; rw [HCD.out]; have d2 : w5.cell? ⟨b, 2, none⟩ = some (.int .i64 D.part) := HD5.out.facts.2.2.1)
            | (go_at_call 23; refine (set_calls w5 b lv5 (cutF D) name _ p HD5.out hl HP.out).mono ?_; intro e w6 hQ; have HQ := Aside0.mk (DK.then HD5.out HK5.out HF5.out hQ); obtain ⟨rfl, hrest⟩ := hQ; clear hrest))
          go_ret
          rw [HC.out, HE.out]
          exact ⟨rfl, HQ.out.2⟩
      · have HC := Aside0.mk (show putF D name data p = (11, cutF D) by unfold putF; rw [if_neg (by rw [hdn]; simp), if_neg (by rw [hcd]; simp), if_neg hpt])
        have e1 : decide (0 < D.part) = false := decide_eq_false hpt
        clear hdn hcd hpt
        go_enter Try.func14, Try.ntmps14
        go_wp2_with (first
          | (go_at_call 22; refine (cut_calls w b lv D HD.out hf hf0).mono ?_; rintro e w5 ⟨rfl, lv5, hD5, hK5, hF5⟩; have HD5 := Aside0.mk hD5; have HK5 := Aside0.mk hK5; have HF5 := Aside0.mk hF5; clear hD5 hK5 hF5; rw [HCD.out]; have d2 : w5.cell? ⟨b, 2, none⟩ = some (.int .i64 D.part) := HD5.out.facts.2.2.1))
        go_ret
        rw [HC.out]
        exact ⟨rfl, lv5, HD5.out, HK5.out, HF5.out⟩

/-- Drop: an error's number, and the disk. -/
def dropF (D : Dsk) (name : ByteArray) (p : Nat) : Int × Dsk :=
  if D.down = true then (11, D)
  else if (cutF D).down = false then (0, { cutF D with l := goneL D.l name p })
  else if D.part > 0 then (11, { cutF D with l := goneL D.l name p })
  else (11, cutF D)
set_option maxHeartbeats 2000000 in
set_option maxRecDepth 100000 in
theorem drop_calls (w : World) (b : Nat) (lv : Value) (D : Dsk) (name : ByteArray) (p : Nat) (h : IsDisk w b lv D) (hl : D.l.length ≤ 100000) (hp : Lower D.l name p) (hf : D.fuse ≤ 9223372036854775807) (hf0 : -9223372036854775808 ≤ D.fuse) :
    Calls Try.prog 18 #[.pointer (some ⟨b, 0, none⟩), .string name] w (DK w b lv (dropF D name p).2 (.int .i64 (dropF D name p).1)) := by
  obtain ⟨c0, c1, c2, c3, cf⟩ := h.facts
  have HD := Aside0.mk h
  have HP := Aside0.mk hp
  clear cf h hp c0 c1
  cases hdn : D.down with
  | true =>
    rw [hdn] at c3
    have HC := Aside0.mk (show dropF D name p = (11, D) by unfold dropF; rw [if_pos hdn])
    clear hdn
    go_enter Try.func18, Try.ntmps18
    go_wp2
    go_ret
    rw [HC.out]
    exact DK.same HD.out (Below.refl _ _) _
  | false =>
    rw [hdn] at c3
    cases hcd : (cutF D).down with
    | false =>
      have HC := Aside0.mk (show dropF D name p = (0, { cutF D with l := goneL D.l name p }) by unfold dropF; rw [if_neg (by rw [hdn]; simp), if_pos hcd])
      have HCD := Aside0.mk hcd
      clear hdn hcd
      go_enter Try.func18, Try.ntmps18
      go_wp2_with (first
        | (go_at_call 22; refine (cut_calls w b lv D HD.out hf hf0).mono ?_; rintro e w5 ⟨rfl, lv5, hD5, hK5, hF5⟩; have HD5 := Aside0.mk hD5; have HK5 := Aside0.mk hK5; have HF5 := Aside0.mk hF5; clear hD5 hK5 hF5; rw [HCD.out])
        | (go_at_call 25; refine (gone_calls w5 b lv5 (cutF D) name p HD5.out hl HP.out).mono ?_; intro e w6 hQ; have HQ := Aside0.mk (DK.then HD5.out HK5.out HF5.out hQ); obtain ⟨rfl, hrest⟩ := hQ; clear hrest))
      go_ret
      rw [HC.out]
      exact ⟨rfl, HQ.out.2⟩
    | true =>
      have HCD := Aside0.mk hcd
      by_cases hpt : D.part > 0
      · have HC := Aside0.mk (show dropF D name p = (11, { cutF D with l := goneL D.l name p }) by unfold dropF; rw [if_neg (by rw [hdn]; simp), if_neg (by rw [hcd]; simp), if_pos hpt])
        have e1 : decide (0 < D.part) = true := decide_eq_true hpt
        clear hdn hcd
        go_enter Try.func18, Try.ntmps18
        go_wp2_with (first
          | (go_at_call 22; refine (cut_calls w b lv D HD.out hf hf0).mono ?_; rintro e w5 ⟨rfl, lv5, hD5, hK5, hF5⟩; have HD5 := Aside0.mk hD5; have HK5 := Aside0.mk hK5; have HF5 := Aside0.mk hF5; clear hD5 hK5 hF5; rw [HCD.out]; have d2 : w5.cell? ⟨b, 2, none⟩ = some (.int .i64 D.part) := HD5.out.facts.2.2.1)
          | (go_at_call 25; refine (gone_calls w5 b lv5 (cutF D) name p HD5.out hl HP.out).mono ?_; intro e w6 hQ; have HQ := Aside0.mk (DK.then HD5.out HK5.out HF5.out hQ); obtain ⟨rfl, hrest⟩ := hQ; clear hrest))
        go_ret
        rw [HC.out]
        exact ⟨rfl, HQ.out.2⟩
      · have HC := Aside0.mk (show dropF D name p = (11, cutF D) by unfold dropF; rw [if_neg (by rw [hdn]; simp), if_neg (by rw [hcd]; simp), if_neg hpt])
        have e1 : decide (0 < D.part) = false := decide_eq_false hpt
        clear hdn hcd hpt
        go_enter Try.func18, Try.ntmps18
        go_wp2_with (first
          | (go_at_call 22; refine (cut_calls w b lv D HD.out hf hf0).mono ?_; rintro e w5 ⟨rfl, lv5, hD5, hK5, hF5⟩; have HD5 := Aside0.mk hD5; have HK5 := Aside0.mk hK5; have HF5 := Aside0.mk hF5; clear hD5 hK5 hF5; rw [HCD.out]; have d2 : w5.cell? ⟨b, 2, none⟩ = some (.int .i64 D.part) := HD5.out.facts.2.2.1))
        go_ret
        rw [HC.out]
        exact ⟨rfl, lv5, HD5.out, HK5.out, HF5.out⟩
/-- Get: a file's bytes. -/
def getF (D : Dsk) (name : ByteArray) (p : Nat) : ByteArray × Bool := if D.down = true then (⟨#[]⟩, false) else if isAt D.l name p = true then ((D.l.getD p (⟨#[]⟩, ⟨#[]⟩)).2, true) else (⟨#[]⟩, false)
set_option maxHeartbeats 2000000 in
set_option maxRecDepth 100000 in
theorem get_calls (w : World) (b : Nat) (lv : Value) (D : Dsk) (name : ByteArray) (p : Nat) (h : IsDisk w b lv D) (hl : D.l.length ≤ 100000) (hp : Lower D.l name p) :
    Calls Try.prog 16 #[.pointer (some ⟨b, 0, none⟩), .string name] w fun e w' => e = .returned (.tuple #[.string (getF D name p).1, .bool (getF D name p).2]) ∧ Below w.heap.size w w' := by
  obtain ⟨c0, c1, c2, c3, cf⟩ := h.facts
  have HD := Aside0.mk h
  have HP := Aside0.mk hp
  clear cf c0 c1 c2
  cases hdn : D.down with
  | true =>
    rw [hdn] at c3
    have HC := Aside0.mk (show getF D name p = (⟨#[]⟩, false) by unfold getF; rw [if_pos hdn])
    clear hdn h hp
    go_enter Try.func16, Try.ntmps16
    go_wp2
    go_ret2
    rw [HC.out]
    exact ⟨rfl, Below.refl _ _⟩
  | false =>
    rw [hdn] at c3
    cases hat : isAt D.l name p with
    | true =>
      obtain ⟨hpl, hnm⟩ := isAt_lt hat
      have HA := Aside0.mk hat
      have HL := Aside0.mk hpl
      have HC := Aside0.mk (show getF D name p = (D.l[p].2, true) by unfold getF; rw [if_neg (by rw [hdn]; simp), if_pos hat, List.getD_eq_getElem?_getD, List.getElem?_eq_getElem hpl]; rfl)
      obtain ⟨g, off, cap, rfl, hnc, _⟩ := h.row.form2 (by omega)
      have e1 : (p : Int) < (D.l.length : Int) := by omega
      have e2 : (0 : Int) ≤ (p : Int) := by omega
      clear hdn hat hnm h hp
      go_enter Try.func16, Try.ntmps16
      go_wp2_with (go_at_call 24; refine (place_calls w b _ D name p HD.out (by omega) HP.out).mono ?_; rintro e w5 ⟨rfl, hb5⟩; have HD5 := Aside0.mk (HD.out.below hb5); have HB5 := Aside0.mk hb5; clear hb5; obtain ⟨c0, c1, c2, c3_, cf⟩ := HD5.out.facts; have y2 := (file_cells HD5.out.row p HL.out).2; rw [HA.out]; clear c1 c2 c3_ cf)
      go_ret2
      rw [HC.out]
      exact ⟨rfl, HB5.out⟩
    | false =>
      have HA := Aside0.mk hat
      have HC := Aside0.mk (show getF D name p = (⟨#[]⟩, false) by unfold getF; rw [if_neg (by rw [hdn]; simp), if_neg (by rw [hat]; simp)])
      clear hdn hat h hp
      go_enter Try.func16, Try.ntmps16
      go_wp2_with (go_at_call 24; refine (place_calls w b _ D name p HD.out (by omega) HP.out).mono ?_; rintro e w5 ⟨rfl, hb5⟩; have HB5 := Aside0.mk hb5; clear hb5; rw [HA.out])
      go_ret2
      rw [HC.out]
      exact ⟨rfl, HB5.out⟩
set_option maxHeartbeats 1000000 in
set_option maxRecDepth 100000 in
theorem down_calls (w : World) (b : Nat) (lv : Value) (D : Dsk) (h : IsDisk w b lv D) : Calls Try.prog 17 #[.pointer (some ⟨b, 0, none⟩)] w fun e w' => e = .returned (.bool D.down) ∧ w' = w := by
  obtain ⟨c0, c1, c2, c3, cf⟩ := h.facts
  clear cf c0 c1 c2 h
  go_enter Try.func17, Try.ntmps17
  go_wp2
  go_ret
  exact ⟨rfl, rfl⟩
set_option maxHeartbeats 1000000 in
set_option maxRecDepth 100000 in
theorem restart_calls (w : World) (b : Nat) (lv : Value) (D : Dsk) (h : IsDisk w b lv D) : Calls Try.prog 12 #[.pointer (some ⟨b, 0, none⟩)] w (DK w b lv { D with fuse := -1, down := false } (.tuple #[])) := by
  obtain ⟨c0, c1, c2, c3, cf⟩ := h.facts
  have f1 := cf 1
  have f3 := cf 3
  have HD := Aside0.mk h
  clear cf c0 c2 h
  go_enter Try.func12, Try.ntmps12
  go_wp2
  go_end0
  exact ⟨rfl, lv, (HD.out.set 1 _ (D' := { D with fuse := -1 }) rfl rfl).set 3 _ rfl rfl, ((Kp.refl w _).setCell _ _ (fun _ => .inl rfl)).setCell _ _ (fun _ => .inl rfl), fun g hg => .inl hg⟩
set_option maxHeartbeats 1000000 in
set_option maxRecDepth 100000 in
theorem fail_calls (w : World) (b : Nat) (lv : Value) (D : Dsk) (n q : Int) (h : IsDisk w b lv D) : Calls Try.prog 13 #[.pointer (some ⟨b, 0, none⟩), .int .i64 n, .int .i64 q] w (DK w b lv { D with fuse := max n (-1), part := q } (.tuple #[])) := by
  obtain ⟨c0, c1, c2, c3, cf⟩ := h.facts
  have f1 := cf 1
  have f2 := cf 2
  have HD := Aside0.mk h
  clear cf c0 c3 h
  go_enter Try.func13, Try.ntmps13
  go_wp2
  all_goals
    go_end0
    refine ⟨rfl, lv, (HD.out.set 1 _ (D' := { D with fuse := max n (-1) }) ?_ rfl).set 2 _ rfl rfl, ((Kp.refl w _).setCell _ _ (fun _ => .inl rfl)).setCell _ _ (fun _ => .inl rfl), fun g hg => .inl hg⟩
    first | rfl | (show dcells lv { D with fuse := _ } = _; congr 2; omega) | (show (#[lv, Value.int .i64 _, .int .i64 D.part, .bool D.down] : Array Value) = #[lv, Value.int .i64 _, .int .i64 D.part, .bool D.down]; congr 3; omega)
end Go.Proofs.Ytaibcfghokhghaa.Dk
