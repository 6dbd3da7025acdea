/- The law's act: one of the disk and of the document's. -/
import Derived.Test.YtaibcfghokhghaaDk5
import Derived.Deep.RegionHeld3
import Derived.Deep.QuietTactic
import Derived.BigQuiet
set_option linter.unusedVariables false
set_option linter.unusedSimpArgs false
namespace Go.Proofs.Ytaibcfghokhghaa.Dk
open Go.RowKit Go.Proofs.Ytaibcfghokhghaa.Lk Go.Proofs.YtaibcfghokhghaaW.PrintWords Go.Proofs.YtaibcfghokhghaaW.PrintLast Go.Proofs.YtaibcfghokhghaaW.PrintMore Go.Proofs.Ytaibcfghokhghaa.PA
attribute [local go_sem] max2_int min2_int max_two min_two max_three min_three max_four min_four

theorem Rw.own_type {w : World} {e sz n : Nat} {v : Value} {xs : List Value} (h : Rw w e sz v n xs) {g : Nat} (hg : v.ownBlock = some g) : ∃ cur, w.heap[g]? = some (.cells cur e (0, 0)) := by
  rcases h.2 with ⟨rfl, _⟩ | ⟨g2, off, cap, cur, rfl, hh, _⟩
  · simp [Value.ownBlock] at hg
  · have : g2 = g := by simpa [Value.ownBlock] using hg
    subst this
    exact ⟨cur, hh⟩
theorem types_ne {w : World} {g g' : Nat} {cs cs' : Array Value} {t t' : Nat} (h : w.heap[g]? = some (.cells cs t (0, 0))) (h' : w.heap[g']? = some (.cells cs' t' (0, 0))) (hne : t ≠ t') : g ≠ g' := by
  rintro rfl
  rw [h] at h'
  injection h' with h'
  injection h' with _ ht
  exact hne ht
/-- A disk and the document's lie apart. -/
structure Apart2 (bd : Nat) (lv : Value) (bm : Nat) (mv : Value) : Prop where
  bb : bd ≠ bm
  lm : lv.ownBlock ≠ some bm
  ml : mv.ownBlock ≠ some bd
  oo : ∀ g, lv.ownBlock = some g → mv.ownBlock ≠ some g
section
variable {v : Value} {e : Ending} {w w' w4 w5 w6 : World} {bd bm : Nat} {lv mv lv5 mv5 : Value} {D D' M M' D1 M1 : Dsk}
theorem apart2 (hd : IsDisk w bd lv D) (hm : IsRef w bm mv M) : Apart2 bd lv bm mv := by
  refine ⟨types_ne hd.cells hm.cells (by decide), fun e => ?_, fun e => ?_, fun g e1 e2 => ?_⟩
  · obtain ⟨cur, h⟩ := Rw.own_type hd.row e
    exact types_ne h hm.cells (by decide) rfl
  · obtain ⟨cur, h⟩ := Rw.own_type hm.row e
    exact types_ne h hd.cells (by decide) rfl
  · obtain ⟨c1, h1⟩ := Rw.own_type hd.row e1
    obtain ⟨c2, h2⟩ := Rw.own_type hm.row e2
    exact types_ne h1 h2 (by decide) rfl
theorem ref_far (hd : IsDisk w bd lv D) (hm : IsRef w bm mv M) (hk : Kp w w' (fun g => g = bd ∨ lv.ownBlock = some g)) : IsRef w' bm mv M := by
  have ha := apart2 hd hm
  exact hm.kp hk (fun x => x.elim (fun e => ha.bb e.symm) (fun e => ha.lm e)) (fun g hg x => x.elim (fun e => by subst e; exact ha.ml hg) (fun e => ha.oo g e hg))
theorem disk_far (hd : IsDisk w bd lv D) (hm : IsRef w bm mv M) (hk : Kp w w' (fun g => g = bm ∨ mv.ownBlock = some g)) : IsDisk w' bd lv D := by
  have ha := apart2 hd hm
  exact hd.kp hk (fun x => x.elim (fun e => ha.bb e) (fun e => ha.ml e)) (fun g hg x => x.elim (fun e => by subst e; exact ha.lm hg) (fun e => ha.oo g hg e))
/-- What a disk and the document's have come to since a world. -/
structure TK (w : World) (bd : Nat) (lv : Value) (bm : Nat) (mv : Value) (w' : World) (lv' mv' : Value) (D' M' : Dsk) : Prop where
  d : IsDisk w' bd lv' D'
  m : IsRef w' bm mv' M'
  kp : Kp w w' (fun g => g = bd ∨ lv.ownBlock = some g ∨ g = bm ∨ mv.ownBlock = some g)
  fd : ∀ g, lv'.ownBlock = some g → lv.ownBlock = some g ∨ w.heap.size ≤ g
  fm : ∀ g, mv'.ownBlock = some g → mv.ownBlock = some g ∨ w.heap.size ≤ g
theorem TK.start (hd : IsDisk w bd lv D) (hm : IsRef w bm mv M) : TK w bd lv bm mv w lv mv D M := ⟨hd, hm, Kp.refl _ _, fun g hg => .inl hg, fun g hg => .inl hg⟩
theorem TK.below (h : TK w bd lv bm mv w' lv5 mv5 D M) (hb : Below w'.heap.size w' w4) : TK w bd lv bm mv w4 lv5 mv5 D M :=
  ⟨h.d.below hb, h.m.below hb, h.kp.then_below hb, h.fd, h.fm⟩
theorem TK.alloc (h : TK w bd lv bm mv w' lv5 mv5 D M) (o : Obj) : TK w bd lv bm mv (w'.alloc o) lv5 mv5 D M := h.below ((Below.refl _ _).alloc (Nat.le_refl _) o)
theorem TK.drew (h : TK w bd lv bm mv w' lv5 mv5 D M) : TK w bd lv bm mv w'.drew lv5 mv5 D M := ⟨h.d.drew, h.m.drew, h.kp.drew, h.fd, h.fm⟩
theorem TK.drewN (h : TK w bd lv bm mv w' lv5 mv5 D M) (n : Nat) : TK w bd lv bm mv (w'.drewN n) lv5 mv5 D M := ⟨h.d.drewN n, h.m.drewN n, h.kp.drewN n, h.fd, h.fm⟩
theorem TK.disk {lv4 : Value} (h : TK w bd lv bm mv w' lv5 mv5 D M) (d4 : IsDisk w4 bd lv4 D1) (k4 : Kp w' w4 (fun g => g = bd ∨ lv5.ownBlock = some g)) (g4 : ∀ g, lv4.ownBlock = some g → lv5.ownBlock = some g ∨ w'.heap.size ≤ g) :
    TK w bd lv bm mv w4 lv4 mv5 D1 M := by
  refine ⟨d4, ref_far h.d h.m k4, h.kp.trans k4 (fun j hj x => x.elim .inl (fun y => (h.fd j y).elim (fun z => .inr (.inl z)) (fun z => by omega))), fun g hg => ?_, h.fm⟩
  rcases g4 g hg with h3 | h3
  · exact h.fd g h3
  · have := h.kp.size
    exact .inr (by omega)
theorem TK.ref {mv4 : Value} (h : TK w bd lv bm mv w' lv5 mv5 D M) (m4 : IsRef w4 bm mv4 M1) (k4 : Kp w' w4 (fun g => g = bm ∨ mv5.ownBlock = some g)) (g4 : ∀ g, mv4.ownBlock = some g → mv5.ownBlock = some g ∨ w'.heap.size ≤ g) :
    TK w bd lv bm mv w4 lv5 mv4 D M1 := by
  refine ⟨disk_far h.d h.m k4, m4, h.kp.trans k4 (fun j hj x => x.elim (fun y => .inr (.inr (.inl y))) (fun y => (h.fm j y).elim (fun z => .inr (.inr (.inr z))) (fun z => by omega))), h.fd, fun g hg => ?_⟩
  rcases g4 g hg with h3 | h3
  · exact h.fm g h3
  · have := h.kp.size
    exact .inr (by omega)
/-- A block that is new since the world stays as it is. -/
theorem TK.far_d {b2 : Nat} {o : Obj} (h : TK w bd lv bm mv w' lv5 mv5 D M) (hk : Kp w' w4 (fun g => g = bd ∨ lv5.ownBlock = some g)) (hb : w'.heap[b2]? = some o) (n1 : b2 ≠ bd) (n2 : lv5.ownBlock ≠ some b2) : w4.heap[b2]? = some o :=
  hk.at hb (fun x => x.elim (fun e => n1 e) (fun e => n2 e))
/-- The act's block, of another type than any of the disks', stays as it is. -/
theorem act_far {b2 : Nat} {cs : Array Value} (hd : IsDisk w' bd lv5 D) (hk : Kp w' w4 (fun g => g = bd ∨ lv5.ownBlock = some g)) (hb : w'.heap[b2]? = some (.cells cs 33 (0, 0))) : w4.heap[b2]? = some (.cells cs 33 (0, 0)) := by
  refine hk.at hb (fun x => x.elim (fun e => types_ne hb hd.cells (by decide) e) (fun e => ?_))
  obtain ⟨cur, h⟩ := Rw.own_type hd.row e
  exact types_ne h hb (by decide) rfl
theorem act_far_m {b2 : Nat} {cs : Array Value} (hm : IsRef w' bm mv5 M) (hk : Kp w' w4 (fun g => g = bm ∨ mv5.ownBlock = some g)) (hb : w'.heap[b2]? = some (.cells cs 33 (0, 0))) : w4.heap[b2]? = some (.cells cs 33 (0, 0)) := by
  refine hk.at hb (fun x => x.elim (fun e => types_ne hb hm.cells (by decide) e) (fun e => ?_))
  obtain ⟨cur, h⟩ := Rw.own_type hm.row e
  exact types_ne h hb (by decide) rfl
end
abbrev aCells (x0 : Int) (x1 x2 : ByteArray) (x3 x4 : Int) : Array Value := #[.int .u8 x0, .string x1, .string x2, .int .i64 x3, .int .i64 x4]
theorem act_cells {W : World} {g : Nat} {x0 x3 x4 : Int} {x1 x2 : ByteArray} (h : W.heap[g]? = some (.cells (aCells x0 x1 x2 x3 x4) 33 (0, 0))) :
    W.cell? ⟨g, 1, none⟩ = some (.string x1) ∧ W.cell? ⟨g, 2, none⟩ = some (.string x2) := by
  constructor <;> simp [World.cell?, h]
theorem act_cells34 {W : World} {g : Nat} {x0 x3 x4 : Int} {x1 x2 : ByteArray} (h : W.heap[g]? = some (.cells (aCells x0 x1 x2 x3 x4) 33 (0, 0))) :
    W.cell? ⟨g, 3, none⟩ = some (.int .i64 x3) ∧ W.cell? ⟨g, 4, none⟩ = some (.int .i64 x4) := by
  constructor <;> simp [World.cell?, h]
/-- What is asked of a disk ahead of an act. -/
structure Ok (D : Dsk) (name : ByteArray) (p : Nat) : Prop where
  len : D.l.length ≤ 100000
  low : Lower D.l name p
  f1 : D.fuse ≤ 9223372036854775807
  f2 : -9223372036854775808 ≤ D.fuse

set_option maxHeartbeats 4000000 in
set_option maxRecDepth 100000 in
theorem act_put0 (k : Nat) (w : World) (bd : Nat) (lv : Value) (bm : Nat) (mv : Value) (D M M1 : Dsk) (x0 x3 x4 : Int) (x1 x2 : ByteArray) (p : Nat) (hd : IsDisk w bd lv D) (hm : IsRef w bm mv M) (ho : Ok D x1 p) (hf1 : M.fuse ≤ 9223372036854775807) (hf2 : -9223372036854775808 ≤ M.fuse) (h2 : x2.size ≤ 1000000)
    (hw : Int.tmod x0 6 = 0) (hwr : writeF k M x1 x2 false = some ((putF D x1 x2 p).1, M1)) :
    Calls Try.prog 8 #[.pointer (some ⟨bd, 0, none⟩), .pointer (some ⟨bm, 0, none⟩), .agg #[.int .u8 x0, .string x1, .string x2, .int .i64 x3, .int .i64 x4]] w fun e w' => e = .returned (.bool true) ∧ ∃ lv' mv', TK w bd lv bm mv w' lv' mv' (putF D x1 x2 p).2 M1 := by
  have HT := Aside0.mk (TK.start hd hm)
  have HO := Aside0.mk ho
  have HW := Aside0.mk hwr
  have HX := Aside0.mk (show (w.alloc (.cells (aCells x0 x1 x2 x3 x4) 33)).drew.heap[w.heap.size]? = some (.cells (aCells x0 x1 x2 x3 x4) 33 (0, 0)) from heap_alloc_new w _)
  obtain ⟨n, hn⟩ : ∃ n, (putF D x1 x2 p).1 = n := ⟨_, rfl⟩
  obtain ⟨D1, hD1⟩ : ∃ D1, (putF D x1 x2 p).2 = D1 := ⟨_, rfl⟩
  rw [hD1]
  have HN := Aside0.mk hn
  have HD1 := Aside0.mk hD1
  clear hd hm ho hwr hn hD1
  go_enter Try.func8, Try.ntmps8
  go_wp2
  go_region_held3 (fun w' => w'.cell? ⟨w.heap.size, 1, none⟩ = some (.string x1) ∧ w'.cell? ⟨w.heap.size, 2, none⟩ = some (.string x2)) (first | go_keep | exact HQ5 | exact ⟨trivial, trivial⟩)
    (first
      | (go_at_call 19; (with_reducible refine (write_calls k _ bm mv M M1 x1 x2 false _ HTa.out.m h2 hf1 hf2 HW.out).mono ?_); rintro e w6 ⟨rfl, mv6, hM6, hK6, hF6⟩; have HT6 := Aside0.mk (TK.ref HTa.out hM6 hK6 hF6); have HQ5 := act_cells (act_far_m HTa.out.m hK6 HXa.out); clear hM6 hK6 hF6)
      | (go_at_call 14; refine (put_calls _ bd lv D x1 x2 p ((TK.drew (TK.alloc HT.out _)).d) HO.out.len HO.out.low HO.out.f1 HO.out.f2 h2).mono ?_; rintro e w5 ⟨rfl, lv5, hD5, hK5, hF5⟩; have HTa := Aside0.mk (TK.disk (TK.drew (TK.alloc HT.out _)) hD5 hK5 hF5); have HXa := Aside0.mk (act_far (TK.drew (TK.alloc HT.out _)).d hK5 HX.out); have HQ5 := act_cells HXa.out; clear hD5 hK5 hF5))
  go_wp2
  go_ret
  rw [← HD1.out]
  exact ⟨rfl, _, _, HT6.out⟩
set_option maxHeartbeats 4000000 in
set_option maxRecDepth 100000 in
theorem act_put1 (k : Nat) (w : World) (bd : Nat) (lv : Value) (bm : Nat) (mv : Value) (D M M1 : Dsk) (x0 x3 x4 : Int) (x1 x2 : ByteArray) (p : Nat) (hd : IsDisk w bd lv D) (hm : IsRef w bm mv M) (ho : Ok D x1 p) (hf1 : M.fuse ≤ 9223372036854775807) (hf2 : -9223372036854775808 ≤ M.fuse) (h2 : x2.size ≤ 1000000)
    (hw : Int.tmod x0 6 = 1) (hwr : writeF k M x1 x2 false = some ((putF D x1 x2 p).1, M1)) :
    Calls Try.prog 8 #[.pointer (some ⟨bd, 0, none⟩), .pointer (some ⟨bm, 0, none⟩), .agg #[.int .u8 x0, .string x1, .string x2, .int .i64 x3, .int .i64 x4]] w fun e w' => e = .returned (.bool true) ∧ ∃ lv' mv', TK w bd lv bm mv w' lv' mv' (putF D x1 x2 p).2 M1 := by
  have HT := Aside0.mk (TK.start hd hm)
  have HO := Aside0.mk ho
  have HW := Aside0.mk hwr
  have HX := Aside0.mk (show (w.alloc (.cells (aCells x0 x1 x2 x3 x4) 33)).drew.heap[w.heap.size]? = some (.cells (aCells x0 x1 x2 x3 x4) 33 (0, 0)) from heap_alloc_new w _)
  obtain ⟨n, hn⟩ : ∃ n, (putF D x1 x2 p).1 = n := ⟨_, rfl⟩
  obtain ⟨D1, hD1⟩ : ∃ D1, (putF D x1 x2 p).2 = D1 := ⟨_, rfl⟩
  rw [hD1]
  have HN := Aside0.mk hn
  have HD1 := Aside0.mk hD1
  clear hd hm ho hwr hn hD1
  go_enter Try.func8, Try.ntmps8
  go_wp2
  go_region_held3 (fun w' => w'.cell? ⟨w.heap.size, 1, none⟩ = some (.string x1) ∧ w'.cell? ⟨w.heap.size, 2, none⟩ = some (.string x2)) (first | go_keep | exact HQ5 | exact ⟨trivial, trivial⟩)
    (first
      | (go_at_call 19; (with_reducible refine (write_calls k _ bm mv M M1 x1 x2 false _ HTa.out.m h2 hf1 hf2 HW.out).mono ?_); rintro e w6 ⟨rfl, mv6, hM6, hK6, hF6⟩; have HT6 := Aside0.mk (TK.ref HTa.out hM6 hK6 hF6); have HQ5 := act_cells (act_far_m HTa.out.m hK6 HXa.out); clear hM6 hK6 hF6)
      | (go_at_call 14; refine (put_calls _ bd lv D x1 x2 p ((TK.drew (TK.alloc HT.out _)).d) HO.out.len HO.out.low HO.out.f1 HO.out.f2 h2).mono ?_; rintro e w5 ⟨rfl, lv5, hD5, hK5, hF5⟩; have HTa := Aside0.mk (TK.disk (TK.drew (TK.alloc HT.out _)) hD5 hK5 hF5); have HXa := Aside0.mk (act_far (TK.drew (TK.alloc HT.out _)).d hK5 HX.out); have HQ5 := act_cells HXa.out; clear hD5 hK5 hF5))
  go_wp2
  go_ret
  rw [← HD1.out]
  exact ⟨rfl, _, _, HT6.out⟩
set_option maxHeartbeats 4000000 in
set_option maxRecDepth 100000 in
theorem act_drop (k : Nat) (w : World) (bd : Nat) (lv : Value) (bm : Nat) (mv : Value) (D M M1 : Dsk) (x0 x3 x4 : Int) (x1 x2 : ByteArray) (p : Nat) (hd : IsDisk w bd lv D) (hm : IsRef w bm mv M) (ho : Ok D x1 p) (hf1 : M.fuse ≤ 9223372036854775807) (hf2 : -9223372036854775808 ≤ M.fuse)
    (hw : Int.tmod x0 6 = 2) (hwr : writeF k M x1 ⟨#[]⟩ true = some ((dropF D x1 p).1, M1)) :
    Calls Try.prog 8 #[.pointer (some ⟨bd, 0, none⟩), .pointer (some ⟨bm, 0, none⟩), .agg #[.int .u8 x0, .string x1, .string x2, .int .i64 x3, .int .i64 x4]] w fun e w' => e = .returned (.bool true) ∧ ∃ lv' mv', TK w bd lv bm mv w' lv' mv' (dropF D x1 p).2 M1 := by
  have HT := Aside0.mk (TK.start hd hm)
  have HO := Aside0.mk ho
  have HW := Aside0.mk hwr
  have HX := Aside0.mk (show (w.alloc (.cells (aCells x0 x1 x2 x3 x4) 33)).drew.heap[w.heap.size]? = some (.cells (aCells x0 x1 x2 x3 x4) 33 (0, 0)) from heap_alloc_new w _)
  obtain ⟨n, hn⟩ : ∃ n, (dropF D x1 p).1 = n := ⟨_, rfl⟩
  obtain ⟨D1, hD1⟩ : ∃ D1, (dropF D x1 p).2 = D1 := ⟨_, rfl⟩
  rw [hD1]
  have HN := Aside0.mk hn
  have HD1 := Aside0.mk hD1
  clear hd hm ho hwr hn hD1
  go_enter Try.func8, Try.ntmps8
  go_wp2
  go_region_held3 (fun w' => w'.cell? ⟨w.heap.size, 1, none⟩ = some (.string x1) ∧ w'.cell? ⟨w.heap.size, 2, none⟩ = some (.string x2)) (first | go_keep | exact HQ5 | exact ⟨trivial, trivial⟩)
    (first
      | (go_at_call 19; (with_reducible refine (write_calls k _ bm mv M M1 x1 ⟨#[]⟩ true _ HTa.out.m (by decide) hf1 hf2 HW.out).mono ?_); rintro e w6 ⟨rfl, mv6, hM6, hK6, hF6⟩; have HT6 := Aside0.mk (TK.ref HTa.out hM6 hK6 hF6); have HQ5 := act_cells (act_far_m HTa.out.m hK6 HXa.out); clear hM6 hK6 hF6)
      | (go_at_call 18; refine (drop_calls _ bd lv D x1 p ((TK.drew (TK.alloc HT.out _)).d) HO.out.len HO.out.low HO.out.f1 HO.out.f2).mono ?_; rintro e w5 ⟨rfl, lv5, hD5, hK5, hF5⟩; have HTa := Aside0.mk (TK.disk (TK.drew (TK.alloc HT.out _)) hD5 hK5 hF5); have HXa := Aside0.mk (act_far (TK.drew (TK.alloc HT.out _)).d hK5 HX.out); have HQ5 := act_cells HXa.out; clear hD5 hK5 hF5))
  go_wp2
  go_ret
  rw [← HD1.out]
  exact ⟨rfl, _, _, HT6.out⟩
set_option maxHeartbeats 4000000 in
set_option maxRecDepth 100000 in
theorem act_fail (k : Nat) (w : World) (bd : Nat) (lv : Value) (bm : Nat) (mv : Value) (D M : Dsk) (x0 x3 x4 : Int) (x1 x2 : ByteArray) (p : Nat) (hd : IsDisk w bd lv D) (hm : IsRef w bm mv M) (hw : Int.tmod x0 6 = 3) :
    Calls Try.prog 8 #[.pointer (some ⟨bd, 0, none⟩), .pointer (some ⟨bm, 0, none⟩), .agg #[.int .u8 x0, .string x1, .string x2, .int .i64 x3, .int .i64 x4]] w fun e w' => e = .returned (.bool true) ∧ ∃ lv' mv', TK w bd lv bm mv w' lv' mv' { D with fuse := max x3 (-1), part := x4 } { M with fuse := if x3 < 0 then -1 else x3, part := x4 } := by
  have HT := Aside0.mk (TK.start hd hm)
  have HX := Aside0.mk (show (w.alloc (.cells (aCells x0 x1 x2 x3 x4) 33)).heap[w.heap.size]? = some (.cells (aCells x0 x1 x2 x3 x4) 33 (0, 0)) from heap_alloc_new w _)
  have hne : bm ≠ w.heap.size := by have := hm.lt; omega
  clear hd hm
  by_cases c3 : x3 < 0
  · rw [if_pos c3]
    have e1 : decide (x3 < 0) = true := decide_eq_true c3
    clear c3
    go_enter Try.func8, Try.ntmps8
    go_wp2_with (go_at_call 13; refine (fail_calls _ bd lv D x3 x4 (TK.alloc HT.out _).d).mono ?_; rintro e w5 ⟨rfl, lv5, hD5, hK5, hF5⟩; have HTa := Aside0.mk (TK.disk (TK.alloc HT.out _) hD5 hK5 hF5); obtain ⟨a3, a4⟩ := act_cells34 (act_far (TK.alloc HT.out _).d hK5 HX.out); obtain ⟨m0, m1, m2, m3, mf⟩ := HTa.out.m.facts; have mf1 := mf 1; have mf2 := mf 2; clear hD5 hK5 hF5 m0 m3 mf)
    go_ret
    exact ⟨rfl, _, _, TK.ref HTa.out (((HTa.out.m.set 1 (.int .i64 x3) (M' := { M with fuse := x3 }) rfl rfl).set 2 (.int .i64 x4) (M' := { M with fuse := x3, part := x4 }) rfl rfl).set 1 (.int .i64 (-1)) (M' := { M with fuse := -1, part := x4 }) rfl rfl) ((((Kp.refl _ _).setCell _ _ (fun _ => .inl rfl)).setCell _ _ (fun _ => .inl rfl)).setCell _ _ (fun _ => .inl rfl)) (fun g hg => .inl hg)⟩
  · rw [if_neg c3]
    have e1 : decide (x3 < 0) = false := decide_eq_false c3
    clear c3
    go_enter Try.func8, Try.ntmps8
    go_wp2_with (go_at_call 13; refine (fail_calls _ bd lv D x3 x4 (TK.alloc HT.out _).d).mono ?_; rintro e w5 ⟨rfl, lv5, hD5, hK5, hF5⟩; have HTa := Aside0.mk (TK.disk (TK.alloc HT.out _) hD5 hK5 hF5); obtain ⟨a3, a4⟩ := act_cells34 (act_far (TK.alloc HT.out _).d hK5 HX.out); obtain ⟨m0, m1, m2, m3, mf⟩ := HTa.out.m.facts; have mf1 := mf 1; have mf2 := mf 2; clear hD5 hK5 hF5 m0 m3 mf)
    go_ret
    exact ⟨rfl, _, _, TK.ref HTa.out ((HTa.out.m.set 1 (.int .i64 x3) (M' := { M with fuse := x3 }) rfl rfl).set 2 (.int .i64 x4) (M' := { M with fuse := x3, part := x4 }) rfl rfl) (((Kp.refl _ _).setCell _ _ (fun _ => .inl rfl)).setCell _ _ (fun _ => .inl rfl)) (fun g hg => .inl hg)⟩
set_option maxHeartbeats 4000000 in
set_option maxRecDepth 100000 in
theorem act_restart (k : Nat) (w : World) (bd : Nat) (lv : Value) (bm : Nat) (mv : Value) (D M : Dsk) (x0 x3 x4 : Int) (x1 x2 : ByteArray) (p : Nat) (hd : IsDisk w bd lv D) (hm : IsRef w bm mv M) (hw : Int.tmod x0 6 = 4) :
    Calls Try.prog 8 #[.pointer (some ⟨bd, 0, none⟩), .pointer (some ⟨bm, 0, none⟩), .agg #[.int .u8 x0, .string x1, .string x2, .int .i64 x3, .int .i64 x4]] w fun e w' => e = .returned (.bool true) ∧ ∃ lv' mv', TK w bd lv bm mv w' lv' mv' { D with fuse := -1, down := false } { M with fuse := -1, down := false } := by
  have HT := Aside0.mk (TK.start hd hm)
  have HX := Aside0.mk (show (w.alloc (.cells (aCells x0 x1 x2 x3 x4) 33)).heap[w.heap.size]? = some (.cells (aCells x0 x1 x2 x3 x4) 33 (0, 0)) from heap_alloc_new w _)
  have hne : bm ≠ w.heap.size := by have := hm.lt; omega
  clear hd hm
  go_enter Try.func8, Try.ntmps8
  go_wp2_with (go_at_call 12; refine (restart_calls _ bd lv D (TK.alloc HT.out _).d).mono ?_; rintro e w5 ⟨rfl, lv5, hD5, hK5, hF5⟩; have HTa := Aside0.mk (TK.disk (TK.alloc HT.out _) hD5 hK5 hF5); obtain ⟨m0, m1, m2, m3, mf⟩ := HTa.out.m.facts; have mf1 := mf 1; have mf3 := mf 3; clear hD5 hK5 hF5 m0 m2 mf)
  go_ret
  exact ⟨rfl, _, _, TK.ref HTa.out ((HTa.out.m.set 1 (.int .i64 (-1)) (M' := { M with fuse := -1 }) rfl rfl).set 3 (.bool false) (M' := { M with fuse := -1, down := false }) rfl rfl) (((Kp.refl _ _).setCell _ _ (fun _ => .inl rfl)).setCell _ _ (fun _ => .inl rfl)) (fun g hg => .inl hg)⟩
set_option maxHeartbeats 4000000 in
set_option maxRecDepth 100000 in
theorem act_get (k : Nat) (w : World) (bd : Nat) (lv : Value) (bm : Nat) (mv : Value) (D M : Dsk) (x0 x3 x4 : Int) (x1 x2 : ByteArray) (p : Nat) (hd : IsDisk w bd lv D) (hm : IsRef w bm mv M) (ho : Ok D x1 p) (hl : M.l.length ≤ 1000000) (t : ByteArray × Bool) (hg : knapsackref21_Get.f k (rl M.l) x1 = some t) (ht : if M.down = true then getF D x1 p = (⟨#[]⟩, false) else getF D x1 p = t) (hw : Int.tmod x0 6 = 5) :
    Calls Try.prog 8 #[.pointer (some ⟨bd, 0, none⟩), .pointer (some ⟨bm, 0, none⟩), .agg #[.int .u8 x0, .string x1, .string x2, .int .i64 x3, .int .i64 x4]] w fun e w' => e = .returned (.bool true) ∧ ∃ lv' mv', TK w bd lv bm mv w' lv' mv' D M := by
  have HT := Aside0.mk (TK.start hd hm)
  have HX := Aside0.mk (show (w.alloc (.cells (aCells x0 x1 x2 x3 x4) 33)).heap[w.heap.size]? = some (.cells (aCells x0 x1 x2 x3 x4) 33 (0, 0)) from heap_alloc_new w _)
  have HO := Aside0.mk ho
  have HG := Aside0.mk hg
  obtain ⟨A, c, rfl, hlc, _⟩ := Rw.reads51 hm.row (by omega)
  obtain ⟨t1, t2⟩ := t
  cases hdn : M.down with
  | true =>
    rw [if_pos hdn] at ht
    have HE := Aside0.mk ht
    have HDN := Aside0.mk hdn
    clear hd hm ho hg ht hdn
    go_enter Try.func8, Try.ntmps8
    go_wp2_with (go_at_call 16; refine (get_calls _ bd lv D x1 p (TK.alloc HT.out _).d HO.out.len HO.out.low).mono ?_; rintro e w5 ⟨rfl, hb5⟩; have HT5 := Aside0.mk (TK.below (TK.alloc HT.out _) hb5); rw [HE.out]; obtain ⟨a1, a2⟩ := act_cells ((hb5.block _ (by simp)).trans HX.out); obtain ⟨m0, m1, m2, m3, mf⟩ := HT5.out.m.facts; rw [HDN.out] at m3; clear hb5 m1 m2 mf)
    go_quiet ((go_at_call 20; exact Calls.quiet_of ((knapsackref21_Get.calls k A c (rl M.l) x1 t1 t2 _ (Kd.C_drewN (ref_C HT5.out.m rfl hl) _) hlc HG.out).mono fun _ _ x => ⟨x.1, x.2.out⟩)))
    go_wp2
    go_ret
    exact ⟨rfl, _, _, TK.drewN HT5.out _⟩
  | false =>
    rw [if_neg (by rw [hdn]; simp)] at ht
    have HE := Aside0.mk ht
    have HDN := Aside0.mk hdn
    clear hd hm ho hg ht hdn
    go_enter Try.func8, Try.ntmps8
    go_wp2_with (go_at_call 16; refine (get_calls _ bd lv D x1 p (TK.alloc HT.out _).d HO.out.len HO.out.low).mono ?_; rintro e w5 ⟨rfl, hb5⟩; have HT5 := Aside0.mk (TK.below (TK.alloc HT.out _) hb5); rw [HE.out]; obtain ⟨a1, a2⟩ := act_cells ((hb5.block _ (by simp)).trans HX.out); obtain ⟨m0, m1, m2, m3, mf⟩ := HT5.out.m.facts; rw [HDN.out] at m3; clear hb5 m1 m2 mf)
    go_quiet ((go_at_call 20; exact Calls.quiet_of ((knapsackref21_Get.calls k A c (rl M.l) x1 t1 t2 _ (Kd.C_drewN (ref_C HT5.out.m rfl hl) _) hlc HG.out).mono fun _ _ x => ⟨x.1, x.2.out⟩)))
    go_wp2
    go_ret
    exact ⟨rfl, _, _, TK.drewN HT5.out _⟩
end Go.Proofs.Ytaibcfghokhghaa.Dk
