/- link, in plain Lean: two ends and what is on the way, whatever comes; the law's net stays true at each step. -/
import Derived.Test.YtnmnplbjhejejaaLp1
set_option linter.unusedVariables false
set_option linter.unusedSimpArgs false
namespace Go.Proofs.Ytnmnplbjhejejaa.Lp
open Go.RowKit Go.Proofs.YtnmnplbjhejejaaW.PrintWords Go.Proofs.YtnmnplbjhejejaaW.PrintLast Go.Proofs.YtnmnplbjhejejaaW.PrintMore Go.Proofs.Ytnmnplbjhejejaa.PA Go.Proofs.Ytnmnplbjhejejaa.Base Go.Proofs.Ytnmnplbjhejejaa.Lk
open Go.Proofs.Ytnmnplbjhejejaa.Vi
open Go.Proofs.Ytnmnplbjhejejaa.Cr (seal_ open_ seal_length open_seal open_turned seal_ev open_ev opened)

abbrev allOf (sent : List ByteArray) : List Pt := sent.flatMap partsOf
theorem partsOf_small {m : ByteArray} : ∀ p ∈ partsOf m, p.1.size ≤ 200 := partsGo_small m.size m (Nat.le_refl _)
theorem allOf_small {sent : List ByteArray} : ∀ p ∈ allOf sent, p.1.size ≤ 200 := by
  intro p hp
  obtain ⟨m, _, hm⟩ := List.mem_flatMap.mp hp
  exact partsOf_small p hm
/-- Two ends, a and b. na, nb: how many of their parts were confirmed; ta, tb: how many they took. sa, sb: what they sent; da, db: what they were told; wa, wb: what is on the way to them. -/
structure Two (na nb ta tb : Nat) (sa sb da db : List ByteArray) (ea eb : En) (wa wb : List ByteArray) (pa pb : List Pk) : Prop where
  ca : ea.conn = 3
  cb : eb.conn = 3
  numa : ea.number = ((na + 1 : Nat) : Int)
  numb : eb.number = ((nb + 1 : Nat) : Int)
  tka : ea.took = (ta : Int)
  tkb : eb.took = (tb : Int)
  fa : Flow sa ea.parts na ta tb eb.text db pb
  fb : Flow sb eb.parts nb tb ta ea.text da pa
  wa_ : wa = pa.map pktB
  wb_ : wb = pb.map pktB
def Pair (sa sb da db : List ByteArray) (ea eb : En) (wa wb : List ByteArray) : Prop := ∃ na nb ta tb pa pb, Two na nb ta tb sa sb da db ea eb wa wb pa pb
section
variable {na nb ta tb : Nat} {sa sb da db : List ByteArray} {ea eb : En} {wa wb : List ByteArray} {pa pb : List Pk}
theorem Two.symm (h : Two na nb ta tb sa sb da db ea eb wa wb pa pb) : Two nb na tb ta sb sa db da eb ea wb wa pb pa :=
  ⟨h.cb, h.ca, h.numb, h.numa, h.tkb, h.tka, h.fb, h.fa, h.wb_, h.wa_⟩
theorem Pair.symm (h : Pair sa sb da db ea eb wa wb) : Pair sb sa db da eb ea wb wa := by
  obtain ⟨na, nb, ta, tb, pa, pb, h⟩ := h
  exact ⟨_, _, _, _, _, _, h.symm⟩
theorem Two.le (h : Two na nb ta tb sa sb da db ea eb wa wb pa pb) (hA : (allOf sa).length ≤ 100000) (hB : (allOf sb).length ≤ 100000) : na ≤ 100000 ∧ nb ≤ 100000 ∧ ta ≤ 100000 ∧ tb ≤ 100000 := by
  have h1 := h.fa.le3
  have h2 := h.fa.le1
  have h3 := h.fb.le3
  have h4 := h.fb.le1
  show na ≤ 100000 ∧ nb ≤ 100000 ∧ ta ≤ 100000 ∧ tb ≤ 100000
  have e1 : (allOf sa).length = (sa.flatMap partsOf).length := rfl
  have e2 : (allOf sb).length = (sb.flatMap partsOf).length := rfl
  omega
theorem Two.text (h : Two na nb ta tb sa sb da db ea eb wa wb pa pb) (hA : (allOf sa).length ≤ 100000) (hB : (allOf sb).length ≤ 100000) : ea.text.size ≤ 1000000000 := by
  have h1 := takeAll_text ((sb.flatMap partsOf).take ta) (fun p hp => allOf_small p (List.mem_of_mem_take hp)) ([], nobytes)
  rw [h.fb.got] at h1
  have h2 : ((sb.flatMap partsOf).take ta).length ≤ 100000 := Nat.le_trans (List.length_take_le' _ _) hB
  have h3 : nobytes.size = 0 := rfl
  show ea.text.size ≤ 1000000000
  simp only [h3] at h1
  omega
theorem Two.send (h : Two na nb ta tb sa sb da db ea eb wa wb pa pb) (x : ByteArray) : Two na nb ta tb (sa ++ [x]) sb da db { ea with parts := ea.parts ++ partsOf x } eb wa wb pa pb :=
  { h with fa := h.fa.send x }
theorem parts_small (h : Two na nb ta tb sa sb da db ea eb wa wb pa pb) : ∀ p ∈ ea.parts, p.1.size ≤ 100000 := by
  intro p hp
  rw [h.fa.parts] at hp
  have := allOf_small (sent := sa) p (List.mem_of_mem_drop hp)
  omega
theorem Two.tick_ev (h : Two na nb ta tb sa sb da db ea eb wa wb pa pb) (hA : (allOf sa).length ≤ 100000) (hB : (allOf sb).length ≤ 100000) : Ev (fun k => tickF k ea) (pktB (tickPk ea.parts na ta)) := by
  obtain ⟨h1, h2, h3, h4⟩ := h.le hA hB
  exact tickF_ev ea na ta h.ca h.numa h.tka (by omega) (by omega) (parts_small h)
theorem Two.tick (h : Two na nb ta tb sa sb da db ea eb wa wb pa pb) : Two na nb ta tb sa sb da db ea eb wa (wb ++ [pktB (tickPk ea.parts na ta)]) pa (pb ++ [tickPk ea.parts na ta]) :=
  { h with fa := h.fa.tick, wb_ := by rw [h.wb_]; simp }
theorem pk_sizes {all : List Pt} {n t : Nat} {p : Pk} (h : PkOk all n t p) (hs : ∀ p ∈ all, p.1.size ≤ 200) (hn : n ≤ 100000) (ht : t ≤ 100000) : p.number ≤ 2000000 ∧ p.took ≤ 2000000 ∧ p.text.size ≤ 100000 := by
  obtain ⟨h1, h2⟩ := h
  rcases h2 with ⟨h2, h3, _⟩ | ⟨h2, h3, h4⟩
  · refine ⟨by omega, by omega, ?_⟩
    rw [h3]; decide
  · refine ⟨by omega, by omega, ?_⟩
    have := hs _ (List.mem_of_getElem? h4)
    simp only at this
    omega
/-- A packet comes to a. -/
theorem Two.recv (h : Two na nb ta tb sa sb da db ea eb wa wb pa pb) (hA : (allOf sa).length ≤ 100000) (hB : (allOf sb).length ≤ 100000) {p : Pk} (hp : PkOk (allOf sb) nb tb p) :
    Ev (fun k => recvF k ea (pktB p)) ((recvTo ea na ta p).1, (recvTo ea na ta p).2, true) ∧ (recvTo ea na ta p).2.length ≤ 1 ∧
      Two (if na < (allOf sa).length ∧ p.took = na + 1 then na + 1 else na) nb (if p.number = ta + 1 then ta + 1 else ta) tb sa sb (da ++ (recvTo ea na ta p).2) db (recvTo ea na ta p).1 eb wa wb pa pb := by
  obtain ⟨h1, h2, h3, h4⟩ := h.le hA hB
  obtain ⟨g1, g2, g3⟩ := pk_sizes hp allOf_small h2 h4
  refine ⟨recvF_ev ea na ta p h.ca h.numa h.tka (by omega) (by omega) g1 g2 g3 (h.text hA hB), ?_, ?_⟩
  · unfold recvTo
    split
    · simp only; split <;> simp
    · simp
  · -- the head is confirmed, or not
    have hne : ea.parts ≠ [] ↔ na < (allOf sa).length := by
      rw [h.fa.parts]
      show ¬ _ ↔ _
      rw [List.drop_eq_nil_iff]
      show ¬ (allOf sa).length ≤ na ↔ _
      omega
    have hconf : Two (if na < (allOf sa).length ∧ p.took = na + 1 then na + 1 else na) nb ta tb sa sb da db (confE ea na p) eb wa wb pa pb := by
      unfold confE
      by_cases c : na < (allOf sa).length ∧ p.took = na + 1
      · rw [if_pos c, if_pos ⟨hne.mpr c.1, c.2⟩]
        have hc := h.fa.confirm (by have := hp.1; omega)
        refine { h with ca := h.ca, numa := ?_, tka := h.tka, fa := hc }
        show IntKind.u64.wrap (ea.number + 1) = _
        rw [h.numa]
        exact wu (na + 1 + 1) (by omega)
      · rw [if_neg c, if_neg (fun x => c ⟨hne.mp x.1, x.2⟩)]
        exact h
    unfold recvTo
    by_cases hn : p.number = ta + 1
    · rw [if_pos hn, if_pos hn]
      obtain ⟨e1, hf⟩ := hconf.fb.next hp hn
      have hfa := hconf.fa.took (show ta ≤ ta + 1 by omega)
      have ht : (confE ea na p).text = ea.text := confE_text _ _ _
      refine { hconf with ca := hconf.ca, numa := hconf.numa, tka := rfl, fa := hfa, fb := ?_ }
      rw [ht] at hf
      unfold nextTold at hf
      cases hl : p.last with
      | true => rw [hl] at hf; exact hf
      | false =>
        rw [hl] at hf
        simpa using hf
    · rw [if_neg hn, if_neg hn]
      simpa using hconf
/-- A packet with a byte turned comes to a. -/
theorem pktB_size (p : Pk) : 0 < (pktB p).size := by
  unfold pktB pktL
  rw [mkB_size, seal_length]
  omega
theorem turn_bad (E : En) (p : Pk) (g1 : p.number ≤ 2000000) (g2 : p.took ≤ 2000000) (g3 : p.text.size ≤ 100000) (t : Nat) (ht : t < (pktB p).size) (z : UInt8) (hz : z ≠ 0) :
    Ev (fun k => recvF k E (turnS (pktB p) t ((pktB p).data.toList.getD t 0 ^^^ z))) (E, [], false) := by
  have hb := bodyL_length 3 p.number p.text.data.toList p.last p.took (by omega) (by omega) (by simpa using g3) (by omega)
  have hl : (pktL 3 p.number p.text.data.toList p.last p.took).length ≤ 1000000 := by unfold pktL; rw [seal_length]; omega
  have hd : (pktB p).data.toList = pktL 3 p.number p.text.data.toList p.last p.took := rfl
  have ht' : t < (pktL 3 p.number p.text.data.toList p.last p.took).length := by unfold pktB at ht; rw [mkB_size] at ht; exact ht
  unfold turnS
  rw [hd]
  refine recvF_bad E _ (read_turned 3 p.number p.text.data.toList p.last p.took hl t ht' _ ?_)
  rw [List.getD_eq_getElem?_getD, List.getElem?_eq_getElem ht']
  intro e
  apply hz
  have e2 := congrArg (fun q => (pktL 3 p.number p.text.data.toList p.last p.took)[t] ^^^ q) e
  simp only [Option.getD_some, ← UInt8.xor_assoc, UInt8.xor_self, UInt8.zero_xor] at e2
  exact e2.symm
theorem Two.mem_wa (h : Two na nb ta tb sa sb da db ea eb wa wb pa pb) {s : ByteArray} (hs : s ∈ wa) : ∃ p, p ∈ pa ∧ s = pktB p ∧ PkOk (allOf sb) nb tb p := by
  rw [h.wa_] at hs
  obtain ⟨p, hp, rfl⟩ := List.mem_map.mp hs
  exact ⟨p, hp, rfl, h.fb.way p hp⟩
end
end Go.Proofs.Ytnmnplbjhejejaa.Lp
namespace Go.Proofs.Ytnmnplbjhejejaa.Lp
open Go.RowKit Go.Proofs.YtnmnplbjhejejaaW.PrintWords Go.Proofs.YtnmnplbjhejejaaW.PrintLast Go.Proofs.YtnmnplbjhejejaaW.PrintMore Go.Proofs.Ytnmnplbjhejejaa.PA Go.Proofs.Ytnmnplbjhejejaa.Base Go.Proofs.Ytnmnplbjhejejaa.Lk

theorem allOf_length (sent : List ByteArray) (h : ∀ m ∈ sent, m.size ≤ 700) : (allOf sent).length ≤ 701 * sent.length := by
  induction sent with
  | nil => simp
  | cons m l ih =>
    have h1 := ih (fun x hx => h x (by simp [hx]))
    have h2 := h m (by simp)
    have h3 := partsOf_length m
    show ((m :: l).flatMap partsOf).length ≤ _
    have h1' : (l.flatMap partsOf).length ≤ 701 * l.length := h1
    rw [List.flatMap_cons, List.length_append, List.length_cons]
    omega
theorem upd_self {α : Type} {n : Nat} (f : Fin n → α) (i : Fin n) : upd f i (f i) = f := by
  funext j
  unfold upd
  split
  · next h => rw [h]
  · rfl
theorem net_same (N : NS) (K : Fin 2) (t : Fin 6) (hf : N.fine = true) : ({ N with e := upd N.e K (N.e K), l := upd N.l t (N.l t ++ []), fine := true } : NS) = N := by
  rw [List.append_nil, upd_self, upd_self]
  cases N
  simp only at hf
  subst hf
  rfl
theorem net_same2 (N : NS) (K : Fin 2) (hf : N.fine = true) : ({ N with e := upd N.e K (N.e K), fine := true } : NS) = N := by
  rw [upd_self]
  cases N
  simp only at hf
  subst hf
  rfl
theorem sendF_ev : ∀ (j : Nat) (m : ByteArray) (ps : List Pt), m.size ≤ j → ps.length + m.size ≤ 1000000 → Ev (fun k => sendF k ps m) (ps ++ partsGo j m)
  | 0, m, ps, h, hl => by
    refine Ev.step (fun k => by rw [sendF]) ?_
    refine Base.Ev.ite_neg (by omega) ?_
    refine Base.Ev.ite_pos (by omega) ?_
    exact Ev.now _
  | j + 1, m, ps, h, hl => by
    refine Ev.step (fun k => by rw [sendF]) ?_
    rw [partsGo]
    by_cases c : (m.size : Int) > 200
    · have hs := size_cut m (by omega)
      refine Base.Ev.ite_pos c ?_
      refine Base.Ev.ite_pos (by omega) ?_
      rw [if_pos c]
      have := sendF_ev j (m.extract 200 m.size) (ps ++ [(m.extract 0 200, false)]) (by omega) (by rw [List.length_append, List.length_singleton]; omega)
      rw [List.append_assoc] at this
      exact this
    · refine Base.Ev.ite_neg c ?_
      refine Base.Ev.ite_pos (by omega) ?_
      rw [if_neg c]
      exact Ev.now _
section
variable {N : NS} {K : Fin 2} {sa sb da db : List ByteArray} {eb : En} {wb : List ByteArray} {wy t s wo : Fin 6}
theorem sendS_ev {wa : List ByteArray} (x : ByteArray) (hx : x.size ≤ 700) (P : Pair (N.l s) sb da db (N.e K) eb wa wb) (hA : (allOf (N.l s)).length ≤ 100000) (hl : (N.l s).length ≤ 1000000) :
    Ev (fun k => sendS k N K s x) { N with e := upd N.e K { N.e K with parts := (N.e K).parts ++ partsOf x }, l := upd N.l s (N.l s ++ [x]) } ∧ Pair (N.l s ++ [x]) sb da db { N.e K with parts := (N.e K).parts ++ partsOf x } eb wa wb := by
  obtain ⟨na, nb, ta, tb, pa, pb, P⟩ := P
  refine ⟨?_, ⟨_, _, _, _, _, _, P.send x⟩⟩
  have hp : (N.e K).parts.length ≤ 100000 := by
    rw [P.fa.parts, List.length_drop]
    have e : ((N.l s).flatMap partsOf).length ≤ 100000 := hA
    omega
  unfold sendS
  refine Ev.bind (sendF_ev x.size x (N.e K).parts (Nat.le_refl _) (by omega)) ?_
  refine Base.Ev.ite_pos hl ?_
  exact Ev.now _
theorem tickS_ev {wa : List ByteArray} (P : Pair sa sb da db (N.e K) eb wa (N.l wo)) (hA : (allOf sa).length ≤ 100000) (hB : (allOf sb).length ≤ 100000) (hl : (N.l wo).length ≤ 1000000) :
    ∃ y, Ev (fun k => tickS k N K wo) { N with l := upd N.l wo (N.l wo ++ [y]) } ∧ Pair sa sb da db (N.e K) eb wa (N.l wo ++ [y]) := by
  obtain ⟨na, nb, ta, tb, pa, pb, P⟩ := P
  refine ⟨_, ?_, ⟨_, _, _, _, _, _, P.tick⟩⟩
  unfold tickS
  refine Ev.bind (P.tick_ev hA hB) ?_
  refine Base.Ev.ite_pos hl ?_
  exact Ev.now _
theorem wayAt_mem {l : List ByteArray} (x3 : Int) (h : ¬ l.length = 0) : ∃ y, y ∈ l ∧ wayAt l x3 = some y := by
  have hj : x3.toNat % l.length < l.length := Nat.mod_lt _ (by omega)
  exact ⟨l[x3.toNat % l.length], List.getElem_mem hj, List.getElem?_eq_getElem hj⟩
theorem recvS_ev (x3 : Int) (P : Pair sa sb (N.l t) db (N.e K) eb (N.l wy) wb) (hA : (allOf sa).length ≤ 100000) (hB : (allOf sb).length ≤ 100000) (hf : N.fine = true) (hl : (N.l wy).length ≤ 1000000) (hl2 : (N.l t).length ≤ 1000000) :
    ∃ E' r, Ev (fun k => recvS k N K wy t x3) { N with e := upd N.e K E', l := upd N.l t (N.l t ++ r), fine := true } ∧ r.length ≤ 1 ∧ Pair sa sb (N.l t ++ r) db E' eb (N.l wy) wb := by
  by_cases h0 : (N.l wy).length = 0
  · refine ⟨N.e K, [], ?_, by simp, by rw [List.append_nil]; exact P⟩
    rw [net_same N K t hf]
    exact Base.Ev.ite_pos h0 (Ev.now _)
  · obtain ⟨na, nb, ta, tb, pa, pb, P⟩ := P
    obtain ⟨y, hy, hw⟩ := wayAt_mem x3 h0
    obtain ⟨p, hp, rfl, hok⟩ := P.mem_wa hy
    obtain ⟨h1, h2, h3⟩ := P.recv hA hB hok
    refine ⟨_, _, ?_, h2, ⟨_, _, _, _, _, _, h3⟩⟩
    unfold recvS
    refine Base.Ev.ite_neg h0 ?_
    rw [hw]
    refine Base.Ev.pure_bind ?_
    refine Ev.bind h1 ?_
    refine Base.Ev.ite_pos ⟨rfl, h2, hf, hl, hl2⟩ ?_
    exact Ev.now _
theorem turnedS_ev (x3 x4 x5 : Int) (P : Pair sa sb da db (N.e K) eb (N.l wy) wb) (hA : (allOf sa).length ≤ 100000) (hB : (allOf sb).length ≤ 100000) (hf : N.fine = true) (hl : (N.l wy).length ≤ 1000000) (h5 : 0 ≤ x5 ∧ x5 ≤ 255) :
    Ev (fun k => turnedS k N K wy x3 x4 x5) N := by
  unfold turnedS
  by_cases h0 : (N.l wy).length = 0
  · exact Base.Ev.ite_pos h0 (Ev.now _)
  · refine Base.Ev.ite_neg h0 ?_
    by_cases hx : x5 = 0
    · exact Base.Ev.ite_pos hx (Ev.now _)
    · refine Base.Ev.ite_neg hx ?_
      obtain ⟨na, nb, ta, tb, pa, pb, P⟩ := P
      obtain ⟨y, hy, hw⟩ := wayAt_mem x3 h0
      obtain ⟨p, hp, rfl, hok⟩ := P.mem_wa hy
      obtain ⟨h1, h2, h3, h4⟩ := P.le hA hB
      obtain ⟨g1, g2, g3⟩ := pk_sizes hok allOf_small h2 h4
      rw [hw]
      refine Base.Ev.pure_bind ?_
      refine Base.Ev.ite_pos (pktB_size p) ?_
      have hz : UInt8.ofNat x5.toNat ≠ 0 := by
        intro e
        have e2 := congrArg UInt8.toNat e
        rw [Base.ofNat_toNat _ (by omega)] at e2
        have : (0 : UInt8).toNat = 0 := rfl
        omega
      refine Ev.bind (turn_bad (N.e K) p g1 g2 g3 _ (Nat.mod_lt _ (pktB_size p)) _ hz) ?_
      refine Base.Ev.ite_pos ⟨rfl, rfl, hf, hl⟩ ?_
      refine Base.Ev.eq (net_same2 N K hf) ?_
      exact Ev.now _
end

structure Inv (N : NS) (i : Nat) : Prop where
  pair : Pair (N.l 2) (N.l 3) (N.l 4) (N.l 5) (N.e 0) (N.e 1) (N.l 0) (N.l 1)
  fine : N.fine = true
  len : ∀ j, (N.l j).length ≤ i
  s2 : ∀ m ∈ N.l 2, m.size ≤ 700
  s3 : ∀ m ∈ N.l 3, m.size ≤ 700
theorem Inv.A {N : NS} {i : Nat} (h : Inv N i) (hi : i ≤ 80) : (allOf (N.l 2)).length ≤ 100000 := by
  have := allOf_length _ h.s2
  have := h.len 2
  omega
theorem Inv.B {N : NS} {i : Nat} (h : Inv N i) (hi : i ≤ 80) : (allOf (N.l 3)).length ≤ 100000 := by
  have := allOf_length _ h.s3
  have := h.len 3
  omega
def total (N : NS) : Nat := (allOf (N.l 2)).length + (allOf (N.l 3)).length
theorem total_send {sent : List ByteArray} {x : ByteArray} : (allOf (sent ++ [x])).length = (allOf sent).length + (partsOf x).length := by
  show ((sent ++ [x]).flatMap partsOf).length = (sent.flatMap partsOf).length + _
  simp
theorem len_upd {N : NS} {i : Nat} (h : ∀ j, (N.l j).length ≤ i) (t : Fin 6) (r : List ByteArray) (hr : r.length ≤ 1) : ∀ j, (upd N.l t (N.l t ++ r) j).length ≤ i + 1 := by
  intro j
  unfold upd
  split
  · have := h t
    rw [List.length_append]; omega
  · have := h j; omega
theorem len_up {N : NS} {i : Nat} (h : ∀ j, (N.l j).length ≤ i) : ∀ j, (N.l j).length ≤ i + 1 := fun j => by have := h j; omega
theorem step_ev {N : NS} {i : Nat} {x : S66} (h : Inv N i) (hi : i ≤ 80) (ho : okS x) (hx : x.f2.size ≤ 700) :
    ∃ N', Ev (fun k => stepF k N x) N' ∧ Inv N' (i + 1) ∧ total N' = total N + (if Int.tmod x.f0 6 = 0 then (partsOf x.f2).length else 0) := by
  have hA := h.A hi
  have hB := h.B hi
  have hl : ∀ j, (N.l j).length ≤ 1000000 := fun j => by have := h.len j; omega
  have P := h.pair
  have Q := h.pair.symm
  by_cases ht : Int.tmod x.f1 2 = 0
  · have wrap : ∀ N', Ev (fun k => stepK k N 0 0 1 2 4 x) N' → Ev (fun k => stepF k N x) N' := fun N' e => by
      unfold stepF
      refine Base.Ev.ite_pos ho ?_
      exact Base.Ev.ite_pos ht e
    by_cases c0 : Int.tmod x.f0 6 = 0
    · obtain ⟨e, P'⟩ := sendS_ev (N := N) (K := 0) (s := 2) x.f2 hx P hA (hl 2)
      refine ⟨_, wrap _ (Base.Ev.ite_pos c0 e), ⟨P', h.fine, len_upd h.len 2 _ (by simp), ?_, h.s3⟩, ?_⟩
      · intro m hm
        rcases List.mem_append.mp (show m ∈ N.l 2 ++ [x.f2] from hm) with hm | hm
        · exact h.s2 m hm
        · rw [List.mem_singleton] at hm; subst hm; exact hx
      · rw [if_pos c0]
        show (allOf (N.l 2 ++ [x.f2])).length + (allOf (N.l 3)).length = _
        rw [total_send]; unfold total; omega
    · rw [if_neg c0]
      have wrap0 : ∀ N', Ev (fun k => if Int.tmod x.f0 6 = 1 then tickS k N 0 1 else if Int.tmod x.f0 6 = 2 then tickS k N 0 1 else if Int.tmod x.f0 6 = 3 then recvS k N 0 0 4 x.f3 else if Int.tmod x.f0 6 = 4 then recvS k N 0 0 4 x.f3 else turnedS k N 0 0 x.f3 x.f4 x.f5) N' → Ev (fun k => stepF k N x) N' := fun N' e => wrap N' (Base.Ev.ite_neg c0 e)
      obtain ⟨y, et, Pt⟩ := tickS_ev (N := N) (K := 0) (wo := 1) P hA hB (hl 1)
      obtain ⟨E', r, er, hr, Pr⟩ := recvS_ev (N := N) (K := 0) (wy := 0) (t := 4) x.f3 P hA hB h.fine (hl 0) (hl 4)
      have eu := turnedS_ev (N := N) (K := 0) (wy := 0) x.f3 x.f4 x.f5 P hA hB h.fine (hl 0) ho.2.2.2.2
      by_cases c1 : Int.tmod x.f0 6 = 1
      · exact ⟨_, wrap0 _ (Base.Ev.ite_pos c1 et), ⟨Pt, h.fine, len_upd h.len 1 _ (by simp), h.s2, h.s3⟩, rfl⟩
      · by_cases c2 : Int.tmod x.f0 6 = 2
        · exact ⟨_, wrap0 _ (Base.Ev.ite_neg c1 (Base.Ev.ite_pos c2 et)), ⟨Pt, h.fine, len_upd h.len 1 _ (by simp), h.s2, h.s3⟩, rfl⟩
        · by_cases c3 : Int.tmod x.f0 6 = 3
          · exact ⟨_, wrap0 _ (Base.Ev.ite_neg c1 (Base.Ev.ite_neg c2 (Base.Ev.ite_pos c3 er))), ⟨Pr, rfl, len_upd h.len 4 _ hr, h.s2, h.s3⟩, rfl⟩
          · by_cases c4 : Int.tmod x.f0 6 = 4
            · exact ⟨_, wrap0 _ (Base.Ev.ite_neg c1 (Base.Ev.ite_neg c2 (Base.Ev.ite_neg c3 (Base.Ev.ite_pos c4 er)))), ⟨Pr, rfl, len_upd h.len 4 _ hr, h.s2, h.s3⟩, rfl⟩
            · exact ⟨_, wrap0 _ (Base.Ev.ite_neg c1 (Base.Ev.ite_neg c2 (Base.Ev.ite_neg c3 (Base.Ev.ite_neg c4 eu)))), ⟨P, h.fine, len_up h.len, h.s2, h.s3⟩, rfl⟩
  · have wrap : ∀ N', Ev (fun k => stepK k N 1 1 0 3 5 x) N' → Ev (fun k => stepF k N x) N' := fun N' e => by
      unfold stepF
      refine Base.Ev.ite_pos ho ?_
      exact Base.Ev.ite_neg ht e
    by_cases c0 : Int.tmod x.f0 6 = 0
    · obtain ⟨e, P'⟩ := sendS_ev (N := N) (K := 1) (s := 3) x.f2 hx Q hB (hl 3)
      refine ⟨_, wrap _ (Base.Ev.ite_pos c0 e), ⟨P'.symm, h.fine, len_upd h.len 3 _ (by simp), h.s2, ?_⟩, ?_⟩
      · intro m hm
        rcases List.mem_append.mp (show m ∈ N.l 3 ++ [x.f2] from hm) with hm | hm
        · exact h.s3 m hm
        · rw [List.mem_singleton] at hm; subst hm; exact hx
      · rw [if_pos c0]
        show (allOf (N.l 2)).length + (allOf (N.l 3 ++ [x.f2])).length = _
        rw [total_send]; unfold total; omega
    · rw [if_neg c0]
      have wrap0 : ∀ N', Ev (fun k => if Int.tmod x.f0 6 = 1 then tickS k N 1 0 else if Int.tmod x.f0 6 = 2 then tickS k N 1 0 else if Int.tmod x.f0 6 = 3 then recvS k N 1 1 5 x.f3 else if Int.tmod x.f0 6 = 4 then recvS k N 1 1 5 x.f3 else turnedS k N 1 1 x.f3 x.f4 x.f5) N' → Ev (fun k => stepF k N x) N' := fun N' e => wrap N' (Base.Ev.ite_neg c0 e)
      obtain ⟨y, et, Pt⟩ := tickS_ev (N := N) (K := 1) (wo := 0) Q hB hA (hl 0)
      obtain ⟨E', r, er, hr, Pr⟩ := recvS_ev (N := N) (K := 1) (wy := 1) (t := 5) x.f3 Q hB hA h.fine (hl 1) (hl 5)
      have eu := turnedS_ev (N := N) (K := 1) (wy := 1) x.f3 x.f4 x.f5 Q hB hA h.fine (hl 1) ho.2.2.2.2
      by_cases c1 : Int.tmod x.f0 6 = 1
      · exact ⟨_, wrap0 _ (Base.Ev.ite_pos c1 et), ⟨Pt.symm, h.fine, len_upd h.len 0 _ (by simp), h.s2, h.s3⟩, rfl⟩
      · by_cases c2 : Int.tmod x.f0 6 = 2
        · exact ⟨_, wrap0 _ (Base.Ev.ite_neg c1 (Base.Ev.ite_pos c2 et)), ⟨Pt.symm, h.fine, len_upd h.len 0 _ (by simp), h.s2, h.s3⟩, rfl⟩
        · by_cases c3 : Int.tmod x.f0 6 = 3
          · exact ⟨_, wrap0 _ (Base.Ev.ite_neg c1 (Base.Ev.ite_neg c2 (Base.Ev.ite_pos c3 er))), ⟨Pr.symm, rfl, len_upd h.len 5 _ hr, h.s2, h.s3⟩, rfl⟩
          · by_cases c4 : Int.tmod x.f0 6 = 4
            · exact ⟨_, wrap0 _ (Base.Ev.ite_neg c1 (Base.Ev.ite_neg c2 (Base.Ev.ite_neg c3 (Base.Ev.ite_pos c4 er)))), ⟨Pr.symm, rfl, len_upd h.len 5 _ hr, h.s2, h.s3⟩, rfl⟩
            · exact ⟨_, wrap0 _ (Base.Ev.ite_neg c1 (Base.Ev.ite_neg c2 (Base.Ev.ite_neg c3 (Base.Ev.ite_neg c4 eu)))), ⟨P, h.fine, len_up h.len, h.s2, h.s3⟩, rfl⟩
end Go.Proofs.Ytnmnplbjhejejaa.Lp
