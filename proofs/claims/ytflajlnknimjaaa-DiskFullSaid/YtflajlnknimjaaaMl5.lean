/- Merged: RfR, RfW, RfT, RfO, RfM. -/
import Derived.Test.YtflajlnknimjaaaMl4
import Derived.Test.YtflajlnknimjaaaPDiskLoadsx9
import Derived.WalkLawsBesides
import Derived.Deep.QuietTactic
import Derived.BigQuiet
set_option linter.unusedVariables false
set_option linter.unusedSimpArgs false
/- The reference's disk in memory; its functions that only read, and fails. -/
namespace Go.Proofs.Ytflajlnknimjaaa.Dk
open Go.RowKit Go.Maps Go.Proofs.YtflajlnknimjaaaW.PrintWords Go.Proofs.YtflajlnknimjaaaW.PrintMore Go.Proofs.Ytflajlnknimjaaa.Syn Go.Proofs.Ytflajlnknimjaaa.PDiskLoads
set_option linter.unusedVariables false
set_option linter.unusedSimpArgs false

/-- The reference's disk: its struct in block p, its row of files v; F: the blocks that are its own. -/
structure RefIs (w : World) (F : Nat → Prop) (p : Nat) (v : Value) (l : List SF) (ar : Nat) (dn : Bool) (la : ByteArray) : Prop where
  blk : w.heap[p]? = some (.cells #[v, .int .i64 ar, .bool dn, .string la] 29 (0, 0))
  fp : F p
  row : Kd.N kF 36 w 0 (fun k => F k ∧ k ≠ p) v l
  lt : ∀ k, F k → k < w.heap.size
def RefAt (w : World) (F : Nat → Prop) (p : Nat) (d : St) : Prop := ∃ v, RefIs w F p v (filesOf d) d.armed d.down d.last
section
variable {w w' w1 : World} {F G : Nat → Prop} {p : Nat} {v : Value} {l : List SF} {ar : Nat} {dn : Bool} {la : ByteArray}
theorem RefIs.reads (h : RefIs w F p v l ar dn la) : ∃ A c, v = .slice A l.length c ∧ l.length ≤ c ∧ kF.C w A l.length l := Kd.N_reads h.row
theorem RefIs.stay (h : RefIs w F p v l ar dn la) (hs : w.heap.size ≤ w'.heap.size) (e : ∀ k, F k → w'.heap[k]? = w.heap[k]?) : RefIs w' F p v l ar dn la :=
  ⟨(e p h.fp).trans h.blk, h.fp, Kd.N_step h.row (fun k hk _ => e k hk.1), fun k hk => Nat.lt_of_lt_of_le (h.lt k hk) hs⟩
theorem RefIs.wide (h : RefIs w F p v l ar dn la) (hF : ∀ k, F k → G k) (hG : ∀ k, G k → k < w.heap.size) : RefIs w G p v l ar dn la :=
  ⟨h.blk, hF _ h.fp, Kd.N_mono h.row (fun k hk => ⟨hF k hk.1, hk.2⟩), hG⟩
/-- The struct's cells have changed, the row has not. -/
theorem RefIs.head (h : RefIs w F p v l ar dn la) {ar' : Nat} {dn' : Bool} {la' : ByteArray} (hb : w1.heap[p]? = some (.cells #[v, .int .i64 ar', .bool dn', .string la'] 29 (0, 0))) (hc : Chg (· = p) w w1) : RefIs w1 F p v l ar' dn' la' :=
  ⟨hb, h.fp, Kd.N_step h.row (fun k hk hlt => hc.block k hlt hk.2), fun k hk => Nat.lt_of_lt_of_le (h.lt k hk) hc.size⟩
theorem RefIs.below (h : RefIs w F p v l ar dn la) (hb : Below w.heap.size w w') : RefIs w' F p v l ar dn la := h.stay hb.size (fun k hk => hb.block k (h.lt k hk))
end
/-- The reference's disk, as a thing. -/
def REF (p : Nat) (d : St) : Thing where
  P := fun w F => RefAt w F p d ∧ d.Ok
  stay := fun _ hs he ⟨⟨v, h1⟩, h3⟩ => ⟨⟨v, h1.stay hs he⟩, h3⟩

theorem ret_i64 {a b : Int} (h : a = b) : Ending.returned (.int .i64 a) = .returned (.int .i64 b) := by rw [h]
def posI (nm : ByteArray) (l : List SF) : Int := match l.findIdx? (fun x => decide (x.f0 = nm)) with | some i => i | none => -1
theorem posI_files (nm : ByteArray) (d : St) : posI nm (filesOf d) = match pos nm d.fs with | some i => (i : Int) | none => -1 := by
  unfold posI pos filesOf
  rw [List.findIdx?_map]
  rfl
theorem files_at {l : List SF} {w : World} {A : Option Addr} (h : kF.C w A l.length l) {k : Nat} (hk : k < l.length) :
    ∃ ad A4 c4, A = some ad ∧ w.cell? (ad.add (k * 3)) = some (.string l[k].f0) ∧ w.cell? ⟨(ad.add (k * 3)).block, (ad.add (k * 3)).off + 1, none⟩ = some (.slice A4 l[k].f1.length c4) ∧ w.cell? ⟨(ad.add (k * 3)).block, (ad.add (k * 3)).off + 2, none⟩ = some (.int .i64 l[k].f2) ∧ l[k].f1.length ≤ c4 ∧ (Kd.int .u8).C w A4 l[k].f1.length l[k].f1 := by
  obtain ⟨ad, A4, c4, rfl, x0, x1, x2, h1, h2⟩ := at_T36 h (k : Int) (by omega) (by omega)
  have e : rd_T36 l (k : Int) = l[k] := rdF hk
  rw [e] at x0 x1 x2 h1 h2
  simp only [Int.toNat_natCast] at x0 x1 x2
  exact ⟨ad, A4, c4, rfl, x0, x1, x2, h1, h2⟩

section
variable {w : World} {F : Nat → Prop} {p : Nat} {v : Value} {l : List SF} {ar : Nat} {dn : Bool} {la : ByteArray}
set_option maxHeartbeats 1000000 in
set_option maxRecDepth 100000 in
theorem rat_calls (h : RefIs w F p v l ar dn la) (nm : ByteArray) (hl : l.length ≤ 1099511627776) :
    Calls Try.prog 37 #[ptr p, .string nm] w fun e w' => e = .returned (.int .i64 (posI nm l)) ∧ w = w' := by
  obtain ⟨A, c, rfl, hlc, hC⟩ := h.reads
  have b0 := sb_cell h.blk 0
  simp at b0
  have HC := Lib.hid hC
  clear h hlc hC
  go_enter Try.func37, Try.ntmps37
  go_wp2
  go_loop [5] (fun v5 => ∃ k : Nat, k ≤ l.length ∧ v5 = .int .i64 k ∧ Hid (∀ j (hj : j < l.length), j < k → l[j].f0 ≠ nm)) (fun v5 => l.length - (intOf v5).toNat)
  case atStart => exact ⟨0, Nat.zero_le _, rfl, Lib.hid (fun j _ h => by omega)⟩
  case round =>
    obtain ⟨k, hk, rfl, HN⟩ := hrel
    by_cases hlt : k < l.length
    · obtain ⟨ad, A4, c4, rfl, x0, x1, x2, hl4, hC4⟩ := files_at HC.out hlt
      clear x1 x2 hl4 hC4
      by_cases e : l[k].f0 = nm
      · have t1 : (l[k].f0.toList == nm.toList) = true := by rw [tl_beq]; exact decide_eq_true e
        have HE := Lib.hid e
        clear e
        go_wp2
        go_ret
        refine ⟨ret_i64 ?_, rfl⟩
        have h2 : l.findIdx? (fun x => decide (x.f0 = nm)) = some k := List.findIdx?_eq_some_iff_getElem.2 ⟨hlt, by simpa using HE.out, fun j hj => by simpa using HN.out j (by omega) hj⟩
        unfold posI
        rw [h2]
      · have t1 : (l[k].f0.toList == nm.toList) = false := by rw [tl_beq]; exact decide_eq_false e
        have HE := Lib.hid e
        clear e
        go_wp2
        go_round
        case rel =>
          refine ⟨k + 1, by omega, by go_num, Lib.hid (fun j hj hjk => ?_)⟩
          rcases Nat.lt_succ_iff_lt_or_eq.1 hjk with h1 | h1
          · exact HN.out j hj h1
          · subst h1
            exact HE.out
        case measure =>
          show l.length - ((k : Int) + 1).toNat < l.length - (k : Int).toNat
          omega
    · have hkn : k = l.length := by omega
      subst hkn
      go_wp2
      go_ret
      refine ⟨ret_i64 ?_, rfl⟩
      have h2 : l.findIdx? (fun x => decide (x.f0 = nm)) = none := List.findIdx?_eq_none_iff.2 (fun x hx => by
        obtain ⟨j, hj, rfl⟩ := List.getElem_of_mem hx
        simpa using HN.out j hj hj)
      unfold posI
      rw [h2]
def sumD (l : List SF) : Nat := (l.map fun x => x.f1.length).sum
theorem sumD_take_succ {l : List SF} {k : Nat} (h : k < l.length) : sumD (l.take (k + 1)) = sumD (l.take k) + l[k].f1.length := by
  unfold sumD
  rw [List.take_succ_eq_append_getElem h, List.map_append, List.sum_append]
  simp
theorem sumD_take_le (l : List SF) (k : Nat) : sumD (l.take k) ≤ sumD l := by
  unfold sumD
  induction l generalizing k with
  | nil => simp
  | cons x r ih =>
    cases k with
    | zero => simp
    | succ k =>
      have := ih k
      simp only [List.map_cons, List.take_succ_cons, List.sum_cons]
      omega
theorem sumD_files (d : St) : sumD (filesOf d) = total d.fs := by
  unfold sumD filesOf total
  rw [List.map_map]
  rfl
set_option maxHeartbeats 1000000 in
set_option maxRecDepth 100000 in
theorem rsize_calls (h : RefIs w F p v l ar dn la) (hl : l.length ≤ 1099511627776) (hs : sumD l ≤ 1099511627776) :
    Calls Try.prog 17 #[ptr p] w fun e w' => e = .returned (.int .i64 (sumD l)) ∧ w = w' := by
  obtain ⟨A, c, rfl, hlc, hC⟩ := h.reads
  have b0 := sb_cell h.blk 0
  simp at b0
  have HC := Lib.hid hC
  have HS := Lib.hid hs
  clear h hlc hC hs
  go_enter Try.func17, Try.ntmps17
  go_wp2
  go_loop [3, 4] (fun v3 v4 => ∃ k : Nat, k ≤ l.length ∧ v4 = .int .i64 k ∧ v3 = .int .i64 (sumD (l.take k))) (fun _ v4 => l.length - (intOf v4).toNat)
  case atStart => exact ⟨0, Nat.zero_le _, rfl, by simp [sumD]⟩
  case round =>
    obtain ⟨k, hk, rfl, rfl⟩ := hrel
    by_cases hlt : k < l.length
    · obtain ⟨ad, A4, c4, rfl, x0, x1, x2, hl4, hC4⟩ := files_at HC.out hlt
      clear x0 x2 hl4 hC4
      have hst := sumD_take_succ hlt
      have hle := sumD_take_le l (k + 1)
      have hle2 : sumD (l.take k) + l[k].f1.length ≤ 1099511627776 := by have := HS.out; omega
      have HST := Lib.hid hst
      clear hst hle
      generalize sumD (l.take k) = s at *
      generalize hy : l[k].f1.length = y at *
      clear hy
      have hw : wrap64 ((s : Int) + (y : Int)) = (s : Int) + (y : Int) := by unfold wrap64; omega
      go_wp2
      go_round
      case rel => exact ⟨k + 1, by omega, by go_num, by rw [HST.out]; first | go_num | (simp [hw])⟩
      case measure =>
        show l.length - ((k : Int) + 1).toNat < l.length - (k : Int).toNat
        omega
    · have hkn : k = l.length := by omega
      subst hkn
      go_wp2
      go_ret
      exact ⟨ret_i64 rfl, rfl⟩

theorem rname_l (s : ByteArray) (hs : s.size ≤ 9223372036854775806) (d : Nat) : ∀ (k i : Nat), i ≤ s.size → s.size - i = d → d < k →
    synodref4_Name.l0 k s i = some ((s.data.toList.drop i).all okByte && (decide (0 < s.size) && decide (s.size ≤ 32))) := by
  induction d with
  | zero =>
    intro k i h1 h2 h3
    obtain ⟨k, rfl⟩ : ∃ m, k = m + 1 := ⟨k - 1, by omega⟩
    have hi : i = s.size := by omega
    subst hi
    simp only [synodref4_Name.l0]
    rw [if_neg (by omega), List.drop_eq_nil_of_le (by simp)]
    by_cases h0 : 0 < s.size
    · rw [if_pos (by omega)]; simp [h0]; omega
    · rw [if_neg (by omega)]; simp [h0]
  | succ d ih =>
    intro k i h1 h2 h3
    obtain ⟨k, rfl⟩ : ∃ m, k = m + 1 := ⟨k - 1, by omega⟩
    have hi : i < s.size := by omega
    have hw : wrap64 ((i : Int) + 1) = ((i + 1 : Nat) : Int) := by rw [wrap_small (by omega) (by omega)]; omega
    have hnext := ih k (i + 1) (by omega) (by omega) (by omega)
    simp only [synodref4_Name.l0]
    rw [if_pos (by omega), if_pos (by omega), hw, hnext, bt_nat s i hi, drop_all s i hi, Bool.and_assoc]
    generalize s.data.toList[i]'(by simpa using hi) = c
    generalize ((s.data.toList.drop (i + 1)).all okByte && (decide (0 < s.size) && decide (s.size ≤ 32))) = r at *
    have hc : okByte c = (decide (97 ≤ c.toNat ∧ c.toNat ≤ 122) || decide (48 ≤ c.toNat ∧ c.toNat ≤ 57) || decide (c.toNat = 45) || decide (c.toNat = 46)) := rfl
    rw [hc]
    clear hc hnext hw ih
    generalize c.toNat = x
    repeat' split
    all_goals (cases r <;> simp <;> omega)
theorem rname_calls (s : ByteArray) (w : World) (hs : s.size ≤ 9223372036854775806) : Calls Try.prog 36 #[.string s] w fun e w' => e = .returned (.bool (okName s)) ∧ Drawn0 w w' := by
  refine synodref4_Name.calls (s.size + 1) s (okName s) w ?_
  have := rname_l s hs s.size (s.size + 1) 0 (by omega) (by omega) (by omega)
  unfold synodref4_Name.f okName
  simpa using this

set_option maxHeartbeats 400000 in
theorem rfails_no (p : Nat) (w : World) (f la dn : Value) (h : w.heap[p]? = some (.cells #[f, .int .i64 0, dn, la] 29 (0, 0))) :
    Calls Try.prog 38 #[.pointer (some ⟨p, 0, none⟩)] w fun e w' => e = .returned (.bool false) ∧ w = w' := by
  have h2 := sb_cell h 1
  simp at h2
  clear h
  go_enter Try.func38, Try.ntmps38
  go_wp2
  go_ret
  exact ⟨rfl, rfl⟩
set_option maxHeartbeats 400000 in
theorem rfails_yes (p : Nat) (w : World) (f la : Value) (n : Nat) (dn : Bool) (hn : 0 < n) (hm : n ≤ 9223372036854775807) (h : w.heap[p]? = some (.cells #[f, .int .i64 n, .bool dn, la] 29 (0, 0))) :
    Calls Try.prog 38 #[.pointer (some ⟨p, 0, none⟩)] w fun e w' => e = .returned (.bool (decide (n = 1))) ∧ w'.heap[p]? = some (.cells #[f, .int .i64 (n - 1 : Nat), .bool (decide (n = 1)), la] 29 (0, 0)) ∧ w'.heap.size = w.heap.size ∧ Chg (· = p) w w' := by
  have h2 := sb_cell h 1
  have h3 := sb_cell h 2
  have f2 := sb_free h 1
  have f3 := sb_free h 2
  simp at h2 h3
  have H := Lib.hid h
  clear h
  go_enter Try.func38, Try.ntmps38
  go_wp2
  go_ret
  have e1 : ((n : Int) - 1) = ((n - 1 : Nat) : Int) := by omega
  have e2 : ((n : Int) - 1 == 0) = decide (n = 1) := by
    by_cases h1 : n = 1
    · subst h1; rfl
    · rw [decide_eq_false h1]; exact beq_false_of_ne (by omega)
  rw [e2, e1]
  refine ⟨rfl, ?_, by simp [World.setCell], ?_⟩
  · have := sb_set (sb_set H.out 1 (.int .i64 ((n - 1 : Nat) : Int))) 2 (.bool (decide (n = 1)))
    simpa using this
  · exact (Chg.setCell (F := (· = p)) w (p := ⟨p, 1, none⟩) rfl _).same (Chg.setCell (F := (· = p)) _ (p := ⟨p, 2, none⟩) rfl _)
theorem rtick_calls (p : Nat) (w : World) (v : Value) (la : ByteArray) (ar : Nat) (dn : Bool) (d : St) (hd : d.armed = ar) (hdn : d.down = dn) (hm : ar ≤ 9223372036854775807)
    (h : w.heap[p]? = some (.cells #[v, .int .i64 ar, .bool dn, .string la] 29 (0, 0))) :
    Calls Try.prog 38 #[.pointer (some ⟨p, 0, none⟩)] w fun e w' => e = .returned (.bool (tick d).1) ∧ w'.heap[p]? = some (.cells #[v, .int .i64 (tick d).2.armed, .bool (tick d).2.down, .string la] 29 (0, 0)) ∧ w'.heap.size = w.heap.size ∧ Chg (· = p) w w' := by
  subst hd hdn
  by_cases h0 : d.armed = 0
  · rw [h0] at h
    refine (rfails_no p w _ _ _ h).mono ?_
    rintro e w' ⟨rfl, rfl⟩
    have e : tick d = (false, d) := by simp only [tick, h0, if_true]
    rw [e]
    exact ⟨rfl, by rw [h0]; exact h, rfl, Chg.refl _ _⟩
  · refine (rfails_yes p w _ _ d.armed d.down (by omega) hm h).mono ?_
    rintro e w' ⟨rfl, h1, h2, h3⟩
    have e : tick d = (decide (d.armed = 1), { d with armed := d.armed - 1, down := decide (d.armed = 1) }) := by simp only [tick, h0, if_false]
    rw [e]
    exact ⟨rfl, h1, h2, h3⟩
end
end Go.Proofs.Ytflajlnknimjaaa.Dk

/- The reference's put and take. -/
namespace Go.Proofs.Ytflajlnknimjaaa.Dk
open Go.RowKit Go.Maps Go.Proofs.YtflajlnknimjaaaW.PrintWords Go.Proofs.YtflajlnknimjaaaW.PrintMore Go.Proofs.Ytflajlnknimjaaa.Syn Go.Proofs.Ytflajlnknimjaaa.PDiskLoads
set_option linter.unusedVariables false
set_option linter.unusedSimpArgs false

theorem FKF_mk {w : World} {ok : Nat → Prop} {f : SF} {A : Option Addr} {c : Nat} (hc : f.f1.length ≤ c) (hf : Kd.F (Kd.int .u8) w ok A f.f1.length f.f1) : Kd.FK kF w ok f [.string f.f0, .slice A f.f1.length c, .int .i64 f.f2] :=
  fun W' hW => k36_mk W' f hc (hf W' hW)
theorem FKF_open {w : World} {ok : Nat → Prop} {f : SF} {cs : List Value} (h : Kd.FK kF w ok f cs) : ∃ A c, cs = [.string f.f0, .slice A f.f1.length c, .int .i64 f.f2] ∧ f.f1.length ≤ c ∧ Kd.F (Kd.int .u8) w ok A f.f1.length f.f1 := by
  obtain ⟨A, c, e, hc, _⟩ := k36_open (Kd.FK_now h)
  refine ⟨A, c, e, hc, fun W' hW => ?_⟩
  obtain ⟨A', c', e', _, hC⟩ := k36_open (h W' hW)
  rw [e] at e'
  simp only [List.cons.injEq, Value.slice.injEq, true_and, and_true] at e'
  rw [e'.1]
  exact hC
def less (a b : ByteArray) : Bool := Op.bytesLess a.toList b.toList
theorem less_hid (a b : ByteArray) : Op.bytesLess a.toList b.toList = less a b := rfl

section
variable {w : World} {F : Nat → Prop} {p : Nat} {v : Value} {l : List SF} {ar : Nat} {dn : Bool} {la : ByteArray}
theorem RefIs.foot (h : RefIs w F p v l ar dn la) : ∃ A c, v = .slice A l.length c ∧ l.length ≤ c ∧ Kd.F kF w (fun k => F k ∧ k ≠ p) A l.length l := by
  obtain ⟨A, c, e, hc, _⟩ := h.reads
  subst e
  exact ⟨A, c, rfl, hc, Kd.N_F h.row⟩
theorem foot_mono {w W : World} {F : Nat → Prop} {p n : Nat} {A : Option Addr} {l : List SF} (hlt : ∀ k, F k → k < W.heap.size) (h : Kd.F kF w (fun k => F k ∧ k ≠ p) A n l) : Kd.F kF w (fun k => (F k ∧ k ≠ p) ∧ k < W.heap.size) A n l := Kd.F_mono h (fun k hk => ⟨hk, hlt k hk.1⟩)
def OKs (F : Nat → Prop) (w : World) (p : Nat) : Nat → Prop := fun k => (F k ∨ w.heap.size ≤ k) ∧ k ≠ p
def OKo (F : Nat → Prop) (w : World) (p : Nat) : Nat → Prop := fun k => (F k ∧ k ≠ p) ∧ k < w.heap.size
theorem N_any {w : World} {b : Nat} {ok : Nat → Prop} {v : Value} {l : List SF} (h : Kd.N kF 36 w b ok v l) : ∃ A n c, v = .slice A n c := by
  obtain ⟨A, c, e⟩ := Kd.N_slice h
  exact ⟨A, _, c, e⟩
theorem foot_take {w W : World} {A : Option Addr} {j : Nat} (h : Kd.F kF w (OKo F W p) A l.length l) (hj : j ≤ l.length) : Kd.F kF w (OKo F W p) A j (l.take j) := by
  have h1 := Kd.F_take h hj
  rwa [show (l.take j).length = j by rw [List.length_take]; omega] at h1
theorem foot_drop {w W : World} {A : Option Addr} {j c : Nat} (h : Kd.F kF w (OKo F W p) A l.length l) (hj : j ≤ l.length) (hc : l.length ≤ c) : Kd.F kF w (OKo F W p) (if c = j then A else A.map (·.add (j * 3))) (l.length - j) (l.drop j) := by
  have h1 := Kd.F_cut h hj hc
  rwa [List.length_drop] at h1
theorem cut_rest {w W : World} {A : Option Addr} {k c : Nat} (h : Kd.F kF w (OKo F W p) A l.length l) (hk : k ≤ l.length) (hc : l.length ≤ c) :
    ∃ A', (∀ w', (Instr.slice 27 (.slice A l.length c) (some (.int .i64 (k : Int))) none none).run Try.prog w' = .ok (.slice A' (l.length - k) (c - k)) w') ∧ Kd.F kF w (OKo F W p) A' (l.length - k) (l.drop k) := by
  obtain ⟨i0, hi, hz0, hz1, hz2⟩ := info_parts info36
  have h1 := cut_from (P := Try.prog) 27 36 .i64 Try.underlying27 hi 3 hz1 A l.length c (k : Int) (by omega) (by omega)
  simp only [Int.toNat_natCast] at h1
  exact ⟨_, h1, foot_drop h hk hc⟩
/-- What put leaves. -/
def PutPost (F : Nat → Prop) (p : Nat) (w : World) (l : List SF) (f : SF) (ar : Nat) (dn : Bool) (la : ByteArray) (e : Ending) (w' : World) : Prop :=
  e = .returned (.tuple #[]) ∧ ∃ (v' : Value) (j : Nat), RefIs w' (Gr F w w') p v' (l.take j ++ f :: l.drop j) ar dn la ∧ Chg (· = p) w w' ∧ j ≤ l.length ∧ (∀ i (hi : i < l.length), i < j → less l[i].f0 f.f0 = true) ∧ ∀ hj : j < l.length, less l[j].f0 f.f0 = false
set_option maxHeartbeats 2000000 in
set_option maxRecDepth 100000 in
theorem rput_calls (h : RefIs w F p v l ar dn la) (f : SF) (A4 : Option Addr) (c4 : Nat) (hc : f.f1.length ≤ c4) (hf : Kd.F (Kd.int .u8) w (fun k => F k ∧ k ≠ p) A4 f.f1.length f.f1) (hl : l.length ≤ 1048576) :
    Calls Try.prog 39 #[ptr p, .agg #[.string f.f0, .slice A4 f.f1.length c4, .int .i64 f.f2]] w (PutPost F p w l f ar dn la) := by
  obtain ⟨A, c, rfl, hlc, hF⟩ := h.foot
  obtain ⟨W, hW⟩ : ∃ W, W = w.alloc (.cells #[.string f.f0, .slice A4 f.f1.length c4, .int .i64 f.f2] 36) := ⟨_, rfl⟩
  have hbl : Below w.heap.size w W := by rw [hW]; exact below_alloc (Below.refl _ _) _
  have b : W.heap[w.heap.size]? = some (.cells #[.string f.f0, .slice A4 f.f1.length c4, .int .i64 f.f2] 36 (0, 0)) := by rw [hW]; exact sb_new _ _
  have hWs : W.heap.size = w.heap.size + 1 := by rw [hW]; simp
  have hplt := h.lt p h.fp
  have hRW := h.below hbl
  have b0 := sb_cell hRW.blk 0
  have r0 := sb_free hRW.blk 0
  have z0 := sb_cell b 0
  have z1 := sb_cell b 1
  have z2 := sb_cell b 2
  simp at b0 z0 z1 z2
  have hC := Kd.F_now (Kd.F_below hF hbl)
  have HC := Lib.hid hC
  have HF := Lib.hid (Kd.F_below hF hbl)
  have HF4 := Lib.hid (Kd.F_below hf hbl)
  have HB := Lib.hid hbl
  have HR := Lib.hid h
  have HRW := Lib.hid hRW
  have HWs := Lib.hid hWs
  have HP := Lib.hid hplt
  have HCc := Lib.hid hc
  have HLc := Lib.hid hlc
  clear h hlc hF hbl b hWs hplt hRW hC hc hf
  go_enter Try.func39, Try.ntmps39
  go_upto_region 1 with fail
  rw [← hW]
  clear hW
  obtain ⟨q, hq⟩ : ∃ q, q = w.heap.size := ⟨_, rfl⟩
  rw [← hq] at z0 z1 z2 ⊢
  have HQ := Lib.hid hq
  clear hq
  go_upto_region 2 with fail
  go_loopw [4] (fun v4 wr => ∃ (k n : Nat), k ≤ l.length ∧ v4 = .int .i64 k ∧ wr = W.drewN n ∧ Hid (∀ i (hi : i < l.length), i < k → less l[i].f0 f.f0 = true)) (fun v4 _ => l.length - (intOf v4).toNat)
  case atStart => exact ⟨0, 0, Nat.zero_le _, rfl, rfl, Lib.hid (fun i _ h => by omega)⟩
  case round =>
    obtain ⟨k, n, hk, rfl, rfl, HN⟩ := hrel
    by_cases hgo : ∃ hlt : k < l.length, less l[k].f0 f.f0 = true
    · obtain ⟨hlt, hb⟩ := hgo
      obtain ⟨ad, A5, c5, rfl, x0, -, -, -, -⟩ := files_at HC.out hlt
      have g1 : decide ((k : Int) < (l.length : Int)) = true := decide_eq_true (by omega)
      obtain ⟨nk, hnk⟩ : ∃ nk, l[k].f0 = nk := ⟨_, rfl⟩
      have HNK := Lib.hid hnk
      rw [hnk] at x0 hb
      clear hnk
      have g2 : Op.bytesLess nk.toList f.f0.toList = true := hb
      have HL := Lib.hid hb
      clear hb
      go_upto_region 2 with fail
      go_quiet (fail)
      go_wp2
      go_roundw
      case rel =>
        refine ⟨k + 1, _, by omega, by go_num, rfl, Lib.hid (fun i hi hik => ?_)⟩
        rcases Nat.lt_succ_iff_lt_or_eq.1 hik with h1 | h1
        · exact HN.out i hi h1
        · subst h1
          rw [HNK.out]
          exact HL.out
      case measure =>
        show l.length - ((k : Int) + 1).toNat < l.length - (k : Int).toNat
        omega
    · have HEnd : Hid (∀ hj : k < l.length, less l[k].f0 f.f0 = false) := Lib.hid (fun hj => by
        cases hb : less l[k].f0 f.f0 with
        | false => rfl
        | true => exact absurd ⟨hj, hb⟩ hgo)
      clear hgo
      by_cases hlt : k < l.length
      case' pos =>
        obtain ⟨ad, A5, c5, rfl, x0, -, -, -, -⟩ := files_at HC.out hlt
        have g1 : decide ((k : Int) < (l.length : Int)) = true := decide_eq_true (by omega)
        have hb := HEnd.out hlt
        obtain ⟨nk, hnk⟩ : ∃ nk, l[k].f0 = nk := ⟨_, rfl⟩
        rw [hnk] at x0 hb
        clear hnk
        have g2 : Op.bytesLess nk.toList f.f0.toList = false := hb
        clear hb
        go_upto_region 2 with fail
        go_quiet (fail)
        clear g1 g2 x0
        go_upto_region 4 with fail
      case' neg =>
        have g1 : decide ((k : Int) < (l.length : Int)) = false := decide_eq_false (by omega)
        go_upto_region 2 with fail
        go_quiet (fail)
        clear g1
        go_upto_region 4 with fail
      all_goals
        obtain ⟨w5, hw5⟩ : ∃ w5, w5 = (W.drewN n).drewN nq := ⟨_, rfl⟩
        have hB5 : Below W.heap.size W w5 := by rw [hw5]; exact pw_below_drewN (pw_below_drewN (Below.refl _ _) _) _
        have HB5 := Lib.hid hB5
        have HB0 := Lib.hid b0
        have HZ0 := Lib.hid z0
        have HZ1 := Lib.hid z1
        have HZ2 := Lib.hid z2
        have HR0 := Lib.hid r0
        rw [← hw5]
        clear hw5 hB5 b0 z0 z1 z2 r0
        have HFo : Hid (Kd.F kF W (OKo F W p) _ l.length l) := Lib.hid (foot_mono HRW.out.lt HF.out)
        have hk2 : ((k : Nat) : Int) ≤ 1048576 := by omega
        have HK := Lib.hid hk
        have HLl := Lib.hid hl
        have hkc : k ≤ c := Nat.le_trans HK.out HLc.out
        have hpW : p < W.heap.size := by have := HP.out; have := HWs.out; omega
        have HPW := Lib.hid hpW
        clear hpW
        go_upto_region 5 with (first
          | ((with_reducible refine gate_dst (N := 28) rfl ?_); refine Kd.N_lit kF (w0 := W) W.heap.size 36 ?hg (N' := 28) ?hd (xs := ([] : List SF)) (inner := []) (ok := OKs F W p) (okp := fun _ => False) ?hr ?hp (fun _ hk => hk.elim) ?hf HB5.out HB5.out.size (by simp) ?_; (case hd => rfl); (case hg => rfl); (case hr => first | (go_simp; done) | (go_simp; rfl)); (case hp => exact (Reps.none _ _)); (case hf => exact ⟨.inr HB5.out.size, by have := HPW.out; have := HB5.out.size; omega⟩); intro v28 w28 ho hb hg hat; have e0 := pw_cell_below hb HB0.out; have HO28 := Lib.hid ho; have HB28 := Lib.hid hb; clear ho hb hg hat)
          | ((with_reducible refine gate_builtin (b := .append) (xs := #[.tmp 28, .tmp 34]) rfl ?_); at_builtin; go_must (refine Kd.N_append_rows kF (w0 := W) W.heap.size rfl (.tmp 28) (.tmp 34) 27 36 (.agg #[(.string ⟨#[]⟩), (.slice none 0 0), (.int .i64 0)]) 48 rfl Try.underlying27 info36 rfl (by decide) (by omega) v28 [] (l.take k) _ k _ (OKs F W p) (OKo F W p) rfl rfl ?aO ?aR ?aP ?aF ?aB ?aS ?aL ?_); (case aO => exact HO28.out); (case aR => exact foot_take (Kd.F_below HFo.out HB28.out) HK.out); (case aP => exact fun k hk => ⟨⟨.inl hk.1.1, hk.1.2⟩, fun he => by have := Kd.N_base HO28.out k he.symm; have := hk.2; omega⟩); (case aF => exact fun k hk => ⟨.inr (Nat.le_trans HB28.out.size hk), by have := HPW.out; have := HB28.out.size; omega⟩); (case aB => exact HB28.out); (case aS => exact HB28.out.size); (case aL => have := HK.out; have := HLl.out; simp only [List.length_nil]; omega); intro v35 w35 ho hb hg hat; have HO35 := Lib.hid ho; have HB35 := Lib.hid hb; clear ho hb hg hat e0))
        have e1 := pw_cell_below HB35.out HZ0.out
        have e2 := pw_cell_below HB35.out HZ1.out
        have e3 := pw_cell_below HB35.out HZ2.out
        clear HO28 HB28
        go_upto_region 6 with ((with_reducible refine gate_builtin (b := .append) (xs := #[.tmp 36, .tmp 38]) rfl ?_); at_builtin; go_must (refine Kd.N_append kF (w0 := W) W.heap.size rfl (.tmp 36) (.tmp 38) 27 36 (.agg #[(.string ⟨#[]⟩), (.slice none 0 0), (.int .i64 0)]) 48 rfl Try.underlying27 info36 rfl (by decide) (by omega) v35 ([] ++ l.take k) f [.string f.f0, .slice A4 f.f1.length c4, .int .i64 f.f2] (OKs F W p) (OKo F W p) rfl rfl ?aR ?aP ?aF ?aO ?aB ?aS ?aL ?_); (case aO => exact HO35.out); (case aR => exact FKF_mk HCc.out (Kd.F_mono (Kd.F_below HF4.out HB35.out) (fun k hk => ⟨hk, HRW.out.lt k hk.1⟩))); (case aP => exact fun k hk => ⟨⟨.inl hk.1.1, hk.1.2⟩, fun he => by have := Kd.N_base HO35.out k he.symm; have := hk.2; omega⟩); (case aF => exact fun k hk => ⟨.inr (Nat.le_trans HB35.out.size hk), by have := HPW.out; have := HB35.out.size; omega⟩); (case aB => exact HB35.out); (case aS => exact HB35.out.size); (case aL => have := HK.out; have := HLl.out; simp only [List.nil_append, List.length_take]; omega); intro v39 w39 ho hb hg hat; have HO39 := Lib.hid ho; have HB39 := Lib.hid hb; clear ho hb hg hat)
        have e4 := pw_cell_below HB39.out HB0.out
        obtain ⟨A8, hcut, hF8⟩ := cut_rest HFo.out HK.out HLc.out
        have HF8 := Lib.hid hF8
        clear hF8 HO35 HB35 e1 e2 e3
        go_wp2_with ((with_reducible refine gate_builtin (b := .append) (xs := #[.tmp 41, .tmp 47]) rfl ?_); at_builtin; go_must (refine Kd.N_append_rows kF (w0 := W) W.heap.size rfl (.tmp 41) (.tmp 47) 27 36 (.agg #[(.string ⟨#[]⟩), (.slice none 0 0), (.int .i64 0)]) 48 rfl Try.underlying27 info36 rfl (by decide) (by omega) v39 (([] ++ l.take k) ++ [f]) (l.drop k) _ (l.length - k) (c - k) (OKs F W p) (OKo F W p) rfl rfl ?aO ?aR ?aP ?aF ?aB ?aS ?aL ?_); (case aO => exact HO39.out); (case aR => exact Kd.F_below HF8.out HB39.out); (case aP => exact fun k hk => ⟨⟨.inl hk.1.1, hk.1.2⟩, fun he => by have := Kd.N_base HO39.out k he.symm; have := hk.2; omega⟩); (case aF => exact fun k hk => ⟨.inr (Nat.le_trans HB39.out.size hk), by have := HPW.out; have := HB39.out.size; omega⟩); (case aB => exact HB39.out); (case aS => exact HB39.out.size); (case aL => have := HK.out; have := HLl.out; simp only [List.nil_append, List.length_append, List.length_take, List.length_cons, List.length_nil]; omega); intro v48 w48 ho hb hg hat; obtain ⟨A9, n9, c9, e9⟩ := N_any ho; subst e9; have HO48 := Lib.hid ho; have e5 := pw_cell_below hb HB0.out; have r5 : w48.frozen? ⟨p, 0, none⟩ = false := (hb.frozen (p := ⟨p, 0, none⟩) HPW.out).trans HR0.out; have HB48 := Lib.hid hb; clear ho hb hg hat e4)
        go_end0
        have hb48 := (HB48.out.block p HPW.out).trans HRW.out.blk
        have hcg : Chg (· = p) w (w48.setCell ⟨p, 0, none⟩ (.slice A9 n9 c9)) := ((Chg.of_below HB.out).same (Chg.of_below HB48.out)).same (Chg.setCell (F := (· = p)) w48 (p := ⟨p, 0, none⟩) rfl (.slice A9 n9 c9))
        refine ⟨rfl, .slice A9 n9 c9, k, ⟨?_, .inl HR.out.fp, ?_, Gr.lt HR.out.lt hcg.size⟩, hcg, HK.out, fun i hi hik => HN.out i hi hik, HEnd.out⟩
        · have h1 := sb_set hb48 0 (.slice A9 n9 c9)
          simpa using h1
        · have h1 := Kd.N_far (Kd.N_lower (Kd.N_bound HO48.out) (Nat.zero_le _)) (p := ⟨p, 0, none⟩) (fun k hk => hk.1.2) (.slice A9 n9 c9)
          have h2 := Kd.N_mono (ok' := fun k => Gr F w (w48.setCell ⟨p, 0, none⟩ (.slice A9 n9 c9)) k ∧ k ≠ p) h1 (fun k hk => ⟨hk.1.1.elim .inl (fun h => .inr ⟨Nat.le_trans HB.out.size h, by simpa [World.setCell] using hk.2⟩), hk.1.2⟩)
          simpa using h2
end
end Go.Proofs.Ytflajlnknimjaaa.Dk

/- The reference's take. -/
namespace Go.Proofs.Ytflajlnknimjaaa.Dk
open Go.RowKit Go.Maps Go.Proofs.YtflajlnknimjaaaW.PrintWords Go.Proofs.YtflajlnknimjaaaW.PrintMore Go.Proofs.Ytflajlnknimjaaa.Syn Go.Proofs.Ytflajlnknimjaaa.PDiskLoads
set_option linter.unusedVariables false
set_option linter.unusedSimpArgs false

section
variable {w : World} {F : Nat → Prop} {p : Nat} {v : Value} {l : List SF} {ar : Nat} {dn : Bool} {la : ByteArray}
/-- Element i, with what its bytes stand on. -/
theorem RefIs.elem (h : RefIs w F p v l ar dn la) {i : Nat} (hi : i < l.length) : ∃ g c A4 c4, v = .slice (some ⟨g, 0, none⟩) l.length c ∧ l.length ≤ c ∧ F g ∧ g ≠ p ∧ l[i].f1.length ≤ c4 ∧ Kd.F (Kd.int .u8) w (fun k => (F k ∧ k ≠ p) ∧ k ≠ g) A4 l[i].f1.length l[i].f1 ∧
    w.cell? ⟨g, i * 3, none⟩ = some (.string l[i].f0) ∧ w.cell? ⟨g, i * 3 + 1, none⟩ = some (.slice A4 l[i].f1.length c4) ∧ w.cell? ⟨g, i * 3 + 2, none⟩ = some (.int .i64 l[i].f2) ∧ ∀ j, w.frozen? ⟨g, i * 3 + j, none⟩ = false := by
  obtain ⟨g, c, hv, _⟩ := Kd.N_form h.row (by omega)
  have hr := h.row
  subst hv
  obtain ⟨e1, e2, _⟩ := Kd.N_reads' hr
  have hg := hr.1 g (by simp [Value.ownBlock])
  obtain ⟨cs, h1, h2, h3, h4⟩ := Kd.N_elem hr (⟨nil_, [], 0⟩ : SF) (i : Int) (by omega) (by omega)
  have hd : l.getD i ⟨nil_, [], 0⟩ = l[i] := by simp [hi]
  simp only [Int.toNat_natCast] at h2 h3 h4
  rw [hd] at h2
  obtain ⟨A4, c4, rfl, h5, h6⟩ := FKF_open h2
  exact ⟨g, c, A4, c4, rfl, e2, hg.1, hg.2, h5, h6, h3 0 _ rfl, h3 1 _ rfl, h3 2 _ rfl, h4⟩
/-- What take leaves. -/
def TakePost (F : Nat → Prop) (p : Nat) (w : World) (l : List SF) (i : Nat) (f : SF) (ar : Nat) (dn : Bool) (la : ByteArray) (e : Ending) (w' : World) : Prop :=
  ∃ (A4 : Option Addr) (c4 : Nat) (v' : Value), e = .returned (.agg #[.string f.f0, .slice A4 f.f1.length c4, .int .i64 f.f2]) ∧ f.f1.length ≤ c4 ∧ Kd.F (Kd.int .u8) w' (fun k => Gr F w w' k ∧ k ≠ p) A4 f.f1.length f.f1 ∧ RefIs w' (Gr F w w') p v' (l.take i ++ l.drop (i + 1)) ar dn la ∧ Chg (· = p) w w'
set_option maxHeartbeats 2000000 in
set_option maxRecDepth 100000 in
theorem rtake_calls (h : RefIs w F p v l ar dn la) {i : Nat} (hi : i < l.length) (hl : l.length ≤ 1048576) :
    Calls Try.prog 62 #[ptr p, .int .i64 i] w (TakePost F p w l i l[i] ar dn la) := by
  obtain ⟨g, c, A4, c4, rfl, hlc, hFg, hgp, hl4, hF4, x0, x1, x2, hfz⟩ := h.elem hi
  obtain ⟨f, hf⟩ : ∃ f, f = l[i] := ⟨_, rfl⟩
  rw [← hf] at hl4 hF4 x0 x1 x2 ⊢
  clear hf
  obtain ⟨A, c', e', _, hF⟩ := h.foot
  have hA : A = some ⟨g, 0, none⟩ ∧ c = c' := by injection e' with e1 _ e2; exact ⟨e1.symm, e2⟩
  obtain ⟨rfl, rfl⟩ := hA
  clear e'
  obtain ⟨W0, hW0⟩ : ∃ W0, W0 = w.alloc (.cells #[.string ⟨#[]⟩, .slice none 0 0, .int .i64 0] 36) := ⟨_, rfl⟩
  obtain ⟨W, hW⟩ : ∃ W, W = W0.alloc (.cells #[.string f.f0, .slice A4 f.f1.length c4, .int .i64 f.f2] 36) := ⟨_, rfl⟩
  have hb0 : Below w.heap.size w W0 := by rw [hW0]; exact below_alloc (Below.refl _ _) _
  have hb1 : Below W0.heap.size W0 W := by rw [hW]; exact below_alloc (Below.refl _ _) _
  have hs0 : W0.heap.size = w.heap.size + 1 := by rw [hW0]; simp
  have hs1 : W.heap.size = W0.heap.size + 1 := by rw [hW]; simp
  have hbl := below_step hb0 hb1
  have B0 : W0.heap[w.heap.size]? = some (.cells #[.string ⟨#[]⟩, .slice none 0 0, .int .i64 0] 36 (0, 0)) := by rw [hW0]; exact sb_new _ _
  have B1 : W.heap[W0.heap.size]? = some (.cells #[.string f.f0, .slice A4 f.f1.length c4, .int .i64 f.f2] 36 (0, 0)) := by rw [hW]; exact sb_new _ _
  have B0' := (hb1.block _ (blk_lt B0)).trans B0
  have hRW := h.below hbl
  have b0 := sb_cell h.blk 0
  simp at b0
  have b0' := pw_cell_below hb0 b0
  have x0' := pw_cell_below hb0 x0
  have x1' := pw_cell_below hb0 x1
  have x2' := pw_cell_below hb0 x2
  have hplt := h.lt p h.fp
  have HR := Lib.hid h
  have HRW := Lib.hid hRW
  have HB := Lib.hid hbl
  have HS0 := Lib.hid hs0
  have HS1 := Lib.hid hs1
  have HB0 := Lib.hid B0'
  have HB1 := Lib.hid B1
  have HF := Lib.hid (Kd.F_below hF hbl)
  have HF4 := Lib.hid (Kd.F_below hF4 hbl)
  have HL4 := Lib.hid hl4
  have HLc := Lib.hid hlc
  have HP := Lib.hid hplt
  have HFZ := Lib.hid hfz
  have hbW := pw_cell_below hbl b0
  have HbW := Lib.hid hbW
  have hrW := sb_free hRW.blk 0
  have HrW := Lib.hid hrW
  clear h hRW hb0 hb1 hbl B0 B0' B1 hF hF4 hl4 hlc hplt hfz b0 x0 x1 x2 hs0 hs1 hbW hrW
  go_enter Try.func62, Try.ntmps62
  go_upto_region 1 with fail
  rw [← hW0]
  clear hW0
  go_upto_region 2 with fail
  rw [← hW]
  clear hW b0' x0' x1' x2'
  obtain ⟨q4, hq4⟩ : ∃ q, q = w.heap.size := ⟨_, rfl⟩
  obtain ⟨q5, hq5⟩ : ∃ q, q = W0.heap.size := ⟨_, rfl⟩
  rw [← hq4] at HB0 ⊢
  rw [← hq5] at HB1 ⊢
  have HQ4 := Lib.hid hq4
  have HQ5 := Lib.hid hq5
  clear hq4 hq5
  have b0 := HbW.out
  have HFo : Hid (Kd.F kF W (OKo F W p) _ l.length l) := Lib.hid (foot_mono HRW.out.lt HF.out)
  have HLl := Lib.hid hl
  have HI := Lib.hid hi
  have hi2 : ((i : Nat) : Int) ≤ 1048576 := by omega
  have hkc : i ≤ c := by have := HLc.out; omega
  have hpW : p < W.heap.size := by have := HP.out; have := HS0.out; have := HS1.out; omega
  have HPW := Lib.hid hpW
  clear hpW hi hl
  go_upto_region 3 with (first
    | ((with_reducible refine gate_dst (N := 14) rfl ?_); refine Kd.N_lit kF (w0 := W) W.heap.size 36 ?hg (N' := 14) ?hd (xs := ([] : List SF)) (inner := []) (ok := OKs F W p) (okp := fun _ => False) ?hr ?hp (fun _ hk => hk.elim) ?hf (Below.refl _ _) (Nat.le_refl _) (by simp) ?_; (case hd => rfl); (case hg => rfl); (case hr => first | (go_simp; done) | (go_simp; rfl)); (case hp => exact (Reps.none _ _)); (case hf => exact ⟨.inr (Nat.le_refl _), by have := HPW.out; omega⟩); intro v28 w28 ho hb hg hat; have e0 := pw_cell_below hb HbW.out; have HO28 := Lib.hid ho; have HB28 := Lib.hid hb; clear ho hb hg hat)
    | ((with_reducible refine gate_builtin (b := .append) (xs := #[.tmp 14, .tmp 20]) rfl ?_); at_builtin; go_must (refine Kd.N_append_rows kF (w0 := W) W.heap.size rfl (.tmp 14) (.tmp 20) 27 36 (.agg #[(.string ⟨#[]⟩), (.slice none 0 0), (.int .i64 0)]) 48 rfl Try.underlying27 info36 rfl (by decide) (by omega) v28 [] (l.take i) _ i _ (OKs F W p) (OKo F W p) rfl rfl ?aO ?aR ?aP ?aF ?aB ?aS ?aL ?_); (case aO => exact HO28.out); (case aR => exact foot_take (Kd.F_below HFo.out HB28.out) (Nat.le_of_lt HI.out)); (case aP => exact fun k hk => ⟨⟨.inl hk.1.1, hk.1.2⟩, fun he => by have := Kd.N_base HO28.out k he.symm; have := hk.2; omega⟩); (case aF => exact fun k hk => ⟨.inr (Nat.le_trans HB28.out.size hk), by have := HPW.out; have := HB28.out.size; omega⟩); (case aB => exact HB28.out); (case aS => exact HB28.out.size); (case aL => have := HI.out; have := HLl.out; simp only [List.length_nil]; omega); intro v35 w35 ho hb hg hat; have HO35 := Lib.hid ho; have HB35 := Lib.hid hb; clear ho hb hg hat e0))
  have e4 := pw_cell_below HB35.out HbW.out
  obtain ⟨A8, hcut, hF8⟩ := cut_rest (k := i + 1) HFo.out HI.out HLc.out
  have HF8 := Lib.hid hF8
  have hcut' : ∀ w', (Instr.slice 27 (.slice (some ⟨g, 0, none⟩) l.length c) (some (.int .i64 ((i : Int) + 1))) none none).run Try.prog w' = .ok (.slice A8 (l.length - (i + 1)) (c - (i + 1))) w' := hcut
  clear hF8 HO28 HB28 hcut b0
  go_upto_region 4 with ((with_reducible refine gate_builtin (b := .append) (xs := #[.tmp 23, .tmp 30]) rfl ?_); at_builtin; go_must (refine Kd.N_append_rows kF (w0 := W) W.heap.size rfl (.tmp 23) (.tmp 30) 27 36 (.agg #[(.string ⟨#[]⟩), (.slice none 0 0), (.int .i64 0)]) 48 rfl Try.underlying27 info36 rfl (by decide) (by omega) v35 ([] ++ l.take i) (l.drop (i + 1)) _ (l.length - (i + 1)) (c - (i + 1)) (OKs F W p) (OKo F W p) rfl rfl ?aO ?aR ?aP ?aF ?aB ?aS ?aL ?_); (case aO => exact HO35.out); (case aR => exact Kd.F_below HF8.out HB35.out); (case aP => exact fun k hk => ⟨⟨.inl hk.1.1, hk.1.2⟩, fun he => by have := Kd.N_base HO35.out k he.symm; have := hk.2; omega⟩); (case aF => exact fun k hk => ⟨.inr (Nat.le_trans HB35.out.size hk), by have := HPW.out; have := HB35.out.size; omega⟩); (case aB => exact HB35.out); (case aS => exact HB35.out.size); (case aL => have := HI.out; have := HLl.out; simp only [List.nil_append, List.length_append, List.length_take, List.length_cons, List.length_nil]; omega); intro v48 w48 ho hb hg hat; obtain ⟨A9, n9, c9, e9⟩ := N_any ho; subst e9; have HO48 := Lib.hid ho; have e5 := pw_cell_below hb HbW.out; have r5 : w48.frozen? ⟨p, 0, none⟩ = false := (hb.frozen (p := ⟨p, 0, none⟩) HPW.out).trans HrW.out; have HB48 := Lib.hid hb; clear ho hb hg hat e4)
  have hp5 : q5 ≠ p := by have := HP.out; have := HQ5.out; have := HS0.out; omega
  have hp4 : q4 ≠ p := by have := HP.out; have := HQ4.out; omega
  have hq45 : q5 ≠ q4 := by have := HQ4.out; have := HQ5.out; have := HS0.out; omega
  have hb48 := (HB48.out.block p HPW.out).trans HRW.out.blk
  have hcg : Chg (· = p) w (w48.setCell ⟨p, 0, none⟩ (.slice A9 n9 c9)) := ((Chg.of_below HB.out).same (Chg.of_below HB48.out)).same (Chg.setCell (F := (· = p)) w48 (p := ⟨p, 0, none⟩) rfl (.slice A9 n9 c9))
  have hN9 : Kd.N kF 36 (w48.setCell ⟨p, 0, none⟩ (.slice A9 n9 c9)) 0 (OKs F W p) (.slice A9 n9 c9) (l.take i ++ l.drop (i + 1)) := by
    have h1 := Kd.N_far (Kd.N_lower HO48.out (Nat.zero_le _)) (p := ⟨p, 0, none⟩) (fun k hk => hk.2) (.slice A9 n9 c9)
    simpa using h1
  have hP9 : (w48.setCell ⟨p, 0, none⟩ (.slice A9 n9 c9)).heap[p]? = some (.cells #[.slice A9 n9 c9, .int .i64 ar, .bool dn, .string la] 29 (0, 0)) := by
    have h1 := sb_set hb48 0 (.slice A9 n9 c9)
    simpa using h1
  have hF9 : Kd.F (Kd.int .u8) (w48.setCell ⟨p, 0, none⟩ (.slice A9 n9 c9)) (fun k => F k ∧ k ≠ p) A4 f.f1.length f.f1 :=
    Kd.F_far (Kd.F_mono (Kd.F_below HF4.out HB48.out) (fun k hk => ⟨hk.1.1, hk.1.2⟩)) (fun k hk => hk.2) _
  have hk5 := sb_far ((HB48.out.block q5 (blk_lt HB1.out)).trans HB1.out) (p := ⟨p, 0, none⟩) hp5 (.slice A9 n9 c9)
  have hk4 := sb_far ((HB48.out.block q4 (blk_lt HB0.out)).trans HB0.out) (p := ⟨p, 0, none⟩) hp4 (.slice A9 n9 c9)
  obtain ⟨W9, hW9⟩ : ∃ W9, W9 = w48.setCell ⟨p, 0, none⟩ (.slice A9 n9 c9) := ⟨_, rfl⟩
  rw [← hW9] at hcg hN9 hP9 hF9 hk5 hk4 ⊢
  have hlt4 : ¬ F q4 := fun hf => by have := HR.out.lt _ hf; have := HQ4.out; omega
  have HP4 := Lib.hid hp4
  clear hW9 hb48 e5 r5 hp5 hp4
  have k0 := sb_cell hk5 0
  have k1 := sb_cell hk5 1
  have k2 := sb_cell hk5 2
  have j0 := sb_cell hk4 0
  have j1 := sb_cell hk4 1
  have j2 := sb_cell hk4 2
  have f0 := sb_free hk4 0
  have f1 := sb_free hk4 1
  have f2 := sb_free hk4 2
  simp at k0 k1 k2 j0 j1 j2
  have HK4 := Lib.hid hk4
  have HCG := Lib.hid hcg
  have HN9 := Lib.hid hN9
  have HP9 := Lib.hid hP9
  have HF9 := Lib.hid hF9
  have HLT4 := Lib.hid hlt4
  clear hk5 hk4 hcg hN9 hP9 hF9 hlt4 hcut'
  go_wp2
  refine bodyPost_ret (v := .agg #[.string f.f0, .slice A4 f.f1.length c4, .int .i64 f.f2]) ?_ rfl ?_
  · simp [results, Try.results62, go_sem, j0, j1, j2]
  · obtain ⟨wf, hwf⟩ : ∃ wf, wf = ((W9.setCell ⟨q4, 0, none⟩ (.string f.f0)).setCell ⟨q4, 1, none⟩ (.slice A4 f.f1.length c4)).setCell ⟨q4, 2, none⟩ (.int .i64 f.f2) := ⟨_, rfl⟩
    have hc1 : Chg (· = q4) W9 wf := by rw [hwf]; exact ((Chg.setCell (F := (· = q4)) W9 (p := ⟨q4, 0, none⟩) rfl _).same (Chg.setCell (F := (· = q4)) _ (p := ⟨q4, 1, none⟩) rfl _)).same (Chg.setCell (F := (· = q4)) _ (p := ⟨q4, 2, none⟩) rfl _)
    have hcf : Chg (· = p) w wf := HCG.out.trans hc1 (fun k hk => .inr (by rw [hk]; have := HQ4.out; omega))
    have hq : ∀ k, OKs F W p k → k ≠ q4 := fun k hk e => by
      subst e
      rcases hk.1 with h1 | h1
      · exact HLT4.out h1
      · have := HQ4.out; have := HS0.out; have := HS1.out; omega
    have hN := Kd.N_bound (Kd.N_step HN9.out (fun k hk hlt => hc1.block k hlt (hq k hk)))
    have hF := Kd.F_step HF9.out (fun k hk hlt => hc1.block k hlt (fun e => HLT4.out (e ▸ hk.1)))
    rw [← hwf]
    refine ⟨A4, c4, _, rfl, HL4.out, Kd.F_mono hF (fun k hk => ⟨.inl hk.1, hk.2⟩), ⟨?_, .inl HR.out.fp, Kd.N_mono hN (fun k hk => ⟨hk.1.1.elim .inl (fun h => .inr ⟨Nat.le_trans HB.out.size h, hk.2⟩), hk.1.2⟩), Gr.lt HR.out.lt hcf.size⟩, hcf⟩
    exact (hc1.block p (blk_lt HP9.out) (fun e => HP4.out e.symm)).trans HP9.out
end
end Go.Proofs.Ytflajlnknimjaaa.Dk

/- The reference's Create, Sync, Remove. -/
namespace Go.Proofs.Ytflajlnknimjaaa.Dk
open Go.RowKit Go.Maps Go.WideAt Go.WideShapes Go.Proofs.YtflajlnknimjaaaW.PrintWords Go.Proofs.YtflajlnknimjaaaW.PrintMore Go.Proofs.Ytflajlnknimjaaa.Syn Go.Proofs.Ytflajlnknimjaaa.PDiskLoads
set_option linter.unusedVariables false
set_option linter.unusedSimpArgs false

theorem bytesLess_eq (a b : List UInt8) : Op.bytesLess a b = bytesBefore a b := by
  induction a generalizing b with
  | nil => cases b <;> rfl
  | cons x xs ih =>
    cases b with
    | nil => rfl
    | cons y ys =>
      rw [Op.bytesLess, bytesBefore, ih ys]
theorem less_before (a b : ByteArray) : less a b = bytesBefore (bts a) (bts b) := by
  unfold less
  rw [bytesLess_eq, tl_eq, tl_eq]
theorem put_files {l : List Fl} {x : Fl} (hx : look Fl.nm x.nm l = none) {j : Nat} (hj : j ≤ (l.map Fl.out).length) (h1 : ∀ i (hi : i < (l.map Fl.out).length), i < j → less (l.map Fl.out)[i].f0 x.out.f0 = true)
    (h2 : ∀ hj : j < (l.map Fl.out).length, less (l.map Fl.out)[j].f0 x.out.f0 = false) : (l.map Fl.out).take j ++ x.out :: (l.map Fl.out).drop j = (ins Fl.nm x l).map Fl.out := by
  rw [List.length_map] at hj
  rw [ins_at (j := j) hj (fun i hi hij => ?_) (fun hj2 => ?_)]
  · rw [List.map_append, List.map_cons, List.map_take, List.map_drop]
  · have h := h1 i (by rwa [List.length_map]) hij
    rw [less_before] at h
    simp only [List.getElem_map] at h
    exact before_asymm h
  · have h := h2 (by rwa [List.length_map])
    rw [less_before] at h
    simp only [List.getElem_map] at h
    exact before_of_not (look_none.1 hx _ (List.getElem_mem hj2)) h
/-- What an operation of the reference's disk leaves. -/
def RPost (F : Nat → Prop) (p : Nat) (w : World) (r : Int × St) (e : Ending) (w' : World) : Prop := e = .returned (.int .i64 r.1) ∧ RefAt w' (Gr F w w') p r.2 ∧ Chg F w w'

section
variable {F : Nat → Prop} {p : Nat} {w w1 : World} {v : Value} {d : St}
theorem RefAt.gr (h : RefAt w F p d) (hb : Below w.heap.size w w1) : RefAt w1 (Gr F w w1) p d := by
  obtain ⟨v, h1⟩ := h
  exact ⟨v, (h1.below hb).wide (fun _ h => .inl h) (Gr.lt h1.lt hb.size)⟩
theorem RPost.same {r : Int} (h : RefAt w F p d) (n : Nat) : RPost F p w (r, d) (.returned (.int .i64 r)) (w.drewN n) :=
  ⟨rfl, h.gr (pw_below_drewN (Below.refl _ _) n), Chg.drewN _ _⟩
theorem RPost.ticked {nd : Nat} {r : Int} (h : RefIs w F p v (filesOf d) d.armed d.down d.last) (hb : w1.heap[p]? = some (.cells #[v, .int .i64 (tick d).2.armed, .bool (tick d).2.down, .string d.last] 29 (0, 0))) (hc : Chg (· = p) (w.drewN nd) w1) :
    RPost F p w (r, (tick d).2) (.returned (.int .i64 r)) w1 := by
  have hc' : Chg (· = p) w w1 := (Chg.drewN w nd).same hc
  have hcF : Chg F w w1 := hc'.mono (fun k hk => by rw [hk]; exact h.fp)
  refine ⟨rfl, ⟨v, ?_⟩, hcF⟩
  have h1 := (h.head hb hc').wide (G := Gr F w w1) (fun _ h => .inl h) (Gr.lt h.lt hcF.size)
  have e : filesOf (tick d).2 = filesOf d := by rw [filesOf, filesOf, tick_fs]
  rw [e, tick_last]
  exact h1
theorem rat_none (h : RefIs w F p v (filesOf d) d.armed d.down d.last) (ok : d.Ok) {nm : ByteArray} (hk : pos nm d.fs = none) :
    Calls Try.prog 37 #[ptr p, .string nm] w fun e w' => e = .returned (.int .i64 (-1)) ∧ w = w' := by
  refine (rat_calls h nm (files_len ok).1).mono ?_
  rintro e w' ⟨rfl, rfl⟩
  rw [posI_files, hk]
  exact ⟨rfl, rfl⟩
theorem rat_some (h : RefIs w F p v (filesOf d) d.armed d.down d.last) (ok : d.Ok) {nm : ByteArray} {i : Nat} (hk : pos nm d.fs = some i) :
    Calls Try.prog 37 #[ptr p, .string nm] w fun e w' => e = .returned (.int .i64 (i : Int)) ∧ w = w' := by
  refine (rat_calls h nm (files_len ok).1).mono ?_
  rintro e w' ⟨rfl, rfl⟩
  rw [posI_files, hk]
  exact ⟨rfl, rfl⟩
theorem files_short (ok : d.Ok) : (filesOf d).length ≤ 1048576 := by
  have := ok.cnt
  simp [filesOf]
  omega

set_option maxRecDepth 100000 in
set_option maxHeartbeats 1000000 in
theorem rcreate_calls (nm : ByteArray) (h : RefAt w F p d) (ok : d.Ok) (hn : nm.size ≤ 140737488351232) :
    Calls Try.prog 13 #[ptr p, .string nm] w (RPost F p w (d.create nm)) := by
  have hn2 : nm.size ≤ 9223372036854775806 := by omega
  have h' := h
  obtain ⟨v, hI⟩ := h
  obtain ⟨A, c, hv, -, -⟩ := hI.reads
  have b0 := sb_cell hI.blk 0
  have b2 := sb_cell hI.blk 2
  simp at b0 b2
  rw [hv] at b0
  have HI := Lib.hid hI
  have HA := Lib.hid ok
  have HH := Lib.hid h'
  have HV := Lib.hid hv
  clear hI hv h'
  generalize hr : d.create nm = r
  unfold St.create at hr
  by_cases hd : d.down = true
  · rw [if_pos hd] at hr
    rw [hd] at b2
    have HR := Lib.hid hr
    clear hr hd ok
    go_enter Try.func13, Try.ntmps13
    go_wp2
    go_ret
    rw [← HR.out]
    exact RPost.same HH.out 0
  rw [if_neg hd] at hr
  have hd' : d.down = false := by simpa using hd
  rw [hd'] at b2
  by_cases hk : okName nm = false
  · rw [if_pos hk] at hr
    have HR := Lib.hid hr
    have HK := Lib.hid hk
    clear hr hd hd' ok hk
    go_enter Try.func13, Try.ntmps13
    go_wp2_with (go_at_call 36; refine (rname_calls _ _ hn2).mono ?_; rw [HK.out]; rintro e w' ⟨rfl, ⟨nd, rfl⟩⟩)
    go_ret
    rw [← HR.out]
    exact RPost.same HH.out nd
  rw [if_neg hk] at hr
  have hk' : okName nm = true := by simpa using hk
  have HK := Lib.hid hk'
  cases hp : pos nm d.fs with
  | some i =>
    obtain ⟨hi, hin⟩ := pos_some hp
    have hlk := pos_look ok.srt hp hi
    rw [if_pos (by rw [hlk]; rfl)] at hr
    have HR := Lib.hid hr
    have HPs := Lib.hid hp
    clear hr hd hd' ok hk hk' hp hi hin hlk
    go_enter Try.func13, Try.ntmps13
    go_wp2_with (first
      | (go_at_call 36; refine (rname_calls _ _ hn2).mono ?_; rw [HK.out]; rintro e w' ⟨rfl, ⟨nd, rfl⟩⟩)
      | (go_at_call 37; refine (rat_some (by exact HI.out.below (pw_below_drewN (Below.refl _ _) _)) (by exact HA.out) (by exact HPs.out)).mono ?_; rintro e w' ⟨rfl, rfl⟩))
    go_ret
    rw [← HR.out]
    exact RPost.same HH.out nd
  | none =>
  have hlk := pos_none.1 hp
  rw [if_neg (by rw [hlk]; simp)] at hr
  have HPs := Lib.hid hp
  have HLk := Lib.hid hlk
  have hlen : (filesOf d).length = d.fs.length := by simp [filesOf]
  by_cases hf : 256 ≤ d.fs.length
  · rw [if_pos hf] at hr
    have HR := Lib.hid hr
    have hf' : decide ((256 : Int) ≤ ((filesOf d).length : Int)) = true := decide_eq_true (by omega)
    clear hr hd hd' ok hk hk' hp hlk hlen hf
    go_enter Try.func13, Try.ntmps13
    go_wp2_with (first
      | (go_at_call 36; refine (rname_calls _ _ hn2).mono ?_; rw [HK.out]; rintro e w' ⟨rfl, ⟨nd, rfl⟩⟩)
      | (go_at_call 37; refine (rat_none (by exact HI.out.below (pw_below_drewN (Below.refl _ _) _)) (by exact HA.out) (by exact HPs.out)).mono ?_; rintro e w' ⟨rfl, rfl⟩))
    go_ret
    rw [← HR.out]
    exact RPost.same HH.out nd
  rw [if_neg hf] at hr
  have hf' : decide ((256 : Int) ≤ ((filesOf d).length : Int)) = false := decide_eq_false (by omega)
  cases ht : (tick d).1 with
  | true =>
    rw [ht, if_pos rfl] at hr
    have HR := Lib.hid hr
    have HT := Lib.hid ht
    clear hr hd hd' ok hk hk' hp hlk hlen hf ht
    go_enter Try.func13, Try.ntmps13
    go_wp2_with (first
      | (go_at_call 36; refine (rname_calls _ _ hn2).mono ?_; rw [HK.out]; rintro e w' ⟨rfl, ⟨nd, rfl⟩⟩)
      | (go_at_call 37; refine (rat_none (by exact HI.out.below (pw_below_drewN (Below.refl _ _) _)) (by exact HA.out) (by exact HPs.out)).mono ?_; rintro e w' ⟨rfl, rfl⟩)
      | (go_at_call 38; refine (rtick_calls p _ _ d.last d.armed d.down d rfl rfl HA.out.armed (by exact HI.out.blk)).mono ?_; rintro e w1 ⟨rfl, hb1, hs1, hc1⟩; rw [HT.out]; have HX := Lib.hid hb1; clear hb1))
    go_ret
    rw [← HR.out]
    exact RPost.ticked HI.out HX.out hc1
  | false =>
    rw [ht, if_neg (by simp)] at hr
    have HR := Lib.hid hr
    have HT := Lib.hid ht
    clear hr hd hd' ok hk hk' hp hlk hlen hf ht
    go_enter Try.func13, Try.ntmps13
    go_wp2_with (first
      | (go_at_call 36; refine (rname_calls _ _ hn2).mono ?_; rw [HK.out]; rintro e w' ⟨rfl, ⟨nd, rfl⟩⟩)
      | (go_at_call 37; refine (rat_none (by exact HI.out.below (pw_below_drewN (Below.refl _ _) _)) (by exact HA.out) (by exact HPs.out)).mono ?_; rintro e w' ⟨rfl, rfl⟩)
      | (go_at_call 38; refine (rtick_calls p _ _ d.last d.armed d.down d rfl rfl HA.out.armed (by exact HI.out.blk)).mono ?_; rintro e w1 ⟨rfl, hb1, hs1, hc1⟩; rw [HT.out]; have HX := Lib.hid (HI.out.head hb1 ((Chg.drewN w nd).same hc1)); clear hb1)
      | (go_at_call 39; refine (rput_calls (by exact HX.out) ⟨nm, [], 0⟩ none 0 (by simp) (Kd.F_nil _ _ _) (by exact files_short HA.out)).mono ?_; rintro e w2 ⟨rfl, v2, j, hR2, hc2, hj, hl1, hl2⟩; have HR2 := Lib.hid hR2; have HC2 := Lib.hid hc2; have HJ := Lib.hid hj; have HL1 := Lib.hid hl1; have HL2 := Lib.hid hl2; clear hR2 hc2 hj hl1 hl2))
    go_ret
    rw [← HR.out]
    have hcF : Chg F w w1 := ((Chg.drewN w nd).same hc1).mono (fun k hk => by rw [hk]; exact HI.out.fp)
    have hcA := hcF.same (HC2.out.mono (fun k hk => by rw [hk]; exact HI.out.fp))
    have e : (filesOf d).take j ++ (⟨nm, [], 0⟩ : SF) :: (filesOf d).drop j = (ins Fl.nm ⟨nm, [], 0⟩ d.fs).map Fl.out := put_files (x := ⟨nm, [], 0⟩) HLk.out HJ.out HL1.out HL2.out
    have hR2 := HR2.out
    rw [e] at hR2
    refine ⟨rfl, ⟨v2, ?_⟩, hcA⟩
    simp only [tick_last]
    refine hR2.wide (fun k hk => ?_) (Gr.lt HI.out.lt hcA.size)
    rcases hk with hk | hk
    · exact .inl hk
    · exact .inr ⟨Nat.le_trans hcF.size hk.1, hk.2⟩
end
end Go.Proofs.Ytflajlnknimjaaa.Dk

/- The reference's Remove, Rename. -/
namespace Go.Proofs.Ytflajlnknimjaaa.Dk
open Go.RowKit Go.Maps Go.Proofs.YtflajlnknimjaaaW.PrintWords Go.Proofs.YtflajlnknimjaaaW.PrintMore Go.Proofs.Ytflajlnknimjaaa.Syn Go.Proofs.Ytflajlnknimjaaa.PDiskLoads
set_option linter.unusedVariables false
set_option linter.unusedSimpArgs false

theorem take_files {l : List Fl} (hs : Srt Fl.nm l) {nm : ByteArray} {i : Nat} (hp : pos nm l = some i) : (l.map Fl.out).take i ++ (l.map Fl.out).drop (i + 1) = (era Fl.nm nm l).map Fl.out := by
  obtain ⟨hi, hn⟩ := pos_some hp
  rw [era_erase hs hi hn, erase_take, List.map_append, List.map_take, List.map_drop]
section
variable {F : Nat → Prop} {p : Nat} {w w1 : World} {v : Value} {d : St}
theorem pos_len {nm : ByteArray} {i : Nat} (hp : pos nm d.fs = some i) : i < (filesOf d).length := by
  obtain ⟨hi, _⟩ := pos_some hp
  simpa [filesOf] using hi
set_option maxRecDepth 100000 in
set_option maxHeartbeats 1000000 in
theorem rremove_calls (nm : ByteArray) (h : RefAt w F p d) (ok : d.Ok) :
    Calls Try.prog 53 #[ptr p, .string nm] w (RPost F p w (d.remove nm)) := by
  have h' := h
  obtain ⟨v, hI⟩ := h
  obtain ⟨A, c, hv, -, -⟩ := hI.reads
  have b2 := sb_cell hI.blk 2
  simp at b2
  have HI := Lib.hid hI
  have HA := Lib.hid ok
  have HH := Lib.hid h'
  clear hI hv h'
  generalize hr : d.remove nm = r
  unfold St.remove at hr
  by_cases hd : d.down = true
  · rw [if_pos hd] at hr
    rw [hd] at b2
    have HR := Lib.hid hr
    clear hr hd ok
    go_enter Try.func53, Try.ntmps53
    go_wp2
    go_ret
    rw [← HR.out]
    exact RPost.same HH.out 0
  rw [if_neg hd] at hr
  have hd' : d.down = false := by simpa using hd
  rw [hd'] at b2
  cases hp : pos nm d.fs with
  | none =>
    have hlk := pos_none.1 hp
    rw [hlk] at hr
    have HR := Lib.hid hr
    have HPs := Lib.hid hp
    clear hr hd hd' ok hp hlk
    go_enter Try.func53, Try.ntmps53
    go_wp2_with (go_at_call 37; refine (rat_none (by exact HI.out) (by exact HA.out) (by exact HPs.out)).mono ?_; rintro e w' ⟨rfl, rfl⟩)
    go_ret
    rw [← HR.out]
    exact RPost.same HH.out 0
  | some i =>
  obtain ⟨hi, hin⟩ := pos_some hp
  have hlk := pos_look ok.srt hp hi
  rw [hlk] at hr
  simp only at hr
  have HPs := Lib.hid hp
  have hil := pos_len hp
  have HIL := Lib.hid hil
  have hi0 : (0 : Int) ≤ (i : Int) := by omega
  cases ht : (tick d).1 with
  | true =>
    rw [ht, if_pos rfl] at hr
    have HR := Lib.hid hr
    have HT := Lib.hid ht
    clear hr hd hd' ok hp hi hin hlk ht hil
    go_enter Try.func53, Try.ntmps53
    go_wp2_with (first
      | (go_at_call 37; refine (rat_some (by exact HI.out) (by exact HA.out) (by exact HPs.out)).mono ?_; rintro e w' ⟨rfl, rfl⟩)
      | (go_at_call 38; refine (rtick_calls p _ _ d.last d.armed d.down d rfl rfl HA.out.armed (by exact HI.out.blk)).mono ?_; rintro e w1 ⟨rfl, hb1, hs1, hc1⟩; rw [HT.out]; have HX := Lib.hid hb1; clear hb1))
    go_ret
    rw [← HR.out]
    exact RPost.ticked (nd := 0) HI.out HX.out hc1
  | false =>
    rw [ht, if_neg (by simp)] at hr
    have HT := Lib.hid ht
    by_cases hla : d.last = nm
    · rw [if_pos hla] at hr
      have HR := Lib.hid hr
      have t1 : (d.last.toList == nm.toList) = true := by rw [tl_beq]; exact decide_eq_true hla
      clear hr hd hd' ok hp hi hin hlk ht hil hla
      go_enter Try.func53, Try.ntmps53
      go_wp2_with (first
        | (go_at_call 37; refine (rat_some (by exact HI.out) (by exact HA.out) (by exact HPs.out)).mono ?_; rintro e w' ⟨rfl, rfl⟩)
        | (go_at_call 38; refine (rtick_calls p _ _ d.last d.armed d.down d rfl rfl HA.out.armed (by exact HI.out.blk)).mono ?_; rintro e w1 ⟨rfl, hb1, hs1, hc1⟩; rw [HT.out]; have HX := Lib.hid (HI.out.head hb1 hc1); have HC1 := Lib.hid hc1; clear hb1 hs1 hc1)
        | (go_at_call 62; refine (rtake_calls (by exact HX.out) (by exact HIL.out) (by exact files_short HA.out)).mono ?_; rintro e w2 ⟨A4, c4, v2, rfl, -, -, hR2, hc2⟩; have c3 := sb_cell hR2.blk 3; have f3 := sb_free hR2.blk 3; simp at c3; have HR2 := Lib.hid hR2; have HC2 := Lib.hid hc2; clear hR2 hc2))
      go_ret
      rw [← HR.out]
      have hc3 := (HC1.out.same HC2.out).same (Chg.setCell (F := (· = p)) w2 (p := ⟨p, 3, none⟩) rfl (.string ⟨#[]⟩))
      have hcF : Chg F w (w2.setCell ⟨p, 3, none⟩ (.string ⟨#[]⟩)) := hc3.mono (fun k hk => by rw [hk]; exact HI.out.fp)
      have e : (filesOf d).take i ++ (filesOf d).drop (i + 1) = (era Fl.nm nm d.fs).map Fl.out := take_files HA.out.srt HPs.out
      have hR3 : RefIs (w2.setCell ⟨p, 3, none⟩ (.string ⟨#[]⟩)) (Gr F w1 w2) p v2 ((era Fl.nm nm d.fs).map Fl.out) (tick d).2.armed (tick d).2.down nil_ := by
        have h1 := HR2.out
        rw [e] at h1
        refine h1.head ?_ (Chg.setCell (F := (· = p)) w2 (p := ⟨p, 3, none⟩) rfl (.string ⟨#[]⟩))
        have h2 := sb_set h1.blk 3 (.string ⟨#[]⟩)
        simpa [nil_] using h2
      refine ⟨rfl, ⟨v2, hR3.wide (fun k hk => ?_) (Gr.lt HI.out.lt hcF.size)⟩, hcF⟩
      rcases hk with hk | hk
      · exact .inl hk
      · exact .inr ⟨Nat.le_trans HC1.out.size hk.1, by simpa [World.setCell] using hk.2⟩
    · rw [if_neg hla] at hr
      have HR := Lib.hid hr
      have t1 : (d.last.toList == nm.toList) = false := by rw [tl_beq]; exact decide_eq_false hla
      clear hr hd hd' ok hp hi hin hlk ht hil hla
      go_enter Try.func53, Try.ntmps53
      go_wp2_with (first
        | (go_at_call 37; refine (rat_some (by exact HI.out) (by exact HA.out) (by exact HPs.out)).mono ?_; rintro e w' ⟨rfl, rfl⟩)
        | (go_at_call 38; refine (rtick_calls p _ _ d.last d.armed d.down d rfl rfl HA.out.armed (by exact HI.out.blk)).mono ?_; rintro e w1 ⟨rfl, hb1, hs1, hc1⟩; rw [HT.out]; have HX := Lib.hid (HI.out.head hb1 hc1); have HC1 := Lib.hid hc1; clear hb1 hs1 hc1)
        | (go_at_call 62; refine (rtake_calls (by exact HX.out) (by exact HIL.out) (by exact files_short HA.out)).mono ?_; rintro e w2 ⟨A4, c4, v2, rfl, -, -, hR2, hc2⟩; have c3 := sb_cell hR2.blk 3; simp at c3; have HR2 := Lib.hid hR2; have HC2 := Lib.hid hc2; clear hR2 hc2))
      go_ret
      rw [← HR.out]
      have hc3 := HC1.out.same HC2.out
      have hcF : Chg F w w2 := hc3.mono (fun k hk => by rw [hk]; exact HI.out.fp)
      have e : (filesOf d).take i ++ (filesOf d).drop (i + 1) = (era Fl.nm nm d.fs).map Fl.out := take_files HA.out.srt HPs.out
      have h1 := HR2.out
      rw [e] at h1
      refine ⟨rfl, ⟨v2, ?_⟩, hcF⟩
      simp only [tick_last]
      refine h1.wide (fun k hk => ?_) (Gr.lt HI.out.lt hcF.size)
      rcases hk with hk | hk
      · exact .inl hk
      · exact .inr ⟨Nat.le_trans HC1.out.size hk.1, hk.2⟩
end
end Go.Proofs.Ytflajlnknimjaaa.Dk
