/- Merged: DkQ, DkS, DkV, Dk2, RfP, RfR. -/
import Derived.Test.YtflajlnknimjaaaMp3
import Derived.Test.YtflajlnknimjaaaPDiskLoadsx9
import Derived.WalkLawsBesides
/- told, made, of the laws on a disk. -/
namespace Go.Proofs.Ytflajlnknimjaaa.Dk
open Go.RowKit Go.Maps Go.Proofs.YtflajlnknimjaaaW.PrintWords Go.Proofs.YtflajlnknimjaaaW.PrintMore Go.Proofs.Ytflajlnknimjaaa.Syn Go.Proofs.Ytflajlnknimjaaa.PDiskLoads

abbrev SO := S52
abbrev kO : Kd SO := k52
/-- What a disk told an operation answers, and is then. -/
def told (d : St) (x : SO) : Int × St :=
  if x.f0 = 0 then d.create x.f2 else if x.f0 = 1 then d.append x.f2 x.f4 else if x.f0 = 2 then d.sync x.f2 else if x.f0 = 3 then d.cut x.f2 x.f1
  else if x.f0 = 4 then d.rename x.f2 x.f3 else if x.f0 = 5 then d.remove x.f2 else if x.f0 = 6 then (0, d.arm x.f1) else if x.f0 = 7 then (0, d.crash x.f1) else (0, d)
/-- What an operation's parts may be. -/
structure OpFits (x : SO) : Prop where
  n : x.f1 ≤ 9223372036854775807
  name : x.f2.size ≤ 140737488351232
  dest : x.f3.size ≤ 140737488351232
  b : x.f4.length ≤ 140737488351232
theorem num_calls (e : Int) (w : World) : Calls Try.prog 11 #[.int .i64 e] w fun r w' => r = .returned (.int .i64 e) ∧ w' = w := by
  go_enter Try.func11, Try.ntmps11
  go_wp2
  go_ret
  exact ⟨rfl, rfl⟩

section
variable {B i : Nat} {w0 w : World} {D : List Thing} {p : Nat} {d : St}
set_option maxHeartbeats 2000000 in
set_option maxRecDepth 100000 in
theorem m_told (hM : Many B w0 w D) (hi : D[i]? = some (DISK p d)) (x : SO) (hx : OpFits x) (A : Option Addr) (c : Nat) (hc : x.f4.length ≤ c) (hs : ∀ W, Below B w0 W → (Kd.int .u8).C W A x.f4.length x.f4) :
    Calls Try.prog 26 #[ptr p, .agg #[.int .i64 x.f0, .int .i64 x.f1, .string x.f2, .string x.f3, .slice A x.f4.length c]] w fun e w' => e = .returned (.int .i64 (told d x).1) ∧ Many B w0 w' (D.set i (DISK p (told d x).2)) := by
  obtain ⟨W, hW⟩ : ∃ W, W = w.alloc (.cells #[.int .i64 x.f0, .int .i64 x.f1, .string x.f2, .string x.f3, .slice A x.f4.length c] 52) := ⟨_, rfl⟩
  have hM2 : Many B w0 W D := hM.read (by rw [hW]; exact below_alloc (Below.refl _ _) _)
  have hi2 := hi
  have b : W.heap[w.heap.size]? = some (.cells #[.int .i64 x.f0, .int .i64 x.f1, .string x.f2, .string x.f3, .slice A x.f4.length c] 52 (0, 0)) := by rw [hW]; exact sb_new _ _
  have b0 := sb_cell b 0
  have b1 := sb_cell b 1
  have b2 := sb_cell b 2
  have b3 := sb_cell b 3
  have b4 := sb_cell b 4
  simp at b0 b1 b2 b3 b4
  have hS := fun (F : Nat → Prop) (hF : ∀ k, F k → B ≤ k) (_ : ∀ (j : Nat) (u : Thing), j ≠ i → D[j]? = some u → ∃ G : Nat → Prop, u.P W G ∧ ∀ k, G k → k < W.heap.size ∧ ¬ F k) => src_old hM2 hs F hF
  have HM := Lib.hid hM2
  have HI := Lib.hid hi2
  have HS := Lib.hid hS
  have HX := Lib.hid hx
  have HC := Lib.hid hc
  subst hW
  clear hM2 hi2 hS hx hc hM hi hs b
  obtain ⟨k, n, nm, dest, bs⟩ := x
  simp only at *
  by_cases h0 : k = 0
  · subst h0
    have e : told d ⟨0, n, nm, dest, bs⟩ = d.create nm := rfl
    rw [e]
    clear e
    generalize hr : d.create nm = r
    have HR := Lib.hid hr
    clear hr
    go_enter Try.func26, Try.ntmps26
    go_wp2_with (first
      | (go_at_call 12; refine (m_create (by exact HM.out) (by exact HI.out) nm (by exact HX.out.name)).mono ?_; rw [HR.out]; rintro e w1 ⟨rfl, h1⟩; have H1 := Lib.hid h1; clear h1)
      | (go_at_call 11; refine (num_calls _ _).mono ?_; rintro e w1 ⟨rfl, rfl⟩))
    go_ret
    exact ⟨rfl, H1.out⟩
  by_cases h1 : k = 1
  · subst h1
    have e : told d ⟨1, n, nm, dest, bs⟩ = d.append nm bs := rfl
    rw [e]
    clear e
    generalize hr : d.append nm bs = r
    have HR := Lib.hid hr
    clear hr
    go_enter Try.func26, Try.ntmps26
    go_wp2_with (first
      | (go_at_call 14; refine (m_append (by exact HM.out) (by exact HI.out) nm (by exact HX.out.name) A c bs (by exact HS.out) (by exact HX.out.b) (by exact HC.out)).mono ?_; rw [HR.out]; rintro e w1 ⟨rfl, h1⟩; have H1 := Lib.hid h1; clear h1)
      | (go_at_call 11; refine (num_calls _ _).mono ?_; rintro e w1 ⟨rfl, rfl⟩))
    go_ret
    exact ⟨rfl, H1.out⟩
  by_cases h2 : k = 2
  · subst h2
    have e : told d ⟨2, n, nm, dest, bs⟩ = d.sync nm := rfl
    rw [e]
    clear e
    generalize hr : d.sync nm = r
    have HR := Lib.hid hr
    clear hr
    go_enter Try.func26, Try.ntmps26
    go_wp2_with (first
      | (go_at_call 32; refine (m_sync (by exact HM.out) (by exact HI.out) nm (by exact HX.out.name)).mono ?_; rw [HR.out]; rintro e w1 ⟨rfl, h1⟩; have H1 := Lib.hid h1; clear h1)
      | (go_at_call 11; refine (num_calls _ _).mono ?_; rintro e w1 ⟨rfl, rfl⟩))
    go_ret
    exact ⟨rfl, H1.out⟩
  by_cases h3 : k = 3
  · subst h3
    have e : told d ⟨3, n, nm, dest, bs⟩ = d.cut nm n := rfl
    rw [e]
    clear e
    generalize hr : d.cut nm n = r
    have HR := Lib.hid hr
    clear hr
    go_enter Try.func26, Try.ntmps26
    go_wp2_with (first
      | (go_at_call 44; refine (m_cut (by exact HM.out) (by exact HI.out) nm n (by exact HX.out.name)).mono ?_; rw [HR.out]; rintro e w1 ⟨rfl, h1⟩; have H1 := Lib.hid h1; clear h1)
      | (go_at_call 11; refine (num_calls _ _).mono ?_; rintro e w1 ⟨rfl, rfl⟩))
    go_ret
    exact ⟨rfl, H1.out⟩
  by_cases h4 : k = 4
  · subst h4
    have e : told d ⟨4, n, nm, dest, bs⟩ = d.rename nm dest := rfl
    rw [e]
    clear e
    generalize hr : d.rename nm dest = r
    have HR := Lib.hid hr
    clear hr
    go_enter Try.func26, Try.ntmps26
    go_wp2_with (first
      | (go_at_call 45; refine (m_rename (by exact HM.out) (by exact HI.out) nm dest (by exact HX.out.name) (by exact HX.out.dest)).mono ?_; rw [HR.out]; rintro e w1 ⟨rfl, h1⟩; have H1 := Lib.hid h1; clear h1)
      | (go_at_call 11; refine (num_calls _ _).mono ?_; rintro e w1 ⟨rfl, rfl⟩))
    go_ret
    exact ⟨rfl, H1.out⟩
  by_cases h5 : k = 5
  · subst h5
    have e : told d ⟨5, n, nm, dest, bs⟩ = d.remove nm := rfl
    rw [e]
    clear e
    generalize hr : d.remove nm = r
    have HR := Lib.hid hr
    clear hr
    go_enter Try.func26, Try.ntmps26
    go_wp2_with (first
      | (go_at_call 46; refine (m_remove (by exact HM.out) (by exact HI.out) nm (by exact HX.out.name)).mono ?_; rw [HR.out]; rintro e w1 ⟨rfl, h1⟩; have H1 := Lib.hid h1; clear h1)
      | (go_at_call 11; refine (num_calls _ _).mono ?_; rintro e w1 ⟨rfl, rfl⟩))
    go_ret
    exact ⟨rfl, H1.out⟩
  by_cases h6 : k = 6
  · subst h6
    have e : told d ⟨6, n, nm, dest, bs⟩ = (0, d.arm n) := rfl
    rw [e]
    clear e
    generalize hr : d.arm n = r
    have HR := Lib.hid hr
    clear hr
    go_enter Try.func26, Try.ntmps26
    go_wp2_with (go_at_call 47; refine (m_arm (by exact HM.out) (by exact HI.out) n (by exact HX.out.n)).mono ?_; rw [HR.out]; rintro e w1 ⟨rfl, h1⟩; have H1 := Lib.hid h1; clear h1)
    go_ret
    exact ⟨rfl, H1.out⟩
  by_cases h7 : k = 7
  · subst h7
    have e : told d ⟨7, n, nm, dest, bs⟩ = (0, d.crash n) := rfl
    rw [e]
    clear e
    generalize hr : d.crash n = r
    have HR := Lib.hid hr
    clear hr
    go_enter Try.func26, Try.ntmps26
    go_wp2_with (go_at_call 22; refine (m_crash (by exact HM.out) (by exact HI.out) n).mono ?_; rw [HR.out]; rintro e w1 ⟨rfl, h1⟩; have H1 := Lib.hid h1; clear h1)
    go_ret
    exact ⟨rfl, H1.out⟩
  have e : told d ⟨k, n, nm, dest, bs⟩ = (0, d) := by simp [told, h0, h1, h2, h3, h4, h5, h6, h7]
  rw [e]
  clear e
  have g0 := decide_eq_false h0
  have g1 := decide_eq_false h1
  have g2 := decide_eq_false h2
  have g3 := decide_eq_false h3
  have g4 := decide_eq_false h4
  have g5 := decide_eq_false h5
  have g6 := decide_eq_false h6
  have g7 := decide_eq_false h7
  go_enter Try.func26, Try.ntmps26
  go_wp2
  go_ret
  refine ⟨rfl, ?_⟩
  have hset : D.set i (DISK p d) = D := by
    have h := HI.out
    obtain ⟨hl, hv⟩ := List.getElem?_eq_some_iff.1 h
    rw [← hv, List.set_getElem_self]
  rw [hset]
  exact HM.out
/-- A disk behind operations. -/
def made (l : List SO) : St := l.foldl (fun d x => (told d x).2) St.new
theorem made_snoc (l : List SO) (x : SO) : made (l ++ [x]) = (told (made l) x).2 := by simp [made]
theorem set_last (D : List Thing) (t u : Thing) : (D ++ [t]).set D.length u = D ++ [u] := by simp
theorem get_last (D : List Thing) (t : Thing) : (D ++ [t])[D.length]? = some t := by simp
theorem C_of_below {α : Type} {k : Kd α} {w0 W : World} {A : Option Addr} {n : Nat} {xs : List α} (h : k.C w0 A n xs) (hb : Below w0.heap.size w0 W) : k.C W A n xs := Kd.C_below h hb
/-- The operations as the law has them. -/
structure Ops (w0 : World) (A : Option Addr) (l : List SO) : Prop where
  row : kO.C w0 A l.length l
  len : l.length ≤ 1048576
  fits : ∀ x ∈ l, OpFits x
theorem Ops.at {A : Option Addr} {l : List SO} (h : Ops w0 A l) (k : Nat) (hk : k < l.length) : ∃ ad A4 c4, A = some ad ∧ (∀ W, Below w0.heap.size w0 W → W.cell? (ad.add (k * 5)) = some (.int .i64 l[k].f0) ∧ W.cell? ⟨(ad.add (k * 5)).block, (ad.add (k * 5)).off + 1, none⟩ = some (.int .i64 l[k].f1) ∧ W.cell? ⟨(ad.add (k * 5)).block, (ad.add (k * 5)).off + 2, none⟩ = some (.string l[k].f2) ∧ W.cell? ⟨(ad.add (k * 5)).block, (ad.add (k * 5)).off + 3, none⟩ = some (.string l[k].f3) ∧ W.cell? ⟨(ad.add (k * 5)).block, (ad.add (k * 5)).off + 4, none⟩ = some (.slice A4 l[k].f4.length c4)) ∧ l[k].f4.length ≤ c4 ∧ ∀ W, Below w0.heap.size w0 W → (Kd.int .u8).C W A4 l[k].f4.length l[k].f4 := by
  obtain ⟨ad, A4, c4, rfl, x0, x1, x2, x3, x4, hl, hC⟩ := at_T52 h.row (k : Int) (by omega) (by omega)
  have e : rd_T52 l (k : Int) = l[k] := by simp [rd_T52, hk]
  rw [e] at x0 x1 x2 x3 x4 hl hC
  simp only [Int.toNat_natCast] at x0 x1 x2 x3 x4
  refine ⟨ad, A4, c4, rfl, fun W hb => ?_, hl, fun W hb => Kd.C_below hC hb⟩
  exact ⟨(hb.cell (World.block_lt_of_cell? w0 _ x0)).trans x0, (hb.cell (World.block_lt_of_cell? w0 _ x1)).trans x1, (hb.cell (World.block_lt_of_cell? w0 _ x2)).trans x2, (hb.cell (World.block_lt_of_cell? w0 _ x3)).trans x3, (hb.cell (World.block_lt_of_cell? w0 _ x4)).trans x4⟩
set_option maxHeartbeats 2000000 in
set_option maxRecDepth 100000 in
theorem m_made (hM : Many w0.heap.size w0 w D) {A : Option Addr} {c : Nat} {l : List SO} (hl : Ops w0 A l) :
    Calls Try.prog 20 #[.slice A l.length c] w fun e w' => ∃ p, e = .returned (ptr p) ∧ Many w0.heap.size w0 w' (D ++ [DISK p (made l)]) := by
  have HM := Lib.hid hM
  have HL := Lib.hid hl
  have hlen := hl.len
  clear hM hl
  go_enter Try.func20, Try.ntmps20
  go_wp2_with (go_at_call 10; refine (m_new HM.out).mono ?_; rintro e w1 ⟨p, rfl, h1⟩; have H1 := Lib.hid h1; clear h1)
  go_loopw [4] (fun v4 wr => ∃ k : Nat, k ≤ l.length ∧ v4 = .int .i64 k ∧ Hid (Many w0.heap.size w0 wr (D ++ [DISK p (made (l.take k))]))) (fun v4 _ => l.length - (intOf v4).toNat)
  case atStart => exact ⟨0, Nat.zero_le _, rfl, H1⟩
  case round =>
    obtain ⟨k, hk, rfl, HR⟩ := hrel
    by_cases hlt : k < l.length
    · obtain ⟨ad, A4, c4, rfl, hcell, hl4, hC4⟩ := HL.out.at k hlt
      obtain ⟨x0, x1, x2, x3, x4⟩ := hcell wr HR.out.below
      have hfit := HL.out.fits _ (List.getElem_mem hlt)
      obtain ⟨x, hx⟩ : ∃ x, x = l[k] := ⟨_, rfl⟩
      rw [← hx] at x0 x1 x2 x3 x4 hl4 hC4 hfit
      have HX := Lib.hid hx
      have HFit := Lib.hid hfit
      have HL4 := Lib.hid hl4
      have HC4 := Lib.hid hC4
      have hk2 : wrap64 ((k : Int) + 1) = (k : Int) + 1 := by unfold wrap64; omega
      clear hcell hx hfit hl4 hC4
      go_wp2_with (go_at_call 26; refine (m_told (by exact HR.out) (get_last _ _) x (by exact HFit.out) A4 c4 (by exact HL4.out) (by exact HC4.out)).mono ?_; rintro e w2 ⟨rfl, h2⟩; have H2 := Lib.hid h2; clear h2)
      go_roundw
      case rel =>
        refine ⟨k + 1, by omega, rfl, ?_⟩
        have := H2.out
        rw [set_last, HX.out, ← made_snoc, ← List.take_succ_eq_append_getElem hlt] at this
        exact Lib.hid this
      case measure =>
        show l.length - ((k : Int) + 1).toNat < l.length - (k : Int).toNat
        omega
    · have hkn : k = l.length := by omega
      subst hkn
      go_wp2
      go_ret
      have := HR.out
      rw [List.take_length] at this
      exact ⟨p, rfl, this⟩
end
end Go.Proofs.Ytflajlnknimjaaa.Dk

/- What the printed helpers say, in plain words: SameBytes, SameFiles, few. -/
namespace Go.Proofs.Ytflajlnknimjaaa.Dk
open Go.RowKit Go.Maps Go.Proofs.YtflajlnknimjaaaW.PrintWords Go.Proofs.YtflajlnknimjaaaW.PrintMore Go.Proofs.Ytflajlnknimjaaa.Syn Go.Proofs.Ytflajlnknimjaaa.PDiskLoads

theorem wrap_next (i : Nat) (h : i < 4611686018427387904) : wrap64 ((i : Int) + 1) = ((i + 1 : Nat) : Int) := by unfold wrap64; omega
theorem sameBytes_loop {a b : List Int} (hl : a.length = b.length) (hs : a.length ≤ 4611686018427387904) : ∀ (n i k : Nat), a.length - i = n → i ≤ a.length → n < k → synodref_SameBytes.l0 k a b (i : Int) = some (decide (a.drop i = b.drop i)) := by
  intro n
  induction n with
  | zero =>
    intro i k hn hi hk
    obtain ⟨k, rfl⟩ : ∃ k', k = k' + 1 := ⟨k - 1, by omega⟩
    rw [synodref_SameBytes.l0, if_neg (by omega), List.drop_eq_nil_of_le (by omega), List.drop_eq_nil_of_le (by omega)]
    rfl
  | succ n ih =>
    intro i k hn hi hk
    obtain ⟨k, rfl⟩ : ∃ k', k = k' + 1 := ⟨k - 1, by omega⟩
    have h1 : i < a.length := by omega
    have h2 : i < b.length := by omega
    rw [synodref_SameBytes.l0, if_pos (by omega), if_pos (by omega), if_pos (by omega), wrap_next i (by omega), ih (i + 1) k (by omega) (by omega) (by omega)]
    have key : a.drop i = b.drop i ↔ a[i] = b[i] ∧ a.drop (i + 1) = b.drop (i + 1) := by rw [List.drop_eq_getElem_cons h1, List.drop_eq_getElem_cons h2, List.cons.injEq]
    have e1 : rd a (i : Int) = a[i] := by simp [rd, h1]
    have e2 : rd b (i : Int) = b[i] := by simp [rd, h2]
    rw [e1, e2]
    by_cases h : a[i] = b[i]
    · rw [if_pos h]
      exact congrArg some (decide_eq_decide.2 (by rw [key]; exact ⟨fun e => ⟨h, e⟩, fun e => e.2⟩))
    · rw [if_neg h]
      exact congrArg some (decide_eq_false (fun e => h (key.1 e).1)).symm
theorem sameBytes_f (a b : List Int) (k : Nat) (hs : a.length ≤ 4611686018427387904) (hk : a.length < k) : synodref_SameBytes.f k a b = some (decide (a = b)) := by
  unfold synodref_SameBytes.f
  by_cases h : a.length = b.length
  · rw [if_pos (by omega)]
    have := sameBytes_loop h hs _ 0 k rfl (Nat.zero_le _) (by omega)
    simpa using this
  · rw [if_neg (by omega)]
    have : a ≠ b := fun e => h (by rw [e])
    simp [this]
theorem rdF {a : List SF} {i : Nat} (h : i < a.length) : rd_T36 a (i : Int) = a[i] := by simp [rd_T36, h]
theorem sf_ext {x y : SF} : x = y ↔ x.f0 = y.f0 ∧ x.f1 = y.f1 ∧ x.f2 = y.f2 := by
  cases x; cases y
  simp
instance : DecidableEq SF := fun _ _ => decidable_of_iff _ sf_ext.symm
theorem sameFiles_loop {a b : List SF} (hl : a.length = b.length) (hs : a.length ≤ 4611686018427387904) {m : Nat} (hm : ∀ x ∈ a, x.f1.length ≤ m) (hm2 : m ≤ 4611686018427387904) : ∀ (n i k : Nat), a.length - i = n → i ≤ a.length → n + m + 1 < k → synodref_SameFiles.l0 k a b (i : Int) = some (decide (a.drop i = b.drop i)) := by
  intro n
  induction n with
  | zero =>
    intro i k hn hi hk
    obtain ⟨k, rfl⟩ : ∃ k', k = k' + 1 := ⟨k - 1, by omega⟩
    rw [synodref_SameFiles.l0, if_neg (by omega), List.drop_eq_nil_of_le (by omega), List.drop_eq_nil_of_le (by omega)]
    rfl
  | succ n ih =>
    intro i k hn hi hk
    obtain ⟨k, rfl⟩ : ∃ k', k = k' + 1 := ⟨k - 1, by omega⟩
    have h1 : i < a.length := by omega
    have h2 : i < b.length := by omega
    have h3 := hm a[i] (List.getElem_mem h1)
    rw [synodref_SameFiles.l0, if_pos (by omega), if_pos (by omega), if_pos (by omega), wrap_next i (by omega), ih (i + 1) k (by omega) (by omega) (by omega), rdF h1, rdF h2, sameBytes_f _ _ k (by omega) (by omega)]
    have key : a.drop i = b.drop i ↔ a[i] = b[i] ∧ a.drop (i + 1) = b.drop (i + 1) := by rw [List.drop_eq_getElem_cons h1, List.drop_eq_getElem_cons h2, List.cons.injEq]
    rw [sf_ext] at key
    simp only [Option.bind_some, decide_eq_true_eq]
    by_cases e1 : a[i].f1 = b[i].f1
    · rw [if_pos e1]
      by_cases e0 : a[i].f0 = b[i].f0
      · rw [if_pos (by rw [e0])]
        by_cases e2 : a[i].f2 = b[i].f2
        · rw [if_pos e2]
          exact congrArg some (decide_eq_decide.2 (by rw [key]; exact ⟨fun e => ⟨⟨e0, e1, e2⟩, e⟩, fun e => e.2⟩))
        · rw [if_neg e2]
          exact congrArg some (decide_eq_false (fun e => e2 (key.1 e).1.2.2)).symm
      · rw [if_neg (fun h => e0 (tl_inj h))]
        exact congrArg some (decide_eq_false (fun e => e0 (key.1 e).1.1)).symm
    · rw [if_neg e1]
      exact congrArg some (decide_eq_false (fun e => e1 (key.1 e).1.2.1)).symm
theorem sameFiles_f (a b : List SF) {m : Nat} (k : Nat) (hs : a.length ≤ 4611686018427387904) (hm : ∀ x ∈ a, x.f1.length ≤ m) (hm2 : m ≤ 4611686018427387904) (hk : a.length + m + 1 < k) : synodref_SameFiles.f k a b = some (decide (a = b)) := by
  unfold synodref_SameFiles.f
  by_cases h : a.length = b.length
  · rw [if_pos (by omega)]
    have := sameFiles_loop h hs hm hm2 _ 0 k rfl (Nat.zero_le _) (by omega)
    simpa using this
  · rw [if_neg (by omega)]
    have : a ≠ b := fun e => h (by rw [e])
    simp [this]
theorem few_loop (l : List SO) : ∀ (n i k : Nat) (x : Int), 400 - i = n → i ≤ 400 → n < k → ∃ b, synodlaw4_few.l0 k l x (i : Int) = some b := by
  intro n
  induction n with
  | zero =>
    intro i k x hn hi hk
    obtain ⟨k, rfl⟩ : ∃ k', k = k' + 1 := ⟨k - 1, by omega⟩
    rw [synodlaw4_few.l0]
    by_cases h : (i : Int) < l.length
    · rw [if_pos h, if_neg (by omega)]
      split <;> exact ⟨_, rfl⟩
    · rw [if_neg h]
      split <;> exact ⟨_, rfl⟩
  | succ n ih =>
    intro i k x hn hi hk
    obtain ⟨k, rfl⟩ : ∃ k', k = k' + 1 := ⟨k - 1, by omega⟩
    rw [synodlaw4_few.l0]
    by_cases h : (i : Int) < l.length
    · rw [if_pos h, if_pos (by omega), if_pos (by omega), wrap_next i (by omega)]
      exact ih (i + 1) k _ (by omega) (by omega) (by omega)
    · rw [if_neg h]
      split <;> exact ⟨_, rfl⟩
theorem few_f (l : List SO) : ∃ b, synodlaw4_few.f 401 l = some b := few_loop l 400 0 401 0 rfl (Nat.zero_le _) (by omega)

section
variable {B i j : Nat} {w0 w : World} {D : List Thing} {v u : Value} {l r : List SF}
theorem Many.files (hM : Many B w0 w D) (hi : D[i]? = some (FILES v l)) : ∃ A c, v = .slice A l.length c ∧ l.length ≤ c ∧ kF.C w A l.length l := by
  obtain ⟨F, h, _⟩ := hM.get hi
  exact Kd.R_reads h
theorem C_len {α : Type} {k : Kd α} {A : Option Addr} {n : Nat} {xs : List α} (h : k.C w A n xs) : xs.length ≤ 9223372036854775807 := by
  have h1 := h.1
  have h2 := h.2.1
  omega
/-- Two rows of files, in whatever memory they lie. -/
theorem same_calls {A A' : Option Addr} {c c' : Nat} {l r : List SF} (h1 : kF.C w A l.length l) (h2 : l.length ≤ c) (h3 : kF.C w A' r.length r) (h4 : r.length ≤ c') (hl : l.length ≤ 1099511627776) (hm : ∀ x ∈ l, x.f1.length ≤ 1099511627776) :
    Calls Try.prog 25 #[.slice A l.length c, .slice A' r.length c'] w fun e w' => e = .returned (.bool (decide (l = r))) ∧ Below w.heap.size w w' := by
  refine (synodref_SameFiles.calls _ A c l A' c' r _ w h1 h2 h3 h4 (sameFiles_f l r (l.length + 1099511627776 + 2) (by omega) hm (by omega) (by omega))).mono ?_
  rintro e w' ⟨he, hd⟩
  exact ⟨he, hd.below⟩
theorem m_few {A : Option Addr} {c : Nat} {l : List SO} (hM : Many w0.heap.size w0 w D) (hl : Ops w0 A l) (hc : l.length ≤ c) :
    Calls Try.prog 19 #[.slice A l.length c] w fun e w' => ∃ b, e = .returned (.bool b) ∧ Many w0.heap.size w0 w' D := by
  obtain ⟨b, hb⟩ := few_f l
  refine (synodlaw4_few.calls _ A c l b w (Kd.C_below hl.row hM.below) hc hb).mono ?_
  rintro e w' ⟨he, hd⟩
  exact ⟨b, he, hM.read hd⟩
end
end Go.Proofs.Ytflajlnknimjaaa.Dk

/- first: the chapter's example. -/
namespace Go.Proofs.Ytflajlnknimjaaa.Dk
open Go.RowKit Go.Maps Go.Proofs.YtflajlnknimjaaaW.PrintWords Go.Proofs.YtflajlnknimjaaaW.PrintMore Go.Proofs.Ytflajlnknimjaaa.Syn Go.Proofs.Ytflajlnknimjaaa.PDiskLoads

def nA : ByteArray := ⟨#[97]⟩
def nB : ByteArray := ⟨#[65]⟩
def dA (l : List Int) (s : Nat) : St := ⟨[⟨nA, l, s⟩], nA, 0, false⟩
theorem ex1 : St.new.create nA = (0, ⟨[⟨nA, [], 0⟩], nil_, 0, false⟩) := by rfl
theorem ex2 : St.create nA ⟨[⟨nA, [], 0⟩], nil_, 0, false⟩ = (9, ⟨[⟨nA, [], 0⟩], nil_, 0, false⟩) := by rfl
theorem ex3 : St.create nB ⟨[⟨nA, [], 0⟩], nil_, 0, false⟩ = (7, ⟨[⟨nA, [], 0⟩], nil_, 0, false⟩) := by rfl
theorem ex4 : St.append nA [1, 2, 3] ⟨[⟨nA, [], 0⟩], nil_, 0, false⟩ = (0, dA [1, 2, 3] 0) := by rfl
theorem ex5 : St.sync nA (dA [1, 2, 3] 0) = (0, dA [1, 2, 3] 3) := by rfl
theorem ex6 : St.append nA [4, 5] (dA [1, 2, 3] 3) = (0, dA [1, 2, 3, 4, 5] 3) := by rfl
theorem ex7 : St.crash 1 (dA [1, 2, 3, 4, 5] 3) = ⟨[⟨nA, [1, 2, 3, 4], 4⟩], nil_, 0, false⟩ := by rfl

theorem m_lit {B : Nat} {w0 w : World} {D : List Thing} (hM : Many B w0 w D) (ys : List Int) (hl : ys.length ≤ 9223372036854775807) :
    Many B w0 (w.alloc (.cells (nums .u8 ys).toArray 5)) (D ++ [BYTES (.slice (some ⟨w.heap.size, 0, none⟩) ys.length ys.length) ys]) := by
  refine hM.add (below_alloc (Below.refl _ _) _) ?_
  refine Kd.R_of_own (Go.Proofs.YtflajlnknimjaaaW.PrintWords.own_lit w 0 5 .u8 ys (Nat.zero_le _) hl) (fun k hk => ?_)
  have hk' : k = w.heap.size := by simpa [Value.ownBlock] using hk.symm
  subst hk'
  exact ⟨Nat.le_refl _, by simp⟩
theorem m_lit3 {B : Nat} {w0 w : World} {D : List Thing} (hM : Many B w0 w D) : Many B w0 (w.alloc (.cells #[.int .u8 1, .int .u8 2, .int .u8 3] 5)) (D ++ [BYTES (.slice (some ⟨w.heap.size, 0, none⟩) 3 3) [1, 2, 3]]) := m_lit hM [1, 2, 3] (by decide)
theorem m_lit2 {B : Nat} {w0 w : World} {D : List Thing} (hM : Many B w0 w D) : Many B w0 (w.alloc (.cells #[.int .u8 4, .int .u8 5] 5)) (D ++ [BYTES (.slice (some ⟨w.heap.size, 0, none⟩) 2 2) [4, 5]]) := m_lit hM [4, 5] (by decide)

theorem lit_C (w : World) (ys : List Int) (hl : ys.length ≤ 9223372036854775807) : (Kd.int .u8).C (w.alloc (.cells (nums .u8 ys).toArray 5)) (some ⟨w.heap.size, 0, none⟩) ys.length ys :=
  (Kd.R_reads' (Kd.R_of_own (ok := fun _ => True) (Go.Proofs.YtflajlnknimjaaaW.PrintWords.own_lit w 0 5 .u8 ys (Nat.zero_le _) hl) (fun _ _ => trivial))).2.2
theorem lit_C4 (w : World) : (Kd.int .u8).C (w.alloc (.cells #[.int .u8 1, .int .u8 2, .int .u8 3, .int .u8 4] 5)) (some ⟨w.heap.size, 0, none⟩) 4 [1, 2, 3, 4] := lit_C w [1, 2, 3, 4] (by decide)

theorem ex8 : synodref_SameBytes.f 5 [1, 2, 3, 4] [1, 2, 3, 4] = some true := by rw [sameBytes_f _ _ 5 (by decide) (by decide)]; rfl
set_option maxHeartbeats 2000000 in
set_option maxRecDepth 100000 in
theorem first_calls (w : World) : Calls Try.prog 9 #[] w fun e w' => e = .returned (.bool true) ∧ Below w.heap.size w w' := by
  have H0 := Lib.hid (Many.start w)
  go_enter Try.func9, Try.ntmps9
  go_upto_region 4 with (go_at_call 10; refine (m_new (by exact H0.out)).mono ?_; rintro e w1 ⟨p, rfl, h1⟩; have H1 := Lib.hid h1; clear h1)
  go_upto_region 5 with (go_at_call 12; refine (m_create (i := 0) (by exact H1.out) rfl nA (by decide)).mono ?_; rw [ex1]; rintro e w2 ⟨rfl, h2⟩; have H2 := Lib.hid h2; clear h2)
  go_upto_region 6 with (go_at_call 12; refine (m_create (i := 0) (by exact H2.out) rfl nA (by decide)).mono ?_; rw [ex2]; rintro e w3 ⟨rfl, h3⟩; have H3 := Lib.hid h3; clear h3)
  go_upto_region 7 with (go_at_call 12; refine (m_create (i := 0) (by exact H3.out) rfl nB (by decide)).mono ?_; rw [ex3]; rintro e w4 ⟨rfl, h4⟩; have H4 := Lib.hid h4; clear h4)
  go_upto_region 8 with (go_at_call 14; refine (m_append (i := 0) (m_lit3 (by exact H4.out)) rfl nA (by decide) _ _ [1, 2, 3] (fun F hF hO => src_bytes (j := 1) (by decide) rfl F hF hO) (by decide) (by decide)).mono ?_; rw [ex4]; rintro e w5 ⟨rfl, h5⟩; have H5 := Lib.hid h5; clear h5)
  go_upto_region 9 with (go_at_call 32; refine (m_sync (i := 0) (by exact H5.out) rfl nA (by decide)).mono ?_; rw [ex5]; rintro e w6 ⟨rfl, h6⟩; have H6 := Lib.hid h6; clear h6)
  go_upto_region 10 with (go_at_call 14; refine (m_append (i := 0) (m_lit2 (by exact H6.out)) rfl nA (by decide) _ _ [4, 5] (fun F hF hO => src_bytes (j := 2) (by decide) rfl F hF hO) (by decide) (by decide)).mono ?_; rw [ex6]; rintro e w7 ⟨rfl, h7⟩; have H7 := Lib.hid h7; clear h7)
  go_upto_region 11 with (go_at_call 22; refine (m_crash (i := 0) (by exact H7.out) rfl 1).mono ?_; rw [ex7]; rintro e w8 ⟨rfl, h8⟩; have H8 := Lib.hid h8; clear h8)
  go_upto_region 12 with (go_at_call 21; refine (m_files (i := 0) (by exact H8.out) rfl).mono ?_; rintro e w9 ⟨v, rfl, h9⟩; have H9 := Lib.hid h9; clear h9)
  obtain ⟨A, c, hv, hc, hC⟩ := H9.out.files (i := 3) rfl
  have hv' : v = .slice A 1 c := hv
  subst hv'
  obtain ⟨ad, A1, c1, rfl, x0, x1, x2, hl1, hC1⟩ := at_T36 hC 0 (by decide) (by decide)
  replace x0 : w9.cell? (ad.add 0) = some (.string nA) := x0
  replace x1 : w9.cell? ⟨(ad.add 0).block, (ad.add 0).off + 1, none⟩ = some (.slice A1 4 c1) := x1
  replace x2 : w9.cell? ⟨(ad.add 0).block, (ad.add 0).off + 2, none⟩ = some (.int .i64 4) := x2
  have ha : ad.add 0 = ad := by cases ad; rfl
  rw [ha] at x0 x1 x2
  clear ha
  have hC1' : (Kd.int .u8).C w9 A1 4 [1, 2, 3, 4] := hC1
  have hl1' : 4 ≤ c1 := hl1
  have HC1 := Lib.hid hC1'
  have HL1 := Lib.hid hl1'
  clear hC hC1 hl1 hC1' hl1' hv
  have hnA : (nA.toList == [97]) = true := by rw [tl_eq]; rfl
  go_upto_region 13 with (go_at_call 11; refine (num_calls _ _).mono ?_; rintro e w10 ⟨rfl, rfl⟩)
  go_wp2_with (go_at_call 24; refine (synodref_SameBytes.calls 5 A1 c1 [1, 2, 3, 4] _ 4 [1, 2, 3, 4] true _ (Kd.C_below HC1.out (below_alloc (Below.refl _ _) _)) (by exact HL1.out) (lit_C4 _) (by decide) ex8).mono ?_; rintro e w11 ⟨rfl, hd⟩; have HD := Lib.hid hd; clear hd)
  go_ret
  exact ⟨rfl, ((H9.out.read (below_alloc (Below.refl _ _) _)).read HD.out.below).below⟩
end Go.Proofs.Ytflajlnknimjaaa.Dk

/- DiskTwo: the walk of the law. -/
namespace Go.Proofs.Ytflajlnknimjaaa.Dk
open Go.RowKit Go.Maps Go.Proofs.YtflajlnknimjaaaW.PrintWords Go.Proofs.YtflajlnknimjaaaW.PrintMore Go.Proofs.Ytflajlnknimjaaa.Syn Go.Proofs.Ytflajlnknimjaaa.PDiskLoads

theorem made_ok (l : List SO) (hl : ∀ x ∈ l, OpFits x) : (made l).Ok := by
  have : ∀ (l : List SO) (d : St), d.Ok → (∀ x ∈ l, OpFits x) → (l.foldl (fun d x => (told d x).2) d).Ok := by
    intro l
    induction l with
    | nil => exact fun d h _ => h
    | cons x r ih =>
      intro d h hf
      refine ih _ ?_ (fun y hy => hf y (List.mem_cons_of_mem _ hy))
      show (told d x).2.Ok
      unfold told
      split
      · exact create_ok h _
      split
      · exact append_ok h _ _
      split
      · exact sync_ok h _
      split
      · exact cut_ok h _ _
      split
      · exact rename_ok h _ _
      split
      · exact remove_ok h _
      split
      · exact arm_ok h (hf x List.mem_cons_self).n
      split
      · exact crash_ok h _
      · exact h
  exact this l St.new new_ok hl
theorem total_mem {l : List Fl} {f : Fl} (h : f ∈ l) : f.dat.length ≤ total l := by
  induction l with
  | nil => cases h
  | cons y r ih =>
    unfold total at ih ⊢
    rw [List.map_cons, List.sum_cons]
    rcases List.mem_cons.1 h with rfl | h
    · omega
    · have := ih h
      omega
theorem files_len {d : St} (ok : d.Ok) : (filesOf d).length ≤ 1099511627776 ∧ ∀ x ∈ filesOf d, x.f1.length ≤ 1099511627776 := by
  refine ⟨?_, fun x hx => ?_⟩
  · have := ok.cnt
    simp [filesOf]
    omega
  · obtain ⟨f, hf, rfl⟩ := List.mem_map.1 hx
    have h1 := total_mem hf
    have h2 := ok.tot
    show f.dat.length ≤ _
    omega
theorem made_take {l : List SO} {k : Nat} (h : k < l.length) : (told (made (l.take k)) l[k]).2 = made (l.take (k + 1)) := by rw [← made_snoc, ← List.take_succ_eq_append_getElem h]
theorem made_end {l : List SO} {k : Nat} (h : ¬ k < l.length) : made (l.take k) = made (l.take (k + 1)) := by rw [List.take_of_length_le (by omega), List.take_of_length_le (by omega)]
section
variable {B i j : Nat} {w0 w : World} {D : List Thing} {p : Nat} {d : St}
/-- The files of a disk, in a slice that can be read. -/
theorem m_files2 (hM : Many B w0 w D) (hi : D[i]? = some (DISK p d)) :
    Calls Try.prog 21 #[ptr p] w fun e w' => ∃ A c, e = .returned (.slice A (filesOf d).length c) ∧ Many B w0 w' (D ++ [FILES (.slice A (filesOf d).length c) (filesOf d)]) := by
  refine (m_files hM hi).mono ?_
  rintro e w' ⟨v, he, h⟩
  obtain ⟨A, c, hv, _, _⟩ := h.files (i := D.length) (get_last _ _)
  subst hv
  exact ⟨A, c, he, h⟩
theorem m_same {A A' : Option Addr} {n n' c c' : Nat} {l r : List SF} (hM : Many B w0 w D) (hi : D[i]? = some (FILES (.slice A n c) l)) (hj : D[j]? = some (FILES (.slice A' n' c') r)) (hl : l.length ≤ 1099511627776 ∧ ∀ x ∈ l, x.f1.length ≤ 1099511627776) :
    Calls Try.prog 25 #[.slice A n c, .slice A' n' c'] w fun e w' => e = .returned (.bool (decide (l = r))) ∧ Many B w0 w' D := by
  obtain ⟨A1, c1, e1, h1, h2⟩ := hM.files hi
  obtain ⟨A2, c2, e2, h3, h4⟩ := hM.files hj
  cases e1
  cases e2
  refine (same_calls h2 h1 h4 h3 hl.1 hl.2).mono ?_
  rintro e w' ⟨he, hb⟩
  exact ⟨he, hM.read hb⟩
theorem m_same1 {A A' : Option Addr} {n n' c c' : Nat} {l : List SF} (hM : Many B w0 w D) (hi : D[i]? = some (FILES (.slice A n c) l)) (hj : D[j]? = some (FILES (.slice A' n' c') l)) (hl : l.length ≤ 1099511627776 ∧ ∀ x ∈ l, x.f1.length ≤ 1099511627776) :
    Calls Try.prog 25 #[.slice A n c, .slice A' n' c'] w fun e w' => e = .returned (.bool true) ∧ Many B w0 w' D := by
  refine (m_same hM hi hj hl).mono ?_
  rintro e w' ⟨he, h⟩
  rw [decide_eq_true rfl] at he
  exact ⟨he, h⟩
theorem Many.ok_files (hM : Many B w0 w D) (hi : D[i]? = some (DISK p d)) : (filesOf d).length ≤ 1099511627776 ∧ ∀ x ∈ filesOf d, x.f1.length ≤ 1099511627776 := files_len (hM.ok hi)
end

set_option maxHeartbeats 4000000 in
set_option maxRecDepth 100000 in
theorem two_calls {w : World} {A A' : Option Addr} {c c' : Nat} {l m : List SO} (hl : Ops w A l) (hlc : l.length ≤ c) (hm : Ops w A' m) (hmc : m.length ≤ c') :
    Calls Try.prog 5 #[.slice A l.length c, .slice A' m.length c'] w fun e w' => e = .returned (.bool true) ∧ Below w.heap.size w w' := by
  have H0 := Lib.hid (Many.start w)
  have HL := Lib.hid hl
  have HM := Lib.hid hm
  have HLC := Lib.hid hlc
  have HMC := Lib.hid hmc
  have hll := hl.len
  have hml := hm.len
  clear hl hm hlc hmc
  go_enter Try.func5, Try.ntmps5
  go_upto_region 2 with (go_at_call 9; refine (first_calls _).mono ?_; rintro e w1 ⟨rfl, h1⟩; have H1 := Lib.hid (H0.out.read h1); clear h1)
  go_wp2_with (first
    | (go_at_call 19; refine (m_few (by exact H2.out) (by exact HM.out) (by exact HMC.out)).mono ?_; rintro e w3 ⟨b3, rfl, h3⟩; have H3 := Lib.hid h3; clear h3)
    | (go_at_call 19; refine (m_few (by exact H1.out) (by exact HL.out) (by exact HLC.out)).mono ?_; rintro e w2 ⟨b2, rfl, h2⟩; have H2 := Lib.hid h2; clear h2)
    | (go_at_call 10; refine (m_new (by exact H4.out)).mono ?_; rintro e w5 ⟨q, rfl, h5⟩; have H5 := Lib.hid h5; clear h5)
    | (go_at_call 10; refine (m_new (by exact H3.out)).mono ?_; rintro e w4 ⟨p, rfl, h4⟩; have H4 := Lib.hid h4; clear h4))
  all_goals (first | (go_ret; first | exact ⟨rfl, H3.out.below⟩ | exact ⟨rfl, H2.out.below⟩) | skip)
  go_loopw [9] (fun v9 wr => ∃ k : Nat, k ≤ 1048576 ∧ k ≤ max l.length m.length ∧ v9 = .int .i64 k ∧ Hid (Many w.heap.size w wr [DISK p (made (l.take k)), DISK q (made (m.take k))])) (fun v9 _ => max l.length m.length - (intOf v9).toNat)
  case atStart => exact ⟨0, by omega, by omega, rfl, H5⟩
  case round =>
    obtain ⟨k, hk1, hkm, rfl, HR⟩ := hrel
    by_cases ha : k < l.length
    · by_cases hb : k < m.length
      · obtain ⟨adx, Ax, cx, rfl, hcellx, hlx, hCx⟩ := HL.out.at k ha
        obtain ⟨x0, x1, x2, x3, x4⟩ := hcellx wr HR.out.below
        have hfitx := HL.out.fits _ (List.getElem_mem ha)
        have hmadex := made_take ha
        obtain ⟨x, hx⟩ : ∃ x, x = l[k] := ⟨_, rfl⟩
        rw [← hx] at hcellx x0 x1 x2 x3 x4 hlx hCx hfitx hmadex
        have HFitx := Lib.hid hfitx
        have HL4x := Lib.hid hlx
        have HC4x := Lib.hid hCx
        have HMadex := Lib.hid hmadex
        have HCellx := Lib.hid hcellx
        clear hcellx hx hfitx hlx hCx hmadex
        obtain ⟨ady, Ay, cy, rfl, hcelly, hly, hCy⟩ := HM.out.at k hb
        obtain ⟨y0, y1, y2, y3, y4⟩ := hcelly wr HR.out.below
        have hfity := HM.out.fits _ (List.getElem_mem hb)
        have hmadey := made_take hb
        obtain ⟨y, hy⟩ : ∃ x, x = m[k] := ⟨_, rfl⟩
        rw [← hy] at hcelly y0 y1 y2 y3 y4 hly hCy hfity hmadey
        have HFity := Lib.hid hfity
        have HL4y := Lib.hid hly
        have HC4y := Lib.hid hCy
        have HMadey := Lib.hid hmadey
        have HCelly := Lib.hid hcelly
        clear hcelly hy hfity hly hCy hmadey
        have hk2 : wrap64 ((k : Int) + 1) = (k : Int) + 1 := by unfold wrap64; omega
        go_upto_region 12 with (go_at_call 26; refine (m_told (i := 0) (by exact HR.out) rfl x (by exact HFitx.out) Ax cx (by exact HL4x.out) (by exact HC4x.out)).mono ?_; rintro e wx ⟨rfl, h⟩; have HX := Lib.hid h; clear h)
        clear y0 y1 y2 y3 y4
        obtain ⟨y0, y1, y2, y3, y4⟩ := HCelly.out wx HX.out.below
        go_wp2_with (go_at_call 26; refine (m_told (i := 1) (by exact HX.out) rfl y (by exact HFity.out) Ay cy (by exact HL4y.out) (by exact HC4y.out)).mono ?_; rintro e wy ⟨rfl, h⟩; have HY := Lib.hid h; clear h)
        go_roundw
        case rel =>
          refine ⟨k + 1, by omega, by omega, by first | rfl | (rw [hk2]; rfl), ?_⟩
          have := HY.out
          simp only [List.set_cons_zero, List.set_cons_succ, HMadex.out, HMadey.out] at this
          exact Lib.hid this
        case measure =>
          first
            | (show max l.length m.length - ((k : Int) + 1).toNat < max l.length m.length - (k : Int).toNat; omega)
            | (show max l.length m.length - (intOf (.int .i64 (wrap64 ((k : Int) + 1)))).toNat < max l.length m.length - (intOf (.int .i64 (k : Int))).toNat; rw [hk2]; show max l.length m.length - ((k : Int) + 1).toNat < max l.length m.length - (k : Int).toNat; omega)
      · obtain ⟨adx, Ax, cx, rfl, hcellx, hlx, hCx⟩ := HL.out.at k ha
        obtain ⟨x0, x1, x2, x3, x4⟩ := hcellx wr HR.out.below
        have hfitx := HL.out.fits _ (List.getElem_mem ha)
        have hmadex := made_take ha
        obtain ⟨x, hx⟩ : ∃ x, x = l[k] := ⟨_, rfl⟩
        rw [← hx] at hcellx x0 x1 x2 x3 x4 hlx hCx hfitx hmadex
        have HFitx := Lib.hid hfitx
        have HL4x := Lib.hid hlx
        have HC4x := Lib.hid hCx
        have HMadex := Lib.hid hmadex
        have HCellx := Lib.hid hcellx
        clear hcellx hx hfitx hlx hCx hmadex
        have hk2 : wrap64 ((k : Int) + 1) = (k : Int) + 1 := by unfold wrap64; omega
        have HEnd := Lib.hid (made_end hb)
        go_wp2_with (go_at_call 26; refine (m_told (i := 0) (by exact HR.out) rfl x (by exact HFitx.out) Ax cx (by exact HL4x.out) (by exact HC4x.out)).mono ?_; rintro e wx ⟨rfl, h⟩; have HX := Lib.hid h; clear h)
        go_roundw
        case rel =>
          refine ⟨k + 1, by omega, by omega, by first | rfl | (rw [hk2]; rfl), ?_⟩
          have := HX.out
          simp only [List.set_cons_zero, List.set_cons_succ, HMadex.out, HEnd.out] at this
          exact Lib.hid this
        case measure =>
          first
            | (show max l.length m.length - ((k : Int) + 1).toNat < max l.length m.length - (k : Int).toNat; omega)
            | (show max l.length m.length - (intOf (.int .i64 (wrap64 ((k : Int) + 1)))).toNat < max l.length m.length - (intOf (.int .i64 (k : Int))).toNat; rw [hk2]; show max l.length m.length - ((k : Int) + 1).toNat < max l.length m.length - (k : Int).toNat; omega)
    · by_cases hb : k < m.length
      · obtain ⟨ady, Ay, cy, rfl, hcelly, hly, hCy⟩ := HM.out.at k hb
        obtain ⟨y0, y1, y2, y3, y4⟩ := hcelly wr HR.out.below
        have hfity := HM.out.fits _ (List.getElem_mem hb)
        have hmadey := made_take hb
        obtain ⟨y, hy⟩ : ∃ x, x = m[k] := ⟨_, rfl⟩
        rw [← hy] at hcelly y0 y1 y2 y3 y4 hly hCy hfity hmadey
        have HFity := Lib.hid hfity
        have HL4y := Lib.hid hly
        have HC4y := Lib.hid hCy
        have HMadey := Lib.hid hmadey
        have HCelly := Lib.hid hcelly
        clear hcelly hy hfity hly hCy hmadey
        have hk2 : wrap64 ((k : Int) + 1) = (k : Int) + 1 := by unfold wrap64; omega
        have HEnd := Lib.hid (made_end ha)
        go_wp2_with (go_at_call 26; refine (m_told (i := 1) (by exact HR.out) rfl y (by exact HFity.out) Ay cy (by exact HL4y.out) (by exact HC4y.out)).mono ?_; rintro e wy ⟨rfl, h⟩; have HY := Lib.hid h; clear h)
        go_roundw
        case rel =>
          refine ⟨k + 1, by omega, by omega, by first | rfl | (rw [hk2]; rfl), ?_⟩
          have := HY.out
          simp only [List.set_cons_zero, List.set_cons_succ, HMadey.out, HEnd.out] at this
          exact Lib.hid this
        case measure =>
          first
            | (show max l.length m.length - ((k : Int) + 1).toNat < max l.length m.length - (k : Int).toNat; omega)
            | (show max l.length m.length - (intOf (.int .i64 (wrap64 ((k : Int) + 1)))).toNat < max l.length m.length - (intOf (.int .i64 (k : Int))).toNat; rw [hk2]; show max l.length m.length - ((k : Int) + 1).toNat < max l.length m.length - (k : Int).toNat; omega)
      · have HE := HR.out
        rw [List.take_of_length_le (by omega), List.take_of_length_le (by omega)] at HE
        have HF := Lib.hid HE
        clear HE HR
        go_upto_region 15 with (go_at_call 20; with_reducible refine (m_made (by exact HF.out) (by exact HL.out)).mono ?_; rintro e wa ⟨r, rfl, h⟩; have HF1 := Lib.hid h; clear h)
        go_upto_region 16 with (go_at_call 20; with_reducible refine (m_made (by exact HF1.out) (by exact HM.out)).mono ?_; rintro e wb ⟨s, rfl, h⟩; have HF2 := Lib.hid h; clear h)
        go_upto_region 17 with (first
          | (go_at_call 21; with_reducible refine (m_files2 (p := p) (i := 0) (by exact HF2.out) (by with_unfolding_all rfl)).mono ?_; rintro e wc ⟨A3, c3, rfl, h⟩; have HF3 := Lib.hid h; clear h)
          | (go_at_call 21; with_reducible refine (m_files2 (p := r) (i := 2) (by exact HF3.out) (by with_unfolding_all rfl)).mono ?_; rintro e wd ⟨A4, c4, rfl, h⟩; have HF4 := Lib.hid h; clear h)
          | (go_at_call 25; with_reducible refine (m_same1 (i := 4) (j := 5) (by exact HF4.out) (by with_unfolding_all rfl) (by with_unfolding_all rfl) (by exact HF4.out.ok_files (i := 0) (by with_unfolding_all rfl))).mono ?_; rintro e we ⟨rfl, h⟩; have HF5 := Lib.hid h; clear h)
          | (go_at_call 23; with_reducible refine (m_down (p := p) (i := 0) (by exact HF5.out) (by with_unfolding_all rfl)).mono ?_; rintro e wf ⟨rfl, h⟩; have HF6 := Lib.hid h; clear h)
          | (go_at_call 23; with_reducible refine (m_down (p := r) (i := 2) (by exact HF6.out) (by with_unfolding_all rfl)).mono ?_; rintro e wg ⟨rfl, h⟩; have HF7 := Lib.hid h; clear h))
        go_upto_region 18 with (first
          | (go_at_call 21; with_reducible refine (m_files2 (p := q) (i := 1) (by exact HF7.out) (by with_unfolding_all rfl)).mono ?_; rintro e wh ⟨A8, c8, rfl, h⟩; have HF8 := Lib.hid h; clear h)
          | (go_at_call 21; with_reducible refine (m_files2 (p := s) (i := 3) (by exact HF8.out) (by with_unfolding_all rfl)).mono ?_; rintro e wi ⟨A9, c9, rfl, h⟩; have HF9 := Lib.hid h; clear h)
          | (go_at_call 25; with_reducible refine (m_same1 (i := 6) (j := 7) (by exact HF9.out) (by with_unfolding_all rfl) (by with_unfolding_all rfl) (by exact HF9.out.ok_files (i := 1) (by with_unfolding_all rfl))).mono ?_; rintro e wj ⟨rfl, h⟩; have HG1 := Lib.hid h; clear h)
          | (go_at_call 23; with_reducible refine (m_down (p := q) (i := 1) (by exact HG1.out) (by with_unfolding_all rfl)).mono ?_; rintro e wk ⟨rfl, h⟩; have HG2 := Lib.hid h; clear h)
          | (go_at_call 23; with_reducible refine (m_down (p := s) (i := 3) (by exact HG2.out) (by with_unfolding_all rfl)).mono ?_; rintro e wl ⟨rfl, h⟩; have HG3 := Lib.hid h; clear h))
        go_upto_region 19 with (go_at_call 22; with_reducible refine (m_crash (p := p) (i := 0) (by exact HG3.out) (by with_unfolding_all rfl) 3).mono ?_; rintro e wm ⟨rfl, h⟩; have HG4 := Lib.hid h; clear h)
        go_upto_region 20 with (go_at_call 22; with_reducible refine (m_crash (p := r) (i := 2) (by exact HG4.out) (by with_unfolding_all rfl) 3).mono ?_; rintro e wn ⟨rfl, h⟩; have HG5 := Lib.hid h; clear h)
        go_wp2_with (first
          | (go_at_call 21; with_reducible refine (m_files2 (p := p) (i := 0) (by exact HG5.out) (by with_unfolding_all rfl)).mono ?_; rintro e wo ⟨A6, c6, rfl, h⟩; have HG6 := Lib.hid h; clear h)
          | (go_at_call 21; with_reducible refine (m_files2 (p := r) (i := 2) (by exact HG6.out) (by with_unfolding_all rfl)).mono ?_; rintro e wq ⟨A7, c7, rfl, h⟩; have HG7 := Lib.hid h; clear h)
          | (go_at_call 25; with_reducible refine (m_same1 (i := 8) (j := 9) (by exact HG7.out) (by with_unfolding_all rfl) (by with_unfolding_all rfl) (by exact HG7.out.ok_files (i := 0) (by with_unfolding_all rfl))).mono ?_; rintro e wt ⟨rfl, h⟩; have HG8 := Lib.hid h; clear h))
        go_ret
        exact ⟨rfl, HG8.out.below⟩
end Go.Proofs.Ytflajlnknimjaaa.Dk

/- The reference's ways on lists of files, in plain words: a place, a file set, taken out, put in. -/
namespace Go.Proofs.Ytflajlnknimjaaa.Dk
open Go.WideAt Go.WideShapes

/-- Where a name stands. -/
def pos (nm : ByteArray) (l : List Fl) : Option Nat := l.findIdx? fun x => decide (x.nm = nm)
theorem pos_none {nm : ByteArray} {l : List Fl} : pos nm l = none ↔ look Fl.nm nm l = none := by
  rw [look_none]
  simp [pos, List.findIdx?_eq_none_iff]
theorem pos_some {nm : ByteArray} {l : List Fl} {i : Nat} (h : pos nm l = some i) : ∃ hi : i < l.length, l[i].nm = nm := by
  obtain ⟨hi, h1, _⟩ := List.findIdx?_eq_some_iff_getElem.1 h
  exact ⟨hi, by simpa using h1⟩
theorem pos_first {nm : ByteArray} {l : List Fl} {i : Nat} (h : pos nm l = some i) : ∀ j (hj : j < i), (l[j]'(by have := (pos_some h).1; omega)).nm ≠ nm := by
  obtain ⟨hi, _, h2⟩ := List.findIdx?_eq_some_iff_getElem.1 h
  intro j hj
  simpa using h2 j hj
theorem pos_of {nm : ByteArray} {l : List Fl} {i : Nat} (hi : i < l.length) (h : l[i].nm = nm) (hf : ∀ j (hj : j < i), l[j].nm ≠ nm) : pos nm l = some i :=
  List.findIdx?_eq_some_iff_getElem.2 ⟨hi, by simpa using h, fun j hj => by simpa using hf j hj⟩
theorem pos_of_none {nm : ByteArray} {l : List Fl} (hf : ∀ j (hj : j < l.length), l[j].nm ≠ nm) : pos nm l = none := by
  rw [pos_none, look_none]
  intro y hy
  obtain ⟨j, hj, rfl⟩ := List.getElem_of_mem hy
  exact hf j hj
theorem pos_look {nm : ByteArray} {l : List Fl} {i : Nat} (hs : Srt Fl.nm l) (h : pos nm l = some i) (hi : i < l.length) : look Fl.nm nm l = some l[i] := by
  obtain ⟨hi', hn⟩ := pos_some h
  exact hs.look (List.getElem_mem hi) hn
theorem upd_set {nm : ByteArray} {l : List Fl} {i : Nat} (hs : Srt Fl.nm l) (hi : i < l.length) (hn : l[i].nm = nm) (g : Fl → Fl) : upd nm g l = l.set i (g l[i]) := by
  unfold upd
  apply List.ext_getElem
  · simp
  · intro j h1 h2
    have hj : j < l.length := by simpa using h1
    rw [List.getElem_map, List.getElem_set]
    by_cases e : i = j
    · subst e
      rw [if_pos hn, if_pos rfl]
    · rw [if_neg (fun e2 => ?_), if_neg e]
      have h3 := List.pairwise_iff_getElem.1 hs
      rcases Nat.lt_or_gt_of_ne e with hlt | hlt
      · exact before_ne (h3 i j hi hj hlt) (hn.trans e2.symm)
      · exact before_ne (h3 j i hj hi hlt) (e2.trans hn.symm)
theorem era_erase {nm : ByteArray} {l : List Fl} {i : Nat} (hs : Srt Fl.nm l) (hi : i < l.length) (hn : l[i].nm = nm) : era Fl.nm nm l = l.eraseIdx i := by
  induction l generalizing i with
  | nil => simp at hi
  | cons z r ih =>
    have h' := List.pairwise_cons.1 hs
    cases i with
    | zero =>
      simp only [List.getElem_cons_zero] at hn
      rw [List.eraseIdx_cons_zero]
      unfold era
      rw [List.filter_cons, if_neg (by simp [hn])]
      rw [List.filter_eq_self]
      intro y hy
      have := before_ne (h'.1 y hy)
      rw [hn] at this
      simpa using fun e => this e.symm
    | succ i =>
      simp only [List.getElem_cons_succ] at hn
      simp only [List.length_cons] at hi
      rw [List.eraseIdx_cons_succ]
      have hz : z.nm ≠ nm := by
        have := before_ne (h'.1 _ (List.getElem_mem (by omega : i < r.length)))
        rw [hn] at this
        exact this
      unfold era
      rw [List.filter_cons, if_pos (by simpa using hz)]
      congr 1
      exact ih h'.2 (by omega) hn
/-- A file among the others. -/
theorem ins_at {x : Fl} : ∀ {l : List Fl} {j : Nat}, j ≤ l.length → (∀ i (hi : i < l.length), i < j → bytesBefore (bts x.nm) (bts l[i].nm) = false) → (∀ (hj : j < l.length), bytesBefore (bts x.nm) (bts l[j].nm) = true) → ins Fl.nm x l = l.take j ++ x :: l.drop j
  | [], j, _, _, _ => by simp [ins]
  | z :: r, 0, _, _, h2 => by
    have := h2 (by simp)
    simp only [List.getElem_cons_zero] at this
    unfold ins
    rw [if_pos this]
    rfl
  | z :: r, j + 1, hj, h1, h2 => by
    have h0 := h1 0 (by simp) (by omega)
    simp only [List.getElem_cons_zero] at h0
    unfold ins
    rw [if_neg (by rw [h0]; simp), ins_at (l := r) (j := j) (by simpa using hj) (fun i hi hlt => by
      have := h1 (i + 1) (by simpa using hi) (by omega)
      simpa using this) (fun hj2 => by
      have := h2 (by simpa using hj2)
      simpa using this)]
    rfl
theorem erase_take {α : Type} (l : List α) (i : Nat) : l.eraseIdx i = l.take i ++ l.drop (i + 1) := List.eraseIdx_eq_take_drop_succ l i
end Go.Proofs.Ytflajlnknimjaaa.Dk

/- The reference's disk in memory; its functions that only read, and fails. -/
namespace Go.Proofs.Ytflajlnknimjaaa.Dk
open Go.RowKit Go.Maps Go.Proofs.YtflajlnknimjaaaW.PrintWords Go.Proofs.YtflajlnknimjaaaW.PrintMore Go.Proofs.Ytflajlnknimjaaa.Syn Go.Proofs.Ytflajlnknimjaaa.PDiskLoads
set_option linter.unusedVariables false
set_option linter.unusedSimpArgs false

/-- The reference's disk: its struct in block p, its row of files v; F: the blocks that are its own. -/
structure RefIs (w : World) (F : Nat → Prop) (p : Nat) (v : Value) (l : List SF) (ar : Nat) (dn : Bool) (la : ByteArray) : Prop where
  blk : w.heap[p]? = some (.cells #[v, .int .i64 ar, .bool dn, .string la] 29 (0, 0))
  fp : F p
  row : Kd.N kF 36 w 0 (fun k => F k ∧ k ≠ p) v l
  lt : ∀ k, F k → k < w.heap.size
def RefAt (w : World) (F : Nat → Prop) (p : Nat) (d : St) : Prop := ∃ v, RefIs w F p v (filesOf d) d.armed d.down d.last
section
variable {w w' w1 : World} {F G : Nat → Prop} {p : Nat} {v : Value} {l : List SF} {ar : Nat} {dn : Bool} {la : ByteArray}
theorem RefIs.reads (h : RefIs w F p v l ar dn la) : ∃ A c, v = .slice A l.length c ∧ l.length ≤ c ∧ kF.C w A l.length l := Kd.N_reads h.row
theorem RefIs.stay (h : RefIs w F p v l ar dn la) (hs : w.heap.size ≤ w'.heap.size) (e : ∀ k, F k → w'.heap[k]? = w.heap[k]?) : RefIs w' F p v l ar dn la :=
  ⟨(e p h.fp).trans h.blk, h.fp, Kd.N_step h.row (fun k hk _ => e k hk.1), fun k hk => Nat.lt_of_lt_of_le (h.lt k hk) hs⟩
theorem RefIs.wide (h : RefIs w F p v l ar dn la) (hF : ∀ k, F k → G k) (hG : ∀ k, G k → k < w.heap.size) : RefIs w G p v l ar dn la :=
  ⟨h.blk, hF _ h.fp, Kd.N_mono h.row (fun k hk => ⟨hF k hk.1, hk.2⟩), hG⟩
/-- The struct's cells have changed, the row has not. -/
theorem RefIs.head (h : RefIs w F p v l ar dn la) {ar' : Nat} {dn' : Bool} {la' : ByteArray} (hb : w1.heap[p]? = some (.cells #[v, .int .i64 ar', .bool dn', .string la'] 29 (0, 0))) (hc : Chg (· = p) w w1) : RefIs w1 F p v l ar' dn' la' :=
  ⟨hb, h.fp, Kd.N_step h.row (fun k hk hlt => hc.block k hlt hk.2), fun k hk => Nat.lt_of_lt_of_le (h.lt k hk) hc.size⟩
theorem RefIs.below (h : RefIs w F p v l ar dn la) (hb : Below w.heap.size w w') : RefIs w' F p v l ar dn la := h.stay hb.size (fun k hk => hb.block k (h.lt k hk))
end
/-- The reference's disk, as a thing. -/
def REF (p : Nat) (d : St) : Thing where
  P := fun w F => RefAt w F p d ∧ d.Ok
  stay := fun _ hs he ⟨⟨v, h1⟩, h3⟩ => ⟨⟨v, h1.stay hs he⟩, h3⟩

theorem ret_i64 {a b : Int} (h : a = b) : Ending.returned (.int .i64 a) = .returned (.int .i64 b) := by rw [h]
def posI (nm : ByteArray) (l : List SF) : Int := match l.findIdx? (fun x => decide (x.f0 = nm)) with | some i => i | none => -1
theorem posI_files (nm : ByteArray) (d : St) : posI nm (filesOf d) = match pos nm d.fs with | some i => (i : Int) | none => -1 := by
  unfold posI pos filesOf
  rw [List.findIdx?_map]
  rfl
theorem files_at {l : List SF} {w : World} {A : Option Addr} (h : kF.C w A l.length l) {k : Nat} (hk : k < l.length) :
    ∃ ad A4 c4, A = some ad ∧ w.cell? (ad.add (k * 3)) = some (.string l[k].f0) ∧ w.cell? ⟨(ad.add (k * 3)).block, (ad.add (k * 3)).off + 1, none⟩ = some (.slice A4 l[k].f1.length c4) ∧ w.cell? ⟨(ad.add (k * 3)).block, (ad.add (k * 3)).off + 2, none⟩ = some (.int .i64 l[k].f2) ∧ l[k].f1.length ≤ c4 ∧ (Kd.int .u8).C w A4 l[k].f1.length l[k].f1 := by
  obtain ⟨ad, A4, c4, rfl, x0, x1, x2, h1, h2⟩ := at_T36 h (k : Int) (by omega) (by omega)
  have e : rd_T36 l (k : Int) = l[k] := rdF hk
  rw [e] at x0 x1 x2 h1 h2
  simp only [Int.toNat_natCast] at x0 x1 x2
  exact ⟨ad, A4, c4, rfl, x0, x1, x2, h1, h2⟩

section
variable {w : World} {F : Nat → Prop} {p : Nat} {v : Value} {l : List SF} {ar : Nat} {dn : Bool} {la : ByteArray}
set_option maxHeartbeats 1000000 in
set_option maxRecDepth 100000 in
theorem rat_calls (h : RefIs w F p v l ar dn la) (nm : ByteArray) (hl : l.length ≤ 1099511627776) :
    Calls Try.prog 37 #[ptr p, .string nm] w fun e w' => e = .returned (.int .i64 (posI nm l)) ∧ w = w' := by
  obtain ⟨A, c, rfl, hlc, hC⟩ := h.reads
  have b0 := sb_cell h.blk 0
  simp at b0
  have HC := Lib.hid hC
  clear h hlc hC
  go_enter Try.func37, Try.ntmps37
  go_wp2
  go_loop [5] (fun v5 => ∃ k : Nat, k ≤ l.length ∧ v5 = .int .i64 k ∧ Hid (∀ j (hj : j < l.length), j < k → l[j].f0 ≠ nm)) (fun v5 => l.length - (intOf v5).toNat)
  case atStart => exact ⟨0, Nat.zero_le _, rfl, Lib.hid (fun j _ h => by omega)⟩
  case round =>
    obtain ⟨k, hk, rfl, HN⟩ := hrel
    by_cases hlt : k < l.length
    · obtain ⟨ad, A4, c4, rfl, x0, x1, x2, hl4, hC4⟩ := files_at HC.out hlt
      clear x1 x2 hl4 hC4
      by_cases e : l[k].f0 = nm
      · have t1 : (l[k].f0.toList == nm.toList) = true := by rw [tl_beq]; exact decide_eq_true e
        have HE := Lib.hid e
        clear e
        go_wp2
        go_ret
        refine ⟨ret_i64 ?_, rfl⟩
        have h2 : l.findIdx? (fun x => decide (x.f0 = nm)) = some k := List.findIdx?_eq_some_iff_getElem.2 ⟨hlt, by simpa using HE.out, fun j hj => by simpa using HN.out j (by omega) hj⟩
        unfold posI
        rw [h2]
      · have t1 : (l[k].f0.toList == nm.toList) = false := by rw [tl_beq]; exact decide_eq_false e
        have HE := Lib.hid e
        clear e
        go_wp2
        go_round
        case rel =>
          refine ⟨k + 1, by omega, by go_num, Lib.hid (fun j hj hjk => ?_)⟩
          rcases Nat.lt_succ_iff_lt_or_eq.1 hjk with h1 | h1
          · exact HN.out j hj h1
          · subst h1
            exact HE.out
        case measure =>
          show l.length - ((k : Int) + 1).toNat < l.length - (k : Int).toNat
          omega
    · have hkn : k = l.length := by omega
      subst hkn
      go_wp2
      go_ret
      refine ⟨ret_i64 ?_, rfl⟩
      have h2 : l.findIdx? (fun x => decide (x.f0 = nm)) = none := List.findIdx?_eq_none_iff.2 (fun x hx => by
        obtain ⟨j, hj, rfl⟩ := List.getElem_of_mem hx
        simpa using HN.out j hj hj)
      unfold posI
      rw [h2]
def sumD (l : List SF) : Nat := (l.map fun x => x.f1.length).sum
theorem sumD_take_succ {l : List SF} {k : Nat} (h : k < l.length) : sumD (l.take (k + 1)) = sumD (l.take k) + l[k].f1.length := by
  unfold sumD
  rw [List.take_succ_eq_append_getElem h, List.map_append, List.sum_append]
  simp
theorem sumD_take_le (l : List SF) (k : Nat) : sumD (l.take k) ≤ sumD l := by
  unfold sumD
  induction l generalizing k with
  | nil => simp
  | cons x r ih =>
    cases k with
    | zero => simp
    | succ k =>
      have := ih k
      simp only [List.map_cons, List.take_succ_cons, List.sum_cons]
      omega
theorem sumD_files (d : St) : sumD (filesOf d) = total d.fs := by
  unfold sumD filesOf total
  rw [List.map_map]
  rfl
set_option maxHeartbeats 1000000 in
set_option maxRecDepth 100000 in
theorem rsize_calls (h : RefIs w F p v l ar dn la) (hl : l.length ≤ 1099511627776) (hs : sumD l ≤ 1099511627776) :
    Calls Try.prog 17 #[ptr p] w fun e w' => e = .returned (.int .i64 (sumD l)) ∧ w = w' := by
  obtain ⟨A, c, rfl, hlc, hC⟩ := h.reads
  have b0 := sb_cell h.blk 0
  simp at b0
  have HC := Lib.hid hC
  have HS := Lib.hid hs
  clear h hlc hC hs
  go_enter Try.func17, Try.ntmps17
  go_wp2
  go_loop [3, 4] (fun v3 v4 => ∃ k : Nat, k ≤ l.length ∧ v4 = .int .i64 k ∧ v3 = .int .i64 (sumD (l.take k))) (fun _ v4 => l.length - (intOf v4).toNat)
  case atStart => exact ⟨0, Nat.zero_le _, rfl, by simp [sumD]⟩
  case round =>
    obtain ⟨k, hk, rfl, rfl⟩ := hrel
    by_cases hlt : k < l.length
    · obtain ⟨ad, A4, c4, rfl, x0, x1, x2, hl4, hC4⟩ := files_at HC.out hlt
      clear x0 x2 hl4 hC4
      have hst := sumD_take_succ hlt
      have hle := sumD_take_le l (k + 1)
      have hle2 : sumD (l.take k) + l[k].f1.length ≤ 1099511627776 := by have := HS.out; omega
      have HST := Lib.hid hst
      clear hst hle
      generalize sumD (l.take k) = s at *
      generalize hy : l[k].f1.length = y at *
      clear hy
      have hw : wrap64 ((s : Int) + (y : Int)) = (s : Int) + (y : Int) := by unfold wrap64; omega
      go_wp2
      go_round
      case rel => exact ⟨k + 1, by omega, by go_num, by rw [HST.out]; first | go_num | (simp [hw])⟩
      case measure =>
        show l.length - ((k : Int) + 1).toNat < l.length - (k : Int).toNat
        omega
    · have hkn : k = l.length := by omega
      subst hkn
      go_wp2
      go_ret
      exact ⟨ret_i64 rfl, rfl⟩

theorem rname_l (s : ByteArray) (hs : s.size ≤ 9223372036854775806) (d : Nat) : ∀ (k i : Nat), i ≤ s.size → s.size - i = d → d < k →
    synodref4_Name.l0 k s i = some ((s.data.toList.drop i).all okByte && (decide (0 < s.size) && decide (s.size ≤ 32))) := by
  induction d with
  | zero =>
    intro k i h1 h2 h3
    obtain ⟨k, rfl⟩ : ∃ m, k = m + 1 := ⟨k - 1, by omega⟩
    have hi : i = s.size := by omega
    subst hi
    simp only [synodref4_Name.l0]
    rw [if_neg (by omega), List.drop_eq_nil_of_le (by simp)]
    by_cases h0 : 0 < s.size
    · rw [if_pos (by omega)]; simp [h0]; omega
    · rw [if_neg (by omega)]; simp [h0]
  | succ d ih =>
    intro k i h1 h2 h3
    obtain ⟨k, rfl⟩ : ∃ m, k = m + 1 := ⟨k - 1, by omega⟩
    have hi : i < s.size := by omega
    have hw : wrap64 ((i : Int) + 1) = ((i + 1 : Nat) : Int) := by rw [wrap_small (by omega) (by omega)]; omega
    have hnext := ih k (i + 1) (by omega) (by omega) (by omega)
    simp only [synodref4_Name.l0]
    rw [if_pos (by omega), if_pos (by omega), hw, hnext, bt_nat s i hi, drop_all s i hi, Bool.and_assoc]
    generalize s.data.toList[i]'(by simpa using hi) = c
    generalize ((s.data.toList.drop (i + 1)).all okByte && (decide (0 < s.size) && decide (s.size ≤ 32))) = r at *
    have hc : okByte c = (decide (97 ≤ c.toNat ∧ c.toNat ≤ 122) || decide (48 ≤ c.toNat ∧ c.toNat ≤ 57) || decide (c.toNat = 45) || decide (c.toNat = 46)) := rfl
    rw [hc]
    clear hc hnext hw ih
    generalize c.toNat = x
    repeat' split
    all_goals (cases r <;> simp <;> omega)
theorem rname_calls (s : ByteArray) (w : World) (hs : s.size ≤ 9223372036854775806) : Calls Try.prog 36 #[.string s] w fun e w' => e = .returned (.bool (okName s)) ∧ Drawn0 w w' := by
  refine synodref4_Name.calls (s.size + 1) s (okName s) w ?_
  have := rname_l s hs s.size (s.size + 1) 0 (by omega) (by omega) (by omega)
  unfold synodref4_Name.f okName
  simpa using this

set_option maxHeartbeats 400000 in
theorem rfails_no (p : Nat) (w : World) (f la dn : Value) (h : w.heap[p]? = some (.cells #[f, .int .i64 0, dn, la] 29 (0, 0))) :
    Calls Try.prog 38 #[.pointer (some ⟨p, 0, none⟩)] w fun e w' => e = .returned (.bool false) ∧ w = w' := by
  have h2 := sb_cell h 1
  simp at h2
  clear h
  go_enter Try.func38, Try.ntmps38
  go_wp2
  go_ret
  exact ⟨rfl, rfl⟩
set_option maxHeartbeats 400000 in
theorem rfails_yes (p : Nat) (w : World) (f la : Value) (n : Nat) (dn : Bool) (hn : 0 < n) (hm : n ≤ 9223372036854775807) (h : w.heap[p]? = some (.cells #[f, .int .i64 n, .bool dn, la] 29 (0, 0))) :
    Calls Try.prog 38 #[.pointer (some ⟨p, 0, none⟩)] w fun e w' => e = .returned (.bool (decide (n = 1))) ∧ w'.heap[p]? = some (.cells #[f, .int .i64 (n - 1 : Nat), .bool (decide (n = 1)), la] 29 (0, 0)) ∧ w'.heap.size = w.heap.size ∧ Chg (· = p) w w' := by
  have h2 := sb_cell h 1
  have h3 := sb_cell h 2
  have f2 := sb_free h 1
  have f3 := sb_free h 2
  simp at h2 h3
  have H := Lib.hid h
  clear h
  go_enter Try.func38, Try.ntmps38
  go_wp2
  go_ret
  have e1 : ((n : Int) - 1) = ((n - 1 : Nat) : Int) := by omega
  have e2 : ((n : Int) - 1 == 0) = decide (n = 1) := by
    by_cases h1 : n = 1
    · subst h1; rfl
    · rw [decide_eq_false h1]; exact beq_false_of_ne (by omega)
  rw [e2, e1]
  refine ⟨rfl, ?_, by simp [World.setCell], ?_⟩
  · have := sb_set (sb_set H.out 1 (.int .i64 ((n - 1 : Nat) : Int))) 2 (.bool (decide (n = 1)))
    simpa using this
  · exact (Chg.setCell (F := (· = p)) w (p := ⟨p, 1, none⟩) rfl _).same (Chg.setCell (F := (· = p)) _ (p := ⟨p, 2, none⟩) rfl _)
theorem rtick_calls (p : Nat) (w : World) (v : Value) (la : ByteArray) (ar : Nat) (dn : Bool) (d : St) (hd : d.armed = ar) (hdn : d.down = dn) (hm : ar ≤ 9223372036854775807)
    (h : w.heap[p]? = some (.cells #[v, .int .i64 ar, .bool dn, .string la] 29 (0, 0))) :
    Calls Try.prog 38 #[.pointer (some ⟨p, 0, none⟩)] w fun e w' => e = .returned (.bool (tick d).1) ∧ w'.heap[p]? = some (.cells #[v, .int .i64 (tick d).2.armed, .bool (tick d).2.down, .string la] 29 (0, 0)) ∧ w'.heap.size = w.heap.size ∧ Chg (· = p) w w' := by
  subst hd hdn
  by_cases h0 : d.armed = 0
  · rw [h0] at h
    refine (rfails_no p w _ _ _ h).mono ?_
    rintro e w' ⟨rfl, rfl⟩
    have e : tick d = (false, d) := by simp only [tick, h0, if_true]
    rw [e]
    exact ⟨rfl, by rw [h0]; exact h, rfl, Chg.refl _ _⟩
  · refine (rfails_yes p w _ _ d.armed d.down (by omega) hm h).mono ?_
    rintro e w' ⟨rfl, h1, h2, h3⟩
    have e : tick d = (decide (d.armed = 1), { d with armed := d.armed - 1, down := decide (d.armed = 1) }) := by simp only [tick, h0, if_false]
    rw [e]
    exact ⟨rfl, h1, h2, h3⟩
end
end Go.Proofs.Ytflajlnknimjaaa.Dk
