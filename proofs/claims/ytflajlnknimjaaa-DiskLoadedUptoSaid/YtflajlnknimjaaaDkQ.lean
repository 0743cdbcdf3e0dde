/- told, made, of the laws on a disk. -/
import Derived.Test.YtflajlnknimjaaaDkN
namespace Go.Proofs.Ytflajlnknimjaaa.Dk
open Go.RowKit Go.Maps Go.Proofs.YtflajlnknimjaaaW.PrintWords Go.Proofs.YtflajlnknimjaaaW.PrintMore Go.Proofs.Ytflajlnknimjaaa.Syn Go.Proofs.Ytflajlnknimjaaa.PDiskLoads

abbrev SO := S52
abbrev kO : Kd SO := k52
/-- What a disk told an operation answers, and is then. -/
def told (d : St) (x : SO) : Int × St :=
  if x.f0 = 0 then d.create x.f2 else if x.f0 = 1 then d.append x.f2 x.f4 else if x.f0 = 2 then d.sync x.f2 else if x.f0 = 3 then d.cut x.f2 x.f1
  else if x.f0 = 4 then d.rename x.f2 x.f3 else if x.f0 = 5 then d.remove x.f2 else if x.f0 = 6 then (0, d.arm x.f1) else if x.f0 = 7 then (0, d.crash x.f1) else (0, d)
/-- What an operation's parts may be. -/
structure OpFits (x : SO) : Prop where
  n : x.f1 ≤ 9223372036854775807
  name : x.f2.size ≤ 140737488351232
  dest : x.f3.size ≤ 140737488351232
  b : x.f4.length ≤ 140737488351232
theorem num_calls (e : Int) (w : World) : Calls Try.prog 11 #[.int .i64 e] w fun r w' => r = .returned (.int .i64 e) ∧ w' = w := by
  go_enter Try.func11, Try.ntmps11
  go_wp2
  go_ret
  exact ⟨rfl, rfl⟩

section
variable {B i : Nat} {w0 w : World} {D : List Thing} {p : Nat} {d : St}
set_option maxHeartbeats 2000000 in
set_option maxRecDepth 100000 in
theorem m_told (hM : Many B w0 w D) (hi : D[i]? = some (DISK p d)) (x : SO) (hx : OpFits x) (A : Option Addr) (c : Nat) (hc : x.f4.length ≤ c) (hs : ∀ W, Below B w0 W → (Kd.int .u8).C W A x.f4.length x.f4) :
    Calls Try.prog 26 #[ptr p, .agg #[.int .i64 x.f0, .int .i64 x.f1, .string x.f2, .string x.f3, .slice A x.f4.length c]] w fun e w' => e = .returned (.int .i64 (told d x).1) ∧ Many B w0 w' (D.set i (DISK p (told d x).2)) := by
  obtain ⟨W, hW⟩ : ∃ W, W = w.alloc (.cells #[.int .i64 x.f0, .int .i64 x.f1, .string x.f2, .string x.f3, .slice A x.f4.length c] 52) := ⟨_, rfl⟩
  have hM2 : Many B w0 W D := hM.read (by rw [hW]; exact below_alloc (Below.refl _ _) _)
  have hi2 := hi
  have b : W.heap[w.heap.size]? = some (.cells #[.int .i64 x.f0, .int .i64 x.f1, .string x.f2, .string x.f3, .slice A x.f4.length c] 52 (0, 0)) := by rw [hW]; exact sb_new _ _
  have b0 := sb_cell b 0
  have b1 := sb_cell b 1
  have b2 := sb_cell b 2
  have b3 := sb_cell b 3
  have b4 := sb_cell b 4
  simp at b0 b1 b2 b3 b4
  have hS := fun (F : Nat → Prop) (hF : ∀ k, F k → B ≤ k) (_ : ∀ (j : Nat) (u : Thing), j ≠ i → D[j]? = some u → ∃ G : Nat → Prop, u.P W G ∧ ∀ k, G k → k < W.heap.size ∧ ¬ F k) => src_old hM2 hs F hF
  have HM := Lib.hid hM2
  have HI := Lib.hid hi2
  have HS := Lib.hid hS
  have HX := Lib.hid hx
  have HC := Lib.hid hc
  subst hW
  clear hM2 hi2 hS hx hc hM hi hs b
  obtain ⟨k, n, nm, dest, bs⟩ := x
  simp only at *
  by_cases h0 : k = 0
  · subst h0
    have e : told d ⟨0, n, nm, dest, bs⟩ = d.create nm := rfl
    rw [e]
    clear e
    generalize hr : d.create nm = r
    have HR := Lib.hid hr
    clear hr
    go_enter Try.func26, Try.ntmps26
    go_wp2_with (first
      | (go_at_call 12; refine (m_create (by exact HM.out) (by exact HI.out) nm (by exact HX.out.name)).mono ?_; rw [HR.out]; rintro e w1 ⟨rfl, h1⟩; have H1 := Lib.hid h1; clear h1)
      | (go_at_call 11; refine (num_calls _ _).mono ?_; rintro e w1 ⟨rfl, rfl⟩))
    go_ret
    exact ⟨rfl, H1.out⟩
  by_cases h1 : k = 1
  · subst h1
    have e : told d ⟨1, n, nm, dest, bs⟩ = d.append nm bs := rfl
    rw [e]
    clear e
    generalize hr : d.append nm bs = r
    have HR := Lib.hid hr
    clear hr
    go_enter Try.func26, Try.ntmps26
    go_wp2_with (first
      | (go_at_call 14; refine (m_append (by exact HM.out) (by exact HI.out) nm (by exact HX.out.name) A c bs (by exact HS.out) (by exact HX.out.b) (by exact HC.out)).mono ?_; rw [HR.out]; rintro e w1 ⟨rfl, h1⟩; have H1 := Lib.hid h1; clear h1)
      | (go_at_call 11; refine (num_calls _ _).mono ?_; rintro e w1 ⟨rfl, rfl⟩))
    go_ret
    exact ⟨rfl, H1.out⟩
  by_cases h2 : k = 2
  · subst h2
    have e : told d ⟨2, n, nm, dest, bs⟩ = d.sync nm := rfl
    rw [e]
    clear e
    generalize hr : d.sync nm = r
    have HR := Lib.hid hr
    clear hr
    go_enter Try.func26, Try.ntmps26
    go_wp2_with (first
      | (go_at_call 32; refine (m_sync (by exact HM.out) (by exact HI.out) nm (by exact HX.out.name)).mono ?_; rw [HR.out]; rintro e w1 ⟨rfl, h1⟩; have H1 := Lib.hid h1; clear h1)
      | (go_at_call 11; refine (num_calls _ _).mono ?_; rintro e w1 ⟨rfl, rfl⟩))
    go_ret
    exact ⟨rfl, H1.out⟩
  by_cases h3 : k = 3
  · subst h3
    have e : told d ⟨3, n, nm, dest, bs⟩ = d.cut nm n := rfl
    rw [e]
    clear e
    generalize hr : d.cut nm n = r
    have HR := Lib.hid hr
    clear hr
    go_enter Try.func26, Try.ntmps26
    go_wp2_with (first
      | (go_at_call 44; refine (m_cut (by exact HM.out) (by exact HI.out) nm n (by exact HX.out.name)).mono ?_; rw [HR.out]; rintro e w1 ⟨rfl, h1⟩; have H1 := Lib.hid h1; clear h1)
      | (go_at_call 11; refine (num_calls _ _).mono ?_; rintro e w1 ⟨rfl, rfl⟩))
    go_ret
    exact ⟨rfl, H1.out⟩
  by_cases h4 : k = 4
  · subst h4
    have e : told d ⟨4, n, nm, dest, bs⟩ = d.rename nm dest := rfl
    rw [e]
    clear e
    generalize hr : d.rename nm dest = r
    have HR := Lib.hid hr
    clear hr
    go_enter Try.func26, Try.ntmps26
    go_wp2_with (first
      | (go_at_call 45; refine (m_rename (by exact HM.out) (by exact HI.out) nm dest (by exact HX.out.name) (by exact HX.out.dest)).mono ?_; rw [HR.out]; rintro e w1 ⟨rfl, h1⟩; have H1 := Lib.hid h1; clear h1)
      | (go_at_call 11; refine (num_calls _ _).mono ?_; rintro e w1 ⟨rfl, rfl⟩))
    go_ret
    exact ⟨rfl, H1.out⟩
  by_cases h5 : k = 5
  · subst h5
    have e : told d ⟨5, n, nm, dest, bs⟩ = d.remove nm := rfl
    rw [e]
    clear e
    generalize hr : d.remove nm = r
    have HR := Lib.hid hr
    clear hr
    go_enter Try.func26, Try.ntmps26
    go_wp2_with (first
      | (go_at_call 46; refine (m_remove (by exact HM.out) (by exact HI.out) nm (by exact HX.out.name)).mono ?_; rw [HR.out]; rintro e w1 ⟨rfl, h1⟩; have H1 := Lib.hid h1; clear h1)
      | (go_at_call 11; refine (num_calls _ _).mono ?_; rintro e w1 ⟨rfl, rfl⟩))
    go_ret
    exact ⟨rfl, H1.out⟩
  by_cases h6 : k = 6
  · subst h6
    have e : told d ⟨6, n, nm, dest, bs⟩ = (0, d.arm n) := rfl
    rw [e]
    clear e
    generalize hr : d.arm n = r
    have HR := Lib.hid hr
    clear hr
    go_enter Try.func26, Try.ntmps26
    go_wp2_with (go_at_call 47; refine (m_arm (by exact HM.out) (by exact HI.out) n (by exact HX.out.n)).mono ?_; rw [HR.out]; rintro e w1 ⟨rfl, h1⟩; have H1 := Lib.hid h1; clear h1)
    go_ret
    exact ⟨rfl, H1.out⟩
  by_cases h7 : k = 7
  · subst h7
    have e : told d ⟨7, n, nm, dest, bs⟩ = (0, d.crash n) := rfl
    rw [e]
    clear e
    generalize hr : d.crash n = r
    have HR := Lib.hid hr
    clear hr
    go_enter Try.func26, Try.ntmps26
    go_wp2_with (go_at_call 22; refine (m_crash (by exact HM.out) (by exact HI.out) n).mono ?_; rw [HR.out]; rintro e w1 ⟨rfl, h1⟩; have H1 := Lib.hid h1; clear h1)
    go_ret
    exact ⟨rfl, H1.out⟩
  have e : told d ⟨k, n, nm, dest, bs⟩ = (0, d) := by simp [told, h0, h1, h2, h3, h4, h5, h6, h7]
  rw [e]
  clear e
  have g0 := decide_eq_false h0
  have g1 := decide_eq_false h1
  have g2 := decide_eq_false h2
  have g3 := decide_eq_false h3
  have g4 := decide_eq_false h4
  have g5 := decide_eq_false h5
  have g6 := decide_eq_false h6
  have g7 := decide_eq_false h7
  go_enter Try.func26, Try.ntmps26
  go_wp2
  go_ret
  refine ⟨rfl, ?_⟩
  have hset : D.set i (DISK p d) = D := by
    have h := HI.out
    obtain ⟨hl, hv⟩ := List.getElem?_eq_some_iff.1 h
    rw [← hv, List.set_getElem_self]
  rw [hset]
  exact HM.out
/-- A disk behind operations. -/
def made (l : List SO) : St := l.foldl (fun d x => (told d x).2) St.new
theorem made_snoc (l : List SO) (x : SO) : made (l ++ [x]) = (told (made l) x).2 := by simp [made]
theorem set_last (D : List Thing) (t u : Thing) : (D ++ [t]).set D.length u = D ++ [u] := by simp
theorem get_last (D : List Thing) (t : Thing) : (D ++ [t])[D.length]? = some t := by simp
theorem C_of_below {α : Type} {k : Kd α} {w0 W : World} {A : Option Addr} {n : Nat} {xs : List α} (h : k.C w0 A n xs) (hb : Below w0.heap.size w0 W) : k.C W A n xs := Kd.C_below h hb
/-- The operations as the law has them. -/
structure Ops (w0 : World) (A : Option Addr) (l : List SO) : Prop where
  row : kO.C w0 A l.length l
  len : l.length ≤ 1048576
  fits : ∀ x ∈ l, OpFits x
theorem Ops.at {A : Option Addr} {l : List SO} (h : Ops w0 A l) (k : Nat) (hk : k < l.length) : ∃ ad A4 c4, A = some ad ∧ (∀ W, Below w0.heap.size w0 W → W.cell? (ad.add (k * 5)) = some (.int .i64 l[k].f0) ∧ W.cell? ⟨(ad.add (k * 5)).block, (ad.add (k * 5)).off + 1, none⟩ = some (.int .i64 l[k].f1) ∧ W.cell? ⟨(ad.add (k * 5)).block, (ad.add (k * 5)).off + 2, none⟩ = some (.string l[k].f2) ∧ W.cell? ⟨(ad.add (k * 5)).block, (ad.add (k * 5)).off + 3, none⟩ = some (.string l[k].f3) ∧ W.cell? ⟨(ad.add (k * 5)).block, (ad.add (k * 5)).off + 4, none⟩ = some (.slice A4 l[k].f4.length c4)) ∧ l[k].f4.length ≤ c4 ∧ ∀ W, Below w0.heap.size w0 W → (Kd.int .u8).C W A4 l[k].f4.length l[k].f4 := by
  obtain ⟨ad, A4, c4, rfl, x0, x1, x2, x3, x4, hl, hC⟩ := at_T52 h.row (k : Int) (by omega) (by omega)
  have e : rd_T52 l (k : Int) = l[k] := by simp [rd_T52, hk]
  rw [e] at x0 x1 x2 x3 x4 hl hC
  simp only [Int.toNat_natCast] at x0 x1 x2 x3 x4
  refine ⟨ad, A4, c4, rfl, fun W hb => ?_, hl, fun W hb => Kd.C_below hC hb⟩
  exact ⟨(hb.cell (World.block_lt_of_cell? w0 _ x0)).trans x0, (hb.cell (World.block_lt_of_cell? w0 _ x1)).trans x1, (hb.cell (World.block_lt_of_cell? w0 _ x2)).trans x2, (hb.cell (World.block_lt_of_cell? w0 _ x3)).trans x3, (hb.cell (World.block_lt_of_cell? w0 _ x4)).trans x4⟩
set_option maxHeartbeats 2000000 in
set_option maxRecDepth 100000 in
theorem m_made (hM : Many w0.heap.size w0 w D) {A : Option Addr} {c : Nat} {l : List SO} (hl : Ops w0 A l) :
    Calls Try.prog 20 #[.slice A l.length c] w fun e w' => ∃ p, e = .returned (ptr p) ∧ Many w0.heap.size w0 w' (D ++ [DISK p (made l)]) := by
  have HM := Lib.hid hM
  have HL := Lib.hid hl
  have hlen := hl.len
  clear hM hl
  go_enter Try.func20, Try.ntmps20
  go_wp2_with (go_at_call 10; refine (m_new HM.out).mono ?_; rintro e w1 ⟨p, rfl, h1⟩; have H1 := Lib.hid h1; clear h1)
  go_loopw [4] (fun v4 wr => ∃ k : Nat, k ≤ l.length ∧ v4 = .int .i64 k ∧ Hid (Many w0.heap.size w0 wr (D ++ [DISK p (made (l.take k))]))) (fun v4 _ => l.length - (intOf v4).toNat)
  case atStart => exact ⟨0, Nat.zero_le _, rfl, H1⟩
  case round =>
    obtain ⟨k, hk, rfl, HR⟩ := hrel
    by_cases hlt : k < l.length
    · obtain ⟨ad, A4, c4, rfl, hcell, hl4, hC4⟩ := HL.out.at k hlt
      obtain ⟨x0, x1, x2, x3, x4⟩ := hcell wr HR.out.below
      have hfit := HL.out.fits _ (List.getElem_mem hlt)
      obtain ⟨x, hx⟩ : ∃ x, x = l[k] := ⟨_, rfl⟩
      rw [← hx] at x0 x1 x2 x3 x4 hl4 hC4 hfit
      have HX := Lib.hid hx
      have HFit := Lib.hid hfit
      have HL4 := Lib.hid hl4
      have HC4 := Lib.hid hC4
      have hk2 : wrap64 ((k : Int) + 1) = (k : Int) + 1 := by unfold wrap64; omega
      clear hcell hx hfit hl4 hC4
      go_wp2_with (go_at_call 26; refine (m_told (by exact HR.out) (get_last _ _) x (by exact HFit.out) A4 c4 (by exact HL4.out) (by exact HC4.out)).mono ?_; rintro e w2 ⟨rfl, h2⟩; have H2 := Lib.hid h2; clear h2)
      go_roundw
      case rel =>
        refine ⟨k + 1, by omega, rfl, ?_⟩
        have := H2.out
        rw [set_last, HX.out, ← made_snoc, ← List.take_succ_eq_append_getElem hlt] at this
        exact Lib.hid this
      case measure =>
        show l.length - ((k : Int) + 1).toNat < l.length - (k : Int).toNat
        omega
    · have hkn : k = l.length := by omega
      subst hkn
      go_wp2
      go_ret
      have := HR.out
      rw [List.take_length] at this
      exact ⟨p, rfl, this⟩
end
end Go.Proofs.Ytflajlnknimjaaa.Dk
