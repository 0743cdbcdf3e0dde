/- first: the chapter's example. -/
import Derived.Test.YtflajlnknimjaaaDkS
namespace Go.Proofs.Ytflajlnknimjaaa.Dk
open Go.RowKit Go.Maps Go.Proofs.YtflajlnknimjaaaW.PrintWords Go.Proofs.YtflajlnknimjaaaW.PrintMore Go.Proofs.Ytflajlnknimjaaa.Syn Go.Proofs.Ytflajlnknimjaaa.PDiskLoads

def nA : ByteArray := ⟨#[97]⟩
def nB : ByteArray := ⟨#[65]⟩
def dA (l : List Int) (s : Nat) : St := ⟨[⟨nA, l, s⟩], nA, 0, false⟩
theorem ex1 : St.new.create nA = (0, ⟨[⟨nA, [], 0⟩], nil_, 0, false⟩) := by rfl
theorem ex2 : St.create nA ⟨[⟨nA, [], 0⟩], nil_, 0, false⟩ = (9, ⟨[⟨nA, [], 0⟩], nil_, 0, false⟩) := by rfl
theorem ex3 : St.create nB ⟨[⟨nA, [], 0⟩], nil_, 0, false⟩ = (7, ⟨[⟨nA, [], 0⟩], nil_, 0, false⟩) := by rfl
theorem ex4 : St.append nA [1, 2, 3] ⟨[⟨nA, [], 0⟩], nil_, 0, false⟩ = (0, dA [1, 2, 3] 0) := by rfl
theorem ex5 : St.sync nA (dA [1, 2, 3] 0) = (0, dA [1, 2, 3] 3) := by rfl
theorem ex6 : St.append nA [4, 5] (dA [1, 2, 3] 3) = (0, dA [1, 2, 3, 4, 5] 3) := by rfl
theorem ex7 : St.crash 1 (dA [1, 2, 3, 4, 5] 3) = ⟨[⟨nA, [1, 2, 3, 4], 4⟩], nil_, 0, false⟩ := by rfl

theorem m_lit {B : Nat} {w0 w : World} {D : List Thing} (hM : Many B w0 w D) (ys : List Int) (hl : ys.length ≤ 9223372036854775807) :
    Many B w0 (w.alloc (.cells (nums .u8 ys).toArray 5)) (D ++ [BYTES (.slice (some ⟨w.heap.size, 0, none⟩) ys.length ys.length) ys]) := by
  refine hM.add (below_alloc (Below.refl _ _) _) ?_
  refine Kd.R_of_own (Go.Proofs.YtflajlnknimjaaaW.PrintWords.own_lit w 0 5 .u8 ys (Nat.zero_le _) hl) (fun k hk => ?_)
  have hk' : k = w.heap.size := by simpa [Value.ownBlock] using hk.symm
  subst hk'
  exact ⟨Nat.le_refl _, by simp⟩
theorem m_lit3 {B : Nat} {w0 w : World} {D : List Thing} (hM : Many B w0 w D) : Many B w0 (w.alloc (.cells #[.int .u8 1, .int .u8 2, .int .u8 3] 5)) (D ++ [BYTES (.slice (some ⟨w.heap.size, 0, none⟩) 3 3) [1, 2, 3]]) := m_lit hM [1, 2, 3] (by decide)
theorem m_lit2 {B : Nat} {w0 w : World} {D : List Thing} (hM : Many B w0 w D) : Many B w0 (w.alloc (.cells #[.int .u8 4, .int .u8 5] 5)) (D ++ [BYTES (.slice (some ⟨w.heap.size, 0, none⟩) 2 2) [4, 5]]) := m_lit hM [4, 5] (by decide)

theorem lit_C (w : World) (ys : List Int) (hl : ys.length ≤ 9223372036854775807) : (Kd.int .u8).C (w.alloc (.cells (nums .u8 ys).toArray 5)) (some ⟨w.heap.size, 0, none⟩) ys.length ys :=
  (Kd.R_reads' (Kd.R_of_own (ok := fun _ => True) (Go.Proofs.YtflajlnknimjaaaW.PrintWords.own_lit w 0 5 .u8 ys (Nat.zero_le _) hl) (fun _ _ => trivial))).2.2
theorem lit_C4 (w : World) : (Kd.int .u8).C (w.alloc (.cells #[.int .u8 1, .int .u8 2, .int .u8 3, .int .u8 4] 5)) (some ⟨w.heap.size, 0, none⟩) 4 [1, 2, 3, 4] := lit_C w [1, 2, 3, 4] (by decide)

theorem ex8 : synodref_SameBytes.f 5 [1, 2, 3, 4] [1, 2, 3, 4] = some true := by rw [sameBytes_f _ _ 5 (by decide) (by decide)]; rfl
set_option maxHeartbeats 2000000 in
set_option maxRecDepth 100000 in
theorem first_calls (w : World) : Calls Try.prog 9 #[] w fun e w' => e = .returned (.bool true) ∧ Below w.heap.size w w' := by
  have H0 := Lib.hid (Many.start w)
  go_enter Try.func9, Try.ntmps9
  go_upto_region 4 with (go_at_call 10; refine (m_new (by exact H0.out)).mono ?_; rintro e w1 ⟨p, rfl, h1⟩; have H1 := Lib.hid h1; clear h1)
  go_upto_region 5 with (go_at_call 12; refine (m_create (i := 0) (by exact H1.out) rfl nA (by decide)).mono ?_; rw [ex1]; rintro e w2 ⟨rfl, h2⟩; have H2 := Lib.hid h2; clear h2)
  go_upto_region 6 with (go_at_call 12; refine (m_create (i := 0) (by exact H2.out) rfl nA (by decide)).mono ?_; rw [ex2]; rintro e w3 ⟨rfl, h3⟩; have H3 := Lib.hid h3; clear h3)
  go_upto_region 7 with (go_at_call 12; refine (m_create (i := 0) (by exact H3.out) rfl nB (by decide)).mono ?_; rw [ex3]; rintro e w4 ⟨rfl, h4⟩; have H4 := Lib.hid h4; clear h4)
  go_upto_region 8 with (go_at_call 14; refine (m_append (i := 0) (m_lit3 (by exact H4.out)) rfl nA (by decide) _ _ [1, 2, 3] (fun F hF hO => src_bytes (j := 1) (by decide) rfl F hF hO) (by decide) (by decide)).mono ?_; rw [ex4]; rintro e w5 ⟨rfl, h5⟩; have H5 := Lib.hid h5; clear h5)
  go_upto_region 9 with (go_at_call 32; refine (m_sync (i := 0) (by exact H5.out) rfl nA (by decide)).mono ?_; rw [ex5]; rintro e w6 ⟨rfl, h6⟩; have H6 := Lib.hid h6; clear h6)
  go_upto_region 10 with (go_at_call 14; refine (m_append (i := 0) (m_lit2 (by exact H6.out)) rfl nA (by decide) _ _ [4, 5] (fun F hF hO => src_bytes (j := 2) (by decide) rfl F hF hO) (by decide) (by decide)).mono ?_; rw [ex6]; rintro e w7 ⟨rfl, h7⟩; have H7 := Lib.hid h7; clear h7)
  go_upto_region 11 with (go_at_call 22; refine (m_crash (i := 0) (by exact H7.out) rfl 1).mono ?_; rw [ex7]; rintro e w8 ⟨rfl, h8⟩; have H8 := Lib.hid h8; clear h8)
  go_upto_region 12 with (go_at_call 21; refine (m_files (i := 0) (by exact H8.out) rfl).mono ?_; rintro e w9 ⟨v, rfl, h9⟩; have H9 := Lib.hid h9; clear h9)
  obtain ⟨A, c, hv, hc, hC⟩ := H9.out.files (i := 3) rfl
  have hv' : v = .slice A 1 c := hv
  subst hv'
  obtain ⟨ad, A1, c1, rfl, x0, x1, x2, hl1, hC1⟩ := at_T36 hC 0 (by decide) (by decide)
  replace x0 : w9.cell? (ad.add 0) = some (.string nA) := x0
  replace x1 : w9.cell? ⟨(ad.add 0).block, (ad.add 0).off + 1, none⟩ = some (.slice A1 4 c1) := x1
  replace x2 : w9.cell? ⟨(ad.add 0).block, (ad.add 0).off + 2, none⟩ = some (.int .i64 4) := x2
  have ha : ad.add 0 = ad := by cases ad; rfl
  rw [ha] at x0 x1 x2
  clear ha
  have hC1' : (Kd.int .u8).C w9 A1 4 [1, 2, 3, 4] := hC1
  have hl1' : 4 ≤ c1 := hl1
  have HC1 := Lib.hid hC1'
  have HL1 := Lib.hid hl1'
  clear hC hC1 hl1 hC1' hl1' hv
  have hnA : (nA.toList == [97]) = true := by rw [tl_eq]; rfl
  go_upto_region 13 with (go_at_call 11; refine (num_calls _ _).mono ?_; rintro e w10 ⟨rfl, rfl⟩)
  go_wp2_with (go_at_call 24; refine (synodref_SameBytes.calls 5 A1 c1 [1, 2, 3, 4] _ 4 [1, 2, 3, 4] true _ (Kd.C_below HC1.out (below_alloc (Below.refl _ _) _)) (by exact HL1.out) (lit_C4 _) (by decide) ex8).mono ?_; rintro e w11 ⟨rfl, hd⟩; have HD := Lib.hid hd; clear hd)
  go_ret
  exact ⟨rfl, ((H9.out.read (below_alloc (Below.refl _ _) _)).read HD.out.below).below⟩
end Go.Proofs.Ytflajlnknimjaaa.Dk
