/- DiskDurable: the walk of the law. -/
import Derived.Test.YtflajlnknimjaaaDk3P
import Derived.Deep.QuietTactic
import Derived.BigQuiet
namespace Go.Proofs.Ytflajlnknimjaaa.Dk
open Go.RowKit Go.Maps Go.Proofs.YtflajlnknimjaaaW.PrintWords Go.Proofs.YtflajlnknimjaaaW.PrintMore Go.Proofs.Ytflajlnknimjaaa.Syn Go.Proofs.Ytflajlnknimjaaa.PDiskLoads

attribute [local go_sem] max2_int min2_int max_two min_two
theorem same_bytes {w : World} {A A' : Option Addr} {c c' : Nat} {ys : List Int} (h1 : (Kd.int .u8).C w A ys.length ys) (h2 : ys.length ≤ c) (h3 : (Kd.int .u8).C w A' ys.length ys) (h4 : ys.length ≤ c') (hl : ys.length ≤ 1099511627776) :
    Calls Try.prog 24 #[.slice A ys.length c, .slice A' ys.length c'] w fun e w' => e = .returned (.bool true) ∧ Drawn0 w w' :=
  synodref_SameBytes.calls (ys.length + 1) A c ys A' c' ys true w h1 h2 h3 h4 (by rw [sameBytes_f _ _ _ (by omega) (by omega)]; exact congrArg some (decide_eq_true rfl))
theorem Many.at {B i : Nat} {w0 w : World} {D : List Thing} {A : Option Addr} {n c : Nat} {l : List SF} (hM : Many B w0 w D) (hi : D[i]? = some (FILES (.slice A n c) l)) {k : Nat} (hk : k < l.length) :
    ∃ ad A4 c4, A = some ad ∧ w.cell? (ad.add (k * 3)) = some (.string l[k].f0) ∧ w.cell? ⟨(ad.add (k * 3)).block, (ad.add (k * 3)).off + 1, none⟩ = some (.slice A4 l[k].f1.length c4) ∧ w.cell? ⟨(ad.add (k * 3)).block, (ad.add (k * 3)).off + 2, none⟩ = some (.int .i64 l[k].f2) ∧ l[k].f1.length ≤ c4 ∧ (Kd.int .u8).C w A4 l[k].f1.length l[k].f1 := by
  obtain ⟨A1, c1, e, _, hC⟩ := hM.files hi
  cases e
  obtain ⟨ad, A4, c4, rfl, x0, x1, x2, h1, h2⟩ := at_T36 hC (k : Int) (by omega) (by omega)
  have e : rd_T36 l (k : Int) = l[k] := rdF hk
  rw [e] at x0 x1 x2 h1 h2
  simp only [Int.toNat_natCast] at x0 x1 x2
  exact ⟨ad, A4, c4, rfl, x0, x1, x2, h1, h2⟩

set_option maxHeartbeats 4000000 in
set_option maxRecDepth 100000 in
theorem durable_calls {w : World} {A : Option Addr} {c : Nat} {l : List SO} (keep again : Int) (hl : Ops w A l) (hlc : l.length ≤ c) :
    Calls Try.prog 4 #[.slice A l.length c, .int .i64 keep, .int .i64 again] w fun e w' => e = .returned (.bool true) ∧ Below w.heap.size w w' := by
  have H0 := Lib.hid (Many.start w)
  have HL := Lib.hid hl
  have HLC := Lib.hid hlc
  clear hl hlc
  go_enter Try.func4, Try.ntmps4
  go_upto_region 2 with (go_at_call 9; refine (first_calls _).mono ?_; rintro e w1 ⟨rfl, h1⟩; have H1 := Lib.hid (H0.out.read h1); clear h1)
  go_upto_region 3 with (go_at_call 19; refine (m_few (by exact H1.out) (by exact HL.out) (by exact HLC.out)).mono ?_; rintro e w2 ⟨b2, rfl, h2⟩; have H2 := Lib.hid h2; clear h2)
  cases b2 with
  | false =>
    go_wp2
    go_ret
    exact ⟨rfl, H2.out.below⟩
  | true =>
    go_upto_region 6 with (go_at_call 20; refine (m_made (by exact H2.out) (by exact HL.out)).mono ?_; rintro e w3 ⟨p, rfl, h3⟩; have H3 := Lib.hid h3; clear h3)
    obtain ⟨d, hd⟩ : ∃ d, d = made l := ⟨_, rfl⟩
    rw [← hd] at H3
    clear hd
    have OK := Lib.hid (H3.out.ok (i := 0) rfl)
    obtain ⟨n, hn1⟩ : ∃ n, (filesOf d).length = n := ⟨_, rfl⟩
    have hn2 : (filesOf (d.crash keep)).length = n := (crash_len d keep).trans hn1
    have hn : n ≤ 1099511627776 := by rw [← hn1]; exact (files_len OK.out).1
    have HN1 := Lib.hid hn1
    have HN2 := Lib.hid hn2
    clear hn1 hn2
    go_upto_region 7 with (go_at_call 21; refine (m_files2 (i := 0) (by exact H3.out) rfl).mono ?_; rw [HN1.out]; rintro e w4 ⟨A1, c1, rfl, h4⟩; have H4 := Lib.hid h4; clear h4)
    go_upto_region 8 with (go_at_call 22; refine (m_crash (i := 0) (by exact H4.out) rfl keep).mono ?_; rintro e w5 ⟨rfl, h5⟩; have H5 := Lib.hid h5; clear h5)
    go_upto_region 9 with (go_at_call 21; refine (m_files2 (i := 0) (by exact H5.out) rfl).mono ?_; rw [HN2.out]; rintro e w6 ⟨A2, c2, rfl, h6⟩; have H6 := Lib.hid h6; clear h6)
    have hdn : (d.crash keep).down = false := rfl
    go_upto_region 12 with (go_at_call 23; refine (m_down (i := 0) (by exact H6.out) rfl).mono ?_; rintro e w7 ⟨rfl, h7⟩; have H7 := Lib.hid h7; clear h7)
    go_wp2
    have H8 : Hid (Many w.heap.size w w7 [DISK p (d.crash keep), FILES (.slice A1 n c1) (filesOf d), FILES (.slice A2 n c2) (filesOf (d.crash keep))]) := H7
    clear H7 H6 H5 H4 H3 hdn
    go_loopw [12, 13] (fun v12 v13 wr => ∃ k : Nat, k ≤ n ∧ v12 = .int .i64 (more d keep k) ∧ v13 = .int .i64 k ∧ Hid (Many w.heap.size w wr [DISK p (d.crash keep), FILES (.slice A1 n c1) (filesOf d), FILES (.slice A2 n c2) (filesOf (d.crash keep))])) (fun _ v13 _ => n - (intOf v13).toNat)
    case atStart => exact ⟨0, Nat.zero_le _, by simp [more], rfl, H8⟩
    case round =>
      obtain ⟨k, hk, rfl, rfl, HR⟩ := hrel
      by_cases hlt : k < n
      · have hk1 : k < (filesOf d).length := by rw [HN1.out]; exact hlt
        have hk2 : k < (filesOf (d.crash keep)).length := by rw [HN2.out]; exact hlt
        obtain ⟨x, hx, hxk, e1, e2, q1, q2, q3, q4⟩ := crash_at OK.out keep hk1 hk2
        obtain ⟨ad1, B1, g1, rfl, x0, x1, x2, hg1, hC1⟩ := HR.out.at (i := 1) rfl hk1
        obtain ⟨ad2, B2, g2, rfl, y0, y1, y2, hg2, hC2⟩ := HR.out.at (i := 2) rfl hk2
        rw [e1] at x0 x1 x2 hg1 hC1
        rw [e2] at y0 y1 y2 hg2 hC2
        have hms := more_succ (keep := keep) hxk
        have hml := more_le OK.out keep k
        have hl2 : (x.dat.take (kept d.last keep x)).length = kept d.last keep x := by rw [List.length_take]; omega
        generalize kept d.last keep x = n2 at *
        simp only at x0 x1 x2 y0 y1 y2 hg1 hg2 hC1 hC2
        rw [hl2] at y1 hg2 hC2
        generalize more d keep k = mk at *
        obtain ⟨nm, dat, syn⟩ := x
        simp only at *
        have hC1t := C_take hC1 q2
        have hcap : n2 ≤ g1 := by omega
        obtain ⟨ys, hys⟩ : ∃ ys, ys = dat.take n2 := ⟨_, rfl⟩
        rw [← hys] at hC1t hC2 hl2
        subst hl2
        have t1 : decide ((ys.length : Int) < (syn : Int)) = false := decide_eq_false (by omega)
        have t2 : decide ((dat.length : Int) < (ys.length : Int)) = false := decide_eq_false (by omega)
        have t3 : decide (max keep 0 < (ys.length : Int) - (syn : Int)) = false := decide_eq_false (by omega)
        have hw1 : wrap64 ((k : Int) + 1) = (k : Int) + 1 := by unfold wrap64; omega
        have hw2 : wrap64 ((mk : Int) + 1) = (mk : Int) + 1 := by unfold wrap64; omega
        have hw3 : wrap64 ((ys.length : Int) - (syn : Int)) = (ys.length : Int) - (syn : Int) := by unfold wrap64; omega
        have HC1 := Lib.hid hC1t
        have HC2 := Lib.hid hC2
        have HG2 := Lib.hid hg2
        have HG1 := Lib.hid hcap
        have HMS := Lib.hid hms
        have HYL : Hid (ys.length ≤ 1099511627776) := Lib.hid (by omega)
        clear hC1t hC2 hg2 hms hC1 e1 e2 hx hxk hys
        go_upto_region 16 with fail
        go_quiet (fail)
        go_upto_region 18 with fail
        go_quiet ((go_at_call 24; refine (same_bytes (by exact Kd.C_drewN HC2.out _) (by exact HG2.out) (by exact Kd.C_drewN HC1.out _) (by exact HG1.out) (by exact HYL.out)).mono ?_; rintro e w' ⟨he, ⟨m, hm⟩⟩; exact ⟨he, _, by rw [hm, World.drewN_drewN, Nat.add_assoc]⟩))
        clear y0 y1 y2 x0 x1
        go_upto_region 19 with fail
        obtain ⟨mx, hmx⟩ : ∃ mx : Int, (if keep < 0 then 0 else keep) = mx := ⟨_, rfl⟩
        have t4 : decide (mx < (ys.length : Int) - (syn : Int)) = false := decide_eq_false (by rw [← hmx]; split <;> omega)
        clear q1 q2 q3 q4 hg1 hcap t1 t2 t3 hml
        go_upto_region 21 with fail
        clear t4 hw3 hmx
        by_cases hgt : syn < ys.length
        · have hg : decide ((syn : Int) < (ys.length : Int)) = true := decide_eq_true (by omega)
          go_wp2
          go_roundw
          case rel =>
            refine ⟨k + 1, by omega, ?_, by first | rfl | (rw [hw1]; rfl), Lib.hid (HR.out.read (by repeat (first | exact Below.refl _ _ | apply pw_below_drewN)))⟩
            rw [HMS.out, if_pos hgt]
            first | rfl | (rw [hw2]; rfl)
          case measure =>
            first
              | (show n - ((k : Int) + 1).toNat < n - (k : Int).toNat; omega)
              | (show n - (intOf (.int .i64 (wrap64 ((k : Int) + 1)))).toNat < n - (intOf (.int .i64 (k : Int))).toNat; rw [hw1]; show n - ((k : Int) + 1).toNat < n - (k : Int).toNat; omega)
        · have hg : decide ((syn : Int) < (ys.length : Int)) = false := decide_eq_false (by omega)
          go_wp2
          go_roundw
          case rel =>
            refine ⟨k + 1, by omega, ?_, by first | rfl | (rw [hw1]; rfl), Lib.hid (HR.out.read (by repeat (first | exact Below.refl _ _ | apply pw_below_drewN)))⟩
            rw [HMS.out, if_neg hgt]
            first | rfl | (rw [hw2]; rfl)
          case measure =>
            first
              | (show n - ((k : Int) + 1).toNat < n - (k : Int).toNat; omega)
              | (show n - (intOf (.int .i64 (wrap64 ((k : Int) + 1)))).toNat < n - (intOf (.int .i64 (k : Int))).toNat; rw [hw1]; show n - ((k : Int) + 1).toNat < n - (k : Int).toNat; omega)
      · have hkn : k = n := by omega
        subst hkn
        have hml := more_le OK.out keep k
        have hfl := (HR.out.ok_files (i := 0) rfl)
        have HFL := Lib.hid hfl
        clear hfl
        generalize more d keep k = mk at *
        have t5 : decide ((mk : Int) ≤ 1) = true := decide_eq_true (by omega)
        clear hml
        go_upto_region 24 with (go_at_call 22; refine (m_crash (i := 0) (by exact HR.out) rfl again).mono ?_; rintro e w8 ⟨rfl, h8⟩; have H9 := Lib.hid h8; clear h8)
        go_upto_region 25 with (first
          | (go_at_call 21; refine (m_files2 (i := 0) (by exact H9.out) rfl).mono ?_; rw [crash_twice OK.out, HN2.out]; rintro e w9 ⟨A3, c3, rfl, h9⟩; have HA := Lib.hid h9; clear h9)
          | (go_at_call 25; with_reducible refine (m_same1 (i := 3) (j := 2) (by exact HA.out) (by with_unfolding_all rfl) (by with_unfolding_all rfl) (by exact HFL.out)).mono ?_; rintro e w10 ⟨rfl, h⟩; have HB := Lib.hid h; clear h))
        go_wp2
        go_ret
        exact ⟨rfl, HB.out.below⟩
end Go.Proofs.Ytflajlnknimjaaa.Dk
